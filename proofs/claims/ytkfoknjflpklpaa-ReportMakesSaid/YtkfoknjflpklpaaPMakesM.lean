/- The walk of the law ReportMakes, with clone and Plain. -/
import Derived.Test.YtkfoknjflpklpaaPSort
import Derived.Test.YtkfoknjflpklpaaPRGroups
import Derived.Test.YtkfoknjflpklpaaPSame
import Derived.Test.YtkfoknjflpklpaaPRSort
import Derived.Test.YtkfoknjflpklpaaPSpec
import Derived.Test.YtkfoknjflpklpaaPAwakeW
import Derived.Test.YtkfoknjflpklpaaPGreat
import Derived.Test.YtkfoknjflpklpaaPRMake
namespace Go.Proofs.Ytkfoknjflpklpaa.P
open Go Go.RowKit Go.Sort Go.Proofs.Ytkfoknjflpklpaa.Mem Go.Proofs.Ytkfoknjflpklpaa.Cmp Go.Proofs.Ytkfoknjflpklpaa.D

theorem own_vals' {E base : Nat} {ok : Nat → Prop} {w : World} {v : Value} {xs : List Val} (h : Own tVal E ok w base v xs) : Own tVal E (fun _ => False) w base v xs := by
  obtain ⟨cells, hl, ho, hr⟩ := h
  exact ⟨cells, hl, ho, fun i x c hx hc => hr i x c hx hc⟩

set_option maxHeartbeats 8000000 in
set_option maxRecDepth 100000 in
theorem cloneCalls28 (ok : Nat → Prop) (v : Value) (rows : List (List Val)) (w : World) (h : Sl tRow ok w v rows) (hl : rows.length ≤ 1000) (hb : ∀ r ∈ rows, r.length ≤ 1000) :
    Calls Try.prog 42 #[v] w fun e w' => ∃ vo, e = .returned vo ∧ Own tRow 30 (fun k => w.heap.size ≤ k) w' w.heap.size vo rows ∧ Below w.heap.size w w' := by
  obtain ⟨A, c, rfl, l1, l2, l3⟩ := h.shape
  have KS := put h
  have HL := put (And.intro hl hb)
  obtain ⟨m, hm⟩ : ∃ m, m = rows.length := ⟨_, rfl⟩
  rw [← hm] at l1 l3 KS HL ⊢
  have HM := put hm
  clear h hl hb hm
  go_enter Try.func42, Try.ntmps42
  go_wp2_with fail
  go_loopg [3, 8] m (fun kx s3 s8 wr => ∃ (i : Nat) (A8 : Option Addr) (c8 : Nat), s3 = .slice A8 i c8 ∧ s8 = .int .i64 i ∧ i ≤ m ∧ m - i ≤ kx ∧ Kp (Own tRow 30 (fun k => w.heap.size ≤ k) wr w.heap.size (.slice A8 i c8) (rows.take i)) ∧ Kp (Below w.heap.size w wr))
  case atStart => exact ⟨0, none, 0, rfl, rfl, Nat.zero_le _, Nat.le_refl _, put (Own.nil _ _ _ _ _), put (Below.refl _ _)⟩
  case round =>
    obtain ⟨i, A8, c8, rfl, rfl, hi, hkx, KO, KB⟩ := hrel
    by_cases hlt : i < m
    · have hlz : (i : Int) < (m : Int) := by omega
      have i0 : (0 : Int) ≤ (i : Int) := by omega
      have hm9 := HL.out.1
      obtain ⟨ad, r, A1, c1, rfl, hx, x0, hs⟩ := rows_get (KS.out.below KB.out).row.1 i (by rw [← HM.out]; exact hlt)
      have KX := put hx
      have HRL : Kp (r.length ≤ 1000) := put (HL.out.2 r (List.mem_of_getElem? hx))
      obtain ⟨w5, hw5⟩ : ∃ w5, w5 = wr.alloc (.cells #[] 55) := ⟨_, rfl⟩
      have hb5 : Below wr.heap.size wr w5 := by rw [hw5]; exact balloc (Below.refl _ _) _
      have hlit : w5.heap[wr.heap.size]? = some (.cells #[] 55 (0, 0)) := by rw [hw5]; exact heap_alloc_new _ _
      have HR5 : Kp (Sl tVal (fun k => k < wr.heap.size) w5 (.slice A1 r.length c1) r) := put ((hs.bnd.mono (fun k hk => hk.2)).below hb5)
      have HL5 : Kp (Own tVal 55 (fun k => k < wr.heap.size) w5 wr.heap.size (.slice (some ⟨wr.heap.size, 0, none⟩) 0 0) []) := put (lit_own _ hlit (Nat.le_refl _))
      have KO5 := put (KO.out.below hb5)
      have HB5 := put hb5
      obtain ⟨b, hbq⟩ : ∃ b, b = wr.heap.size := ⟨_, rfl⟩
      have HBQ := put hbq
      clear hx hs hlit hb5
      go_wp2_with (first
        | (at_builtin; rw [← hw5]; refine wpList_pushes tVal wr.heap.size rfl _ _ 30 55 _ 32 rfl Try.underlying30 infoVal rfl (by decide) (by decide) (.slice (some ⟨wr.heap.size, 0, none⟩) 0 0) (.slice A1 r.length c1) [] r (fun k => k < wr.heap.size) (fun k => k < wr.heap.size) rfl rfl HR5.out (fun k hk => ⟨hk, fun e => by simp only [Value.ownBlock, Option.some.injEq] at e; omega⟩) HL5.out HB5.out.size (by have := HRL.out; simp only [List.length_nil]; omega) ?_; intro v1 w6 hown hg hat; rw [List.nil_append] at hown; obtain ⟨A5, c5, e5, _, _⟩ := hown.form; subst e5; have HB6 : Kp (Below wr.heap.size wr w6) := put (HB5.out.grown hg HB5.out.size (fun k hk => by simp only [Value.ownBlock, Option.some.injEq] at hk; omega)); have HO6 := put hown; have HOW := put (KO.out.below HB6.out); have HP : Kp (tRow.R (fun k => w.heap.size ≤ k ∧ some k ≠ (Value.slice A8 i c8).ownBlock) w6 r [.slice A5 r.length c5]) := put ⟨_, rfl, (own_vals' hown).sl (fun k hk => ⟨Nat.le_trans KB.out.size (hown.lt k hk).1, fun e => by have h1 := (hown.lt k hk).1; have h2 := (KO.out.lt k e.symm).2; omega⟩) (fun k hk => hk.elim) (by have := HRL.out; omega)⟩; clear hown hg hat hw5)
        | (at_builtin; refine wpList_push tRow w.heap.size rfl _ _ 78 30 _ 24 rfl Try.underlying78 infoRow rfl (by decide) (by decide) (.slice A8 i c8) (rows.take i) r [.slice A5 r.length c5] (fun k => w.heap.size ≤ k) rfl rfl HP.out HOW.out (Nat.le_trans KB.out.size HB6.out.size) (by rw [List.length_take]; have := HL.out.1; omega) ?_; intro v1 w7 hown hg hat; obtain ⟨A9, c9, e9, _, _⟩ := hown.form; rw [show (rows.take i ++ [r]).length = i + 1 by rw [List.length_append, List.length_take, List.length_singleton, ← HM.out]; omega] at e9; subst e9; have hb7 : Below w.heap.size w w7 := (KB.out.trans (HB6.out.mono KB.out.size)).grown hg (Nat.le_trans KB.out.size HB6.out.size) (fun k hk => (HOW.out.lt k hk).1); have HB7 := put hb7; have HOWN := put hown; clear hown hg hat hb7))
      go_roundg (m - (i + 1))
      case measure => omega
      case rel => exact ⟨i + 1, A9, c9, rfl, by go_num, by omega, Nat.le_refl _, put (by rw [take_one KX.out]; exact HOWN.out), HB7⟩
    · have hlz : ¬ (i : Int) < (m : Int) := by omega
      obtain rfl : m = i := by omega
      have ho := KO.out
      rw [List.take_of_length_le (by rw [HM.out]; exact Nat.le_refl _)] at ho
      have HO := put ho
      clear ho
      go_wp2_with fail
      go_ret
      exact ⟨_, rfl, HO.out, KB.out⟩
end Go.Proofs.Ytkfoknjflpklpaa.P

namespace Go.Proofs.Ytkfoknjflpklpaa.P
open Go Go.RowKit Go.Sort Go.Proofs.Ytkfoknjflpklpaa.Mem Go.Proofs.Ytkfoknjflpklpaa.Cmp Go.Proofs.Ytkfoknjflpklpaa.D

theorem infoSumR : (Try.prog.info? 145).map (fun i => (i.zero, i.size, i.bytes)) = some (some (.agg #[.int .i64 0, .int .i64 0]), tSmm.sz, 16) := by kernel_rfl
theorem own_keys {E base : Nat} {ok : Nat → Prop} {w : World} {v : Value} {xs : List Key} (h : Own tKey E ok w base v xs) (ok' : Nat → Prop) : Own tKey E ok' w base v xs := by
  obtain ⟨cells, hl, ho, hr⟩ := h
  exact ⟨cells, hl, ho, fun i x c hx hc => hr i x c hx hc⟩
theorem own_smms {E base : Nat} {ok : Nat → Prop} {w : World} {v : Value} {xs : List Smm} (h : Own tSmm E ok w base v xs) (ok' : Nat → Prop) : Own tSmm E ok' w base v xs := by
  obtain ⟨cells, hl, ho, hr⟩ := h
  exact ⟨cells, hl, ho, fun i x c hx hc => hr i x c hx hc⟩
theorem own4 {E base base' b : Nat} {ok : Nat → Prop} {w : World} {v : Value} {xs : List Key} (h : Own tKey E ok w base v xs) (hb : b < base) (hbb : base' ≤ base) (u0 u1 u2 u3 : Value) : Own tKey E (fun _ => True) ((((w.setCell ⟨b, 0, none⟩ u0).setCell ⟨b, 1, none⟩ u1).setCell ⟨b, 2, none⟩ u2).setCell ⟨b, 3, none⟩ u3) base' v xs :=
  (own_keys (Own.store (p := ⟨b, 3, none⟩) (Own.store (p := ⟨b, 2, none⟩) (Own.store (p := ⟨b, 1, none⟩) (Own.store (p := ⟨b, 0, none⟩) (own_keys h (fun _ => False)) hb (fun _ h => h.elim) u0) hb (fun _ h => h.elim) u1) hb (fun _ h => h.elim) u2) hb (fun _ h => h.elim) u3) (fun _ => True)).lower hbb
theorem s_fr4 {w : World} {X : Nat} {a0 a1 a2 a3 : Value} {t : TypeId} (h : w.heap[X]? = some (.cells #[a0, a1, a2, a3] t (0, 0))) : w.frozen? ⟨X, 0, none⟩ = false ∧ w.frozen? ⟨X, 1, none⟩ = false ∧ w.frozen? ⟨X, 2, none⟩ = false ∧ w.frozen? ⟨X, 3, none⟩ = false := by simp [World.frozen?, h]
theorem s_stored {w : World} {X : Nat} {a0 a1 a2 a3 : Value} {t : TypeId} (h : w.heap[X]? = some (.cells #[a0, a1, a2, a3] t (0, 0))) (u0 u1 u2 u3 : Value) : ((((w.setCell ⟨X, 0, none⟩ u0).setCell ⟨X, 1, none⟩ u1).setCell ⟨X, 2, none⟩ u2).setCell ⟨X, 3, none⟩ u3).heap[X]? = some (.cells #[u0, u1, u2, u3] t (0, 0)) := by
  simp [World.setCell, Array.getElem?_modify, h]
theorem s_stored1 {w : World} {X : Nat} {a0 a1 a2 a3 : Value} {t : TypeId} (h : w.heap[X]? = some (.cells #[a0, a1, a2, a3] t (0, 0))) (u1 : Value) : (w.setCell ⟨X, 1, none⟩ u1).heap[X]? = some (.cells #[a0, u1, a2, a3] t (0, 0)) := by
  simp [World.setCell, Array.getElem?_modify, h]

set_option maxHeartbeats 16000000 in
set_option maxRecDepth 100000 in
theorem plainPut (s0 s2 s3 s4 s5 s6 s7 s8 s9 s10 s11 s12 s13 s14 s15 s16 s17 s18 s19 s20 s21 s22 s23 s24 s25 s26 s27 s28 : Value) (X : Nat) (A0 A2 : Option Addr) (n3 c0 c2 n5 : Nat) (lim : Int) (ks : List Key) (wk : World) (Q : Exit → Act → World → Prop)
    (x0 : wk.cell? ⟨X, 0, none⟩ = some (.slice A0 n3 c0)) (x2 : wk.cell? ⟨X, 2, none⟩ = some (.slice A2 n5 c2)) (x3 : wk.cell? ⟨X, 3, none⟩ = some (.int .i64 lim))
    (PK : Kp (∀ W, Below wk.heap.size wk W → Calls Try.prog 50 #[.slice A2 n5 c2] W fun e w' => ∃ vo, e = .returned vo ∧ Own tKey 151 (fun _ => True) w' W.heap.size vo ks ∧ Below W.heap.size W w'))
    (hQ : ∀ (r6 r7 r8 r9 r10 r11 r12 r13 : Value) (Ak : Option Addr) (ck : Nat) (b : Nat) (w9 : World), Below wk.heap.size wk w9 → w9.heap[b]? = some (.cells #[.slice A0 n3 c0, .slice none 0 0, .slice Ak ks.length ck, .int .i64 lim] 93 (0, 0)) → Own tKey 151 (fun _ => True) w9 wk.heap.size (.slice Ak ks.length ck) ks → (∀ k, (Value.slice Ak ks.length ck).ownBlock = some k → k ≠ b) → wk.heap.size ≤ b → Q .normal { tmps := #[s0, .pointer (some ⟨X, 0, none⟩), s2, .pointer (some ⟨b, 0, none⟩), s4, s5, r6, r7, r8, r9, r10, r11, r12, r13, s14, s15, s16, s17, s18, s19, s20, s21, s22, s23, s24, s25, s26, s27, s28], defers := [] } w9) :
    ∀ code, (Try.f45.body.bind (regionAt 1)) = some code → Code.wp Try.prog code Q { tmps := #[s0, .pointer (some ⟨X, 0, none⟩), s2, s3, s4, s5, s6, s7, s8, s9, s10, s11, s12, s13, s14, s15, s16, s17, s18, s19, s20, s21, s22, s23, s24, s25, s26, s27, s28], defers := [] } wk := by
  intro code hcode
  have h : (Try.f45.body.bind (regionAt 1)) = some (Code.region 1 _ true) := rfl
  rw [h] at hcode
  injection hcode with hcode
  subst hcode
  clear h
  have HQ := put hQ
  have X0 := put (And.intro x0 (World.block_lt_of_cell? _ _ x0))
  have X2 := put (And.intro x2 (World.block_lt_of_cell? _ _ x2))
  have X3 := put (And.intro x3 (World.block_lt_of_cell? _ _ x3))
  clear hQ x0 x2 x3
  refine wp_region_noPanic ?_
  refine wp_region_held_drew (S := (fun w2 => Below wk.heap.size wk w2)) (by kernel_rfl) (Below.refl _ _).drew (fun hHeld => ?_)
  refine wpAnyH_take (i := 0) (v := ?_) rfl (by kernel_rfl) (by kernel_rfl) (by kernel_rfl) (fun _ _ _ h => h) (Or.inl ⟨by kernel_rfl, ?_⟩) (by assumption) ?_
  rotate_left
  focus (intro w hSw; (try dsimp only at hSw); go_simp; (try with_reducible rfl); done)
  try simp only [List.getElem_toArray, List.getElem_cons_zero, Act.put, List.setIfInBounds_toArray, List.set_cons_zero, List.set_cons_succ]
  refine wpAnyH_take (i := 1) (v := ?_) rfl (by kernel_rfl) (by kernel_rfl) (by kernel_rfl) (fun _ _ _ h => h) (Or.inl ⟨by kernel_rfl, ?_⟩) (by assumption) ?_
  rotate_left
  focus (intro w hSw; (try dsimp only at hSw); have z0 := (Below.cell hSw X0.out.2).trans X0.out.1; have z2 := (Below.cell hSw X2.out.2).trans X2.out.1; have z3 := (Below.cell hSw X3.out.2).trans X3.out.1; go_simp; (try with_reducible rfl); done)
  try simp only [List.getElem_toArray, List.getElem_cons_succ, List.getElem_cons_zero, Act.put, List.setIfInBounds_toArray, List.set_cons_zero, List.set_cons_succ]
  refine wpAnyH_take (i := 2) (v := ?_) rfl (by kernel_rfl) (by kernel_rfl) (by kernel_rfl) (fun _ _ _ h => h) (Or.inl ⟨by kernel_rfl, ?_⟩) (by assumption) ?_
  rotate_left
  focus (intro w hSw; (try dsimp only at hSw); go_simp; (try with_reducible rfl); done)
  try simp only [List.getElem_toArray, List.getElem_cons_succ, List.getElem_cons_zero, Act.put, List.setIfInBounds_toArray, List.set_cons_zero, List.set_cons_succ]
  refine wpAnyH_take (i := 3) (v := ?_) rfl (by kernel_rfl) (by kernel_rfl) (by kernel_rfl) (fun _ _ _ h => h) (Or.inl ⟨by kernel_rfl, ?_⟩) (by assumption) ?_
  rotate_left
  focus (intro w hSw; (try dsimp only at hSw); have z0 := (Below.cell hSw X0.out.2).trans X0.out.1; have z2 := (Below.cell hSw X2.out.2).trans X2.out.1; have z3 := (Below.cell hSw X3.out.2).trans X3.out.1; go_simp; (try with_reducible rfl); done)
  try simp only [List.getElem_toArray, List.getElem_cons_succ, List.getElem_cons_zero, Act.put, List.setIfInBounds_toArray, List.set_cons_zero, List.set_cons_succ]
  refine wpAnyH_take (i := 4) (v := ?_) rfl (by kernel_rfl) (by kernel_rfl) (by kernel_rfl) (fun _ _ _ h => h) (Or.inl ⟨by kernel_rfl, ?_⟩) (by assumption) ?_
  rotate_left
  focus (intro w hSw; (try dsimp only at hSw); go_simp; (try with_reducible rfl); done)
  try simp only [List.getElem_toArray, List.getElem_cons_succ, List.getElem_cons_zero, Act.put, List.setIfInBounds_toArray, List.set_cons_zero, List.set_cons_succ]
  refine wpAnyH_take (i := 5) (v := ?_) rfl (by kernel_rfl) (by kernel_rfl) (by kernel_rfl) (fun _ _ _ h => h) (Or.inl ⟨by kernel_rfl, ?_⟩) (by assumption) ?_
  rotate_left
  focus (intro w hSw; (try dsimp only at hSw); have z0 := (Below.cell hSw X0.out.2).trans X0.out.1; have z2 := (Below.cell hSw X2.out.2).trans X2.out.1; have z3 := (Below.cell hSw X3.out.2).trans X3.out.1; go_simp; (try with_reducible rfl); done)
  try simp only [List.getElem_toArray, List.getElem_cons_succ, List.getElem_cons_zero, Act.put, List.setIfInBounds_toArray, List.set_cons_zero, List.set_cons_succ]
  refine wpAnyH_ready (rs := [6, 8]) (by kernel_rfl) (by simp) ?_
  refine AllReadyH.cons rfl (fun JJ hJJ => ?_) ?_
  · go_simp
    ((try clear hb); go_at_call 50; refine (PK.out _ hHeld).mono ?_; rintro e w6 ⟨vk, rfl, hok, hg⟩; have hb := hHeld.trans (hg.mono hHeld.size); have HOK := put (hok.lower hHeld.size); obtain ⟨Ak, ck, ek, _, _⟩ := hok.form; subst ek; clear hg hok)
    refine hJJ.out _ _ ?_ (fun hHeld2 => ?_)
    · exact hb
    clear hJJ JJ hHeld
    have hHeld := hHeld2
    clear hHeld2
    try simp only [List.getElem_toArray, List.getElem_cons_succ, List.getElem_cons_zero, Act.put, List.setIfInBounds_toArray, List.set_cons_zero, List.set_cons_succ]
    refine wpAnyH_take (i := 7) (v := ?_) rfl (by kernel_rfl) (by kernel_rfl) (by kernel_rfl) (fun _ _ _ h => h) (Or.inl ⟨by kernel_rfl, ?_⟩) (by assumption) ?_
    rotate_left
    focus (intro w hSw; (try dsimp only at hSw); go_simp; (try with_reducible rfl); done)
    try simp only [List.getElem_toArray, List.getElem_cons_succ, List.getElem_cons_zero, Act.put, List.setIfInBounds_toArray, List.set_cons_zero, List.set_cons_succ]
    refine wpAnyH_ready (rs := [8]) (by kernel_rfl) (by simp) ?_
    refine AllReadyH.cons rfl (fun JJ hJJ => ?_) AllReadyH.nil
    go_simp
    refine hJJ.out _ _ ?_ (fun hHeld2 => ?_)
    · exact hHeld.alloc hHeld.size _
    clear hJJ JJ hHeld
    have hHeld := hHeld2
    clear hHeld2
    try simp only [List.getElem_toArray, List.getElem_cons_succ, List.getElem_cons_zero, Act.put, List.setIfInBounds_toArray, List.set_cons_zero, List.set_cons_succ]
    refine wpAnyH_ready (rs := [9]) (by kernel_rfl) (by simp) ?_
    refine AllReadyH.cons rfl (fun JJ hJJ => ?_) AllReadyH.nil
    go_simp
    refine hJJ.out _ _ ?_ (fun hHeld2 => ?_)
    · first | exact (fun _ => below_set (below_set (below_set (below_set hb (Nat.le_refl _)) (Nat.le_refl _)) (Nat.le_refl _)) (Nat.le_refl _)) HV | exact hb.alloc hb.size _
    clear hJJ JJ hHeld
    have hHeld := hHeld2
    clear hHeld2
    try simp only [List.getElem_toArray, List.getElem_cons_succ, List.getElem_cons_zero, Act.put, List.setIfInBounds_toArray, List.set_cons_zero, List.set_cons_succ]
    refine wpAnyH_done (by kernel_rfl) ?_ _
    refine NoPanic.normal ?_
    first | exact HQ.out _ _ _ _ _ _ _ _ Ak ck _ _ hHeld HV.out HO2.out HNE.out (Nat.le_refl _) | exact HQ.out _ _ _ _ _ _ _ _ Ak ck _ _ hHeld (heap_alloc_new _ _) (HOK.out.below (balloc (Below.refl _ _) _)) (fun k hk e => by have := (HOK.out.lt k hk).2; omega) hb.size
  refine AllReadyH.cons rfl (fun JJ hJJ => ?_) AllReadyH.nil
  go_simp
  refine hJJ.out _ _ ?_ (fun hHeld2 => ?_)
  · exact hHeld.alloc hHeld.size _
  clear hJJ JJ hHeld
  have hHeld := hHeld2
  clear hHeld2
  try simp only [List.getElem_toArray, List.getElem_cons_succ, List.getElem_cons_zero, Act.put, List.setIfInBounds_toArray, List.set_cons_zero, List.set_cons_succ]
  refine wpAnyH_ready (rs := [6]) (by kernel_rfl) (by simp) ?_
  refine AllReadyH.cons rfl (fun JJ hJJ => ?_) AllReadyH.nil
  go_simp
  ((try clear hb); go_at_call 50; refine (PK.out _ hHeld).mono ?_; rintro e w6 ⟨vk, rfl, hok, hg⟩; have hb := hHeld.trans (hg.mono hHeld.size); have HOK := put (hok.lower hHeld.size); obtain ⟨Ak, ck, ek, _, _⟩ := hok.form; subst ek; have hz : w6.heap[wk.heap.size]? = some (.cells #[.slice none 0 0, .slice none 0 0, .slice none 0 0, .int .i64 0] 93 (0, 0)) := (hg.block _ (by simp)).trans (by (first | exact heap_alloc_new _ _ | (simp only [hag] <;> simp <;> done))); obtain ⟨t0, t1, t2, t3⟩ := s_cells hz; obtain ⟨f0, f1, f2, f3⟩ := s_fr4 hz; have HV := put (s_stored hz (.slice A0 n3 c0) (.slice none 0 0) (.slice Ak ks.length ck) (.int .i64 lim)); have HO2 := put (own4 hok (show wk.heap.size < _ by simp) (Nat.le_of_lt (show wk.heap.size < _ by simp)) (.slice A0 n3 c0) (.slice none 0 0) (.slice Ak ks.length ck) (.int .i64 lim)); have HNE := put (fun k hk => Nat.ne_of_gt (Nat.lt_of_lt_of_le (show wk.heap.size < _ by simp) (hok.lt k hk).1)); clear hg hz hok)
  refine hJJ.out _ _ ?_ (fun hHeld2 => ?_)
  · exact hb
  clear hJJ JJ hHeld
  have hHeld := hHeld2
  clear hHeld2
  try simp only [List.getElem_toArray, List.getElem_cons_succ, List.getElem_cons_zero, Act.put, List.setIfInBounds_toArray, List.set_cons_zero, List.set_cons_succ]
  refine wpAnyH_take (i := 7) (v := ?_) rfl (by kernel_rfl) (by kernel_rfl) (by kernel_rfl) (fun _ _ _ h => h) (Or.inl ⟨by kernel_rfl, ?_⟩) (by assumption) ?_
  rotate_left
  focus (intro w hSw; (try dsimp only at hSw); go_simp; (try with_reducible rfl); done)
  try simp only [List.getElem_toArray, List.getElem_cons_succ, List.getElem_cons_zero, Act.put, List.setIfInBounds_toArray, List.set_cons_zero, List.set_cons_succ]
  refine wpAnyH_ready (rs := [9]) (by kernel_rfl) (by simp) ?_
  refine AllReadyH.cons rfl (fun JJ hJJ => ?_) AllReadyH.nil
  go_simp
  refine hJJ.out _ _ ?_ (fun hHeld2 => ?_)
  · first | exact (fun _ => below_set (below_set (below_set (below_set hb (Nat.le_refl _)) (Nat.le_refl _)) (Nat.le_refl _)) (Nat.le_refl _)) HV | exact hb.alloc hb.size _
  clear hJJ JJ hHeld
  have hHeld := hHeld2
  clear hHeld2
  try simp only [List.getElem_toArray, List.getElem_cons_succ, List.getElem_cons_zero, Act.put, List.setIfInBounds_toArray, List.set_cons_zero, List.set_cons_succ]
  refine wpAnyH_done (by kernel_rfl) ?_ _
  refine NoPanic.normal ?_
  first | exact HQ.out _ _ _ _ _ _ _ _ Ak ck _ _ hHeld HV.out HO2.out HNE.out (Nat.le_refl _) | exact HQ.out _ _ _ _ _ _ _ _ Ak ck _ _ hHeld (heap_alloc_new _ _) (HOK.out.below (balloc (Below.refl _ _) _)) (fun k hk e => by have := (HOK.out.lt k hk).2; omega) hb.size


set_option maxHeartbeats 16000000 in
set_option maxRecDepth 100000 in
theorem plainSpecCalls (ok : Nat → Prop) (v0 v1 v2 : Value) (s : Spc) (w : World) (hs : SpR ok w s v0 v1 v2) :
    Calls Try.prog 45 #[.agg #[v0, v1, v2, .int .i64 s.limit]] w fun e w' => ∃ u1 u2, e = .returned (.agg #[v0, u1, u2, .int .i64 s.limit]) ∧ SpR (fun _ => True) w' s v0 u1 u2 ∧ Below w.heap.size w w' := by
  obtain ⟨A0, c0, rfl, _, _, _⟩ := hs.cols.shape
  obtain ⟨A1, c1, rfl, _, _, _⟩ := hs.sums.shape
  obtain ⟨A2, c2, rfl, _, _, _⟩ := hs.order.shape
  have HSP := put hs
  obtain ⟨n3, hn3⟩ : ∃ n, n = s.cols.length := ⟨_, rfl⟩
  obtain ⟨n1, hn1⟩ : ∃ n, n = s.sums.length := ⟨_, rfl⟩
  obtain ⟨n5, hn5⟩ : ∃ n, n = s.order.length := ⟨_, rfl⟩
  rw [← hn3, ← hn1, ← hn5] at HSP ⊢
  have hl1 : n1 ≤ 1000 := by rw [hn1]; exact hs.l1
  obtain ⟨w2, hw2⟩ : ∃ w2, w2 = (w.alloc (.cells #[.slice A0 n3 c0, .slice A1 n1 c1, .slice A2 n5 c2, .int .i64 s.limit] 82)).alloc (.cells #[.slice none 0 0, .slice none 0 0, .slice none 0 0, .int .i64 0] 93) := ⟨_, rfl⟩
  have hb2 : Below w.heap.size w w2 := by rw [hw2]; exact balloc (balloc (Below.refl _ _) _) _
  have hx2 : w2.heap[w.heap.size]? = some (.cells #[.slice A0 n3 c0, .slice A1 n1 c1, .slice A2 n5 c2, .int .i64 s.limit] 82 (0, 0)) := by rw [hw2, hag, if_neg (by simp), hag, if_pos rfl]
  have hr2 : w2.heap[w.heap.size + 1]? = some (.cells #[.slice none 0 0, .slice none 0 0, .slice none 0 0, .int .i64 0] 93 (0, 0)) := by rw [hw2, hag, if_pos (by simp)]
  obtain ⟨X, hX⟩ : ∃ X, X = w.heap.size := ⟨_, rfl⟩
  obtain ⟨R, hR⟩ : ∃ R, R = w.heap.size + 1 := ⟨_, rfl⟩
  rw [← hX] at hx2
  rw [← hR] at hr2
  have PK := put (fun W (hb : Below w2.heap.size w2 W) => plainKeysCalls ok (.slice A2 n5 c2) s.order W ((HSP.out.order.below (hb2.trans (hb.mono hb2.size)))) HSP.out.l2)
  have HX2 := put hx2
  have HR2 := put hr2
  have KB2 := put hb2
  have HRW : Kp (w.heap.size ≤ R) := put (by omega)
  have HXR : Kp (X < w2.heap.size ∧ R < w2.heap.size) := put ⟨(Array.getElem?_eq_some_iff.1 hx2).1, (Array.getElem?_eq_some_iff.1 hr2).1⟩
  have HN1 := put hn1
  have HN3 := put hn3
  have HN5 := put hn5
  clear hs hn3 hn1 hn5 hx2 hr2 hb2
  go_enter Try.func45, Try.ntmps45
  go_wp2_with fail
  rw [← hw2, ← hR, ← hX]
  clear hw2 hX hR
  refine plainPut _ _ _ _ _ _ _ _ _ _ _ _ _ _ _ _ _ _ _ _ _ _ _ _ _ _ _ _ X A0 A2 n3 c0 c2 n5 _ s.order w2 _ (s_cells HX2.out).1 (s_cells HX2.out).2.2.1 (s_cells HX2.out).2.2.2 PK ?_ _ rfl
  intro r6 r7 r8 r9 r10 r11 r12 r13 Ak ck b w3 hb3 hv3 hok hne hbw
  rw [← HN5.out] at hv3 hok hne
  have KB3 := put (KB2.out.trans (hb3.mono KB2.out.size))
  have HX3 := put ((hb3.block X HXR.out.1).trans HX2.out)
  have HR3 := put ((hb3.block R HXR.out.2).trans HR2.out)
  have HV3 := put hv3
  have HBW := put hbw
  have HNE := put hne
  have HOK := put hok
  have HBS : Kp (b < w3.heap.size ∧ w2.heap.size ≤ w3.heap.size) := put ⟨(Array.getElem?_eq_some_iff.1 hv3).1, hb3.size⟩
  obtain ⟨x0, x1, x2, x3⟩ := s_cells HX3.out
  clear hb3 hv3 hok hne hbw
  go_wp2_with fail
  clear x0 x1 x2 x3
  go_loopg [17] n1 (fun kx s17 wi => ∃ (i : Nat) (As : Option Addr) (cs : Nat), s17 = .int .i64 i ∧ i ≤ n1 ∧ n1 - i ≤ kx ∧ Kp (wi.heap[b]? = some (.cells #[.slice A0 n3 c0, .slice As i cs, .slice Ak n5 ck, .int .i64 s.limit] 93 (0, 0))) ∧ Kp (Own tSmm 145 (fun _ => True) wi w3.heap.size (.slice As i cs) (s.sums.take i)) ∧ Kp (∀ k, k < w3.heap.size → k ≠ b → wi.heap[k]? = w3.heap[k]?) ∧ Kp (w3.heap.size ≤ wi.heap.size) ∧ Kp (Below w.heap.size w wi))
  case atStart => exact ⟨0, none, 0, rfl, Nat.zero_le _, Nat.le_refl _, HV3, put (Own.nil _ _ _ _ _), put (fun _ _ _ => rfl), put (Nat.le_refl _), KB3⟩
  case round =>
    obtain ⟨i, As, cs, rfl, hi, hkx, HV, HO, HFR, HSZ, KB⟩ := hrel
    by_cases hlt : i < n1
    · have hlz : (i : Int) < (n1 : Int) := by omega
      have i0 : (0 : Int) ≤ (i : Int) := by omega
      obtain ⟨ad, x, rfl, hx, z0, z1⟩ := sums_get (HSP.out.sums.below KB.out).row.1 i (by rw [← HN1.out]; exact hlt)
      have HXX := put hx
      obtain ⟨w4, hw4⟩ : ∃ w4, w4 = wr.alloc (.cells #[.int .i64 x.kind, .int .i64 x.col] 102) := ⟨_, rfl⟩
      have hb4 : Below wr.heap.size wr w4 := by rw [hw4]; exact balloc (Below.refl _ _) _
      have HB4 := put hb4
      have HSZ4 : Kp (w4.heap.size = wr.heap.size + 1) := put (by rw [hw4]; simp)
      have HBR : Kp (b < wr.heap.size) := put (Array.getElem?_eq_some_iff.1 HV.out).1
      have HV4 : Kp (w4.heap[b]? = some (.cells #[.slice A0 n3 c0, .slice As i cs, .slice Ak n5 ck, .int .i64 s.limit] 93 (0, 0))) := put ((hb4.block b HBR.out).trans HV.out)
      have c1x := (s_cells HV4.out).2.1
      have HO4 := put (HO.out.below hb4)
      have HNB : Kp (∀ k, (Value.slice As i cs).ownBlock = some k → k ≠ b) := put (fun k hk e => by have h1 := (HO.out.lt k hk).1; have h2 := HBS.out.1; omega)
      rw [hw4] at c1x
      clear hx hb4
      go_wp2_with (at_builtin; rw [← hw4]; refine wpList_push (W := w4) tSmm w3.heap.size rfl _ _ 90 145 _ 16 rfl Try.underlying90 infoSumR rfl (by decide) (by decide) (.slice As i cs) (s.sums.take i) x [.int .i64 x.kind, .int .i64 x.col] (fun _ => True) rfl (by rw [HSZ4.out]; rfl) rfl HO4.out (Nat.le_trans HSZ.out HB4.out.size) (by rw [List.length_take, ← HN1.out]; omega) ?_; intro v1 w9 hown hg hat; obtain ⟨A9, c9, e9, _, _⟩ := hown.form; rw [show (s.sums.take i ++ [x]).length = i + 1 by rw [List.length_append, List.length_take, List.length_singleton, ← HN1.out]; omega] at e9; subst e9; have hv9 : w9.heap[b]? = some (.cells #[.slice A0 n3 c0, .slice As i cs, .slice Ak n5 ck, .int .i64 s.limit] 93 (0, 0)) := (hg.block b (Nat.lt_of_lt_of_le HBR.out HB4.out.size) (fun e => HNB.out b e.symm rfl)).trans HV4.out; have HV9 := put hv9; have g1 := (s_cells hv9).2.1; have g1f := (s_fr4 hv9).2.1; have HOWN := put hown; have HG9 := put hg; have HB9 : Kp (Below w.heap.size w w9) := put ((KB.out.trans (HB4.out.mono KB.out.size)).grown hg (Nat.le_trans KB.out.size HB4.out.size) (fun k hk => by have h1 := (HO4.out.lt k hk).1; have h2 := HBS.out; have h3 := KB2.out.size; omega)); clear hown hg hat hv9 c1x)
      have HVF := put (s_stored1 HV9.out (.slice A9 (i + 1) c9))
      have HOF : Kp (Own tSmm 145 (fun _ => True) (w9.setCell ⟨b, 1, none⟩ (.slice A9 (i + 1) c9)) w3.heap.size (.slice A9 (i + 1) c9) (s.sums.take i ++ [x])) := put (own_smms (Own.store (p := ⟨b, 1, none⟩) (own_smms HOWN.out (fun _ => False)) HBS.out.1 (fun _ h => h.elim) _) _)
      have HFF : Kp (∀ k, k < w3.heap.size → k ≠ b → (w9.setCell ⟨b, 1, none⟩ (.slice A9 (i + 1) c9)).heap[k]? = w3.heap[k]?) := put (fun k hk hkb => (Below.heap_setCell _ ⟨b, 1, none⟩ _ k hkb).trans ((HG9.out.block k (Nat.lt_of_lt_of_le hk (Nat.le_trans HSZ.out HB4.out.size)) (fun e => by have h1 := (HO4.out.lt k e.symm).1; omega)).trans ((HB4.out.block k (Nat.lt_of_lt_of_le hk HSZ.out)).trans (HFR.out k hk hkb))))
      have HSF : Kp (w3.heap.size ≤ (w9.setCell ⟨b, 1, none⟩ (.slice A9 (i + 1) c9)).heap.size) := put (by rw [World.size_setCell]; exact Nat.le_trans HSZ.out (Nat.le_trans HB4.out.size HG9.out.size))
      have HBF : Kp (Below w.heap.size w (w9.setCell ⟨b, 1, none⟩ (.slice A9 (i + 1) c9))) := put (below_set HB9.out (Nat.le_trans KB2.out.size HBW.out))
      go_roundg (n1 - (i + 1))
      case measure => omega
      case rel => exact ⟨i + 1, A9, c9, by go_num, by omega, Nat.le_refl _, HVF, put (by rw [take_one HXX.out]; exact HOF.out), HFF, HSF, HBF⟩
    · have hlz : ¬ (i : Int) < (n1 : Int) := by omega
      obtain rfl : n1 = i := by omega
      have ho := HO.out
      rw [List.take_of_length_le (by rw [HN1.out]; exact Nat.le_refl _)] at ho
      have HRb : Kp (R ≠ b) := put (by have h1 := HXR.out.2; have h2 := HBW.out; omega)
      have HRR := put ((HFR.out R (by have h1 := HXR.out.2; have h2 := HBS.out.2; omega) HRb.out).trans HR3.out)
      obtain ⟨x0, x1, x2, x3⟩ := s_cells HV.out
      obtain ⟨y0, y1, y2, y3⟩ := s_cells HRR.out
      obtain ⟨f0, f1, f2, f3⟩ := s_fr4 HRR.out
      have hfin := s_stored HRR.out (.slice A0 n3 c0) (.slice As n1 cs) (.slice Ak n5 ck) (.int .i64 s.limit)
      obtain ⟨q0, q1, q2, q3⟩ := s_cells hfin
      have HOS := put ho
      clear ho hfin
      go_wp2_with fail
      refine bodyPost_ret (v := .agg #[.slice A0 n3 c0, .slice As n1 cs, .slice Ak n5 ck, .int .i64 s.limit]) (by simp [results, Try.results45, go_sem, q0, q1, q2, q3]) rfl ⟨.slice As n1 cs, .slice Ak n5 ck, rfl, ?_, below_set (below_set (below_set (below_set KB.out HRW.out) HRW.out) HRW.out) HRW.out⟩
      have hset : ∀ k, k ≠ R → ((((wr.setCell ⟨R, 0, none⟩ (.slice A0 n3 c0)).setCell ⟨R, 1, none⟩ (.slice As n1 cs)).setCell ⟨R, 2, none⟩ (.slice Ak n5 ck)).setCell ⟨R, 3, none⟩ (.int .i64 s.limit)).heap[k]? = wr.heap[k]? := fun k hk => (Below.heap_setCell _ ⟨R, 3, none⟩ _ k hk).trans ((Below.heap_setCell _ ⟨R, 2, none⟩ _ k hk).trans ((Below.heap_setCell _ ⟨R, 1, none⟩ _ k hk).trans (Below.heap_setCell _ ⟨R, 0, none⟩ _ k hk)))
      have hR2 := HXR.out.2
      have hw23 := HBS.out.2
      have hsl := (own_smms HOS.out (fun _ => False)).sl (ok' := fun k => w3.heap.size ≤ k) (fun k hk => (HOS.out.lt k hk).1) (fun k hk => hk.elim) (by rw [← HN1.out]; omega)
      have hkl := (own_keys HOK.out (fun _ => False)).sl (ok' := fun k => w2.heap.size ≤ k ∧ k < w3.heap.size ∧ k ≠ b) (fun k hk => ⟨(HOK.out.lt k hk).1, (HOK.out.lt k hk).2, HNE.out k hk⟩) (fun k hk => hk.elim) (by have := HSP.out.l2; omega)
      refine ⟨?_, ?_, ?_, HSP.out.l0, HSP.out.l1, HSP.out.l2⟩
      · exact ((HSP.out.cols.bnd.move (w' := wr) (fun k hk _ => KB.out.block k hk.2)).move (fun k hk _ => hset k (by have h1 := hk.2; have h2 := HRW.out; omega))).mono (fun _ _ => trivial)
      · exact (hsl.move (fun k hk _ => hset k (by omega))).mono (fun _ _ => trivial)
      · exact (hkl.move (fun k hk _ => (hset k (by omega)).trans (HFR.out k hk.2.1 hk.2.2))).mono (fun _ _ => trivial)

end Go.Proofs.Ytkfoknjflpklpaa.P

namespace Go.Proofs.Ytkfoknjflpklpaa.P
open Go Go.RowKit Go.Sort Go.Proofs.Ytkfoknjflpklpaa.Mem Go.Proofs.Ytkfoknjflpklpaa.Cmp Go.Proofs.Ytkfoknjflpklpaa.D

theorem makeR_sizes {rows : List (List Val)} {s : Spc} (hl : rows.length ≤ 1000) (hw : ∀ r ∈ rows, r.length ≤ 1000) (hws : s.cols.length + s.sums.length ≤ 1000) : (makeR rows s).1.length ≤ 1000 ∧ ∀ r ∈ (makeR rows s).1, r.length ≤ 1000 := by
  unfold makeR
  split
  · exact ⟨by simp, fun r hr => absurd hr List.not_mem_nil⟩
  · by_cases h2 : (grouped rows s).2 = 0
    · rw [if_pos h2]
      have hg : (grouped rows s).1.length ≤ 1000 ∧ ∀ r ∈ (grouped rows s).1, r.length ≤ 1000 := by
        cases hp : s.plain with
        | true => unfold grouped; rw [hp, if_pos rfl]; exact ⟨hl, hw⟩
        | false => rw [grouped_gl hp] at h2 ⊢; exact rowsR_sizes hl hws h2
      have hp : (sortR s.order (grouped rows s).1).Perm (grouped rows s).1 := Stab.isort_perm _
      dsimp only
      unfold cut
      split
      · refine ⟨?_, fun r hr => hg.2 r (hp.subset (List.mem_of_mem_take hr))⟩
        rw [List.length_take, hp.length_eq]
        have := hg.1
        omega
      · exact ⟨by rw [hp.length_eq]; exact hg.1, fun r hr => hg.2 r (hp.subset hr)⟩
    · rw [if_neg h2]
      exact ⟨by simp, fun r hr => absurd hr List.not_mem_nil⟩

/-- Row i, that may be written into. -/
theorem rowsU_get {ok : Nat → Prop} {w : World} {A : Option Addr} {xs : List (List Val)} (h : Row tRowU ok w A xs) (i : Nat) (hi : i < xs.length) :
    ∃ ad r A1 c1, A = some ad ∧ xs[i]? = some r ∧ w.cell? (ad.add i) = some (.slice A1 r.length c1) ∧ Sl tVal ok w (.slice A1 r.length c1) r ∧ (r ≠ [] → ∀ bd, A1 = some bd → ∀ o, w.frozen? ⟨bd.block, o, none⟩ = false) := by
  obtain ⟨ad, cs, rfl, _, _, ⟨⟨v, rfl, hs⟩, hloose⟩, ha⟩ := h.get i hi
  obtain ⟨A1, c1, rfl, _⟩ := hs.shape
  refine ⟨ad, xs[i], A1, c1, rfl, List.getElem?_eq_getElem hi, ?_, hs, fun hne bd e o => ?_⟩
  · have := At.c0 ha rfl
    rwa [show i * tRowU.sz = i by show i * 1 = i; omega] at this
  · subst e
    obtain ⟨cs, t, hk⟩ := hloose hne _ rfl bd.block rfl
    simp [World.frozen?, hk]

/-- Numbers may have changed, nothing else. -/
structure Kept (B : Nat) (w w' : World) : Prop where
  sls : ∀ (a : Addr) A n c, w.cell? a = some (.slice A n c) → w'.cell? a = some (.slice A n c)
  ints : ∀ (a : Addr) z, w.cell? a = some (.int .i64 z) → ∃ z', w'.cell? a = some (.int .i64 z')
  fr : ∀ a : Addr, w'.frozen? a = w.frozen? a
  below : Below B w w'
theorem Kept.refl (B : Nat) (w : World) : Kept B w w := ⟨fun _ _ _ _ h => h, fun _ z h => ⟨z, h⟩, fun _ => rfl, Below.refl _ _⟩
theorem Kept.set {B : Nat} {w w' : World} (h : Kept B w w') {X o : Nat} {z : Int} (ha : w'.cell? ⟨X, o, none⟩ = some (.int .i64 z)) (hB : B ≤ X) (y : Int) : Kept B w (w'.setCell ⟨X, o, none⟩ (.int .i64 y)) where
  sls a A n c hc := by
    have h1 := h.sls a A n c hc
    rw [World.cell?_setCell_other w' _ _ _ (fun e => by subst e; rw [ha] at h1; cases h1)]
    exact h1
  ints a z' hc := by
    by_cases e : a = ⟨X, o, none⟩
    · subst e; exact ⟨y, World.cell?_setCell_same w' _ _ ha⟩
    · obtain ⟨z1, h1⟩ := h.ints a z' hc
      exact ⟨z1, (World.cell?_setCell_other w' _ _ _ (fun e2 => e e2.symm)).trans h1⟩
  fr a := by rw [World.frozen?_setCell]; exact h.fr a
  below := below_set h.below hB

set_option maxHeartbeats 32000000 in
set_option maxRecDepth 100000 in
theorem reportMakesCalls (ok : Nat → Prop) (v v0 v1 v2 : Value) (rows : List (List Val)) (s : Spc) (w : World) (h : Sl tRow ok w v rows) (hs0 : Sl (tInt .i64) ok w v0 s.cols) (hs1 : Sl tSmm ok w v1 s.sums) (hs2 : Sl tKey ok w v2 s.order) (hin : ∀ r ∈ rows, ∀ y ∈ r, InR y.n) :
    Calls Try.prog 9 #[v, .agg #[v0, v1, v2, .int .i64 s.limit]] w fun e w' => e = .returned (.bool true) ∧ Below w.heap.size w w' := by
  obtain ⟨A, c, rfl, _, _, k3⟩ := h.shape
  obtain ⟨A0, c0, rfl, _, _, k0⟩ := hs0.shape
  obtain ⟨A1, c1, rfl, _, _, k1⟩ := hs1.shape
  obtain ⟨A2, c2, rfl, _, _, k2⟩ := hs2.shape
  have HROWS := put h
  have HS0 := put hs0
  have HS1 := put hs1
  have HS2 := put hs2
  have HIN := put hin
  have K0 := put (And.intro k0 (And.intro k1 k2))
  obtain ⟨w1, hw1⟩ : ∃ w1, w1 = w.alloc (.cells #[.slice A0 s.cols.length c0, .slice A1 s.sums.length c1, .slice A2 s.order.length c2, .int .i64 s.limit] 82) := ⟨_, rfl⟩
  have hb1 : Below w.heap.size w w1 := by rw [hw1]; exact balloc (Below.refl _ _) _
  have hx1 : w1.heap[w.heap.size]? = some (.cells #[.slice A0 s.cols.length c0, .slice A1 s.sums.length c1, .slice A2 s.order.length c2, .int .i64 s.limit] 82 (0, 0)) := by rw [hw1]; exact heap_alloc_new _ _
  obtain ⟨X, hX⟩ : ∃ X, X = w.heap.size := ⟨_, rfl⟩
  rw [← hX] at hx1
  have HX1 := put hx1
  have KB1 := put hb1
  clear h hs0 hs1 hs2 hin k0 k1 k2 k3 hx1 hb1
  go_enter Try.func9, Try.ntmps9
  go_wp2_with fail
  rw [← hw1, ← hX]
  clear hw1 hX
  refine (awakeCalls28 _).mono ?_
  rintro e w2 ⟨rfl, hb2⟩
  have HX2 := put ((hb2.block X (Array.getElem?_eq_some_iff.1 HX1.out).1).trans HX1.out)
  have KB2 := put (KB1.out.trans (hb2.mono KB1.out.size))
  obtain ⟨x0, x1, x2, x3⟩ := s_cells HX2.out
  clear hb2
  go_wp2_with fail
  refine (greatCalls ok _ A0 A1 A2 c0 c1 c2 s.cols.length s.sums.length s.order.length _ rows _ (HROWS.out.below KB2.out) K0.out.1 K0.out.2.1 K0.out.2.2).mono ?_
  rintro e w3 ⟨⟨b, rfl, hg⟩, hb3⟩
  have HX3 := put ((hb3.block X (Array.getElem?_eq_some_iff.1 HX2.out).1).trans HX2.out)
  have KB3 := put (KB2.out.trans (hb3.mono KB2.out.size))
  have HG := put hg
  clear hb3 hg x0 x1 x2 x3
  cases b with
  | true =>
    go_wp2_with fail
    go_ret
    exact ⟨rfl, KB3.out⟩
  | false =>
    obtain ⟨g1, ⟨g2, g3, g5⟩, g4⟩ := HG.out rfl
    have hrl : rows.length ≤ 1000 := by omega
    have hrw : ∀ r ∈ rows, r.length ≤ 1000 := fun r hr => by have := g4 r hr; omega
    have hws : s.cols.length + s.sums.length ≤ 1000 := by omega
    have HSP : Kp (SpR ok w s (.slice A0 s.cols.length c0) (.slice A1 s.sums.length c1) (.slice A2 s.order.length c2)) := put ⟨HS0.out, HS1.out, HS2.out, by omega, by omega, by omega⟩
    have HSZ := put (makeR_sizes hrl hrw hws)
    have HRL := put (And.intro hrl (And.intro hrw hws))
    clear g1 g2 g3 g4 g5 hrl hrw hws HG
    go_wp2_with fail
    refine (cloneCalls28 ok _ rows w3 (HROWS.out.below KB3.out) HRL.out.1 HRL.out.2.1).mono ?_
    rintro e w4 ⟨vw, rfl, how, hb4⟩
    have HX4 := put ((hb4.block X (Array.getElem?_eq_some_iff.1 HX3.out).1).trans HX3.out)
    have KB4 := put (KB3.out.trans (hb4.mono KB3.out.size))
    have HWAS : Kp (Sl tRow (fun k => k < w4.heap.size) w4 vw rows) := put ((Own.bnd how).sl (fun k hk => (how.lt k hk).2) (fun k hk => hk.2) (by have := HRL.out.1; omega))
    obtain ⟨x0, x1, x2, x3⟩ := s_cells HX4.out
    clear how hb4
    go_wp2_with fail
    refine (makeCalls ok ok _ _ _ _ rows s w4 (HROWS.out.below KB4.out) (HSP.out.below KB4.out) HRL.out.1 HRL.out.2.1 HRL.out.2.2 HIN.out).mono ?_
    rintro e w5 ⟨vl, rfl, hsl, hb5⟩
    have HX5 := put ((hb5.block X (Array.getElem?_eq_some_iff.1 HX4.out).1).trans HX4.out)
    have KB5 := put (KB4.out.trans (hb5.mono KB4.out.size))
    have HW5 := put (HWAS.out.below hb5)
    have HL5 := put hsl
    have HZ5 := put hb5.size
    clear hsl hb5 x0 x1 x2 x3
    obtain ⟨x0, x1, x2, x3⟩ := s_cells HX5.out
    go_wp2_with fail
    refine (plainSpecCalls ok _ _ _ s w5 (HSP.out.below KB5.out)).mono ?_
    rintro e w6 ⟨u1, u2, rfl, hsp6, hb6⟩
    have KB6 := put (KB5.out.trans (hb6.mono KB5.out.size))
    have HW6 := put (HW5.out.below hb6)
    have HL6 := put (HL5.out.below hb6)
    have HZ6 := put (Nat.le_trans HZ5.out hb6.size)
    have HP6 := put hsp6
    clear hb6 hsp6 x0 x1 x2 x3
    go_wp2_with fail
    refine (refMakeCalls _ _ _ _ _ _ rows s w6 HW6.out HP6.out HRL.out.1 HRL.out.2.1 HRL.out.2.2 HIN.out).mono ?_
    rintro e w7 ⟨vm, rfl, hsm, hb7⟩
    have KB7 := put (KB6.out.trans (hb7.mono KB6.out.size))
    have HW7 := put (HW6.out.below hb7)
    have HL7 := put (HL6.out.below hb7)
    have HZ7 := put (Nat.le_trans HZ6.out hb7.size)
    have HM7 := put hsm
    have hee : ((makeR rows s).2 != (makeR rows s).2) = false := by simp
    clear hb7 hsm
    go_wp2_with fail
    refine (sameCalls _ _ _ _ _ _ w7 (tRowU_sl HL7.out) HM7.out HSZ.out.1 HSZ.out.2).mono ?_
    rintro e w8 ⟨rfl, hg8⟩
    rw [show decide ((makeR rows s).1 = (makeR rows s).1) = true by simp]
    have KB8 := put (KB7.out.trans (hg8.below.mono KB7.out.size))
    have HW8 := put (HW7.out.below hg8.below)
    have HL8 := put (HL7.out.below hg8.below)
    have HZ8 := put (Nat.le_trans HZ7.out hg8.below.size)
    clear hg8 hee
    go_wp2_with fail
    refine (sameCalls _ _ _ _ _ _ w8 (HROWS.out.below KB8.out) HW8.out HRL.out.1 HRL.out.2.1).mono ?_
    rintro e w9 ⟨rfl, hg9⟩
    rw [show decide (rows = rows) = true by simp]
    have KB9 := put (KB8.out.trans (hg9.below.mono KB8.out.size))
    have HW9 := put (HW8.out.below hg9.below)
    have HL9 := put (HL8.out.below hg9.below)
    clear hg9
    obtain ⟨Al, cl, el, j1, j2, _⟩ := HL9.out.shape
    subst el
    obtain ⟨n, hn⟩ : ∃ n, n = (makeR rows s).1.length := ⟨_, rfl⟩
    rw [← hn] at HL9 j1 ⊢
    have HN := put hn
    have hn9 : n ≤ 1000 := by rw [hn]; exact HSZ.out.1
    have HLW := put (fun r hr => HSZ.out.2 r hr)
    generalize (makeR rows s).1 = L at *
    clear hn
    go_wp2_with fail
    go_loopg [49] n (fun kx s49 wi => ∃ (i : Nat), s49 = .int .i64 i ∧ i ≤ n ∧ n - i ≤ kx ∧ Kp (Kept w4.heap.size w9 wi))
    case atStart => exact ⟨0, rfl, Nat.zero_le _, Nat.le_refl _, put (Kept.refl _ _)⟩
    case round =>
      obtain ⟨i, rfl, hi, hkx, HK⟩ := hrel
      by_cases hlt : i < n
      · have hlz : (i : Int) < (n : Int) := by omega
        have i0 : (0 : Int) ≤ (i : Int) := by omega
        obtain ⟨ad, r, B1, d1, rfl, hr, z0, hsr, hfr⟩ := rowsU_get HL9.out.row.1 i (by rw [← HN.out]; exact hlt)
        have Z0 := put z0
        have y0 := HK.out.sls _ _ _ _ z0
        have hrl : r.length ≤ 1000 := HLW.out r (List.mem_of_getElem? hr)
        have HSR := put hsr
        have HFR := put hfr
        obtain ⟨p, hp⟩ : ∃ p, p = r.length := ⟨_, rfl⟩
        rw [← hp] at Z0 y0 HSR hrl
        have HP := put hp
        clear hr z0 hsr hfr hp
        go_wp2_with fail
        clear y0
        go_loopg [57] p (fun kx s57 wi => ∃ (k : Nat), s57 = .int .i64 k ∧ k ≤ p ∧ p - k ≤ kx ∧ Kp (Kept w4.heap.size w9 wi))
        case atStart => exact ⟨0, rfl, Nat.zero_le _, Nat.le_refl _, HK⟩
        case round =>
          obtain ⟨k, rfl, hk, hkx2, HK2⟩ := hrel
          by_cases hlt2 : k < p
          · have hlz2 : (k : Int) < (p : Int) := by omega
            have k0 : (0 : Int) ≤ (k : Int) := by omega
            have hkr : k < r.length := by rw [← HP.out]; exact hlt2
            obtain ⟨bd, rfl, q0, q1, q2⟩ := vals_get HSR.out.row.1 k hkr
            have hbd : w4.heap.size ≤ (bd.add (k * 3)).block := by
              obtain ⟨ad', e, hk', _⟩ := HSR.out.row.1 (by intro e; rw [e] at hkr; simp at hkr)
              obtain rfl : bd = ad' := by simpa using e
              rw [add_block]; exact hk'
            obtain ⟨z, y1⟩ := HK2.out.ints _ _ q1
            have y0 := HK2.out.sls _ _ _ _ Z0.out
            have f1 : wr.frozen? ⟨(bd.add (k * 3)).block, (bd.add (k * 3)).off + 1, none⟩ = false := by rw [HK2.out.fr, add_block]; exact HFR.out (by intro e; rw [e] at hkr; simp at hkr) bd rfl _
            have HKS : Kp (∀ y, Kept w4.heap.size w9 (wr.setCell ⟨(bd.add (k * 3)).block, (bd.add (k * 3)).off + 1, none⟩ (.int .i64 y))) := put (fun y => HK2.out.set y1 hbd y)
            clear q0 q1 q2 hkr hbd
            go_wp2_with fail
            go_roundg (p - (k + 1))
            case measure => omega
            case rel => exact ⟨k + 1, by go_num, by omega, Nat.le_refl _, put (HKS.out _)⟩
          · have hlz2 : ¬ (k : Int) < (p : Int) := by omega
            go_wp2_with fail
            go_roundg (n - (i + 1))
            case measure => omega
            case rel => exact ⟨i + 1, by go_num, by omega, Nat.le_refl _, HK2⟩
      · have hlz : ¬ (i : Int) < (n : Int) := by omega
        have HRW : Kp (Sl tRow (fun k => ok k ∧ k < w.heap.size) wr (.slice A rows.length c) rows) := put ((HROWS.out.elder KB9.out).move (fun k hk _ => HK.out.below.block k (Nat.lt_of_lt_of_le hk.2 KB4.out.size)))
        have HWW := put (HW9.out.move (w' := wr) (fun k hk _ => HK.out.below.block k hk))
        have KBE := put (KB9.out.trans (HK.out.below.mono KB4.out.size))
        go_wp2_with fail
        refine (sameCalls _ _ _ _ _ _ wr HRW.out HWW.out HRL.out.1 HRL.out.2.1).mono ?_
        rintro e we ⟨rfl, hge⟩
        rw [show decide (rows = rows) = true by simp]
        have KBF := put (KBE.out.trans (hge.below.mono KBE.out.size))
        clear hge
        go_wp2_with fail
        go_ret
        exact ⟨rfl, KBF.out⟩
end Go.Proofs.Ytkfoknjflpklpaa.P
