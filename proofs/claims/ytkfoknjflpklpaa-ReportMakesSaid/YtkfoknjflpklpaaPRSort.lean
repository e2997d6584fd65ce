/- tripwireref28.Sort. -/
import Derived.Test.YtkfoknjflpklpaaPAhead
import Derived.Test.YtkfoknjflpklpaaPAwake
import Derived.Test.YtkfoknjflpklpaaMem2
namespace Go.Proofs.Ytkfoknjflpklpaa.P
open Go Go.RowKit Go.Sort Go.Proofs.Ytkfoknjflpklpaa.Mem Go.Proofs.Ytkfoknjflpklpaa.Cmp Go.Proofs.Ytkfoknjflpklpaa.D

def regionAt (id : Nat) : Code → Option Code
  | .region i ops b => if i = id then some (.region i ops b) else none
  | .seq a b => (regionAt id a).or (regionAt id b)
  | .cond _ a b => (regionAt id a).or (regionAt id b)
  | .block _ c => regionAt id c
  | .loop c => regionAt id c
  | _ => none

theorem Own.lit' {α : Type} (d : Ty α) {E : TypeId} {ok : Nat → Prop} {w : World} {base b : Nat} (h : w.heap[b]? = some (.cells #[] E (0, 0))) (hb : base ≤ b) : Own d E ok w base (.slice (some ⟨b, 0, none⟩) 0 0) [] :=
  ⟨[], rfl, ⟨by simp, .inr ⟨b, 0, #[], rfl, hb, h, Nat.le_refl _, by simp, by simp, by simp⟩⟩, fun i x c h => by simp at h⟩
theorem lit_sl {α : Type} {d : Ty α} {E : TypeId} {ok : Nat → Prop} {w : World} {b : Nat} {p : α} {cs : List Value} (h : w.heap[b]? = some (.cells cs.toArray E (0, 0))) (hr : d.R ok w p cs) (hb : ok b) : Sl d ok w (.slice (some ⟨b, 0, none⟩) 1 1) [p] :=
  Sl.lit (d := d) (xs := [p]) [cs] (by simpa using h) ⟨hr, trivial⟩ hb (by simp)
theorem ne_new {k B b n c : Nat} (h : k < B) (hb : B ≤ b) : some k ≠ (Value.slice (some ⟨b, 0, none⟩) n c).ownBlock := fun e => by
  simp only [Value.ownBlock, Option.some.injEq] at e
  omega
theorem lit_block {B b n c : Nat} (hb : B ≤ b) : ∀ k, (Value.slice (some ⟨b, 0, none⟩) n c).ownBlock = some k → B ≤ k := fun k e => by
  simp only [Value.ownBlock, Option.some.injEq] at e
  omega
theorem ne_own {α : Type} {d : Ty α} {E base k : Nat} {ok : Nat → Prop} {w : World} {v : Value} {xs : List α} (h : Own d E ok w base v xs) (hk : k < base) : some k ≠ v.ownBlock := fun e => by have := (h.lt k e.symm).1; omega
theorem ne_fresh {α : Type} {d : Ty α} {E base : Nat} {ok : Nat → Prop} {w : World} {v : Value} {xs : List α} (h : Own d E ok w base v xs) : some w.heap.size ≠ v.ownBlock := fun e => by have := (h.lt _ e.symm).2; omega
theorem ne_grown {v1 v : Value} {S b : Nat} (hat : v1.ownBlock = v.ownBlock ∨ ∃ b', v1.ownBlock = some b' ∧ S ≤ b') (h1 : some b ≠ v.ownBlock) (h2 : b < S) : some b ≠ v1.ownBlock := fun e => by
  rcases hat with h | ⟨b', h3, h4⟩
  · exact h1 (e.trans h)
  · rw [h3] at e
    simp only [Option.some.injEq] at e
    omega
theorem ne_lit {b b' n c : Nat} (h : b ≠ b') : some b ≠ (Value.slice (some ⟨b', 0, none⟩) n c).ownBlock := fun e => h (by simpa [Value.ownBlock] using e)
theorem heap_alloc_get (w : World) (o : Obj) (k : Nat) : (w.alloc o).heap[k]? = if k = w.heap.size then some o else w.heap[k]? := hag w o k
theorem heap_drew_get (w : World) (k : Nat) : w.drew.heap[k]? = w.heap[k]? := rfl
theorem bsize {w w' : World} (h : Below w.heap.size w w') : w.heap.size ≤ w'.heap.size := h.size

set_option maxHeartbeats 16000000 in
set_option maxRecDepth 100000 in
theorem sortLook (s2 s3 s4 s8 s9 s10 s11 s12 s13 s14 s15 s16 s17 s18 s19 s20 s21 s22 s23 s24 s25 s26 s27 s28 s29 s30 s31 s32 s33 s34 s35 s36 s37 s38 s39 s40 s41 s42 s43 s44 s45 s46 s47 s48 s49 : Value) (ad : Addr) (Ak A5 A1 A2 : Option Addr) (m c nk ck n c5 d1 d2 i q : Nat) (z : Int) (ks : List Key) (x y : List Val) (okk okx oky : Nat → Prop) (a5 : Addr) (wk : World) (Q : Exit → Act → World → Prop)
    (hi : i < m) (hzp : z > 0) (hzq : z - 1 = (q : Int)) (hq : q < n) (hn : n ≤ 1000) (h5 : A5 = some a5) (hnk : nk = ks.length) (hkl : ks.length ≤ 1000)
    (x0 : wk.cell? (ad.add i) = some (.slice A1 x.length d1)) (y0 : wk.cell? (a5.add q) = some (.slice A2 y.length d2)) (hk : Row tKey okk wk Ak ks) (hx : Row tVal okx wk A1 x) (hy : Row tVal oky wk A2 y)
    (hQ : ∀ (r17 r18 r19 r20 r21 r22 r23 r24 r25 r26 r27 r28 r29 r30 : Value) (w' : World), Below wk.heap.size wk w' → Q .normal { tmps := #[.slice (some ad) m c, .slice Ak nk ck, s2, s3, s4, .slice A5 n c5, .int .i64 (i : Int), .int .i64 z, s8, s9, s10, s11, s12, s13, s14, s15, s16, r17, r18, r19, r20, r21, r22, r23, r24, r25, r26, r27, r28, r29, r30, .bool (decide (cmpR ks x y < 0)), s32, s33, s34, s35, s36, s37, s38, s39, s40, s41, s42, s43, s44, s45, s46, s47, s48, s49], defers := [] } w') :
    ∀ code, (Try.f49.body.bind (regionAt 6)) = some code → Code.wp Try.prog code Q { tmps := #[.slice (some ad) m c, .slice Ak nk ck, s2, s3, s4, .slice A5 n c5, .int .i64 (i : Int), .int .i64 z, s8, s9, s10, s11, s12, s13, s14, s15, s16, s17, s18, s19, s20, s21, s22, s23, s24, s25, s26, s27, s28, s29, s30, s31, s32, s33, s34, s35, s36, s37, s38, s39, s40, s41, s42, s43, s44, s45, s46, s47, s48, s49], defers := [] } wk := by
  intro code hcode
  have h : (Try.f49.body.bind (regionAt 6)) = some (Code.region 6 _ true) := rfl
  rw [h] at hcode
  injection hcode with hcode
  subst hcode
  clear h
  subst h5
  have HQ := put hQ
  have X0 := put x0
  have Y0 := put y0
  have AH : Kp (∀ W, Below wk.heap.size wk W → Calls Try.prog 79 #[.slice A1 x.length d1, .slice A2 y.length d2, .slice Ak nk ck] W fun e w' => e = .returned (.bool (decide (cmpR ks x y < 0))) ∧ G W w') := put (fun W hb => by rw [hnk]; exact aheadCalls okk okx oky Ak A1 A2 ck d1 d2 ks x y W (hk.move (fun k _ h => hb.block k h)) (hx.move (fun k _ h => hb.block k h)) (hy.move (fun k _ h => hb.block k h)) hkl)
  clear hQ x0 y0 hk hx hy hnk hkl
  have i0 : (0 : Int) ≤ (i : Int) := by omega
  have hiz : (i : Int) < (m : Int) := by omega
  have q0 : (0 : Int) ≤ (q : Int) := by omega
  have hwq : IntKind.i64.wrap (q : Int) = (q : Int) := by rw [IntKind.wrap_i64]; omega
  have hqz : (q : Int) < (n : Int) := by omega
  refine wp_region_noPanic ?_
  refine wp_region_held_drew (S := (fun w' => Below wk.heap.size wk w')) (by kernel_rfl) (Below.refl _ _).drew (fun hHeld => ?_)
  refine wpAnyH_take (i := 0) (v := ?_) rfl (by kernel_rfl) (by kernel_rfl) (by kernel_rfl) (fun _ _ _ h => h) (Or.inl ⟨by kernel_rfl, ?_⟩) (by assumption) ?_
  rotate_left
  focus (intro w hSw; (try dsimp only at hSw); go_simp; (try with_reducible rfl); done)
  try simp only [List.getElem_toArray, List.getElem_cons_zero, Act.put, List.setIfInBounds_toArray, List.set_cons_zero, List.set_cons_succ]
  refine wpAnyH_take (i := 1) (v := ?_) rfl (by kernel_rfl) (by kernel_rfl) (by kernel_rfl) (fun _ _ _ h => h) (Or.inl ⟨by kernel_rfl, ?_⟩) (by assumption) ?_
  rotate_left
  focus (intro w hSw; (try dsimp only at hSw); go_simp; (try with_reducible rfl); done)
  try simp only [List.getElem_toArray, List.getElem_cons_succ, List.getElem_cons_zero, Act.put, List.setIfInBounds_toArray, List.set_cons_zero, List.set_cons_succ]
  refine wpAnyH_take (i := 2) (v := ?_) rfl (by kernel_rfl) (by kernel_rfl) (by kernel_rfl) (fun _ _ _ h => h) (Or.inl ⟨by kernel_rfl, ?_⟩) (by assumption) ?_
  rotate_left
  focus (intro w hSw; (try dsimp only at hSw); go_simp; (try with_reducible rfl); done)
  try simp only [List.getElem_toArray, List.getElem_cons_succ, List.getElem_cons_zero, Act.put, List.setIfInBounds_toArray, List.set_cons_zero, List.set_cons_succ]
  refine wpAnyH_take (i := 3) (v := ?_) rfl (by kernel_rfl) (by kernel_rfl) (by kernel_rfl) (fun _ _ _ h => h) (Or.inl ⟨by kernel_rfl, ?_⟩) (by assumption) ?_
  rotate_left
  focus (intro w hSw; (try dsimp only at hSw); go_simp; (try with_reducible rfl); done)
  try simp only [List.getElem_toArray, List.getElem_cons_succ, List.getElem_cons_zero, Act.put, List.setIfInBounds_toArray, List.set_cons_zero, List.set_cons_succ]
  refine wpAnyH_take (i := 4) (v := ?_) rfl (by kernel_rfl) (by kernel_rfl) (by kernel_rfl) (fun _ _ _ h => h) (Or.inl ⟨by kernel_rfl, ?_⟩) (by assumption) ?_
  rotate_left
  focus (intro w hSw; (try dsimp only at hSw); go_simp; (try with_reducible rfl); done)
  try simp only [List.getElem_toArray, List.getElem_cons_succ, List.getElem_cons_zero, Act.put, List.setIfInBounds_toArray, List.set_cons_zero, List.set_cons_succ]
  refine wpAnyH_take (i := 5) (v := ?_) rfl (by kernel_rfl) (by kernel_rfl) (by kernel_rfl) (fun _ _ _ h => h) (Or.inl ⟨by kernel_rfl, ?_⟩) (by assumption) ?_
  rotate_left
  focus (intro w hSw; (try dsimp only at hSw); go_simp; (try with_reducible rfl); done)
  try simp only [List.getElem_toArray, List.getElem_cons_succ, List.getElem_cons_zero, Act.put, List.setIfInBounds_toArray, List.set_cons_zero, List.set_cons_succ]
  refine wpAnyH_take (i := 6) (v := ?_) rfl (by kernel_rfl) (by kernel_rfl) (by kernel_rfl) (fun _ _ _ h => h) (Or.inl ⟨by kernel_rfl, ?_⟩) (by assumption) ?_
  rotate_left
  focus (intro w hSw; (try dsimp only at hSw); have k0 := (Below.cell hSw (World.block_lt_of_cell? _ _ X0.out)).trans X0.out; have k1 := (Below.cell hSw (World.block_lt_of_cell? _ _ Y0.out)).trans Y0.out; go_simp; (try with_reducible rfl); done)
  try simp only [List.getElem_toArray, List.getElem_cons_succ, List.getElem_cons_zero, Act.put, List.setIfInBounds_toArray, List.set_cons_zero, List.set_cons_succ]
  refine wpAnyH_take (i := 7) (v := ?_) rfl (by kernel_rfl) (by kernel_rfl) (by kernel_rfl) (fun _ _ _ h => h) (Or.inl ⟨by kernel_rfl, ?_⟩) (by assumption) ?_
  rotate_left
  focus (intro w hSw; (try dsimp only at hSw); go_simp; (try with_reducible rfl); done)
  try simp only [List.getElem_toArray, List.getElem_cons_succ, List.getElem_cons_zero, Act.put, List.setIfInBounds_toArray, List.set_cons_zero, List.set_cons_succ]
  refine wpAnyH_take (i := 8) (v := ?_) rfl (by kernel_rfl) (by kernel_rfl) (by kernel_rfl) (fun _ _ _ h => h) (Or.inl ⟨by kernel_rfl, ?_⟩) (by assumption) ?_
  rotate_left
  focus (intro w hSw; (try dsimp only at hSw); go_simp; (try with_reducible rfl); done)
  try simp only [List.getElem_toArray, List.getElem_cons_succ, List.getElem_cons_zero, Act.put, List.setIfInBounds_toArray, List.set_cons_zero, List.set_cons_succ]
  refine wpAnyH_take (i := 9) (v := ?_) rfl (by kernel_rfl) (by kernel_rfl) (by kernel_rfl) (fun _ _ _ h => h) (Or.inl ⟨by kernel_rfl, ?_⟩) (by assumption) ?_
  rotate_left
  focus (intro w hSw; (try dsimp only at hSw); go_simp; (try with_reducible rfl); done)
  try simp only [List.getElem_toArray, List.getElem_cons_succ, List.getElem_cons_zero, Act.put, List.setIfInBounds_toArray, List.set_cons_zero, List.set_cons_succ]
  refine wpAnyH_take (i := 10) (v := ?_) rfl (by kernel_rfl) (by kernel_rfl) (by kernel_rfl) (fun _ _ _ h => h) (Or.inl ⟨by kernel_rfl, ?_⟩) (by assumption) ?_
  rotate_left
  focus (intro w hSw; (try dsimp only at hSw); go_simp; (try with_reducible rfl); done)
  try simp only [List.getElem_toArray, List.getElem_cons_succ, List.getElem_cons_zero, Act.put, List.setIfInBounds_toArray, List.set_cons_zero, List.set_cons_succ]
  refine wpAnyH_take (i := 11) (v := ?_) rfl (by kernel_rfl) (by kernel_rfl) (by kernel_rfl) (fun _ _ _ h => h) (Or.inl ⟨by kernel_rfl, ?_⟩) (by assumption) ?_
  rotate_left
  focus (intro w hSw; (try dsimp only at hSw); have k0 := (Below.cell hSw (World.block_lt_of_cell? _ _ X0.out)).trans X0.out; have k1 := (Below.cell hSw (World.block_lt_of_cell? _ _ Y0.out)).trans Y0.out; go_simp; (try with_reducible rfl); done)
  try simp only [List.getElem_toArray, List.getElem_cons_succ, List.getElem_cons_zero, Act.put, List.setIfInBounds_toArray, List.set_cons_zero, List.set_cons_succ]
  refine wpAnyH_take (i := 12) (v := ?_) rfl (by kernel_rfl) (by kernel_rfl) (by kernel_rfl) (fun _ _ _ h => h) (Or.inl ⟨by kernel_rfl, ?_⟩) (by assumption) ?_
  rotate_left
  focus (intro w hSw; (try dsimp only at hSw); go_simp; (try with_reducible rfl); done)
  try simp only [List.getElem_toArray, List.getElem_cons_succ, List.getElem_cons_zero, Act.put, List.setIfInBounds_toArray, List.set_cons_zero, List.set_cons_succ]
  refine wpAnyH_ready (rs := [13]) (by kernel_rfl) (by simp) ?_
  refine AllReadyH.cons rfl (fun JJ hJJ => ?_) AllReadyH.nil
  go_simp
  ((try clear hb); go_at_call 79; refine (AH.out _ hHeld).mono ?_; rintro e w5 ⟨rfl, hg⟩; have hb := Below.trans hHeld (hg.below.mono hHeld.size); clear hg)
  refine hJJ.out _ _ ?_ (fun hHeld2 => ?_)
  · first | exact hb | exact hHeld
  clear hJJ JJ hHeld
  have hHeld := hHeld2
  clear hHeld2
  try simp only [List.getElem_toArray, List.getElem_cons_succ, List.getElem_cons_zero, Act.put, List.setIfInBounds_toArray, List.set_cons_zero, List.set_cons_succ]
  refine wpAnyH_take (i := 14) (v := ?_) rfl (by kernel_rfl) (by kernel_rfl) (by kernel_rfl) (fun _ _ _ h => h) (Or.inl ⟨by kernel_rfl, ?_⟩) (by assumption) ?_
  rotate_left
  focus (intro w hSw; (try dsimp only at hSw); go_simp; (try with_reducible rfl); done)
  try simp only [List.getElem_toArray, List.getElem_cons_succ, List.getElem_cons_zero, Act.put, List.setIfInBounds_toArray, List.set_cons_zero, List.set_cons_succ]
  refine wpAnyH_done (by kernel_rfl) ?_ _
  refine NoPanic.normal ?_
  exact HQ.out _ _ _ _ _ _ _ _ _ _ _ _ _ _ _ hHeld

set_option maxHeartbeats 16000000 in
set_option maxRecDepth 100000 in
theorem sortStop (s2 s3 s4 s8 s9 s10 s11 s12 s13 s14 s15 s16 s17 s18 s19 s20 s21 s22 s23 s24 s25 s26 s27 s28 s29 s30 s31 s32 s33 s34 s35 s36 s37 s38 s39 s40 s41 s42 s43 s44 s45 s46 s47 s48 s49 : Value) (ad : Addr) (Ak A5 : Option Addr) (m c nk ck n c5 i : Nat) (z : Int) (wk : World) (Q : Exit → Act → World → Prop) (hzp : ¬ z > 0)
    (hQ : ∀ (r17 r18 r19 r20 r21 r22 r23 r24 r25 r26 r27 r28 r29 r30 : Value) (w' : World), Below wk.heap.size wk w' → Q .normal { tmps := #[.slice (some ad) m c, .slice Ak nk ck, s2, s3, s4, .slice A5 n c5, .int .i64 (i : Int), .int .i64 z, s8, s9, s10, s11, s12, s13, s14, s15, s16, r17, r18, r19, r20, r21, r22, r23, r24, r25, r26, r27, r28, r29, r30, .bool false, s32, s33, s34, s35, s36, s37, s38, s39, s40, s41, s42, s43, s44, s45, s46, s47, s48, s49], defers := [] } w') :
    ∀ code, (Try.f49.body.bind (regionAt 6)) = some code → Code.wp Try.prog code Q { tmps := #[.slice (some ad) m c, .slice Ak nk ck, s2, s3, s4, .slice A5 n c5, .int .i64 (i : Int), .int .i64 z, s8, s9, s10, s11, s12, s13, s14, s15, s16, s17, s18, s19, s20, s21, s22, s23, s24, s25, s26, s27, s28, s29, s30, s31, s32, s33, s34, s35, s36, s37, s38, s39, s40, s41, s42, s43, s44, s45, s46, s47, s48, s49], defers := [] } wk := by
  intro code hcode
  have h : (Try.f49.body.bind (regionAt 6)) = some (Code.region 6 _ true) := rfl
  rw [h] at hcode
  injection hcode with hcode
  subst hcode
  clear h
  have HQ := put hQ
  clear hQ
  refine wp_region_noPanic ?_
  refine wp_region_held_drew (S := (fun w' => Below wk.heap.size wk w')) (by kernel_rfl) (Below.refl _ _).drew (fun hHeld => ?_)
  refine wpAnyH_take (i := 0) (v := ?_) rfl (by kernel_rfl) (by kernel_rfl) (by kernel_rfl) (fun _ _ _ h => h) (Or.inl ⟨by kernel_rfl, ?_⟩) (by assumption) ?_
  rotate_left
  focus (intro w hSw; (try dsimp only at hSw); go_simp; (try with_reducible rfl); done)
  try simp only [List.getElem_toArray, List.getElem_cons_zero, Act.put, List.setIfInBounds_toArray, List.set_cons_zero, List.set_cons_succ]
  refine wpAnyH_take (i := 1) (v := ?_) rfl (by kernel_rfl) (by kernel_rfl) (by kernel_rfl) (fun _ _ _ h => h) (Or.inl ⟨by kernel_rfl, ?_⟩) (by assumption) ?_
  rotate_left
  focus (intro w hSw; (try dsimp only at hSw); go_simp; (try with_reducible rfl); done)
  try simp only [List.getElem_toArray, List.getElem_cons_succ, List.getElem_cons_zero, Act.put, List.setIfInBounds_toArray, List.set_cons_zero, List.set_cons_succ]
  refine wpAnyH_take (i := 2) (v := ?_) rfl (by kernel_rfl) (by kernel_rfl) (by kernel_rfl) (fun _ _ _ h => h) (Or.inl ⟨by kernel_rfl, ?_⟩) (by assumption) ?_
  rotate_left
  focus (intro w hSw; (try dsimp only at hSw); go_simp; (try with_reducible rfl); done)
  try simp only [List.getElem_toArray, List.getElem_cons_succ, List.getElem_cons_zero, Act.put, List.setIfInBounds_toArray, List.set_cons_zero, List.set_cons_succ]
  refine wpAnyH_take (i := 3) (v := undef) rfl (by kernel_rfl) (by kernel_rfl) (by kernel_rfl) (fun _ _ _ h => h) (Or.inr ⟨by kernel_rfl, rfl⟩) (by assumption) ?_
  try simp only [List.getElem_toArray, List.getElem_cons_succ, List.getElem_cons_zero, Act.put, List.setIfInBounds_toArray, List.set_cons_zero, List.set_cons_succ]
  refine wpAnyH_take (i := 4) (v := undef) rfl (by kernel_rfl) (by kernel_rfl) (by kernel_rfl) (fun _ _ _ h => h) (Or.inr ⟨by kernel_rfl, rfl⟩) (by assumption) ?_
  try simp only [List.getElem_toArray, List.getElem_cons_succ, List.getElem_cons_zero, Act.put, List.setIfInBounds_toArray, List.set_cons_zero, List.set_cons_succ]
  refine wpAnyH_take (i := 5) (v := undef) rfl (by kernel_rfl) (by kernel_rfl) (by kernel_rfl) (fun _ _ _ h => h) (Or.inr ⟨by kernel_rfl, rfl⟩) (by assumption) ?_
  try simp only [List.getElem_toArray, List.getElem_cons_succ, List.getElem_cons_zero, Act.put, List.setIfInBounds_toArray, List.set_cons_zero, List.set_cons_succ]
  refine wpAnyH_take (i := 6) (v := undef) rfl (by kernel_rfl) (by kernel_rfl) (by kernel_rfl) (fun _ _ _ h => h) (Or.inr ⟨by kernel_rfl, rfl⟩) (by assumption) ?_
  try simp only [List.getElem_toArray, List.getElem_cons_succ, List.getElem_cons_zero, Act.put, List.setIfInBounds_toArray, List.set_cons_zero, List.set_cons_succ]
  refine wpAnyH_take (i := 7) (v := undef) rfl (by kernel_rfl) (by kernel_rfl) (by kernel_rfl) (fun _ _ _ h => h) (Or.inr ⟨by kernel_rfl, rfl⟩) (by assumption) ?_
  try simp only [List.getElem_toArray, List.getElem_cons_succ, List.getElem_cons_zero, Act.put, List.setIfInBounds_toArray, List.set_cons_zero, List.set_cons_succ]
  refine wpAnyH_take (i := 8) (v := undef) rfl (by kernel_rfl) (by kernel_rfl) (by kernel_rfl) (fun _ _ _ h => h) (Or.inr ⟨by kernel_rfl, rfl⟩) (by assumption) ?_
  try simp only [List.getElem_toArray, List.getElem_cons_succ, List.getElem_cons_zero, Act.put, List.setIfInBounds_toArray, List.set_cons_zero, List.set_cons_succ]
  refine wpAnyH_take (i := 9) (v := undef) rfl (by kernel_rfl) (by kernel_rfl) (by kernel_rfl) (fun _ _ _ h => h) (Or.inr ⟨by kernel_rfl, rfl⟩) (by assumption) ?_
  try simp only [List.getElem_toArray, List.getElem_cons_succ, List.getElem_cons_zero, Act.put, List.setIfInBounds_toArray, List.set_cons_zero, List.set_cons_succ]
  refine wpAnyH_take (i := 10) (v := undef) rfl (by kernel_rfl) (by kernel_rfl) (by kernel_rfl) (fun _ _ _ h => h) (Or.inr ⟨by kernel_rfl, rfl⟩) (by assumption) ?_
  try simp only [List.getElem_toArray, List.getElem_cons_succ, List.getElem_cons_zero, Act.put, List.setIfInBounds_toArray, List.set_cons_zero, List.set_cons_succ]
  refine wpAnyH_take (i := 11) (v := undef) rfl (by kernel_rfl) (by kernel_rfl) (by kernel_rfl) (fun _ _ _ h => h) (Or.inr ⟨by kernel_rfl, rfl⟩) (by assumption) ?_
  try simp only [List.getElem_toArray, List.getElem_cons_succ, List.getElem_cons_zero, Act.put, List.setIfInBounds_toArray, List.set_cons_zero, List.set_cons_succ]
  refine wpAnyH_take (i := 12) (v := undef) rfl (by kernel_rfl) (by kernel_rfl) (by kernel_rfl) (fun _ _ _ h => h) (Or.inr ⟨by kernel_rfl, rfl⟩) (by assumption) ?_
  try simp only [List.getElem_toArray, List.getElem_cons_succ, List.getElem_cons_zero, Act.put, List.setIfInBounds_toArray, List.set_cons_zero, List.set_cons_succ]
  refine wpAnyH_take (i := 13) (v := undef) rfl (by kernel_rfl) (by kernel_rfl) (by kernel_rfl) (fun _ _ _ h => h) (Or.inr ⟨by kernel_rfl, rfl⟩) (by assumption) ?_
  try simp only [List.getElem_toArray, List.getElem_cons_succ, List.getElem_cons_zero, Act.put, List.setIfInBounds_toArray, List.set_cons_zero, List.set_cons_succ]
  refine wpAnyH_take (i := 14) (v := ?_) rfl (by kernel_rfl) (by kernel_rfl) (by kernel_rfl) (fun _ _ _ h => h) (Or.inl ⟨by kernel_rfl, ?_⟩) (by assumption) ?_
  rotate_left
  focus (intro w hSw; (try dsimp only at hSw); go_simp; (try with_reducible rfl); done)
  try simp only [List.getElem_toArray, List.getElem_cons_succ, List.getElem_cons_zero, Act.put, List.setIfInBounds_toArray, List.set_cons_zero, List.set_cons_succ]
  refine wpAnyH_done (by kernel_rfl) ?_ _
  refine NoPanic.normal ?_
  exact HQ.out _ _ _ _ _ _ _ _ _ _ _ _ _ _ _ hHeld


set_option maxHeartbeats 16000000 in
set_option maxRecDepth 100000 in
theorem sortPut (s2 s3 s4 s8 s9 s10 s11 s12 s13 s14 s15 s16 s17 s18 s19 s20 s21 s22 s23 s24 s25 s26 s27 s28 s29 s30 s31 s32 s33 s34 s35 s36 s37 s38 s39 s40 s41 s42 s43 s44 s45 s46 s47 s48 s49 : Value) (ad : Addr) (Ak A5 A1 : Option Addr) (m c nk ck n c5 d1 i q : Nat) (out : List (List Val)) (x : List Val) (wk : World) (Q : Exit → Act → World → Prop)
    (hi : i < m) (hq : q ≤ n) (hn : n ≤ 1000) (hnc : n ≤ c5) (HNO : Kp (n = out.length))
    (f0 : wk.cell? (ad.add i) = some (.slice A1 x.length d1)) (hx : Sl tVal (fun k => k < wk.heap.size) wk (.slice A1 x.length d1) x) (OS : Sl tRow (fun k => k < wk.heap.size) wk (.slice A5 n c5) out)
    (hQ : ∀ (r34 r35 r36 r37 r38 r39 r40 r41 r42 r43 r44 r45 r46 r47 r48 : Value) (g3 d14 : Nat) (w' : World), n + 1 ≤ d14 → Own tRow 30 (fun _ => True) w' wk.heap.size (.slice (some ⟨g3, 0, none⟩) (n + 1) d14) (out.take q ++ [x] ++ out.drop q) → Below wk.heap.size wk w' → Q .normal { tmps := #[.slice (some ad) m c, .slice Ak nk ck, s2, s3, s4, .slice (some ⟨g3, 0, none⟩) (n + 1) d14, .int .i64 (i : Int), .int .i64 (q : Int), s8, s9, s10, s11, s12, s13, s14, s15, s16, s17, s18, s19, s20, s21, s22, s23, s24, s25, s26, s27, s28, s29, s30, s31, s32, s33, r34, r35, r36, r37, r38, r39, r40, r41, r42, r43, r44, r45, r46, r47, r48, s49], defers := [] } w') :
    ∀ code, (Try.f49.body.bind (regionAt 8)) = some code → Code.wp Try.prog code Q { tmps := #[.slice (some ad) m c, .slice Ak nk ck, s2, s3, s4, .slice A5 n c5, .int .i64 (i : Int), .int .i64 (q : Int), s8, s9, s10, s11, s12, s13, s14, s15, s16, s17, s18, s19, s20, s21, s22, s23, s24, s25, s26, s27, s28, s29, s30, s31, s32, s33, s34, s35, s36, s37, s38, s39, s40, s41, s42, s43, s44, s45, s46, s47, s48, s49], defers := [] } wk := by
  intro code hcode
  have h : (Try.f49.body.bind (regionAt 8)) = some (Code.region 8 _ true) := rfl
  rw [h] at hcode
  injection hcode with hcode
  subst hcode
  clear h
  have HQ := put hQ
  clear hQ
  have hB6 : (ad.add i).block < wk.heap.size := World.block_lt_of_cell? _ _ f0
  have hao : q ≤ c5 := by omega
  have OT : Kp (∀ W, Below wk.heap.size wk W → Sl tRow (fun k => k < wk.heap.size) W (.slice A5 q c5) (out.take q)) := ⟨fun W hb => (OS.take (n := q) hq).below hb⟩
  have OD : Sl tRow (fun k => k < wk.heap.size) wk (.slice (if c5 = q then A5 else A5.map (fun x => x.add q)) (n - q) (c5 - q)) (out.drop q) := by
    have h1 := OS.drop (n := q) hq
    rwa [show q * tRow.sz = q from Nat.mul_one q] at h1
  have CR : Kp (∀ W, Below wk.heap.size wk W → tRow.R (fun k => k < wk.heap.size) W x [.slice A1 x.length d1]) := ⟨fun W hb => ⟨_, rfl, hx.below hb⟩⟩
  have i0 : (0 : Int) ≤ (i : Int) := by omega
  have hiz : (i : Int) < (m : Int) := by omega
  have q0 : (0 : Int) ≤ (q : Int) := by omega
  have hqn : (q : Int) ≤ (n : Int) := by omega
  have hqc : (q : Int) ≤ (c5 : Int) := by omega
  have htl : Kp ((out.take q).length = q) := ⟨by rw [List.length_take, ← HNO.out]; omega⟩
  have hdl : Kp ((out.drop q).length = n - q) := ⟨by rw [List.length_drop, ← HNO.out]⟩
  have LN1 : Kp ((([] : List (List Val)).length + (out.take q).length) * 24 ≤ 140737488355328) := ⟨by rw [htl.out]; simp only [List.length_nil]; omega⟩
  have LN2 : Kp (((out.take q).length + [x].length) * 24 ≤ 140737488355328) := ⟨by rw [htl.out]; simp only [List.length_singleton]; omega⟩
  have LN3 : Kp (((out.take q ++ [x]).length + (out.drop q).length) * 24 ≤ 140737488355328) := ⟨by rw [List.length_append, htl.out, hdl.out]; simp only [List.length_singleton]; omega⟩
  clear OS hx
  have ODD := put OD
  clear OD
  go_region_held3 (fun w' => w'.cell? (ad.add i) = some (.slice A1 x.length d1)) (first | exact f0 | exact g0 | exact h0 | exact z0 | go_keep)
    (first | (refine step_pushes tRow wk.heap.size rfl _ _ 78 30 _ 24 rfl Try.underlying78 infoRow rfl (by decide) (by decide) (.slice (some ⟨_, 0, none⟩) 0 0) (.slice A5 q c5) [] (out.take q) (fun _ => True) (fun k => k < wk.heap.size) rfl rfl (OT.out _ (by (repeat (first | with_reducible exact (Below.refl _ _) | with_reducible apply Below.drew | with_reducible refine balloc ?_ _)))) (fun k hk => ⟨trivial, ne_new hk (by (first | exact Nat.le_refl _ | exact Nat.le_succ _))⟩) (Own.lit' _ (by (simp only [heap_alloc_get, heap_drew_get] <;> simp <;> done)) (by (first | exact Nat.le_refl _ | exact Nat.le_succ _))) (bsize (by (repeat (first | with_reducible exact (Below.refl _ _) | with_reducible apply Below.drew | with_reducible refine balloc ?_ _)))) LN1.out ?_; intro v1 w7 ho1 hg1 hat1; rw [List.nil_append] at ho1; obtain ⟨V1, c1, e1, _, _⟩ := ho1.form; rw [htl.out] at e1; subst e1; have hb7 : Below wk.heap.size wk w7 := Below.grown (by (repeat (first | with_reducible exact (Below.refl _ _) | with_reducible apply Below.drew | with_reducible refine balloc ?_ _))) hg1 (bsize (by (repeat (first | with_reducible exact (Below.refl _ _) | with_reducible apply Below.drew | with_reducible refine balloc ?_ _)))) (lit_block (by (first | exact Nat.le_refl _ | exact Nat.le_succ _))); have g0 := ((hb7).cell hB6).trans f0; have OW1 := put ho1; have HB7 := put hb7; have HG1 := put hg1; have HAT1 := put hat1; clear ho1 hg1 hat1 hb7) | (refine step_pushes tRow wk.heap.size rfl _ _ 78 30 _ 24 rfl Try.underlying78 infoRow rfl (by decide) (by decide) (.slice V1 q c1) (.slice (some ⟨_, 0, none⟩) 1 1) (out.take q) [x] (fun _ => True) (fun k => some k ≠ (Value.slice V1 q c1).ownBlock) rfl rfl (lit_sl (E := 30) (by first | (simp only [heap_alloc_get] <;> simp <;> done) | (refine Eq.trans (HG1.out.block _ ?_ (ne_lit (by simp))) ?_; rotate_left; (simp only [heap_alloc_get, heap_drew_get] <;> simp <;> done); (simp <;> omega))) (tRow.mono (fun k hk => ne_own OW1.out hk) (CR.out _ (by (repeat (first | with_reducible exact (Below.refl _ _) | with_reducible exact HB7.out | with_reducible apply Below.drew | with_reducible refine balloc ?_ _))))) (by first | exact ne_fresh OW1.out | exact ne_grown HAT1.out (ne_lit (by simp)) (by simp <;> omega))) (fun k hk => ⟨trivial, hk⟩) (OW1.out.below (by (repeat (first | with_reducible exact (Below.refl _ _) | with_reducible apply Below.drew | with_reducible refine balloc ?_ _)))) (bsize (w := wk) (by (repeat (first | with_reducible exact (Below.refl _ _) | with_reducible exact HB7.out | with_reducible apply Below.drew | with_reducible refine balloc ?_ _)))) LN2.out ?_; intro v2 w8 ho2 hg2 hat2; obtain ⟨V2, c2, e2, _, _⟩ := ho2.form; rw [List.length_append, htl.out, List.length_singleton] at e2; subst e2; have hb8 : Below wk.heap.size wk w8 := Below.grown (by (repeat (first | with_reducible exact (Below.refl _ _) | with_reducible exact HB7.out | with_reducible apply Below.drew | with_reducible refine balloc ?_ _))) hg2 (bsize (w := wk) (by (repeat (first | with_reducible exact (Below.refl _ _) | with_reducible exact HB7.out | with_reducible apply Below.drew | with_reducible refine balloc ?_ _)))) (fun k hk => (OW1.out.lt k hk).1); have h0 := ((hb8).cell hB6).trans f0; have OW2 := put ho2; have HB8 := put hb8; clear ho2 hg2 hat2 hb8) | (refine step_pushes tRow wk.heap.size rfl _ _ 78 30 _ 24 rfl Try.underlying78 infoRow rfl (by decide) (by decide) (.slice V2 (q + 1) c2) (.slice (if c5 = q then A5 else A5.map (fun x => x.add q)) (n - q) (c5 - q)) (out.take q ++ [x]) (out.drop q) (fun _ => True) (fun k => k < wk.heap.size) rfl rfl (ODD.out.below (by (repeat (first | with_reducible exact (Below.refl _ _) | with_reducible exact HB8.out | with_reducible apply Below.drew | with_reducible refine balloc ?_ _)))) (fun k hk => ⟨trivial, ne_own OW2.out hk⟩) (OW2.out.below (by (repeat (first | with_reducible exact (Below.refl _ _) | with_reducible apply Below.drew | with_reducible refine balloc ?_ _)))) (bsize (w := wk) (by (repeat (first | with_reducible exact (Below.refl _ _) | with_reducible exact HB8.out | with_reducible apply Below.drew | with_reducible refine balloc ?_ _)))) LN3.out ?_; intro v3 w9 ho3 hg3 hat3; have hb9 : Below wk.heap.size wk w9 := Below.grown (by (repeat (first | with_reducible exact (Below.refl _ _) | with_reducible exact HB8.out | with_reducible apply Below.drew | with_reducible refine balloc ?_ _))) hg3 (bsize (w := wk) (by (repeat (first | with_reducible exact (Below.refl _ _) | with_reducible exact HB8.out | with_reducible apply Below.drew | with_reducible refine balloc ?_ _)))) (fun k hk => (OW2.out.lt k hk).1); obtain ⟨V3, c3, e3, hcap3, _⟩ := ho3.form; have z0 := ((hb9).cell hB6).trans f0; have OW3 := put ho3; have HB9 := put hb9; have HE3 := put e3; have HC3 := put hcap3; clear ho3 hg3 hat3 hb9 e3 hcap3))
  all_goals
    have hln : (out.take q ++ [x] ++ out.drop q).length = n + 1 := by rw [List.length_append, List.length_append, htl.out, hdl.out, List.length_singleton]; omega
    rcases OW3.out.shape with ⟨_, hx⟩ | ⟨g, cap, e, _, _, hc, _⟩
    · rw [hx] at hln; simp at hln
    · rw [hln] at e hc
      have how := OW3.out
      have hbw := HB9.out
      clear OW3 HE3 HC3
      subst e
      exact HQ.out _ _ _ _ _ _ _ _ _ _ _ _ _ _ _ g cap _ hc how hbw

theorem cell_at {w w' : World} {a : Addr} {v : Value} (h : w.cell? a = some v) (hb : Below w.heap.size w w') : w'.cell? a = some v := (hb.cell (World.block_lt_of_cell? _ _ h)).trans h
theorem scan_zero {α : Type} {lt : α → α → Bool} (x : α) (out : List α) : scan lt x out 0 = 0 := rfl
theorem scan_up {α : Type} {lt : α → α → Bool} {x y : α} {out : List α} {p : Nat} (hy : out[p]? = some y) : scan lt x out (p + 1) = if lt x y = true then scan lt x out p else p + 1 := by rw [scan, hy]; rfl
theorem refSort_snoc {α : Type} (lt : α → α → Bool) (l : List α) (x : α) : refSort lt (l ++ [x]) = refIns lt (refSort lt l) x := by unfold refSort; rw [List.foldl_append]; rfl
theorem refSort_len {α : Type} {lt : α → α → Bool} (hr : SWO lt) (l : List α) : (refSort lt l).length = l.length := by rw [refSort_eq hr]; exact (Stab.isort_perm l).length_eq

set_option maxHeartbeats 16000000 in
set_option maxRecDepth 100000 in
theorem refSortCalls (ok okk : Nat → Prop) (v vk : Value) (rows : List (List Val)) (ks : List Key) (w : World) (h : Sl tRow ok w v rows) (hk : Sl tKey okk w vk ks) (hl : rows.length ≤ 1000) (hkl : ks.length ≤ 1000) :
    Calls Try.prog 49 #[v, vk] w fun e w' => ∃ vo, e = .returned vo ∧ Own tRow 30 (fun _ => True) w' w.heap.size vo (sortR ks rows) ∧ Below w.heap.size w w' := by
  obtain ⟨A, c, rfl, l1, l2, l3⟩ := h.shape
  obtain ⟨Ak, ck, rfl, _, _, _⟩ := hk.shape
  have KS := put h
  have KK := put hk
  obtain ⟨m, hm⟩ : ∃ m, m = rows.length := ⟨_, rfl⟩
  rw [← hm] at l1 l3 hl KS ⊢
  obtain ⟨nk, hnk⟩ : ∃ nk, nk = ks.length := ⟨_, rfl⟩
  rw [← hnk] at KK hkl ⊢
  have HNK := put hnk
  have HM := put hm
  have HKL := put hkl
  clear h hk hm hnk hkl
  have KSE : Kp (refSort (ltOf (cmpR ks)) rows = sortR ks rows) := put (refSort_eq (swo_cmpR ks) rows)
  go_enter Try.func49, Try.ntmps49
  go_wp2_with fail
  go_loopg [5, 6] m (fun kx s5 s6 wr => ∃ (i : Nat) (A5 : Option Addr) (c5 : Nat), s5 = .slice A5 i c5 ∧ s6 = .int .i64 i ∧ i ≤ m ∧ m - i ≤ kx ∧ Kp (Own tRow 30 (fun _ => True) wr w.heap.size (.slice A5 i c5) (refSort (ltOf (cmpR ks)) (rows.take i))) ∧ Kp (Below w.heap.size w wr))
  case atStart => exact ⟨0, _, 0, rfl, rfl, Nat.zero_le _, Nat.le_refl _, put (Own.lit' _ (heap_alloc_new _ _) (Nat.le_refl _)), put (balloc (Below.refl _ _) _)⟩
  case round =>
    obtain ⟨i, A5, c5, rfl, rfl, hi, hkx, HO, KB⟩ := hrel
    by_cases hlt : i < m
    · have hlz : (i : Int) < (m : Int) := by omega
      have i0 : (0 : Int) ≤ (i : Int) := by omega
      obtain ⟨ad, x, A1, d1, rfl, hx, x0, hsx⟩ := rows_get (KS.out.below KB.out).row.1 i (by rw [← HM.out]; exact hlt)
      have HS : Kp (refSort (ltOf (cmpR ks)) (rows.take (i + 1)) = refIns (ltOf (cmpR ks)) (refSort (ltOf (cmpR ks)) (rows.take i)) x) := put (by rw [take_one hx, refSort_snoc])
      have hol : (refSort (ltOf (cmpR ks)) (rows.take i)).length = i := by rw [refSort_len (swo_cmpR ks), List.length_take, ← HM.out]; omega
      have HOS : Kp (Sl tRow (fun k => k < wr.heap.size) wr (.slice A5 i c5) (refSort (ltOf (cmpR ks)) (rows.take i))) := put ((Own.bnd HO.out).sl (ok' := fun k => k < wr.heap.size) (fun k hk => (HO.out.lt k hk).2) (fun k hk => hk.2) (by rw [hol]; omega))
      generalize refSort (ltOf (cmpR ks)) (rows.take i) = out at *
      have hic := HOS.out.row.2.2.1
      have HOL := put hol
      have X0 := put x0
      have HSX : Kp (Sl tVal (fun k => k < wr.heap.size) wr (.slice A1 x.length d1) x) := put (hsx.bnd.mono (fun k hk => hk.2))
      clear hx hol x0 hsx
      obtain ⟨w5, hw5⟩ : ∃ w5, w5 = wr := ⟨_, rfl⟩
      subst hw5
      go_wp2_with fail
      go_loopg [7] i (fun kx s7 wi => ∃ (q : Nat), s7 = .int .i64 q ∧ q ≤ i ∧ q ≤ kx ∧ Kp (scan (ltOf (cmpR ks)) x out i = scan (ltOf (cmpR ks)) x out q) ∧ Kp (Below w5.heap.size w5 wi))
      case atStart => exact ⟨i, rfl, Nat.le_refl _, Nat.le_refl _, put rfl, put (Below.refl w5.heap.size w5)⟩
      case round =>
        obtain ⟨q, rfl, hq, hkq, HSC, KBI⟩ := hrel
        by_cases hq0 : q = 0
        · subst hq0
          go_wp2_with fail
          refine sortStop _ _ _ _ _ _ _ _ _ _ _ _ _ _ _ _ _ _ _ _ _ _ _ _ _ _ _ _ _ _ _ _ _ _ _ _ _ _ _ _ _ _ _ _ _ ad Ak A5 m c nk ck i c5 i _ wr _ (by simp) ?_ _ rfl
          intro r17 r18 r19 r20 r21 r22 r23 r24 r25 r26 r27 r28 r29 r30 w6 hb6
          have HSQ : Kp (scan (ltOf (cmpR ks)) x out i = 0) := put HSC.out
          have HB6 : Kp (Below w5.heap.size w5 w6) := put (KBI.out.trans (hb6.mono KBI.out.size))
          clear hb6
          go_wp2_with fail
          refine sortPut _ _ _ _ _ _ _ _ _ _ _ _ _ _ _ _ _ _ _ _ _ _ _ _ _ _ _ _ _ _ _ _ _ _ _ _ _ _ _ _ _ _ _ _ _ ad Ak A5 A1 m c nk ck i c5 d1 i (0) out x w6 _ hlt (by omega) (by omega) hic (put HOL.out.symm) (cell_at X0.out HB6.out) ((HSX.out.below HB6.out).mono (fun k hk => Nat.lt_of_lt_of_le hk HB6.out.size)) ((HOS.out.below HB6.out).mono (fun k hk => Nat.lt_of_lt_of_le hk HB6.out.size)) ?_ _ rfl
          intro r34 r35 r36 r37 r38 r39 r40 r41 r42 r43 r44 r45 r46 r47 r48 g3 d14 w9 hcap how hbw
          have HOW := put how
          have HBW := put hbw
          clear how hbw
          go_wp2_with fail
          go_roundg (m - (i + 1))
          case measure => omega
          case rel => exact ⟨i + 1, some ⟨g3, 0, none⟩, d14, rfl, by go_num, by omega, Nat.le_refl _, put (by rw [HS.out, refIns, HOL.out, HSQ.out]; have h9 := HOW.out.lower (base' := w.heap.size) (Nat.le_trans KB.out.size HB6.out.size); simpa using h9), put ((KB.out.trans (HB6.out.mono KB.out.size)).trans (HBW.out.mono (Nat.le_trans KB.out.size HB6.out.size)))⟩
        · obtain ⟨p, rfl⟩ : ∃ p, q = p + 1 := ⟨q - 1, by omega⟩
          obtain ⟨a5, y, A2, d2, rfl, hy, y0, hsy⟩ := rows_get (HOS.out.below KBI.out).row.1 p (by rw [HOL.out]; omega)
          have HSU : Kp (scan (ltOf (cmpR ks)) x out (p + 1) = if ltOf (cmpR ks) x y = true then scan (ltOf (cmpR ks)) x out p else p + 1) := put (scan_up hy)
          clear hy
          go_wp2_with fail
          refine sortLook _ _ _ _ _ _ _ _ _ _ _ _ _ _ _ _ _ _ _ _ _ _ _ _ _ _ _ _ _ _ _ _ _ _ _ _ _ _ _ _ _ _ _ _ _ ad Ak (some a5) A1 A2 m c nk ck i c5 d1 d2 i p _ ks x y okk (fun k => k < w5.heap.size) (fun k => k < w5.heap.size) a5 wr _ hlt (by omega) (by omega) (by omega) (by omega) rfl HNK.out (by have := HKL.out; have := HNK.out; omega) (cell_at X0.out KBI.out) y0 (KK.out.row.1.move (fun k _ hk => (KB.out.trans (KBI.out.mono KB.out.size)).block k hk)) (HSX.out.row.1.move (fun k _ hk => KBI.out.block k hk)) hsy.row.1 ?_ _ rfl
          intro r17 r18 r19 r20 r21 r22 r23 r24 r25 r26 r27 r28 r29 r30 w6 hb6
          have HB6 : Kp (Below w5.heap.size w5 w6) := put (KBI.out.trans (hb6.mono KBI.out.size))
          clear hb6 y0 hsy
          obtain ⟨B, hB⟩ : ∃ B, B = decide (cmpR ks x y < 0) := ⟨_, rfl⟩
          rw [← hB]
          have HBD := put hB
          clear hB
          cases B with
          | true =>
            have HS2 : Kp (scan (ltOf (cmpR ks)) x out i = scan (ltOf (cmpR ks)) x out p) := put (by rw [HSC.out, HSU.out, if_pos (show ltOf (cmpR ks) x y = true from HBD.out.symm)])
            go_wp2_with fail
            go_roundg p
            case measure => omega
            case rel => exact ⟨p, by go_num, by omega, Nat.le_refl _, HS2, HB6⟩
          | false =>
            have HSQ : Kp (scan (ltOf (cmpR ks)) x out i = p + 1) := put (by rw [HSC.out, HSU.out, if_neg (by rw [show ltOf (cmpR ks) x y = decide (cmpR ks x y < 0) from rfl, ← HBD.out]; simp)])
            go_wp2_with fail
            refine sortPut _ _ _ _ _ _ _ _ _ _ _ _ _ _ _ _ _ _ _ _ _ _ _ _ _ _ _ _ _ _ _ _ _ _ _ _ _ _ _ _ _ _ _ _ _ ad Ak (some a5) A1 m c nk ck i c5 d1 i (p + 1) out x w6 _ hlt (by omega) (by omega) hic (put HOL.out.symm) (cell_at X0.out HB6.out) ((HSX.out.below HB6.out).mono (fun k hk => Nat.lt_of_lt_of_le hk HB6.out.size)) ((HOS.out.below HB6.out).mono (fun k hk => Nat.lt_of_lt_of_le hk HB6.out.size)) ?_ _ rfl
            intro r34 r35 r36 r37 r38 r39 r40 r41 r42 r43 r44 r45 r46 r47 r48 g3 d14 w9 hcap how hbw
            have HOW := put how
            have HBW := put hbw
            clear how hbw
            go_wp2_with fail
            go_roundg (m - (i + 1))
            case measure => omega
            case rel => exact ⟨i + 1, some ⟨g3, 0, none⟩, d14, rfl, by go_num, by omega, Nat.le_refl _, put (by rw [HS.out, refIns, HOL.out, HSQ.out]; have h9 := HOW.out.lower (base' := w.heap.size) (Nat.le_trans KB.out.size HB6.out.size); simpa using h9), put ((KB.out.trans (HB6.out.mono KB.out.size)).trans (HBW.out.mono (Nat.le_trans KB.out.size HB6.out.size)))⟩
    · have hlz : ¬ (i : Int) < (m : Int) := by omega
      obtain rfl : i = m := by omega
      have HE := HO.out
      rw [List.take_of_length_le (by rw [HM.out]; exact Nat.le_refl _), KSE.out] at HE
      go_wp2_with fail
      go_ret
      exact ⟨_, rfl, HE, KB.out⟩

end Go.Proofs.Ytkfoknjflpklpaa.P
