/- delta.Of, the document's Of, Plain. -/
import Derived.Test.YtkfoknjflpklpaaDNet
import Derived.Test.YtkfoknjflpklpaaDRefK
namespace Go.Proofs.Ytkfoknjflpklpaa.D
open Go Go.RowKit Go.Proofs.Ytkfoknjflpklpaa.Mem

theorem infoRef : (Try.prog.info? 43).map (fun i => (i.zero, i.size, i.bytes)) = some (some (.agg #[.string ⟨#[]⟩, .int .i64 0, .slice none 0 0, .slice none 0 0]), tChg.sz, 72) := by kernel_rfl

/-- The empty row of a literal. -/
theorem Own.lit {α : Type} (d : Ty α) (E : TypeId) (ok : Nat → Prop) (w : World) : Own d E ok (w.alloc (.cells #[] E)) w.heap.size (.slice (some ⟨w.heap.size, 0, none⟩) 0 0) [] :=
  ⟨[], rfl, ⟨by simp, .inr ⟨w.heap.size, 0, #[], rfl, Nat.le_refl _, heap_alloc_new w _, Nat.le_refl _, by simp, by simp, by simp⟩⟩, fun i x c h => by simp at h⟩

def Chg.isOf (tb : ByteArray) (kd : Int) (c : Chg) : Bool := decide (c.table = tb) && decide (c.kind = kd)

theorem filter_take {α : Type} {p : α → Bool} {xs : List α} {i : Nat} {x : α} (hx : xs[i]? = some x) : (xs.take (i + 1)).filter p = (xs.take i).filter p ++ (if p x then [x] else []) := by
  obtain ⟨hlt, rfl⟩ := List.getElem?_eq_some_iff.1 hx
  rw [List.take_succ_eq_append_getElem hlt, List.filter_append]
  congr 1
  rw [List.filter_cons, List.filter_nil]

theorem take_one_more {α : Type} {xs : List α} {i : Nat} {x : α} (hx : xs[i]? = some x) : xs.take (i + 1) = xs.take i ++ [x] := by
  obtain ⟨hlt, rfl⟩ := List.getElem?_eq_some_iff.1 hx
  exact List.take_succ_eq_append_getElem hlt

/-- Element i, as it is read. -/
theorem chgs_at {ok : Nat → Prop} {w : World} {A : Option Addr} {xs : List Chg} (h : Row tChg ok w A xs) (i : Nat) (hi : i < xs.length) :
    ∃ ad x A2 k2 A3 k3, A = some ad ∧ xs[i]? = some x ∧ w.cell? (ad.add (i * 4)) = some (.string x.table) ∧ w.cell? ⟨(ad.add (i * 4)).block, (ad.add (i * 4)).off + 1, none⟩ = some (.int .i64 x.id) ∧ w.cell? ⟨(ad.add (i * 4)).block, (ad.add (i * 4)).off + 2, none⟩ = some (.slice A2 x.old.length k2) ∧ w.cell? ⟨(ad.add (i * 4)).block, (ad.add (i * 4)).off + 3, none⟩ = some (.slice A3 x.new.length k3) ∧ Kp (tChg.R ok w x [.string x.table, .int .i64 x.id, .slice A2 x.old.length k2, .slice A3 x.new.length k3]) ∧ ok ad.block := by
  obtain ⟨ad, v2, v3, hA, c0, c1, c2, c3, s2, s3, hok⟩ := chgs_get h i hi
  obtain ⟨A2, k2, rfl, _⟩ := s2.shape
  obtain ⟨A3, k3, rfl, _⟩ := s3.shape
  exact ⟨ad, xs[i], A2, k2, A3, k3, hA, List.getElem?_eq_getElem hi, c0, c1, c2, c3, put ⟨_, _, rfl, s2, s3⟩, hok⟩

set_option maxHeartbeats 8000000 in
set_option maxRecDepth 100000 in
theorem plainCalls (ok : Nat → Prop) (v : Value) (xs : List Chg) (w : World) (h : Sl tChg ok w v xs) (hl : xs.length ≤ 100000) :
    Calls Try.prog 17 #[v] w fun e w' => ∃ vo, e = .returned vo ∧ Own tChg 43 (fun k => ok k ∧ k < w.heap.size) w' w.heap.size vo xs ∧ Below w.heap.size w w' := by
  obtain ⟨A, c, rfl, l1, l2, l3⟩ := h.shape
  have KS := put h
  have HL := put hl
  obtain ⟨m, hm⟩ : ∃ m, m = xs.length := ⟨_, rfl⟩
  rw [← hm] at l1 l3 KS ⊢
  have HM := put hm
  clear h hm hl
  go_enter Try.func17, Try.ntmps17
  go_wp2_with fail
  go_loopg [3, 8] m (fun kx s3 s8 wr => ∃ (i : Nat) (Ao : Option Addr) (co : Nat), s3 = .slice Ao i co ∧ s8 = .int .i64 i ∧ i ≤ m ∧ m - i ≤ kx ∧ Kp (Own tChg 43 (fun k => ok k ∧ k < w.heap.size) wr w.heap.size (.slice Ao i co) (xs.take i)) ∧ Kp (Below w.heap.size w wr))
  case atStart => exact ⟨0, none, 0, rfl, rfl, Nat.zero_le _, Nat.le_refl _, put (Own.nil _ _ _ _ _), put (Below.refl _ _)⟩
  case round =>
    obtain ⟨i, Ao, co, rfl, rfl, hi, hkx, KO, KB⟩ := hrel
    by_cases hlt : i < m
    · have hlz : (i : Int) < (m : Int) := by omega
      have i0 : (0 : Int) ≤ (i : Int) := by omega
      obtain ⟨ad, x, A2, k2, A3, k3, rfl, hx, x0, x1, x2, x3, KR, _⟩ := chgs_at (KS.out.elder KB.out).row.1 i (by rw [← HM.out]; exact hlt)
      have KX := put hx
      have HP : Kp (∀ W, Below wr.heap.size wr W → tChg.R (fun k => (ok k ∧ k < w.heap.size) ∧ some k ≠ (Value.slice Ao i co).ownBlock) W x [.string x.table, .int .i64 x.id, .slice A2 x.old.length k2, .slice A3 x.new.length k3]) := ⟨fun W hb => tChg.mono (fun k hk => ⟨hk, fun e => by have := (KO.out.lt k e.symm).1; omega⟩) (Ty.below KR.out hb)⟩
      have HOW : Kp (∀ W, Below wr.heap.size wr W → Own tChg 43 (fun k => ok k ∧ k < w.heap.size) W w.heap.size (.slice Ao i co) (xs.take i)) := ⟨fun W hb => KO.out.below hb⟩
      clear hx
      have B1 : ∀ o, Below wr.heap.size wr (wr.alloc o) := fun o => (Below.refl _ _).alloc (Nat.le_refl _) _
      go_wp2_with (at_builtin; refine wpList_push (W := wr.alloc (.cells #[.string x.table, .int .i64 x.id, .slice A2 x.old.length k2, .slice A3 x.new.length k3] 40)) tChg w.heap.size rfl _ _ 32 43 _ 72 rfl Try.underlying32 infoRef rfl (by decide) (by decide) (.slice Ao i co) (xs.take i) x [.string x.table, .int .i64 x.id, .slice A2 x.old.length k2, .slice A3 x.new.length k3] (fun k => ok k ∧ k < w.heap.size) rfl (by simp; rfl) (HP.out _ (B1 _)) (HOW.out _ (B1 _)) (by have := KB.out.size; simp; omega) (by rw [List.length_take, ← HM.out]; have := HL.out; have := HM.out; omega) ?_; intro v1 w7 hown hg hat; obtain ⟨A9, c9, e9, _, _⟩ := hown.form; rw [show (xs.take i ++ [x]).length = i + 1 by rw [List.length_append, List.length_take, ← HM.out, List.length_singleton]; omega] at e9; subst e9; have hb7 : Below w.heap.size w w7 := (KB.out.trans ((B1 _).mono KB.out.size)).grown hg (by have := KB.out.size; simp; omega) (fun k hk => (KO.out.lt k hk).1); have HB7 := put hb7; have HOWN := put hown; clear hown hg hat hb7)
      go_roundg (m - (i + 1))
      case measure => omega
      case rel => exact ⟨i + 1, _, _, rfl, by go_num, by omega, Nat.le_refl _, put (by rw [take_one_more KX.out]; exact HOWN.out), HB7⟩
    · have hlz : ¬ (i : Int) < (m : Int) := by omega
      go_wp2
      go_ret
      obtain rfl : i = m := by omega
      have hk := KO.out
      rw [List.take_of_length_le (by rw [HM.out]; exact Nat.le_refl _)] at hk
      exact ⟨_, rfl, hk, KB.out⟩

theorem kind_b0 {tb : ByteArray} {x : Chg} (h : x.table = tb) : (x.table.toList == tb.toList) = true := by rw [bytes_eq]; exact decide_eq_true h
theorem kind_b1 {tb : ByteArray} {x : Chg} (h : ¬ x.table = tb) : (x.table.toList == tb.toList) = false := by rw [bytes_eq]; exact decide_eq_false h

set_option maxHeartbeats 8000000 in
set_option maxRecDepth 100000 in
theorem ofCalls (ok : Nat → Prop) (v : Value) (xs : List Chg) (tb : ByteArray) (kd : Int) (w : World) (h : Sl tChg ok w v xs) (hl : xs.length ≤ 1000) (hb : ∀ x ∈ xs, x.old.length ≤ 1000 ∧ x.new.length ≤ 1000) :
    Calls Try.prog 24 #[v, .string tb, .int .i64 kd] w fun e w' => ∃ vo, e = .returned vo ∧ Own tChg 40 (fun k => w.heap.size ≤ k) w' w.heap.size vo (xs.filter (Chg.isOf tb kd)) ∧ Below w.heap.size w w' := by
  obtain ⟨A, c, rfl, l1, l2, l3⟩ := h.shape
  have KS := put h
  have HL := put hl
  have HBB := put hb
  obtain ⟨m, hm⟩ : ∃ m, m = xs.length := ⟨_, rfl⟩
  rw [← hm] at l1 l3 KS ⊢
  have HM := put hm
  clear h hm hl hb
  go_enter Try.func24, Try.ntmps24
  go_wp2_with fail
  go_loopg [7, 12] m (fun kx s7 s12 wr => ∃ (i : Nat) (Ao : Option Addr) (mo co : Nat), s7 = .slice Ao mo co ∧ s12 = .int .i64 i ∧ i ≤ m ∧ mo ≤ i ∧ m - i ≤ kx ∧ Kp (mo = ((xs.take i).filter (Chg.isOf tb kd)).length) ∧ Kp (Own tChg 40 (fun k => w.heap.size ≤ k) wr w.heap.size (.slice Ao mo co) ((xs.take i).filter (Chg.isOf tb kd))) ∧ Kp (Below w.heap.size w wr))
  case atStart => exact ⟨0, none, 0, 0, rfl, rfl, Nat.zero_le _, Nat.le_refl _, Nat.le_refl _, put (by simp), put (Own.nil _ _ _ _ _), put (Below.refl _ _)⟩
  case round =>
    obtain ⟨i, Ao, mo, co, rfl, rfl, hi, hmi, hkx, HMO, KO, KB⟩ := hrel
    by_cases hlt : i < m
    · have hlz : (i : Int) < (m : Int) := by omega
      have i0 : (0 : Int) ≤ (i : Int) := by omega
      obtain ⟨ad, x, A2, k2, A3, k3, rfl, hx, x0, x1, x2, x3, KR, _⟩ := chgs_at (KS.out.elder KB.out).row.1 i (by rw [← HM.out]; exact hlt)
      have KX := put hx
      have B1 : ∀ o, Below wr.heap.size wr (wr.alloc o) := fun o => (Below.refl _ _).alloc (Nat.le_refl _) _
      have HT := put (filter_take (p := Chg.isOf tb kd) hx)
      have hxm := List.mem_of_getElem? hx
      have BX := put (HBB.out x hxm)
      clear hx hxm
      generalize (xs.take i).filter (Chg.isOf tb kd) = out at *
      by_cases h1 : x.table = tb
      · have z1 := kind_b0 h1
        have K1 := put h1
        clear h1
        by_cases h2 : x.kind = kd
        · have z2 : (x.kind == kd) = true := by simp [h2]
          have HI : Kp ((xs.take (i + 1)).filter (Chg.isOf tb kd) = out ++ [x]) := ⟨by rw [HT.out, if_pos (by simp [Chg.isOf, K1.out, h2])]⟩
          clear h2 HT
          go_wp2_with (first | (go_at_call 20; refine (kindCalls _ x [.string x.table, .int .i64 x.id, .slice A2 x.old.length k2, .slice A3 x.new.length k3] _ (Ty.below KR.out (B1 _))).mono ?_; rintro e w5 ⟨rfl, hb5⟩; have d0 := (hb5.cell (p := ⟨wr.heap.size, 0, none⟩) (by simp)); have d1 := (hb5.cell (p := ⟨wr.heap.size, 1, none⟩) (by simp)); have d2 := (hb5.cell (p := ⟨wr.heap.size, 2, none⟩) (by simp)); have d3 := (hb5.cell (p := ⟨wr.heap.size, 3, none⟩) (by simp)); simp at d0 d1 d2 d3; have HB5 := put ((B1 _).trans (hb5.mono (by simp))); clear hb5) | (go_at_call 56; refine (cloneCalls _ x [.string x.table, .int .i64 x.id, .slice A2 x.old.length k2, .slice A3 x.new.length k3] w5 (Ty.below KR.out HB5.out) BX.out.1 BX.out.2).mono ?_; rintro e w6 ⟨v2, v3, rfl, ho2, ho3, _, hb6⟩; have HBO := put (HB5.out.trans (hb6.mono HB5.out.size)); have HP : Kp (tChg.R (fun k => w.heap.size ≤ k ∧ some k ≠ (Value.slice Ao mo co).ownBlock) w6 x [.string x.table, .int .i64 x.id, v2, v3]) := put (cloned_R (BW := wr.heap.size) KB.out.size HB5.out.size KO.out.lt ho2 ho3 (by have := BX.out.1; omega) (by have := BX.out.2; omega)); obtain ⟨V2, c22, e22, _, _⟩ := ho2.form; obtain ⟨V3, c33, e33, _, _⟩ := ho3.form; have HOW := put (KO.out.below HBO.out); subst e22; subst e33; clear ho2 ho3 hb6) | (at_builtin; refine wpList_push tChg w.heap.size rfl _ _ 27 40 _ 72 rfl Try.underlying27 infoChg rfl (by decide) (by decide) (.slice Ao mo co) out x [.string x.table, .int .i64 x.id, .slice V2 x.old.length c22, .slice V3 x.new.length c33] (fun k => w.heap.size ≤ k) rfl rfl HP.out HOW.out (Nat.le_trans KB.out.size HBO.out.size) (by rw [← HMO.out]; have := HL.out; have := HM.out; omega) ?_; intro v1 w7 hown hg hat; obtain ⟨A9, c9, e9, _, _⟩ := hown.form; rw [show (out ++ [x]).length = mo + 1 by rw [HMO.out]; simp] at e9; subst e9; have hb7 : Below w.heap.size w w7 := (KB.out.trans (HBO.out.mono KB.out.size)).grown hg (Nat.le_trans KB.out.size HBO.out.size) (fun k hk => (HOW.out.lt k hk).1); have HB7 := put hb7; have HOWN := put hown; clear hown hg hat hb7))
          go_roundg (m - (i + 1))
          case measure => omega
          case rel => exact ⟨i + 1, _, mo + 1, _, by go_num, by go_num, by omega, by omega, Nat.le_refl _, put (by rw [HI.out, HMO.out]; simp), put (by rw [HI.out]; exact HOWN.out), HB7⟩
        · have z2 : (x.kind == kd) = false := by simp [h2]
          have HI : Kp ((xs.take (i + 1)).filter (Chg.isOf tb kd) = out) := ⟨by rw [HT.out, if_neg (by simp [Chg.isOf, h2])]; simp⟩
          clear h2 HT
          go_wp2_with (first | (go_at_call 20; refine (kindCalls _ x [.string x.table, .int .i64 x.id, .slice A2 x.old.length k2, .slice A3 x.new.length k3] _ (Ty.below KR.out (B1 _))).mono ?_; rintro e w5 ⟨rfl, hb5⟩; have HB5 := put ((B1 _).trans (hb5.mono (by simp))); clear hb5))
          go_roundg (m - (i + 1))
          case measure => omega
          case rel => exact ⟨i + 1, _, mo, _, by go_num, by go_num, by omega, by omega, Nat.le_refl _, put (by rw [HI.out, HMO.out]), put (by rw [HI.out]; exact KO.out.below HB5.out), put (KB.out.trans (HB5.out.mono KB.out.size))⟩
      · have z1 := kind_b1 h1
        have HI : Kp ((xs.take (i + 1)).filter (Chg.isOf tb kd) = out) := ⟨by rw [HT.out, if_neg (by simp [Chg.isOf, h1])]; simp⟩
        clear h1 HT
        go_wp2_with fail
        go_roundg (m - (i + 1))
        case measure => omega
        case rel => exact ⟨i + 1, _, mo, _, by go_num, by go_num, by omega, by omega, Nat.le_refl _, put (by rw [HI.out, HMO.out]), put (by rw [HI.out]; exact KO.out.below (B1 _)), put (KB.out.trans ((B1 _).mono KB.out.size))⟩
    · have hlz : ¬ (i : Int) < (m : Int) := by omega
      go_wp2
      go_ret
      obtain rfl : i = m := by omega
      have hk := KO.out
      rw [List.take_of_length_le (by rw [HM.out]; exact Nat.le_refl _)] at hk
      exact ⟨_, rfl, hk, KB.out⟩

set_option maxHeartbeats 8000000 in
set_option maxRecDepth 100000 in
theorem refOfCalls (ok : Nat → Prop) (v : Value) (xs : List Chg) (tb : ByteArray) (kd : Int) (w : World) (h : Sl tChg ok w v xs) (hl : xs.length ≤ 1000) :
    Calls Try.prog 25 #[v, .string tb, .int .i64 kd] w fun e w' => ∃ vo, e = .returned vo ∧ Own tChg 43 (fun k => ok k ∧ k < w.heap.size) w' w.heap.size vo (xs.filter (Chg.isOf tb kd)) ∧ Below w.heap.size w w' := by
  obtain ⟨A, c, rfl, l1, l2, l3⟩ := h.shape
  have KS := put h
  have HL := put hl
  obtain ⟨m, hm⟩ : ∃ m, m = xs.length := ⟨_, rfl⟩
  rw [← hm] at l1 l3 KS ⊢
  have HM := put hm
  clear h hm hl
  go_enter Try.func25, Try.ntmps25
  go_wp2_with fail
  go_loopg [7, 8] m (fun kx s7 s8 wr => ∃ (i : Nat) (Ao : Option Addr) (mo co : Nat), s7 = .slice Ao mo co ∧ s8 = .int .i64 i ∧ i ≤ m ∧ mo ≤ i ∧ m - i ≤ kx ∧ Kp (mo = ((xs.take i).filter (Chg.isOf tb kd)).length) ∧ Kp (Own tChg 43 (fun k => ok k ∧ k < w.heap.size) wr w.heap.size (.slice Ao mo co) ((xs.take i).filter (Chg.isOf tb kd))) ∧ Kp (Below w.heap.size w wr))
  case atStart => exact ⟨0, _, 0, _, rfl, rfl, Nat.zero_le _, Nat.le_refl _, Nat.le_refl _, put (by simp), put (Own.lit _ _ _ _), put ((Below.refl _ _).alloc (Nat.le_refl _) _)⟩
  case round =>
    obtain ⟨i, Ao, mo, co, rfl, rfl, hi, hmi, hkx, HMO, KO, KB⟩ := hrel
    by_cases hlt : i < m
    · have hlz : (i : Int) < (m : Int) := by omega
      have i0 : (0 : Int) ≤ (i : Int) := by omega
      obtain ⟨ad, x, A2, k2, A3, k3, rfl, hx, x0, x1, x2, x3, KR, hok⟩ := chgs_at (KS.out.elder KB.out).row.1 i (by rw [← HM.out]; exact hlt)
      have KX := put hx
      have HT := put (filter_take (p := Chg.isOf tb kd) hx)
      have hA : ad.block < wr.heap.size := Nat.lt_of_lt_of_le hok.2 KB.out.size
      have HA := put hA
      clear hx hok
      generalize (xs.take i).filter (Chg.isOf tb kd) = out at *
      by_cases h1 : x.table = tb
      · have z1 := kind_b0 h1
        have K1 := put h1
        clear h1
        by_cases h2 : x.kind = kd
        · have z2 : (x.kind == kd) = true := by simp [h2]
          have HI : Kp ((xs.take (i + 1)).filter (Chg.isOf tb kd) = out ++ [x]) := ⟨by rw [HT.out, if_pos (by simp [Chg.isOf, K1.out, h2])]⟩
          clear h2 HT
          go_wp2_with (first | (go_at_call 22; refine (refKindCalls _ x [.string x.table, .int .i64 x.id, .slice A2 x.old.length k2, .slice A3 x.new.length k3] wr KR.out).mono ?_; rintro e w5 ⟨rfl, hb5⟩; have d0 := (hb5.cell (p := ad.add (i * 4)) (by rw [add_block]; exact hA)).trans x0; have d1 := (hb5.cell (p := ⟨(ad.add (i * 4)).block, (ad.add (i * 4)).off + 1, none⟩) (by show (ad.add (i * 4)).block < _; rw [add_block]; exact hA)).trans x1; have d2 := (hb5.cell (p := ⟨(ad.add (i * 4)).block, (ad.add (i * 4)).off + 2, none⟩) (by show (ad.add (i * 4)).block < _; rw [add_block]; exact hA)).trans x2; have d3 := (hb5.cell (p := ⟨(ad.add (i * 4)).block, (ad.add (i * 4)).off + 3, none⟩) (by show (ad.add (i * 4)).block < _; rw [add_block]; exact hA)).trans x3; have HB5 := put hb5; have HP : Kp (tChg.R (fun k => (ok k ∧ k < w.heap.size) ∧ some k ≠ (Value.slice Ao mo co).ownBlock) w5 x [.string x.table, .int .i64 x.id, .slice A2 x.old.length k2, .slice A3 x.new.length k3]) := put (tChg.mono (fun k hk => ⟨hk, fun e => by have := (KO.out.lt k e.symm).1; omega⟩) (Ty.below KR.out hb5)); have HOW := put (KO.out.below hb5); clear hb5) | (at_builtin; refine wpList_push tChg w.heap.size rfl _ _ 32 43 _ 72 rfl Try.underlying32 infoRef rfl (by decide) (by decide) (.slice Ao mo co) out x [.string x.table, .int .i64 x.id, .slice A2 x.old.length k2, .slice A3 x.new.length k3] (fun k => ok k ∧ k < w.heap.size) rfl rfl HP.out HOW.out (Nat.le_trans KB.out.size HB5.out.size) (by rw [← HMO.out]; have := HL.out; have := HM.out; omega) ?_; intro v1 w7 hown hg hat; obtain ⟨A9, c9, e9, _, _⟩ := hown.form; rw [show (out ++ [x]).length = mo + 1 by rw [HMO.out]; simp] at e9; subst e9; have hb7 : Below w.heap.size w w7 := (KB.out.trans (HB5.out.mono KB.out.size)).grown hg (Nat.le_trans KB.out.size HB5.out.size) (fun k hk => (HOW.out.lt k hk).1); have HB7 := put hb7; have HOWN := put hown; clear hown hg hat hb7))
          go_roundg (m - (i + 1))
          case measure => omega
          case rel => exact ⟨i + 1, _, mo + 1, _, by go_num, by go_num, by omega, by omega, Nat.le_refl _, put (by rw [HI.out, HMO.out]; simp), put (by rw [HI.out]; exact HOWN.out), HB7⟩
        · have z2 : (x.kind == kd) = false := by simp [h2]
          have HI : Kp ((xs.take (i + 1)).filter (Chg.isOf tb kd) = out) := ⟨by rw [HT.out, if_neg (by simp [Chg.isOf, h2])]; simp⟩
          clear h2 HT
          go_wp2_with (first | (go_at_call 22; refine (refKindCalls _ x [.string x.table, .int .i64 x.id, .slice A2 x.old.length k2, .slice A3 x.new.length k3] wr KR.out).mono ?_; rintro e w5 ⟨rfl, hb5⟩; have HB5 := put hb5; clear hb5))
          go_roundg (m - (i + 1))
          case measure => omega
          case rel => exact ⟨i + 1, _, mo, _, by go_num, by go_num, by omega, by omega, Nat.le_refl _, put (by rw [HI.out, HMO.out]), put (by rw [HI.out]; exact KO.out.below HB5.out), put (KB.out.trans (HB5.out.mono KB.out.size))⟩
      · have z1 := kind_b1 h1
        have HI : Kp ((xs.take (i + 1)).filter (Chg.isOf tb kd) = out) := ⟨by rw [HT.out, if_neg (by simp [Chg.isOf, h1])]; simp⟩
        clear h1 HT
        go_wp2_with fail
        go_roundg (m - (i + 1))
        case measure => omega
        case rel => exact ⟨i + 1, _, mo, _, by go_num, by go_num, by omega, by omega, Nat.le_refl _, put (by rw [HI.out, HMO.out]), put (by rw [HI.out]; exact KO.out), KB⟩
    · have hlz : ¬ (i : Int) < (m : Int) := by omega
      go_wp2
      go_ret
      obtain rfl : i = m := by omega
      have hk := KO.out
      rw [List.take_of_length_le (by rw [HM.out]; exact Nat.le_refl _)] at hk
      exact ⟨_, rfl, hk, KB.out⟩

end Go.Proofs.Ytkfoknjflpklpaa.D
