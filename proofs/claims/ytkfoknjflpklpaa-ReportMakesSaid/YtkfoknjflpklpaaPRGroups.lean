/- tripwireref28.Groups. -/
import Derived.Test.YtkfoknjflpklpaaPTog
import Derived.Test.YtkfoknjflpklpaaPGrp
import Derived.Test.YtkfoknjflpklpaaPAwake
namespace Go.Proofs.Ytkfoknjflpklpaa.P
open Go Go.RowKit Go.Sort Go.Proofs.Ytkfoknjflpklpaa.Mem Go.Proofs.Ytkfoknjflpklpaa.Cmp Go.Proofs.Ytkfoknjflpklpaa.D

theorem own_ints {k : IntKind} {E base : Nat} {ok : Nat → Prop} {w : World} {v : Value} {xs : List Int} (h : Own (tInt k) E ok w base v xs) : Own (tInt k) E (fun _ => False) w base v xs := by
  obtain ⟨cells, hl, ho, hr⟩ := h
  exact ⟨cells, hl, ho, fun i x c hx hc => hr i x c hx hc⟩
theorem cell_lt' {w w' : World} {a : Addr} {v : Value} (h : w.cell? a = some v) (hb : Below w.heap.size w w') : w'.cell? a = some v := (hb.cell (World.block_lt_of_cell? _ _ h)).trans h
theorem infoInts : (Try.prog.info? 61).map (fun i => (i.zero, i.size, i.bytes)) = some (some (.slice none 0 0), (tSl (tInt .i64)).sz, 24) := by kernel_rfl
theorem lit_own {α : Type} (d : Ty α) {E : TypeId} {ok : Nat → Prop} {w : World} {base b : Nat} (h : w.heap[b]? = some (.cells #[] E (0, 0))) (hb : base ≤ b) : Own d E ok w base (.slice (some ⟨b, 0, none⟩) 0 0) [] :=
  ⟨[], rfl, ⟨by simp, .inr ⟨b, 0, #[], rfl, hb, h, Nat.le_refl _, by simp, by simp, by simp⟩⟩, fun i x c h => by simp at h⟩
/-- The rows' likeness by numbers. -/
def pR (rows : List (List Val)) (cols : List Int) (i j : Nat) : Bool := alikeV cols (rows.getD i []) (rows.getD j [])
theorem groupsR_ref (rows : List (List Val)) (cols : List Int) : groupsR rows cols = refG (pR rows cols) rows.length := groups_eq (alike_eqv cols rows) _
theorem pR_at {rows : List (List Val)} {cols : List Int} {i j : Nat} {a b : List Val} (ha : rows[i]? = some a) (hb : rows[j]? = some b) : pR rows cols i j = alikeV cols a b := by
  unfold pR; rw [List.getD_eq_getElem?_getD, List.getD_eq_getElem?_getD, ha, hb]; rfl
theorem firsts_len (p : Nat → Nat → Bool) (n : Nat) : (firsts p n).length ≤ n := by unfold firsts; exact Nat.le_trans (List.length_filter_le _ _) (by simp)
theorem grp_len (p : Nat → Nat → Bool) (n i : Nat) : (grp p n i).length ≤ n := by unfold grp; exact Nat.le_trans (List.length_filter_le _ _) (by simp)
theorem grp_start (p : Nat → Nat → Bool) (i : Nat) : grp p i i = [] := by
  unfold grp
  rw [List.filter_eq_nil_iff]
  intro a ha
  have := List.mem_range.1 ha
  simp; omega
theorem all_succ (q : Nat → Bool) (k : Nat) : (List.range (k + 1)).all q = ((List.range k).all q && q k) := by rw [List.range_succ, List.all_append]; simp

set_option maxHeartbeats 16000000 in
set_option maxRecDepth 100000 in
theorem refGroupsCalls (ok okc : Nat → Prop) (v vc : Value) (rows : List (List Val)) (cols : List Int) (w : World) (h : Sl tRow ok w v rows) (hc : Sl (tInt .i64) okc w vc cols) (hl : rows.length ≤ 1000) (hcl : cols.length ≤ 1000) (hin : ∀ r ∈ rows, ∀ c ∈ cols, inC r.length c = true) :
    Calls Try.prog 73 #[v, vc] w fun e w' => ∃ vo, e = .returned vo ∧ Own (tSl (tInt .i64)) 61 (fun k => w.heap.size ≤ k) w' w.heap.size vo ((groupsR rows cols).map nats) ∧ Below w.heap.size w w' := by
  obtain ⟨A, c, rfl, l1, l2, l3⟩ := h.shape
  obtain ⟨A3, c3, rfl, j1, j2, j3⟩ := hc.shape
  have KS := put h
  have KC := put hc
  have HIN := put hin
  obtain ⟨m, hm⟩ : ∃ m, m = rows.length := ⟨_, rfl⟩
  obtain ⟨n, hn⟩ : ∃ n, n = cols.length := ⟨_, rfl⟩
  rw [← hm] at hl l1 l3 KS ⊢
  rw [← hn] at hcl j1 j3 KC ⊢
  have HM := put hm
  have HN := put hn
  obtain ⟨p, hp⟩ : ∃ p, p = pR rows cols := ⟨_, rfl⟩
  have HP := put hp
  have HGR : Kp (groupsR rows cols = (firsts p m).map (grp p m)) := put (by rw [groupsR_ref, hp, ← hm]; rfl)
  clear h hc hin hm hn hp
  go_enter Try.func73, Try.ntmps73
  go_wp2_with fail
  go_loopg [5] m (fun kx s5 wr => ∃ (i : Nat), s5 = .int .i64 i ∧ i ≤ m ∧ m - i ≤ kx ∧ Kp (G w wr))
  case atStart => exact ⟨0, rfl, Nat.zero_le _, Nat.le_refl _, put (G.refl _)⟩
  case round =>
    obtain ⟨i, rfl, hi, hkx, KG⟩ := hrel
    by_cases hlt : i < m
    · have hlz : (i : Int) < (m : Int) := by omega
      have i0 : (0 : Int) ≤ (i : Int) := by omega
      obtain ⟨ad, r, B1, d1, rfl, hx, x0, hsr⟩ := rows_get (KS.out.below KG.out.below).row.1 i (by rw [← HM.out]; exact hlt)
      have HRI := put (fun c hc => HIN.out r (List.mem_of_getElem? hx) c hc)
      have X5 := put x0
      have r3 := hsr.row.2.2.2.2.1
      obtain ⟨w5, hw5⟩ : ∃ w5, w5 = wr := ⟨_, rfl⟩
      subst hw5
      clear hx x0 hsr
      go_wp2_with fail
      go_loopg [6] n (fun kx s6 wi => ∃ (k : Nat), s6 = .int .i64 k ∧ k ≤ n ∧ n - k ≤ kx ∧ Kp (G w5 wi))
      case atStart => exact ⟨0, rfl, Nat.zero_le _, Nat.le_refl _, put (G.refl _)⟩
      case round =>
        obtain ⟨k, rfl, hk, hkx2, KG2⟩ := hrel
        by_cases hlt2 : k < n
        · have hlz2 : (k : Int) < (n : Int) := by omega
          have k0 : (0 : Int) ≤ (k : Int) := by omega
          obtain ⟨cd, x, rfl, hxk, z0⟩ := ints_get ((KC.out.below (KG.out.trans KG2.out).below).row.1) k (by rw [← HN.out]; exact hlt2)
          have hix := HRI.out x (List.mem_of_getElem? hxk)
          unfold inC at hix
          simp only [Bool.and_eq_true, decide_eq_true_eq] at hix
          obtain ⟨j, rfl⟩ : ∃ j : Nat, x = j := ⟨x.toNat, by omega⟩
          have a1 : ¬ (j : Int) < 0 := by omega
          have a2 : ¬ (j : Int) ≥ (r.length : Int) := by omega
          have a3 : decide ((j : Int) < 0) = false := decide_eq_false a1
          have a4 : decide ((r.length : Int) ≤ (j : Int)) = false := decide_eq_false a2
          have C0 := put z0
          have X0 := put (G.cellOf KG2.out X5.out)
          clear hxk z0 hix
          go_wp2_with fail
          refine wp_region_noPanic ?_
          refine wp_region_held_drew (S := (fun w' => G wr w')) (by kernel_rfl) (G.refl _).drew (fun hHeld => ?_)
          refine wpAnyH_take (i := 0) (v := ?_) rfl (by kernel_rfl) (by kernel_rfl) (by kernel_rfl) (fun _ _ _ h => h) (Or.inl ⟨by kernel_rfl, ?_⟩) (by assumption) ?_
          rotate_left
          focus (intro w hSw; (try dsimp only at hSw); go_simp; (try with_reducible rfl); done)
          try simp only [List.getElem_toArray, List.getElem_cons_zero, Act.put, List.setIfInBounds_toArray, List.set_cons_zero, List.set_cons_succ]
          refine wpAnyH_take (i := 1) (v := ?_) rfl (by kernel_rfl) (by kernel_rfl) (by kernel_rfl) (fun _ _ _ h => h) (Or.inl ⟨by kernel_rfl, ?_⟩) (by assumption) ?_
          rotate_left
          focus (intro w hSw; (try dsimp only at hSw); go_simp; (try with_reducible rfl); done)
          try simp only [List.getElem_toArray, List.getElem_cons_succ, List.getElem_cons_zero, Act.put, List.setIfInBounds_toArray, List.set_cons_zero, List.set_cons_succ]
          refine wpAnyH_take (i := 2) (v := ?_) rfl (by kernel_rfl) (by kernel_rfl) (by kernel_rfl) (fun _ _ _ h => h) (Or.inl ⟨by kernel_rfl, ?_⟩) (by assumption) ?_
          rotate_left
          focus (intro w hSw; (try dsimp only at hSw); go_simp; (try with_reducible rfl); done)
          try simp only [List.getElem_toArray, List.getElem_cons_succ, List.getElem_cons_zero, Act.put, List.setIfInBounds_toArray, List.set_cons_zero, List.set_cons_succ]
          refine wpAnyH_take (i := 3) (v := ?_) rfl (by kernel_rfl) (by kernel_rfl) (by kernel_rfl) (fun _ _ _ h => h) (Or.inl ⟨by kernel_rfl, ?_⟩) (by assumption) ?_
          rotate_left
          focus (intro w hSw; (try dsimp only at hSw); have k0 := G.cellOf hSw C0.out; have k1 := G.cellOf hSw X0.out; go_simp; (try with_reducible rfl); done)
          try simp only [List.getElem_toArray, List.getElem_cons_succ, List.getElem_cons_zero, Act.put, List.setIfInBounds_toArray, List.set_cons_zero, List.set_cons_succ]
          refine wpAnyH_take (i := 4) (v := ?_) rfl (by kernel_rfl) (by kernel_rfl) (by kernel_rfl) (fun _ _ _ h => h) (Or.inl ⟨by kernel_rfl, ?_⟩) (by assumption) ?_
          rotate_left
          focus (intro w hSw; (try dsimp only at hSw); go_simp; (try with_reducible rfl); done)
          try simp only [List.getElem_toArray, List.getElem_cons_succ, List.getElem_cons_zero, Act.put, List.setIfInBounds_toArray, List.set_cons_zero, List.set_cons_succ]
          refine wpAnyH_take (i := 5) (v := ?_) rfl (by kernel_rfl) (by kernel_rfl) (by kernel_rfl) (fun _ _ _ h => h) (Or.inl ⟨by kernel_rfl, ?_⟩) (by assumption) ?_
          rotate_left
          focus (intro w hSw; (try dsimp only at hSw); go_simp; (try with_reducible rfl); done)
          try simp only [List.getElem_toArray, List.getElem_cons_succ, List.getElem_cons_zero, Act.put, List.setIfInBounds_toArray, List.set_cons_zero, List.set_cons_succ]
          refine wpAnyH_take (i := 6) (v := ?_) rfl (by kernel_rfl) (by kernel_rfl) (by kernel_rfl) (fun _ _ _ h => h) (Or.inl ⟨by kernel_rfl, ?_⟩) (by assumption) ?_
          rotate_left
          focus (intro w hSw; (try dsimp only at hSw); go_simp; (try with_reducible rfl); done)
          try simp only [List.getElem_toArray, List.getElem_cons_succ, List.getElem_cons_zero, Act.put, List.setIfInBounds_toArray, List.set_cons_zero, List.set_cons_succ]
          refine wpAnyH_take (i := 7) (v := ?_) rfl (by kernel_rfl) (by kernel_rfl) (by kernel_rfl) (fun _ _ _ h => h) (Or.inl ⟨by kernel_rfl, ?_⟩) (by assumption) ?_
          rotate_left
          focus (intro w hSw; (try dsimp only at hSw); go_simp; (try with_reducible rfl); done)
          try simp only [List.getElem_toArray, List.getElem_cons_succ, List.getElem_cons_zero, Act.put, List.setIfInBounds_toArray, List.set_cons_zero, List.set_cons_succ]
          refine wpAnyH_take (i := 8) (v := ?_) rfl (by kernel_rfl) (by kernel_rfl) (by kernel_rfl) (fun _ _ _ h => h) (Or.inl ⟨by kernel_rfl, ?_⟩) (by assumption) ?_
          rotate_left
          focus (intro w hSw; (try dsimp only at hSw); go_simp; (try with_reducible rfl); done)
          try simp only [List.getElem_toArray, List.getElem_cons_succ, List.getElem_cons_zero, Act.put, List.setIfInBounds_toArray, List.set_cons_zero, List.set_cons_succ]
          refine wpAnyH_take (i := 9) (v := ?_) rfl (by kernel_rfl) (by kernel_rfl) (by kernel_rfl) (fun _ _ _ h => h) (Or.inl ⟨by kernel_rfl, ?_⟩) (by assumption) ?_
          rotate_left
          focus (intro w hSw; (try dsimp only at hSw); have k0 := G.cellOf hSw C0.out; have k1 := G.cellOf hSw X0.out; go_simp; (try with_reducible rfl); done)
          try simp only [List.getElem_toArray, List.getElem_cons_succ, List.getElem_cons_zero, Act.put, List.setIfInBounds_toArray, List.set_cons_zero, List.set_cons_succ]
          refine wpAnyH_take (i := 10) (v := ?_) rfl (by kernel_rfl) (by kernel_rfl) (by kernel_rfl) (fun _ _ _ h => h) (Or.inl ⟨by kernel_rfl, ?_⟩) (by assumption) ?_
          rotate_left
          focus (intro w hSw; (try dsimp only at hSw); go_simp; (try with_reducible rfl); done)
          try simp only [List.getElem_toArray, List.getElem_cons_succ, List.getElem_cons_zero, Act.put, List.setIfInBounds_toArray, List.set_cons_zero, List.set_cons_succ]
          refine wpAnyH_take (i := 11) (v := ?_) rfl (by kernel_rfl) (by kernel_rfl) (by kernel_rfl) (fun _ _ _ h => h) (Or.inl ⟨by kernel_rfl, ?_⟩) (by assumption) ?_
          rotate_left
          focus (intro w hSw; (try dsimp only at hSw); go_simp; (try with_reducible rfl); done)
          try simp only [List.getElem_toArray, List.getElem_cons_succ, List.getElem_cons_zero, Act.put, List.setIfInBounds_toArray, List.set_cons_zero, List.set_cons_succ]
          refine wpAnyH_take (i := 12) (v := ?_) rfl (by kernel_rfl) (by kernel_rfl) (by kernel_rfl) (fun _ _ _ h => h) (Or.inl ⟨by kernel_rfl, ?_⟩) (by assumption) ?_
          rotate_left
          focus (intro w hSw; (try dsimp only at hSw); go_simp; (try with_reducible rfl); done)
          try simp only [List.getElem_toArray, List.getElem_cons_succ, List.getElem_cons_zero, Act.put, List.setIfInBounds_toArray, List.set_cons_zero, List.set_cons_succ]
          refine wpAnyH_take (i := 13) (v := ?_) rfl (by kernel_rfl) (by kernel_rfl) (by kernel_rfl) (fun _ _ _ h => h) (Or.inl ⟨by kernel_rfl, ?_⟩) (by assumption) ?_
          rotate_left
          focus (intro w hSw; (try dsimp only at hSw); have k0 := G.cellOf hSw C0.out; have k1 := G.cellOf hSw X0.out; go_simp; (try with_reducible rfl); done)
          try simp only [List.getElem_toArray, List.getElem_cons_succ, List.getElem_cons_zero, Act.put, List.setIfInBounds_toArray, List.set_cons_zero, List.set_cons_succ]
          refine wpAnyH_take (i := 14) (v := ?_) rfl (by kernel_rfl) (by kernel_rfl) (by kernel_rfl) (fun _ _ _ h => h) (Or.inl ⟨by kernel_rfl, ?_⟩) (by assumption) ?_
          rotate_left
          focus (intro w hSw; (try dsimp only at hSw); go_simp; (try with_reducible rfl); done)
          try simp only [List.getElem_toArray, List.getElem_cons_succ, List.getElem_cons_zero, Act.put, List.setIfInBounds_toArray, List.set_cons_zero, List.set_cons_succ]
          refine wpAnyH_take (i := 15) (v := ?_) rfl (by kernel_rfl) (by kernel_rfl) (by kernel_rfl) (fun _ _ _ h => h) (Or.inl ⟨by kernel_rfl, ?_⟩) (by assumption) ?_
          rotate_left
          focus (intro w hSw; (try dsimp only at hSw); go_simp; (try with_reducible rfl); done)
          try simp only [List.getElem_toArray, List.getElem_cons_succ, List.getElem_cons_zero, Act.put, List.setIfInBounds_toArray, List.set_cons_zero, List.set_cons_succ]
          refine wpAnyH_take (i := 16) (v := ?_) rfl (by kernel_rfl) (by kernel_rfl) (by kernel_rfl) (fun _ _ _ h => h) (Or.inl ⟨by kernel_rfl, ?_⟩) (by assumption) ?_
          rotate_left
          focus (intro w hSw; (try dsimp only at hSw); go_simp; (try with_reducible rfl); done)
          try simp only [List.getElem_toArray, List.getElem_cons_succ, List.getElem_cons_zero, Act.put, List.setIfInBounds_toArray, List.set_cons_zero, List.set_cons_succ]
          refine wpAnyH_done (by kernel_rfl) ?_ _
          refine NoPanic.normal ?_
          have HG7 := put hHeld
          clear hHeld
          go_wp2_with fail
          go_roundg (n - (k + 1))
          case measure => omega
          case rel => exact ⟨k + 1, by go_num, by omega, Nat.le_refl _, put (KG2.out.trans HG7.out)⟩
        · have hlz2 : ¬ (k : Int) < (n : Int) := by omega
          go_wp2_with fail
          go_roundg (m - (i + 1))
          case measure => omega
          case rel => exact ⟨i + 1, by go_num, by omega, Nat.le_refl _, put (KG.out.trans KG2.out)⟩
    · have hlz : ¬ (i : Int) < (m : Int) := by omega
      obtain rfl : m = i := by omega
      have HG1 : Kp (Below w.heap.size w wr) := put KG.out.below
      obtain ⟨w1, hw1⟩ : ∃ w1, w1 = wr := ⟨_, rfl⟩
      subst hw1
      clear KG
      go_wp2_with fail
      go_loopg [7, 8] m (fun kx s7 s8 wr => ∃ (i : Nat) (A7 : Option Addr) (l7 c7 : Nat), s7 = .slice A7 l7 c7 ∧ s8 = .int .i64 i ∧ i ≤ m ∧ m - i ≤ kx ∧ Kp (l7 = (firsts p i).length) ∧ Kp (Own (tSl (tInt .i64)) 61 (fun k => w.heap.size ≤ k) wr w.heap.size (.slice A7 l7 c7) (((firsts p i).map (grp p m)).map nats)) ∧ Kp (Below w.heap.size w wr))
      case atStart => exact ⟨0, _, 0, 0, rfl, rfl, Nat.zero_le _, Nat.le_refl _, put rfl, put (lit_own _ (heap_alloc_new _ _) HG1.out.size), put (balloc HG1.out _)⟩
      case round =>
        obtain ⟨i, A7, l7, c7, rfl, rfl, hi, hkx, HL7, HO, KB⟩ := hrel
        by_cases hlt : i < m
        · have hlz : (i : Int) < (m : Int) := by omega
          have i0 : (0 : Int) ≤ (i : Int) := by omega
          obtain ⟨ad, r, B1, d1, rfl, hx, x0, hsr⟩ := rows_get (KS.out.below KB.out).row.1 i (by rw [← HM.out]; exact hlt)
          have HXI := put hx
          have XI0 := put x0
          have HSR := put hsr
          obtain ⟨w5, hw5⟩ : ∃ w5, w5 = wr := ⟨_, rfl⟩
          subst hw5
          have HKS5 := put (KS.out.below KB.out)
          have HKC5 := put (KC.out.below KB.out)
          -- together at k
          have TGA : Kp (∀ (k : Nat) (q : List Val) (B2 : Option Addr) (d2 : Nat) (W W' : World), rows[k]? = some q → Below w5.heap.size w5 W → Sl tVal ok W (.slice B2 q.length d2) q → G W W' → Calls Try.prog 103 #[.slice B2 q.length d2, .slice B1 r.length d1, .slice A3 n c3] W' fun e w' => e = .returned (.bool (p k i)) ∧ G W' w') := put (fun k q B2 d2 W W' hq hb hsq hg => by
            rw [HP.out, pR_at hq HXI.out, HN.out]
            exact togetherCalls ok ok okc B2 B1 A3 d2 d1 c3 q r cols W' (hsq.row.1.grown hg) ((HSR.out.below hb).row.1.grown hg) (by have h9 := (HKC5.out.below hb).row.1.grown hg; exact h9) (fun c hc => ⟨HIN.out q (List.mem_of_getElem? hq) c hc, HIN.out r (List.mem_of_getElem? HXI.out) c hc⟩) (by rw [← HN.out]; exact hcl))
          clear hx x0 hsr
          go_wp2_with fail
          go_loopg [9, 10] i (fun kx s9 s10 wi => ∃ (k : Nat) (f : Bool), s9 = .bool f ∧ s10 = .int .i64 k ∧ k ≤ i ∧ i - k ≤ kx ∧ Kp (f = (List.range k).all (fun j => !p j i)) ∧ Kp (Below w5.heap.size w5 wi))
          case atStart => exact ⟨0, true, rfl, rfl, Nat.zero_le _, Nat.le_refl _, put rfl, put (Below.refl _ _)⟩
          case round =>
            obtain ⟨k, f, rfl, rfl, hk, hkx2, HF, KB2⟩ := hrel
            by_cases hlt2 : k < i
            · have hlz2 : (k : Int) < (i : Int) := by omega
              have k0 : (0 : Int) ≤ (k : Int) := by omega
              have hkm : (k : Int) < (m : Int) := by omega
              obtain ⟨ad', q, B2, d2, hA, hq, z0, hsq⟩ := rows_get (HKS5.out.below KB2.out).row.1 k (by rw [← HM.out]; omega)
              obtain rfl : ad = ad' := by simpa using hA
              have XK := put z0
              have XI := put (cell_lt' XI0.out KB2.out)
              have TG : Kp (∀ W', G wr W' → Calls Try.prog 103 #[.slice B2 q.length d2, .slice B1 r.length d1, .slice A3 n c3] W' fun e w' => e = .returned (.bool (p k i)) ∧ G W' w') := put (fun W' hg => TGA.out k q B2 d2 wr W' hq KB2.out hsq hg)
              clear hA hq z0 hsq
              cases f with
              | true =>
                have HF2 : Kp ((List.range (k + 1)).all (fun j => !p j i) = !p k i) := put (by rw [all_succ, ← HF.out, Bool.true_and])
                go_wp2_with fail
                refine wp_region_noPanic ?_
                refine wp_region_held_drew (S := (fun w' => G wr w')) (by kernel_rfl) (G.refl _).drew (fun hHeld => ?_)
                refine wpAnyH_take (i := 0) (v := ?_) rfl (by kernel_rfl) (by kernel_rfl) (by kernel_rfl) (fun _ _ _ h => h) (Or.inl ⟨by kernel_rfl, ?_⟩) (by assumption) ?_
                rotate_left
                focus (intro w hSw; (try dsimp only at hSw); go_simp; (try with_reducible rfl); done)
                try simp only [List.getElem_toArray, List.getElem_cons_zero, Act.put, List.setIfInBounds_toArray, List.set_cons_zero, List.set_cons_succ]
                refine wpAnyH_take (i := 1) (v := ?_) rfl (by kernel_rfl) (by kernel_rfl) (by kernel_rfl) (fun _ _ _ h => h) (Or.inl ⟨by kernel_rfl, ?_⟩) (by assumption) ?_
                rotate_left
                focus (intro w hSw; (try dsimp only at hSw); go_simp; (try with_reducible rfl); done)
                try simp only [List.getElem_toArray, List.getElem_cons_succ, List.getElem_cons_zero, Act.put, List.setIfInBounds_toArray, List.set_cons_zero, List.set_cons_succ]
                refine wpAnyH_take (i := 2) (v := ?_) rfl (by kernel_rfl) (by kernel_rfl) (by kernel_rfl) (fun _ _ _ h => h) (Or.inl ⟨by kernel_rfl, ?_⟩) (by assumption) ?_
                rotate_left
                focus (intro w hSw; (try dsimp only at hSw); go_simp; (try with_reducible rfl); done)
                try simp only [List.getElem_toArray, List.getElem_cons_succ, List.getElem_cons_zero, Act.put, List.setIfInBounds_toArray, List.set_cons_zero, List.set_cons_succ]
                refine wpAnyH_take (i := 3) (v := ?_) rfl (by kernel_rfl) (by kernel_rfl) (by kernel_rfl) (fun _ _ _ h => h) (Or.inl ⟨by kernel_rfl, ?_⟩) (by assumption) ?_
                rotate_left
                focus (intro w hSw; (try dsimp only at hSw); go_simp; (try with_reducible rfl); done)
                try simp only [List.getElem_toArray, List.getElem_cons_succ, List.getElem_cons_zero, Act.put, List.setIfInBounds_toArray, List.set_cons_zero, List.set_cons_succ]
                refine wpAnyH_take (i := 4) (v := ?_) rfl (by kernel_rfl) (by kernel_rfl) (by kernel_rfl) (fun _ _ _ h => h) (Or.inl ⟨by kernel_rfl, ?_⟩) (by assumption) ?_
                rotate_left
                focus (intro w hSw; (try dsimp only at hSw); go_simp; (try with_reducible rfl); done)
                try simp only [List.getElem_toArray, List.getElem_cons_succ, List.getElem_cons_zero, Act.put, List.setIfInBounds_toArray, List.set_cons_zero, List.set_cons_succ]
                refine wpAnyH_take (i := 5) (v := ?_) rfl (by kernel_rfl) (by kernel_rfl) (by kernel_rfl) (fun _ _ _ h => h) (Or.inl ⟨by kernel_rfl, ?_⟩) (by assumption) ?_
                rotate_left
                focus (intro w hSw; (try dsimp only at hSw); have k0 := G.cellOf hSw XK.out; have k1 := G.cellOf hSw XI.out; go_simp; (try with_reducible rfl); done)
                try simp only [List.getElem_toArray, List.getElem_cons_succ, List.getElem_cons_zero, Act.put, List.setIfInBounds_toArray, List.set_cons_zero, List.set_cons_succ]
                refine wpAnyH_take (i := 6) (v := ?_) rfl (by kernel_rfl) (by kernel_rfl) (by kernel_rfl) (fun _ _ _ h => h) (Or.inl ⟨by kernel_rfl, ?_⟩) (by assumption) ?_
                rotate_left
                focus (intro w hSw; (try dsimp only at hSw); go_simp; (try with_reducible rfl); done)
                try simp only [List.getElem_toArray, List.getElem_cons_succ, List.getElem_cons_zero, Act.put, List.setIfInBounds_toArray, List.set_cons_zero, List.set_cons_succ]
                refine wpAnyH_take (i := 7) (v := ?_) rfl (by kernel_rfl) (by kernel_rfl) (by kernel_rfl) (fun _ _ _ h => h) (Or.inl ⟨by kernel_rfl, ?_⟩) (by assumption) ?_
                rotate_left
                focus (intro w hSw; (try dsimp only at hSw); go_simp; (try with_reducible rfl); done)
                try simp only [List.getElem_toArray, List.getElem_cons_succ, List.getElem_cons_zero, Act.put, List.setIfInBounds_toArray, List.set_cons_zero, List.set_cons_succ]
                refine wpAnyH_take (i := 8) (v := ?_) rfl (by kernel_rfl) (by kernel_rfl) (by kernel_rfl) (fun _ _ _ h => h) (Or.inl ⟨by kernel_rfl, ?_⟩) (by assumption) ?_
                rotate_left
                focus (intro w hSw; (try dsimp only at hSw); go_simp; (try with_reducible rfl); done)
                try simp only [List.getElem_toArray, List.getElem_cons_succ, List.getElem_cons_zero, Act.put, List.setIfInBounds_toArray, List.set_cons_zero, List.set_cons_succ]
                refine wpAnyH_take (i := 9) (v := ?_) rfl (by kernel_rfl) (by kernel_rfl) (by kernel_rfl) (fun _ _ _ h => h) (Or.inl ⟨by kernel_rfl, ?_⟩) (by assumption) ?_
                rotate_left
                focus (intro w hSw; (try dsimp only at hSw); have k0 := G.cellOf hSw XK.out; have k1 := G.cellOf hSw XI.out; go_simp; (try with_reducible rfl); done)
                try simp only [List.getElem_toArray, List.getElem_cons_succ, List.getElem_cons_zero, Act.put, List.setIfInBounds_toArray, List.set_cons_zero, List.set_cons_succ]
                refine wpAnyH_take (i := 10) (v := ?_) rfl (by kernel_rfl) (by kernel_rfl) (by kernel_rfl) (fun _ _ _ h => h) (Or.inl ⟨by kernel_rfl, ?_⟩) (by assumption) ?_
                rotate_left
                focus (intro w hSw; (try dsimp only at hSw); go_simp; (try with_reducible rfl); done)
                try simp only [List.getElem_toArray, List.getElem_cons_succ, List.getElem_cons_zero, Act.put, List.setIfInBounds_toArray, List.set_cons_zero, List.set_cons_succ]
                refine wpAnyH_ready (rs := [11]) (by kernel_rfl) (by simp) ?_
                refine AllReadyH.cons rfl (fun JJ hJJ => ?_) AllReadyH.nil
                go_simp
                ((try clear hb); go_at_call 103; refine (TG.out _ hHeld).mono ?_; rintro e w5 ⟨rfl, hg⟩; have hb := G.trans hHeld hg; clear hg)
                refine hJJ.out _ _ ?_ (fun hHeld2 => ?_)
                · first | exact hb | exact hHeld
                clear hJJ JJ hHeld
                have hHeld := hHeld2
                clear hHeld2
                try simp only [List.getElem_toArray, List.getElem_cons_succ, List.getElem_cons_zero, Act.put, List.setIfInBounds_toArray, List.set_cons_zero, List.set_cons_succ]
                refine wpAnyH_take (i := 12) (v := ?_) rfl (by kernel_rfl) (by kernel_rfl) (by kernel_rfl) (fun _ _ _ h => h) (Or.inl ⟨by kernel_rfl, ?_⟩) (by assumption) ?_
                rotate_left
                focus (intro w hSw; (try dsimp only at hSw); go_simp; (try with_reducible rfl); done)
                try simp only [List.getElem_toArray, List.getElem_cons_succ, List.getElem_cons_zero, Act.put, List.setIfInBounds_toArray, List.set_cons_zero, List.set_cons_succ]
                refine wpAnyH_take (i := 13) (v := ?_) rfl (by kernel_rfl) (by kernel_rfl) (by kernel_rfl) (fun _ _ _ h => h) (Or.inl ⟨by kernel_rfl, ?_⟩) (by assumption) ?_
                rotate_left
                focus (intro w hSw; (try dsimp only at hSw); go_simp; (try with_reducible rfl); done)
                try simp only [List.getElem_toArray, List.getElem_cons_succ, List.getElem_cons_zero, Act.put, List.setIfInBounds_toArray, List.set_cons_zero, List.set_cons_succ]
                refine wpAnyH_take (i := 14) (v := ?_) rfl (by kernel_rfl) (by kernel_rfl) (by kernel_rfl) (fun _ _ _ h => h) (Or.inl ⟨by kernel_rfl, ?_⟩) (by assumption) ?_
                rotate_left
                focus (intro w hSw; (try dsimp only at hSw); go_simp; (try with_reducible rfl); done)
                try simp only [List.getElem_toArray, List.getElem_cons_succ, List.getElem_cons_zero, Act.put, List.setIfInBounds_toArray, List.set_cons_zero, List.set_cons_succ]
                refine wpAnyH_done (by kernel_rfl) ?_ _
                refine NoPanic.normal ?_
                have HG7 := put (KB2.out.trans (hHeld.below.mono KB2.out.size))
                clear hHeld
                try clear hb
                go_wp2_with fail
                go_roundg (i - (k + 1))
                case measure => omega
                case rel => exact ⟨k + 1, !p k i, rfl, by go_num, by omega, Nat.le_refl _, put HF2.out.symm, HG7⟩
              | false =>
                have HF2 : Kp ((List.range (k + 1)).all (fun j => !p j i) = false) := put (by rw [all_succ, ← HF.out, Bool.false_and])
                go_wp2_with fail
                refine wp_region_noPanic ?_
                refine wp_region_held_drew (S := (fun w' => G wr w')) (by kernel_rfl) (G.refl _).drew (fun hHeld => ?_)
                refine wpAnyH_take (i := 0) (v := ?_) rfl (by kernel_rfl) (by kernel_rfl) (by kernel_rfl) (fun _ _ _ h => h) (Or.inl ⟨by kernel_rfl, ?_⟩) (by assumption) ?_
                rotate_left
                focus (intro w hSw; (try dsimp only at hSw); go_simp; (try with_reducible rfl); done)
                try simp only [List.getElem_toArray, List.getElem_cons_zero, Act.put, List.setIfInBounds_toArray, List.set_cons_zero, List.set_cons_succ]
                refine wpAnyH_take (i := 1) (v := ?_) rfl (by kernel_rfl) (by kernel_rfl) (by kernel_rfl) (fun _ _ _ h => h) (Or.inl ⟨by kernel_rfl, ?_⟩) (by assumption) ?_
                rotate_left
                focus (intro w hSw; (try dsimp only at hSw); go_simp; (try with_reducible rfl); done)
                try simp only [List.getElem_toArray, List.getElem_cons_succ, List.getElem_cons_zero, Act.put, List.setIfInBounds_toArray, List.set_cons_zero, List.set_cons_succ]
                refine wpAnyH_take (i := 2) (v := undef) rfl (by kernel_rfl) (by kernel_rfl) (by kernel_rfl) (fun _ _ _ h => h) (Or.inr ⟨by kernel_rfl, rfl⟩) (by assumption) ?_
                try simp only [List.getElem_toArray, List.getElem_cons_succ, List.getElem_cons_zero, Act.put, List.setIfInBounds_toArray, List.set_cons_zero, List.set_cons_succ]
                refine wpAnyH_take (i := 3) (v := undef) rfl (by kernel_rfl) (by kernel_rfl) (by kernel_rfl) (fun _ _ _ h => h) (Or.inr ⟨by kernel_rfl, rfl⟩) (by assumption) ?_
                try simp only [List.getElem_toArray, List.getElem_cons_succ, List.getElem_cons_zero, Act.put, List.setIfInBounds_toArray, List.set_cons_zero, List.set_cons_succ]
                refine wpAnyH_take (i := 4) (v := undef) rfl (by kernel_rfl) (by kernel_rfl) (by kernel_rfl) (fun _ _ _ h => h) (Or.inr ⟨by kernel_rfl, rfl⟩) (by assumption) ?_
                try simp only [List.getElem_toArray, List.getElem_cons_succ, List.getElem_cons_zero, Act.put, List.setIfInBounds_toArray, List.set_cons_zero, List.set_cons_succ]
                refine wpAnyH_take (i := 5) (v := undef) rfl (by kernel_rfl) (by kernel_rfl) (by kernel_rfl) (fun _ _ _ h => h) (Or.inr ⟨by kernel_rfl, rfl⟩) (by assumption) ?_
                try simp only [List.getElem_toArray, List.getElem_cons_succ, List.getElem_cons_zero, Act.put, List.setIfInBounds_toArray, List.set_cons_zero, List.set_cons_succ]
                refine wpAnyH_take (i := 6) (v := undef) rfl (by kernel_rfl) (by kernel_rfl) (by kernel_rfl) (fun _ _ _ h => h) (Or.inr ⟨by kernel_rfl, rfl⟩) (by assumption) ?_
                try simp only [List.getElem_toArray, List.getElem_cons_succ, List.getElem_cons_zero, Act.put, List.setIfInBounds_toArray, List.set_cons_zero, List.set_cons_succ]
                refine wpAnyH_take (i := 7) (v := undef) rfl (by kernel_rfl) (by kernel_rfl) (by kernel_rfl) (fun _ _ _ h => h) (Or.inr ⟨by kernel_rfl, rfl⟩) (by assumption) ?_
                try simp only [List.getElem_toArray, List.getElem_cons_succ, List.getElem_cons_zero, Act.put, List.setIfInBounds_toArray, List.set_cons_zero, List.set_cons_succ]
                refine wpAnyH_take (i := 8) (v := undef) rfl (by kernel_rfl) (by kernel_rfl) (by kernel_rfl) (fun _ _ _ h => h) (Or.inr ⟨by kernel_rfl, rfl⟩) (by assumption) ?_
                try simp only [List.getElem_toArray, List.getElem_cons_succ, List.getElem_cons_zero, Act.put, List.setIfInBounds_toArray, List.set_cons_zero, List.set_cons_succ]
                refine wpAnyH_take (i := 9) (v := undef) rfl (by kernel_rfl) (by kernel_rfl) (by kernel_rfl) (fun _ _ _ h => h) (Or.inr ⟨by kernel_rfl, rfl⟩) (by assumption) ?_
                try simp only [List.getElem_toArray, List.getElem_cons_succ, List.getElem_cons_zero, Act.put, List.setIfInBounds_toArray, List.set_cons_zero, List.set_cons_succ]
                refine wpAnyH_take (i := 10) (v := undef) rfl (by kernel_rfl) (by kernel_rfl) (by kernel_rfl) (fun _ _ _ h => h) (Or.inr ⟨by kernel_rfl, rfl⟩) (by assumption) ?_
                try simp only [List.getElem_toArray, List.getElem_cons_succ, List.getElem_cons_zero, Act.put, List.setIfInBounds_toArray, List.set_cons_zero, List.set_cons_succ]
                refine wpAnyH_take (i := 11) (v := undef) rfl (by kernel_rfl) (by kernel_rfl) (by kernel_rfl) (fun _ _ _ h => h) (Or.inr ⟨by kernel_rfl, rfl⟩) (by assumption) ?_
                try simp only [List.getElem_toArray, List.getElem_cons_succ, List.getElem_cons_zero, Act.put, List.setIfInBounds_toArray, List.set_cons_zero, List.set_cons_succ]
                refine wpAnyH_take (i := 12) (v := undef) rfl (by kernel_rfl) (by kernel_rfl) (by kernel_rfl) (fun _ _ _ h => h) (Or.inr ⟨by kernel_rfl, rfl⟩) (by assumption) ?_
                try simp only [List.getElem_toArray, List.getElem_cons_succ, List.getElem_cons_zero, Act.put, List.setIfInBounds_toArray, List.set_cons_zero, List.set_cons_succ]
                refine wpAnyH_take (i := 13) (v := ?_) rfl (by kernel_rfl) (by kernel_rfl) (by kernel_rfl) (fun _ _ _ h => h) (Or.inl ⟨by kernel_rfl, ?_⟩) (by assumption) ?_
                rotate_left
                focus (intro w hSw; (try dsimp only at hSw); go_simp; (try with_reducible rfl); done)
                try simp only [List.getElem_toArray, List.getElem_cons_succ, List.getElem_cons_zero, Act.put, List.setIfInBounds_toArray, List.set_cons_zero, List.set_cons_succ]
                refine wpAnyH_take (i := 14) (v := ?_) rfl (by kernel_rfl) (by kernel_rfl) (by kernel_rfl) (fun _ _ _ h => h) (Or.inl ⟨by kernel_rfl, ?_⟩) (by assumption) ?_
                rotate_left
                focus (intro w hSw; (try dsimp only at hSw); go_simp; (try with_reducible rfl); done)
                try simp only [List.getElem_toArray, List.getElem_cons_succ, List.getElem_cons_zero, Act.put, List.setIfInBounds_toArray, List.set_cons_zero, List.set_cons_succ]
                refine wpAnyH_done (by kernel_rfl) ?_ _
                refine NoPanic.normal ?_
                have HG7 := put (KB2.out.trans (hHeld.below.mono KB2.out.size))
                clear hHeld
                go_wp2_with fail
                go_roundg (i - (k + 1))
                case measure => omega
                case rel => exact ⟨k + 1, false, rfl, by go_num, by omega, Nat.le_refl _, put HF2.out.symm, HG7⟩
            · have hlz2 : ¬ (k : Int) < (i : Int) := by omega
              obtain rfl : i = k := by omega
              cases f with
              | false =>
                have HFS : Kp (firsts p (i + 1) = firsts p i) := put (by rw [firsts_succ, ← HF.out]; simp)
                go_wp2_with fail
                go_roundg (m - (i + 1))
                case measure => omega
                case rel => exact ⟨i + 1, A7, l7, c7, rfl, by go_num, by omega, Nat.le_refl _, put (by rw [HFS.out]; exact HL7.out), put (by rw [HFS.out]; exact HO.out.below KB2.out), put (KB.out.trans (KB2.out.mono KB.out.size))⟩
              | true =>
                have HFS : Kp (firsts p (i + 1) = firsts p i ++ [i]) := put (by rw [firsts_succ, ← HF.out]; simp)
                have HO6 := put (HO.out.below KB2.out)
                have HKS6 := put (HKS5.out.below KB2.out)
                have XI6 := put (cell_lt' XI0.out KB2.out)
                have KB6 := put (KB.out.trans (KB2.out.mono KB.out.size))
                obtain ⟨w6, hw6⟩ : ∃ w6, w6 = wr := ⟨_, rfl⟩
                subst hw6
                have KB56 := KB2
                clear KB2 HF HO XI0
                go_wp2_with fail
                go_loopg [11, 12] m (fun kx s11 s12 wi => ∃ (k : Nat) (A11 : Option Addr) (l11 c11 : Nat), s11 = .slice A11 l11 c11 ∧ s12 = .int .i64 k ∧ i ≤ k ∧ k ≤ m ∧ m - k ≤ kx ∧ Kp (l11 = (grp p k i).length) ∧ Kp (Own (tInt .i64) 3 (fun _ => True) wi w6.heap.size (.slice A11 l11 c11) (nats (grp p k i))) ∧ Kp (Below w6.heap.size w6 wi))
                case atStart => exact ⟨i, _, 0, 0, rfl, rfl, Nat.le_refl _, hi, by omega, put (by rw [grp_start]; rfl), put (by rw [grp_start]; exact lit_own _ (heap_alloc_new _ _) (Nat.le_refl _)), put (balloc (Below.refl _ _) _)⟩
                case round =>
                  obtain ⟨k, A11, l11, c11, rfl, rfl, hik, hk, hkx3, HL11, HO11, KB7⟩ := hrel
                  by_cases hlt3 : k < m
                  · have hlz3 : (k : Int) < (m : Int) := by omega
                    have k0 : (0 : Int) ≤ (k : Int) := by omega
                    obtain ⟨ad', q, B2, d2, hA, hq, z0, hsq⟩ := rows_get (HKS6.out.below KB7.out).row.1 k (by rw [← HM.out]; omega)
                    obtain rfl : ad = ad' := by simpa using hA
                    have XK := put z0
                    have XI := put (cell_lt' XI6.out KB7.out)
                    have KB57 : Kp (Below w5.heap.size w5 wr) := put (KB56.out.trans (KB7.out.mono KB56.out.size))
                    have TG : Kp (∀ W', G wr W' → Calls Try.prog 103 #[.slice B2 q.length d2, .slice B1 r.length d1, .slice A3 n c3] W' fun e w' => e = .returned (.bool (p k i)) ∧ G W' w') := put (fun W' hg => TGA.out k q B2 d2 wr W' hq KB57.out hsq hg)
                    have HGS := put (grp_succ (p := p) k i hik)
                    have hgl := grp_len p k i
                    rw [← HL11.out] at hgl
                    clear hA hq z0 hsq
                    go_wp2_with fail
                    refine wp_region_noPanic ?_
                    refine wp_region_held_drew (S := (fun w' => G wr w')) (by kernel_rfl) (G.refl _).drew (fun hHeld => ?_)
                    refine wpAnyH_take (i := 0) (v := ?_) rfl (by kernel_rfl) (by kernel_rfl) (by kernel_rfl) (fun _ _ _ h => h) (Or.inl ⟨by kernel_rfl, ?_⟩) (by assumption) ?_
                    rotate_left
                    focus (intro w hSw; (try dsimp only at hSw); go_simp; (try with_reducible rfl); done)
                    try simp only [List.getElem_toArray, List.getElem_cons_zero, Act.put, List.setIfInBounds_toArray, List.set_cons_zero, List.set_cons_succ]
                    refine wpAnyH_take (i := 1) (v := ?_) rfl (by kernel_rfl) (by kernel_rfl) (by kernel_rfl) (fun _ _ _ h => h) (Or.inl ⟨by kernel_rfl, ?_⟩) (by assumption) ?_
                    rotate_left
                    focus (intro w hSw; (try dsimp only at hSw); go_simp; (try with_reducible rfl); done)
                    try simp only [List.getElem_toArray, List.getElem_cons_succ, List.getElem_cons_zero, Act.put, List.setIfInBounds_toArray, List.set_cons_zero, List.set_cons_succ]
                    refine wpAnyH_take (i := 2) (v := ?_) rfl (by kernel_rfl) (by kernel_rfl) (by kernel_rfl) (fun _ _ _ h => h) (Or.inl ⟨by kernel_rfl, ?_⟩) (by assumption) ?_
                    rotate_left
                    focus (intro w hSw; (try dsimp only at hSw); go_simp; (try with_reducible rfl); done)
                    try simp only [List.getElem_toArray, List.getElem_cons_succ, List.getElem_cons_zero, Act.put, List.setIfInBounds_toArray, List.set_cons_zero, List.set_cons_succ]
                    refine wpAnyH_take (i := 3) (v := ?_) rfl (by kernel_rfl) (by kernel_rfl) (by kernel_rfl) (fun _ _ _ h => h) (Or.inl ⟨by kernel_rfl, ?_⟩) (by assumption) ?_
                    rotate_left
                    focus (intro w hSw; (try dsimp only at hSw); have k0 := G.cellOf hSw XK.out; have k1 := G.cellOf hSw XI.out; go_simp; (try with_reducible rfl); done)
                    try simp only [List.getElem_toArray, List.getElem_cons_succ, List.getElem_cons_zero, Act.put, List.setIfInBounds_toArray, List.set_cons_zero, List.set_cons_succ]
                    refine wpAnyH_take (i := 4) (v := ?_) rfl (by kernel_rfl) (by kernel_rfl) (by kernel_rfl) (fun _ _ _ h => h) (Or.inl ⟨by kernel_rfl, ?_⟩) (by assumption) ?_
                    rotate_left
                    focus (intro w hSw; (try dsimp only at hSw); go_simp; (try with_reducible rfl); done)
                    try simp only [List.getElem_toArray, List.getElem_cons_succ, List.getElem_cons_zero, Act.put, List.setIfInBounds_toArray, List.set_cons_zero, List.set_cons_succ]
                    refine wpAnyH_take (i := 5) (v := ?_) rfl (by kernel_rfl) (by kernel_rfl) (by kernel_rfl) (fun _ _ _ h => h) (Or.inl ⟨by kernel_rfl, ?_⟩) (by assumption) ?_
                    rotate_left
                    focus (intro w hSw; (try dsimp only at hSw); go_simp; (try with_reducible rfl); done)
                    try simp only [List.getElem_toArray, List.getElem_cons_succ, List.getElem_cons_zero, Act.put, List.setIfInBounds_toArray, List.set_cons_zero, List.set_cons_succ]
                    refine wpAnyH_take (i := 6) (v := ?_) rfl (by kernel_rfl) (by kernel_rfl) (by kernel_rfl) (fun _ _ _ h => h) (Or.inl ⟨by kernel_rfl, ?_⟩) (by assumption) ?_
                    rotate_left
                    focus (intro w hSw; (try dsimp only at hSw); go_simp; (try with_reducible rfl); done)
                    try simp only [List.getElem_toArray, List.getElem_cons_succ, List.getElem_cons_zero, Act.put, List.setIfInBounds_toArray, List.set_cons_zero, List.set_cons_succ]
                    refine wpAnyH_take (i := 7) (v := ?_) rfl (by kernel_rfl) (by kernel_rfl) (by kernel_rfl) (fun _ _ _ h => h) (Or.inl ⟨by kernel_rfl, ?_⟩) (by assumption) ?_
                    rotate_left
                    focus (intro w hSw; (try dsimp only at hSw); have k0 := G.cellOf hSw XK.out; have k1 := G.cellOf hSw XI.out; go_simp; (try with_reducible rfl); done)
                    try simp only [List.getElem_toArray, List.getElem_cons_succ, List.getElem_cons_zero, Act.put, List.setIfInBounds_toArray, List.set_cons_zero, List.set_cons_succ]
                    refine wpAnyH_take (i := 8) (v := ?_) rfl (by kernel_rfl) (by kernel_rfl) (by kernel_rfl) (fun _ _ _ h => h) (Or.inl ⟨by kernel_rfl, ?_⟩) (by assumption) ?_
                    rotate_left
                    focus (intro w hSw; (try dsimp only at hSw); go_simp; (try with_reducible rfl); done)
                    try simp only [List.getElem_toArray, List.getElem_cons_succ, List.getElem_cons_zero, Act.put, List.setIfInBounds_toArray, List.set_cons_zero, List.set_cons_succ]
                    refine wpAnyH_ready (rs := [9]) (by kernel_rfl) (by simp) ?_
                    refine AllReadyH.cons rfl (fun JJ hJJ => ?_) AllReadyH.nil
                    go_simp
                    ((try clear hb); go_at_call 103; refine (TG.out _ hHeld).mono ?_; rintro e w5 ⟨rfl, hg⟩; have hb := G.trans hHeld hg; clear hg)
                    refine hJJ.out _ _ ?_ (fun hHeld2 => ?_)
                    · first | exact hb | exact hHeld
                    clear hJJ JJ hHeld
                    have hHeld := hHeld2
                    clear hHeld2
                    try simp only [List.getElem_toArray, List.getElem_cons_succ, List.getElem_cons_zero, Act.put, List.setIfInBounds_toArray, List.set_cons_zero, List.set_cons_succ]
                    refine wpAnyH_done (by kernel_rfl) ?_ _
                    refine NoPanic.normal ?_
                    have HG7 := put (KB7.out.trans (hHeld.below.mono KB7.out.size))
                    have HO8 := put (HO11.out.below hHeld.below)
                    clear hHeld
                    try clear hb
                    rename World => w8
                    obtain ⟨b, hb⟩ : ∃ b, b = p k i := ⟨_, rfl⟩
                    rw [← hb] at HGS ⊢
                    clear hb
                    cases b with
                    | true =>
                      have HGS2 : Kp (grp p (k + 1) i = grp p k i ++ [k]) := put HGS.out
                      go_wp2_with (at_builtin; refine wpList_push (W := w8) (tInt .i64) w6.heap.size rfl _ _ 61 3 _ 8 rfl Try.underlying61 infoInt rfl (by decide) (by decide) (.slice A11 l11 c11) (nats (grp p k i)) (k : Int) [.int .i64 k] (fun _ => True) rfl rfl rfl HO8.out HG7.out.size (by unfold nats; rw [List.length_map, ← HL11.out]; omega) ?_; intro v1 w9 hown hg hat; obtain ⟨A9, c9, e9, _, _⟩ := hown.form; rw [show (nats (grp p k i) ++ [(k : Int)]).length = l11 + 1 by rw [List.length_append, List.length_singleton]; unfold nats; rw [List.length_map, ← HL11.out]] at e9; subst e9; have hb9 : Below w6.heap.size w6 w9 := HG7.out.grown hg HG7.out.size (fun k hk => (HO8.out.lt k hk).1); have HB9 := put hb9; have HOWN := put hown; clear hown hg hat hb9)
                      go_roundg (m - (k + 1))
                      case measure => omega
                      case rel => exact ⟨k + 1, A9, l11 + 1, c9, rfl, by go_num, by omega, by omega, Nat.le_refl _, put (by rw [HGS2.out, List.length_append, HL11.out]; rfl), put (by rw [HGS2.out]; unfold nats; rw [List.map_append]; exact HOWN.out), HB9⟩
                    | false =>
                      have HGS2 : Kp (grp p (k + 1) i = grp p k i) := put (by rw [HGS.out]; simp)
                      go_wp2_with fail
                      go_roundg (m - (k + 1))
                      case measure => omega
                      case rel => exact ⟨k + 1, A11, l11, c11, rfl, by go_num, by omega, by omega, Nat.le_refl _, put (by rw [HGS2.out]; exact HL11.out), put (by rw [HGS2.out]; exact HO8.out), HG7⟩
                  · have hlz3 : ¬ (k : Int) < (m : Int) := by omega
                    obtain rfl : m = k := by omega
                    have hgl := grp_len p m i
                    have hfl := firsts_len p i
                    have HO8 := put (HO6.out.below KB7.out)
                    have hlg : l11 = (nats (grp p m i)).length := by unfold nats; rw [List.length_map]; exact HL11.out
                    have HLG := put hlg
                    have HSG : Kp ((tSl (tInt .i64)).R (fun k => w.heap.size ≤ k ∧ some k ≠ (Value.slice A7 l7 c7).ownBlock) wr (nats (grp p m i)) [.slice A11 l11 c11]) := put ⟨_, rfl, (own_ints HO11.out).sl (fun k hk => ⟨Nat.le_trans KB6.out.size (HO11.out.lt k hk).1, fun e => by have h1 := (HO11.out.lt k hk).1; have h2 := (HO6.out.lt k e.symm).2; omega⟩) (fun k hk => hk.elim) (by rw [← hlg, HL11.out]; omega)⟩
                    clear hlg
                    go_wp2_with (at_builtin; refine wpList_push (W := wr) (tSl (tInt .i64)) w.heap.size rfl _ _ 141 61 _ 24 rfl Try.underlying141 infoInts rfl (by decide) (by decide) (.slice A7 l7 c7) (((firsts p i).map (grp p m)).map nats) (nats (grp p m i)) [.slice A11 l11 c11] (fun k => w.heap.size ≤ k) rfl rfl HSG.out HO8.out (Nat.le_trans KB6.out.size KB7.out.size) (by rw [List.length_map, List.length_map]; omega) ?_; intro v1 w9 hown hg hat; obtain ⟨A9, c9, e9, _, _⟩ := hown.form; rw [show (((firsts p i).map (grp p m)).map nats ++ [nats (grp p m i)]).length = l7 + 1 by rw [List.length_append, List.length_singleton, List.length_map, List.length_map, ← HL7.out]] at e9; subst e9; have hb9 : Below w.heap.size w w9 := (KB6.out.trans (KB7.out.mono KB6.out.size)).grown hg (Nat.le_trans KB6.out.size KB7.out.size) (fun k hk => (HO8.out.lt k hk).1); have HB9 := put hb9; have HOWN := put hown; clear hown hg hat hb9)
                    go_roundg (m - (i + 1))
                    case measure => omega
                    case rel => exact ⟨i + 1, A9, l7 + 1, c9, rfl, by go_num, by omega, Nat.le_refl _, put (by rw [HFS.out, List.length_append, HL7.out]; rfl), put (by rw [HFS.out, List.map_append, List.map_append]; exact HOWN.out), HB9⟩
        · have hlz : ¬ (i : Int) < (m : Int) := by omega
          obtain rfl : m = i := by omega
          have HE := HO.out
          rw [← HGR.out] at HE
          have HE2 := put HE
          clear HE
          go_wp2_with fail
          go_ret
          exact ⟨_, rfl, HE2.out, KB.out⟩
end Go.Proofs.Ytkfoknjflpklpaa.P
