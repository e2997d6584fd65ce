/- The law DeltaNets: its walk. -/
import Derived.Test.YtkfoknjflpklpaaDRefSame
import Derived.Test.YtkfoknjflpklpaaDRefNet
import Derived.Test.YtkfoknjflpklpaaDAwake
namespace Go.Proofs.Ytkfoknjflpklpaa.D
open Go Go.RowKit Go.Sort Go.Proofs.Ytkfoknjflpklpaa.Mem Go.Proofs.Ytkfoknjflpklpaa.Stab

theorem scan_length : ∀ (n : Nat) (l : List Chg), l.length = n → (netScan l).length ≤ n := by
  intro n
  induction n using Nat.strongRecOn with
  | _ n ih =>
    intro l hn
    cases l with
    | nil => rw [netScan]; simp
    | cons x l =>
      have hsub := (List.dropWhile_sublist (l := l) x.same).length_le
      simp only [List.length_cons] at hn
      have := ih (l.dropWhile x.same).length (by omega) _ rfl
      rw [netScan]
      simp only [List.length_append]
      split <;> simp <;> omega
theorem net_length (l : List Chg) : (net l).length ≤ l.length := by
  have := scan_length _ _ (rfl : (isort (ltOf chgCmp) l).length = _)
  rw [(isort_perm l).length_eq] at this
  exact this

set_option maxHeartbeats 16000000 in
set_option maxRecDepth 100000 in
theorem deltaNetsCalls (ok : Nat → Prop) (v : Value) (xs : List Chg) (tb : ByteArray) (kd : Int) (w : World) (h : Sl tChg ok w v xs) :
    Calls Try.prog 6 #[v, .string tb, .int .i64 kd] w fun e w' => e = .returned (.bool true) ∧ Below w.heap.size w w' := by
  obtain ⟨A, c, rfl, l1, l2, l3⟩ := h.shape
  have KS := put h
  obtain ⟨m, hm⟩ : ∃ m, m = xs.length := ⟨_, rfl⟩
  rw [← hm] at l1 l3 KS ⊢
  have HM := put hm
  clear h hm
  go_enter Try.func6, Try.ntmps6
  go_wp2_with (first | (go_at_call 13; refine (awakeCalls _).mono ?_; rintro e w1 ⟨rfl, hb1⟩; have HB1 := put hb1; clear hb1))
  refine (greatCalls ok _ xs w1 (KS.out.below HB1.out)).mono ?_
  rintro e w2 ⟨⟨b, rfl, hg⟩, hb2⟩
  have HB2 := put (HB1.out.trans (hb2.mono HB1.out.size))
  clear hb2
  have HG := put hg
  clear hg
  cases b with
  | true =>
    go_wp2_with fail
    go_ret
    exact ⟨rfl, HB2.out⟩
  | false =>
    have HX := put (HG.out rfl)
    clear HG
    by_cases ht : (tb.size : Int) > 200
    · go_wp2_with fail
      go_ret
      exact ⟨rfl, HB2.out⟩
    · go_wp2_with fail
      clear ht
      go_loopg [21] m (fun kx s21 wr => ∃ (i : Nat), s21 = .int .i64 i ∧ i ≤ m ∧ m - i ≤ kx ∧ Kp (Below w.heap.size w wr))
      case atStart => exact ⟨0, rfl, Nat.zero_le _, Nat.le_refl _, HB2⟩
      case round =>
        obtain ⟨i, rfl, hi, hkx, KB⟩ := hrel
        clear HB1 HB2
        by_cases hlt : i < m
        · have hlz : (i : Int) < (m : Int) := by omega
          have i0 : (0 : Int) ≤ (i : Int) := by omega
          obtain ⟨ad, x, A2, k2, A3, k3, rfl, hx, x0, x1, x2, x3, KR, _⟩ := chgs_at (KS.out.elder KB.out).row.1 i (by rw [← HM.out]; exact hlt)
          clear hx
          go_wp2_with fail
          obtain ⟨w3, hw3⟩ : ∃ w3, w3 = wr.alloc (.cells #[.string x.table, .int .i64 x.id, .slice A2 x.old.length k2, .slice A3 x.new.length k3] 40) := ⟨_, rfl⟩
          have d0 : w3.cell? ⟨wr.heap.size, 0, none⟩ = some (.string x.table) := by rw [hw3]; simp
          have d1 : w3.cell? ⟨wr.heap.size, 1, none⟩ = some (.int .i64 x.id) := by rw [hw3]; simp
          have d2 : w3.cell? ⟨wr.heap.size, 2, none⟩ = some (.slice A2 x.old.length k2) := by rw [hw3]; simp
          have d3 : w3.cell? ⟨wr.heap.size, 3, none⟩ = some (.slice A3 x.new.length k3) := by rw [hw3]; simp
          have hl3 : wr.heap.size < w3.heap.size := by rw [hw3]; simp
          have hB3 : Below wr.heap.size wr w3 := by rw [hw3]; exact (Below.refl _ _).alloc (Nat.le_refl _) _
          rw [← hw3]
          have KB3 := put (KB.out.trans (hB3.mono KB.out.size))
          have KR3 := put (Ty.below KR.out hB3)
          obtain ⟨B, hB⟩ : ∃ B, B = wr.heap.size := ⟨_, rfl⟩
          rw [← hB] at d0 d1 d2 d3 hl3 ⊢
          clear hw3 hB3 hB x0 x1 x2 x3
          have hkk : (x.kind != x.kind) = false := by simp
          go_region_held3 (fun w' => w'.cell? ⟨B, 0, none⟩ = some (.string x.table) ∧ w'.cell? ⟨B, 1, none⟩ = some (.int .i64 x.id) ∧ w'.cell? ⟨B, 2, none⟩ = some (.slice A2 x.old.length k2) ∧ w'.cell? ⟨B, 3, none⟩ = some (.slice A3 x.new.length k3)) (first | go_keep | exact ⟨(hc5 _ _ hl3).trans d0, (hc5 _ _ hl3).trans d1, (hc5 _ _ hl3).trans d2, (hc5 _ _ hl3).trans d3⟩ | exact ⟨(hc6 _ _ hl3).trans d0, (hc6 _ _ hl3).trans d1, (hc6 _ _ hl3).trans d2, (hc6 _ _ hl3).trans d3⟩)
            (first | (go_at_call 20; refine (kindCalls _ x [.string x.table, .int .i64 x.id, .slice A2 x.old.length k2, .slice A3 x.new.length k3] w3.drew (Ty.below KR3.out (Below.refl _ _).drew)).mono ?_; rintro e w5 ⟨rfl, hb5⟩; have hb5' : Below w3.heap.size w3 w5 := (Below.refl _ _).drew.trans hb5; obtain ⟨hc5, hf5⟩ := bcell hb5'; have HB5 := put hb5'; clear hb5 hb5' hf5) | (go_at_call 22; refine (refKindCalls _ x [.string x.table, .int .i64 x.id, .slice A2 x.old.length k2, .slice A3 x.new.length k3] _ (Ty.below KR3.out (by first | exact HB5.out | exact HB5.out.drew))).mono ?_; rintro e w6 ⟨rfl, hb6⟩; have hb6' : Below w3.heap.size w3 w6 := (by first | exact HB5.out.trans (hb6.mono HB5.out.size) | exact HB5.out.drew.trans (hb6.mono HB5.out.drew.size)); obtain ⟨hc6, hf6⟩ := bcell hb6'; have HB6 := put hb6'; clear hb6 hb6' hf6))
          go_wp2_with fail
          go_roundg (m - (i + 1))
          case measure => omega
          case rel => exact ⟨i + 1, by go_num, by omega, Nat.le_refl _, put (KB3.out.trans (HB6.out.mono KB3.out.size))⟩
        · have hlz : ¬ (i : Int) < (m : Int) := by omega
          have hm80 : m ≤ 80 := by rw [HM.out]; exact HX.out.1
          have HBD : Kp (∀ x ∈ xs, x.old.length ≤ 1000 ∧ x.new.length ≤ 1000) := ⟨fun x hx => by have := HX.out.2 x hx; omega⟩
          go_wp2_with fail
          refine (plainCalls ok _ xs wr (KS.out.below KB.out) (by rw [← HM.out]; omega)).mono ?_
          rintro e w3 ⟨vo, rfl, ho1, hb3⟩
          have KB3 := put (KB.out.trans (hb3.mono KB.out.size))
          have P1 := put ((ho1.sl (ok' := fun _ => True) (fun _ _ => trivial) (fun _ _ => trivial) (by rw [← HM.out]; omega)))
          obtain ⟨V1, c1, rfl, _, _⟩ := ho1.form
          rw [← HM.out] at P1 ⊢
          clear ho1 hb3
          go_wp2_with fail
          refine (netCalls ok _ xs w3 (KS.out.below KB3.out) (by rw [← HM.out]; omega) HBD.out).mono ?_
          rintro e w4 ⟨vo, rfl, ho2, hb4⟩
          have KB4 := put (KB3.out.trans (hb4.mono KB3.out.size))
          have P1' := put (P1.out.below hb4)
          have hnl : (net xs).length ≤ 80 := Nat.le_trans (net_length xs) (by rw [← HM.out]; exact hm80)
          have P2 := put ((ho2.sl (ok' := fun _ => True) (fun _ _ => trivial) (fun _ _ => trivial) (by omega)))
          obtain ⟨V2, c2, rfl, _, _⟩ := ho2.form
          clear ho2 hb4 P1
          go_wp2_with fail
          refine (plainCalls _ _ (net xs) w4 P2.out (by omega)).mono ?_
          rintro e w5 ⟨vo, rfl, ho3, hb5⟩
          have KB5 := put (KB4.out.trans (hb5.mono KB4.out.size))
          have P1 := put (P1'.out.below hb5)
          have P3 := put ((ho3.sl (ok' := fun _ => True) (fun _ _ => trivial) (fun _ _ => trivial) (by omega)))
          obtain ⟨V3, c3, rfl, _, _⟩ := ho3.form
          clear ho3 hb5 P1' P2
          go_wp2_with fail
          refine (refNetCalls _ _ xs w5 P1.out (by rw [← HM.out]; omega)).mono ?_
          rintro e w6 ⟨vo, rfl, ho4, hb6⟩
          rw [refNet_eq] at ho4
          have KB6 := put (KB5.out.trans (hb6.mono KB5.out.size))
          have P1' := put (P1.out.below hb6)
          have P3' := put (P3.out.below hb6)
          have P4 := put ((ho4.sl (ok' := fun _ => True) (fun _ _ => trivial) (fun _ _ => trivial) (by omega)))
          obtain ⟨V4, c4, rfl, _, _⟩ := ho4.form
          clear ho4 hb6 P1 P3
          go_wp2_with fail
          refine (refSameCalls _ _ _ _ (net xs) (net xs) w6 P3'.out P4.out).mono ?_
          rintro e w7 ⟨rfl, q, rfl⟩
          rw [decide_eq_true (rfl : net xs = net xs)]
          have KB7 := put (Below.drewn (n := q) KB6.out)
          have P1 := put (Sl.drewn P1'.out q)
          generalize w6.drewN q = w7 at *
          clear P1' P3' P4
          go_wp2_with fail
          refine (ofCalls ok _ xs tb kd w7 (KS.out.below KB7.out) (by rw [← HM.out]; omega) HBD.out).mono ?_
          rintro e w8 ⟨vo, rfl, ho5, hb8⟩
          have KB8 := put (KB7.out.trans (hb8.mono KB7.out.size))
          have P1' := put (P1.out.below hb8)
          have hfl : (xs.filter (Chg.isOf tb kd)).length ≤ 80 := Nat.le_trans (List.length_filter_le _ _) (by rw [← HM.out]; exact hm80)
          have P5 := put ((ho5.sl (ok' := fun _ => True) (fun _ _ => trivial) (fun _ _ => trivial) (by omega)))
          obtain ⟨V5, c5, rfl, _, _⟩ := ho5.form
          clear ho5 hb8 P1
          go_wp2_with fail
          refine (plainCalls _ _ (xs.filter (Chg.isOf tb kd)) w8 P5.out (by omega)).mono ?_
          rintro e w9 ⟨vo, rfl, ho6, hb9⟩
          have KB9 := put (KB8.out.trans (hb9.mono KB8.out.size))
          have P1 := put (P1'.out.below hb9)
          have P6 := put ((ho6.sl (ok' := fun _ => True) (fun _ _ => trivial) (fun _ _ => trivial) (by omega)))
          obtain ⟨V6, c6, rfl, _, _⟩ := ho6.form
          clear ho6 hb9 P1' P5
          go_wp2_with fail
          refine (refOfCalls _ _ xs tb kd w9 P1.out (by rw [← HM.out]; omega)).mono ?_
          rintro e w10 ⟨vo, rfl, ho7, hb10⟩
          have KB10 := put (KB9.out.trans (hb10.mono KB9.out.size))
          have P6' := put (P6.out.below hb10)
          have P7 := put ((ho7.sl (ok' := fun _ => True) (fun _ _ => trivial) (fun _ _ => trivial) (by omega)))
          obtain ⟨V7, c7, rfl, _, _⟩ := ho7.form
          clear ho7 hb10 P1 P6
          go_wp2_with fail
          refine (refSameCalls _ _ _ _ (xs.filter (Chg.isOf tb kd)) (xs.filter (Chg.isOf tb kd)) w10 P6'.out P7.out).mono ?_
          rintro e w11 ⟨rfl, q2, rfl⟩
          rw [decide_eq_true (rfl : xs.filter (Chg.isOf tb kd) = xs.filter (Chg.isOf tb kd))]
          go_wp2_with fail
          go_ret
          exact ⟨rfl, Below.drewn KB10.out⟩

end Go.Proofs.Ytkfoknjflpklpaa.D
