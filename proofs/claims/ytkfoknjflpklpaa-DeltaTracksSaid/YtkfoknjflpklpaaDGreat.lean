/- great: more than is played? -/
import Derived.Test.YtkfoknjflpklpaaDLists
import Derived.Test.YtkfoknjflpklpaaMem2
namespace Go.Proofs.Ytkfoknjflpklpaa.D
open Go Go.RowKit Go.Proofs.Ytkfoknjflpklpaa.Mem

/-- A bool is returned, of which Φ holds. -/
def Said (Φ : Bool → Prop) (e : Ending) : Prop := ∃ b, e = .returned (.bool b) ∧ Φ b

theorem R_parts {ok : Nat → Prop} {w : World} {x : Chg} {a b v2 v3 : Value} (h : tChg.R ok w x [a, b, v2, v3]) : Sl tVal ok w v2 x.old ∧ Sl tVal ok w v3 x.new := by
  obtain ⟨u2, u3, e, h2, h3⟩ := h
  simp only [List.cons.injEq, and_true] at e
  obtain ⟨_, _, rfl, rfl⟩ := e
  exact ⟨h2, h3⟩

set_option maxHeartbeats 16000000 in
set_option maxRecDepth 100000 in
theorem greatCalls (ok : Nat → Prop) (v : Value) (xs : List Chg) (w : World) (h : Sl tChg ok w v xs) :
    Calls Try.prog 21 #[v] w fun e w' => Said (fun b => b = false → xs.length ≤ 80 ∧ ∀ x ∈ xs, x.old.length ≤ 20 ∧ x.new.length ≤ 20) e ∧ Below w.heap.size w w' := by
  obtain ⟨A, c, rfl, l1, l2, l3⟩ := h.shape
  have KS := put h
  obtain ⟨m, hm⟩ : ∃ m, m = xs.length := ⟨_, rfl⟩
  rw [← hm] at l1 l3 KS ⊢
  have HM := put hm
  clear h hm
  by_cases hg : m > 80
  · have hg1 : (m : Int) > 80 := by omega
    clear hg
    go_enter Try.func21, Try.ntmps21
    go_wp2_with fail
    go_ret
    exact ⟨⟨true, rfl, (fun e => by cases e)⟩, Below.refl _ _⟩
  · have hg1 : ¬ (m : Int) > 80 := by omega
    have HG : Kp (m ≤ 80) := ⟨by omega⟩
    clear hg
    go_enter Try.func21, Try.ntmps21
    go_wp2_with fail
    go_loopg [12] m (fun kx s12 wr => ∃ (i : Nat), s12 = .int .i64 i ∧ i ≤ m ∧ m - i ≤ kx ∧ Kp (∀ x ∈ xs.take i, x.old.length ≤ 20 ∧ x.new.length ≤ 20) ∧ Kp (Below w.heap.size w wr))
    case atStart => exact ⟨0, rfl, Nat.zero_le _, Nat.le_refl _, put (by simp), put (Below.refl _ _)⟩
    case round =>
      obtain ⟨i, rfl, hi, hkx, HI, KB⟩ := hrel
      by_cases hlt : i < m
      · have hlz : (i : Int) < (m : Int) := by omega
        have i0 : (0 : Int) ≤ (i : Int) := by omega
        obtain ⟨ad, x, A2, k2, A3, k3, rfl, hx, x0, x1, x2, x3, KR, _⟩ := chgs_at (KS.out.elder KB.out).row.1 i (by rw [← HM.out]; exact hlt)
        have KX := put hx
        have B1 : ∀ o, Below wr.heap.size wr (wr.alloc o) := fun o => (Below.refl _ _).alloc (Nat.le_refl _) _
        clear hx
        by_cases h1 : (x.table.size : Int) > 200
        · go_wp2_with fail
          go_ret
          exact ⟨⟨true, rfl, (fun e => by cases e)⟩, KB.out.trans ((B1 _).mono KB.out.size)⟩
        · by_cases h2 : (x.old.length : Int) > 20
          · go_wp2_with fail
            go_ret
            exact ⟨⟨true, rfl, (fun e => by cases e)⟩, KB.out.trans ((B1 _).mono KB.out.size)⟩
          · by_cases h3 : (x.new.length : Int) > 20
            · go_wp2_with fail
              go_ret
              exact ⟨⟨true, rfl, (fun e => by cases e)⟩, KB.out.trans ((B1 _).mono KB.out.size)⟩
            · have BX : Kp (x.old.length ≤ 20 ∧ x.new.length ≤ 20) := ⟨by omega, by omega⟩
              go_wp2_with fail
              obtain ⟨w2, hw2⟩ : ∃ w2, w2 = wr.alloc (.cells #[.string x.table, .int .i64 x.id, .slice A2 x.old.length k2, .slice A3 x.new.length k3] 40) := ⟨_, rfl⟩
              have b2 : w2.cell? ⟨wr.heap.size, 2, none⟩ = some (.slice A2 x.old.length k2) := by rw [hw2]; simp
              have b3 : w2.cell? ⟨wr.heap.size, 3, none⟩ = some (.slice A3 x.new.length k3) := by rw [hw2]; simp
              have hB2 : Below wr.heap.size wr w2 := by rw [hw2]; exact B1 _
              have s2 : wr.heap.size < w2.heap.size := by rw [hw2]; simp
              rw [← hw2]
              have HB2 := put hB2
              have S2V : Kp (∀ W, Below w2.heap.size w2 W → Sl tVal (fun k => k < w2.heap.size) W (.slice A2 x.old.length k2) x.old) := ⟨fun W hb => ((R_parts KR.out).1.below (hB2.trans (hb.mono hB2.size))).mono (fun k hk => by have := KB.out.size; have := hB2.size; omega)⟩
              have S3V : Kp (∀ W, Below w2.heap.size w2 W → Sl tVal (fun k => k < w2.heap.size) W (.slice A3 x.new.length k3) x.new) := ⟨fun W hb => ((R_parts KR.out).2.below (hB2.trans (hb.mono hB2.size))).mono (fun k hk => by have := KB.out.size; have := hB2.size; omega)⟩
              clear hw2 hB2 x0 x1 x2 x3
              obtain ⟨B, hB⟩ : ∃ B, B = wr.heap.size := ⟨_, rfl⟩
              rw [← hB] at b2 b3 s2 ⊢
              have HBB := put hB
              clear hB
              go_region_held3 (fun w' => w'.cell? ⟨B, 2, none⟩ = some (.slice A2 x.old.length k2) ∧ w'.cell? ⟨B, 3, none⟩ = some (.slice A3 x.new.length k3)) (first | go_keep | exact ⟨f2, f3⟩ | exact ⟨g2, g3⟩)
                (first | (refine step_pushes tVal w2.heap.size rfl _ _ 30 55 _ 32 rfl Try.underlying30 infoVal rfl (by decide) (by decide) (.slice (some ⟨w2.heap.size, 0, none⟩) 0 0) (.slice A2 x.old.length k2) [] x.old (fun _ => True) (fun k => k < w2.heap.size) rfl rfl (S2V.out _ ((Below.refl _ _).alloc (Nat.le_refl _) _).drew) (fun k hk => ⟨trivial, fun e => by simp only [Value.ownBlock, Option.some.injEq] at e; omega⟩) (Own.lit _ _ _ _).drew (by simp) (by have := BX.out.1; simp only [List.length_nil]; omega) ?_; intro v1 w3 ho1 hg1 hat1; rw [List.nil_append] at ho1; obtain ⟨V1, c1, e1, _, _⟩ := ho1.form; subst e1; have hb3 : Below w2.heap.size w2 w3 := ((Below.refl _ _).alloc (Nat.le_refl _) _).drew.grown hg1 (by simp) (fun k hk => by simp only [Value.ownBlock, Option.some.injEq] at hk; omega); have f2 := (hb3.cell (p := ⟨B, 2, none⟩) s2).trans b2; have f3 := (hb3.cell (p := ⟨B, 3, none⟩) s2).trans b3; have HO1 := put ho1; have HB3 := put hb3; clear ho1 hg1 hat1 hb3) | (refine step_pushes tVal w2.heap.size rfl _ _ 30 55 _ 32 rfl Try.underlying30 infoVal rfl (by decide) (by decide) (.slice V1 x.old.length c1) (.slice A3 x.new.length k3) x.old x.new (fun _ => True) (fun k => k < w2.heap.size) rfl rfl (by first | exact S3V.out _ HB3.out | exact S3V.out _ HB3.out.drew) (fun k hk => ⟨trivial, fun e => by have := (HO1.out.lt k e.symm).1; omega⟩) (by first | exact HO1.out | exact HO1.out.drew) (by first | exact HB3.out.size | exact HB3.out.drew.size) (by have := BX.out; omega) ?_; intro v2 w4 ho2 hg2 hat2; obtain ⟨V2, c2, e2, _, _⟩ := ho2.form; subst e2; have hb4 : Below w2.heap.size w2 w4 := (by first | exact HB3.out.grown hg2 HB3.out.size (fun k hk => (HO1.out.lt k hk).1) | exact HB3.out.drew.grown hg2 HB3.out.drew.size (fun k hk => (HO1.out.lt k hk).1)); have g2 := (hb4.cell (p := ⟨B, 2, none⟩) s2).trans b2; have g3 := (hb4.cell (p := ⟨B, 3, none⟩) s2).trans b3; have HO2 := put ho2; have HB4 := put hb4; clear ho2 hg2 hat2 hb4))
              have hn4 : (x.old ++ x.new).length ≤ 140737488355328 := by have := BX.out; rw [List.length_append]; omega
              have KV : Kp (Sl tVal (fun _ => True) w4 (.slice V2 (x.old ++ x.new).length c2) (x.old ++ x.new)) := put (HO2.out.sl (fun _ _ => trivial) (fun _ _ => trivial) hn4)
              obtain ⟨n, hn⟩ : ∃ n, n = (x.old ++ x.new).length := ⟨_, rfl⟩
              have hnn : (x.old.length : Int) + (x.new.length : Int) = (n : Int) := by rw [hn, List.length_append]; omega
              rw [← hn] at KV ⊢
              have HNV := put hn
              have hn40 : n ≤ 40 := by have := BX.out; rw [hn, List.length_append]; omega
              clear hn
              generalize x.old ++ x.new = vs at *
              clear hn4 f2 f3 g2 g3 b2 b3
              go_wp2_with fail
              rw [hnn]
              clear hnn
              go_loopg [40] n (fun kx s40 wi => ∃ (k : Nat), s40 = .int .i64 k ∧ k ≤ n ∧ n - k ≤ kx ∧ Kp (Below w4.heap.size w4 wi))
              case atStart => exact ⟨0, rfl, Nat.zero_le _, Nat.le_refl _, put (Below.refl _ _)⟩
              case round =>
                obtain ⟨k, rfl, hk, hkx2, KBI⟩ := hrel
                by_cases hlt3 : k < n
                · have hlz3 : (k : Int) < (n : Int) := by omega
                  have k0 : (0 : Int) ≤ (k : Int) := by omega
                  obtain ⟨ad3, rfl, c0, c1', c2'⟩ := vals_get (KV.out.below KBI.out).row.1 k (by rw [← HNV.out]; exact hlt3)
                  have hb6 : ∀ o, Below w.heap.size w (wr.alloc o) := fun o => KB.out.trans ((HB2.out.trans ((HB4.out.trans ((KBI.out.trans (((Below.refl _ _).alloc (Nat.le_refl _) o).mono KBI.out.size)).mono HB4.out.size)).mono HB2.out.size)).mono KB.out.size)
                  have HB6 := put hb6
                  clear hb6
                  by_cases h4 : ((vs[k]'(by rw [← HNV.out]; exact hlt3)).s.size : Int) > 200
                  · go_wp2_with fail
                    go_ret
                    exact ⟨⟨true, rfl, (fun e => by cases e)⟩, HB6.out _⟩
                  · go_wp2_with fail
                    go_roundg (n - (k + 1))
                    case measure => omega
                    case rel => exact ⟨k + 1, by go_num, by omega, Nat.le_refl _, put (KBI.out.trans (((Below.refl _ _).alloc (Nat.le_refl _) _).mono KBI.out.size))⟩
                · have hlz3 : ¬ (k : Int) < (n : Int) := by omega
                  go_wp2_with fail
                  go_roundg (m - (i + 1))
                  case measure => omega
                  case rel =>
                    refine ⟨i + 1, by go_num, by omega, Nat.le_refl _, put ?_, put (KB.out.trans ((HB2.out.trans ((HB4.out.trans (KBI.out.mono HB4.out.size)).mono HB2.out.size)).mono KB.out.size))⟩
                    rw [take_one_more KX.out]
                    intro z hz
                    rcases List.mem_append.1 hz with hz | hz
                    · exact HI.out z hz
                    · rw [List.mem_singleton.1 hz]; exact BX.out
      · have hlz : ¬ (i : Int) < (m : Int) := by omega
        go_wp2
        go_ret
        obtain rfl : i = m := by omega
        have hk := HI.out
        rw [List.take_of_length_le (by rw [HM.out]; exact Nat.le_refl _)] at hk
        exact ⟨⟨false, rfl, fun _ => ⟨HG.out, hk⟩⟩, KB.out⟩

end Go.Proofs.Ytkfoknjflpklpaa.D
