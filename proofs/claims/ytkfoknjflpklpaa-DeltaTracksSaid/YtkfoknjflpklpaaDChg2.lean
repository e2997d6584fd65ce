/- changes: what ops change, one by one. -/
import Derived.Test.YtkfoknjflpklpaaDChg
import Derived.Test.YtkfoknjflpklpaaMem3
import Derived.Laws.IdiomStrings
import Derived.Deep.RegionHeldLaw
namespace Go.Proofs.Ytkfoknjflpklpaa.D
open Go Go.RowKit Go.Proofs.Ytkfoknjflpklpaa.Mem

theorem tmod_nat (a b : Nat) : ((a : Int)).tmod (b : Int) = ((a % b : Nat) : Int) := by rw [Int.ofNat_tmod]

theorem run_name (t : Nat) (ht : t < 3) (w : World) (g : Nat) (h0 : w.cell? ⟨g, 0, none⟩ = some (.int .u8 116)) (h1 : w.cell? ⟨g, 1, none⟩ = some (.int .u8 (IntKind.u8.wrap (48 + (t : Int))))) :
    (convert 110 9 (.slice (some ⟨g, 0, none⟩) 2 2)).run Try.prog w = .ok (.string (nameOf t)) w := by
  refine run_convert_bytes_back w 110 9 5 ⟨g, 0, none⟩ 2 [116, UInt8.ofNat (48 + t)] Try.underlying110 Try.underlying5 Try.underlying9 fun j hj => ?_
  rw [add_plain]
  have hb : IntKind.u8.wrap (48 + (t : Int)) = ((UInt8.ofNat (48 + t)).toNat : Int) := by
    rcases t with _ | _ | _ | t
    · decide
    · decide
    · decide
    · omega
  rcases j with _ | _ | j
  · simp [h0]
  · simp [h1, hb]
  · simp at hj; omega

theorem grown_of_below {w w' : World} {row : Option Nat} (h : Below w.heap.size w w') : w.grownBy w' row := ⟨h.os, h.tape, h.output, h.size, fun k hk _ => h.block k hk⟩
theorem grown_on {w w4 w7 : World} {b : Nat} {row : Option Nat} (h1 : w.grownBy w4 (some b)) (h2 : w4.grownBy w7 row) (hr : ∀ k, row = some k → w.heap.size ≤ k) : w.grownBy w7 (some b) :=
  ⟨h2.os.trans h1.os, h2.tape.trans h1.tape, h2.output.trans h1.output, Nat.le_trans h1.size h2.size, fun k hk hne => (h2.block k (Nat.lt_of_lt_of_le hk h1.size) (fun e => by have := hr k e.symm; omega)).trans (h1.block k hk hne)⟩

theorem wrap_small (j : Nat) (h : j < 1000) : IntKind.i64.wrap (j : Int) = (j : Int) := by
  simp [IntKind.wrap, IntKind.bits, IntKind.signed]
  omega

theorem chg_R {ok : Nat → Prop} {w : World} {t j : Nat} {f : Rs} {x : Ope} {v2 v3 : Value} (h : t = x.t % 3 ∧ j = x.i % 6) (h2 : Sl tVal ok w v2 (f t j)) (h3 : Sl tVal ok w v3 x.row) : tChg.R ok w (chgAt f x) [.string (nameOf t), .int .i64 (j : Int), v2, v3] := by
  obtain ⟨rfl, rfl⟩ := h
  exact ⟨v2, v3, rfl, h2, h3⟩

set_option maxHeartbeats 16000000 in
set_option maxRecDepth 100000 in
theorem changesCalls (N b n : Nat) (f : Rs) (v : Value) (xs : List Ope) (w : World) (hN : N ≤ b) (hM : MapIs (fun k => k < N) w b n f) (h : Sl tOpe (fun k => k < N) w v xs) (hl : xs.length ≤ 1000) (hn : n ≤ 1000) :
    Calls Try.prog 15 #[.map (some b), v] w fun e w' => ∃ vo, e = .returned vo ∧ Own tChg 40 (fun k => k < N) w' w.heap.size vo (chgsOf f xs) ∧ MapIs (fun k => k < N) w' b (n + xs.length) (runR f xs) ∧ w.grownBy w' (some b) := by
  obtain ⟨A, c, rfl, l1, l2, l3⟩ := h.shape
  have KS := put h
  obtain ⟨m, hm⟩ : ∃ m, m = xs.length := ⟨_, rfl⟩
  rw [← hm] at l1 l3 KS hl ⊢
  have HM := put hm
  have HL := put hl
  have HN := put (And.intro hN hn)
  have KM0 := put (And.intro hM (Nat.lt_of_le_of_lt hN hM.lt))
  clear h hm hM hl hN hn
  go_enter Try.func15, Try.ntmps15
  go_wp2_with fail
  go_loopg [5, 11] m (fun kx s5 s11 wr => ∃ (i : Nat) (Ao : Option Addr) (co : Nat), s5 = .slice Ao i co ∧ s11 = .int .i64 i ∧ i ≤ m ∧ m - i ≤ kx ∧ Kp (Own tChg 40 (fun k => k < N) wr w.heap.size (.slice Ao i co) (chgsOf f (xs.take i))) ∧ Kp (MapIs (fun k => k < N) wr b (n + i) (runR f (xs.take i))) ∧ Kp (w.grownBy wr (some b)))
  case atStart => exact ⟨0, none, 0, rfl, rfl, Nat.zero_le _, Nat.le_refl _, put (Own.nil _ _ _ _ _), put KM0.out.1, put ⟨rfl, rfl, rfl, Nat.le_refl _, fun _ _ _ => rfl⟩⟩
  case round =>
    obtain ⟨i, Ao, co, rfl, rfl, hi, hkx, KO, KM, KG⟩ := hrel
    by_cases hlt : i < m
    · have hlz : (i : Int) < (m : Int) := by omega
      have i0 : (0 : Int) ≤ (i : Int) := by omega
      have KSr : Kp (Sl tOpe (fun k => k < N) wr (.slice A m c) xs) := put (KS.out.grown KG.out (fun k hk e => by have := HN.out.1; simp only [Option.some.injEq] at e; omega))
      obtain ⟨ad, x, A2, k2, rfl, hx, x0, x1, x2, KR, hb1, hb2⟩ := opes_at KSr.out.row.1 i (by rw [← HM.out]; exact hlt)
      have KX := put hx
      obtain ⟨t, ht⟩ : ∃ t, t = x.t % 3 := ⟨_, rfl⟩
      obtain ⟨j, hj⟩ : ∃ j, j = x.i % 6 := ⟨_, rfl⟩
      have et : ((x.t : Int)).tmod 3 = (t : Int) := by rw [ht]; exact tmod_nat _ 3
      have ej : ((x.i : Int)).tmod 6 = (j : Int) := by rw [hj]; exact tmod_nat _ 6
      have ht3 : t < 3 := by rw [ht]; exact Nat.mod_lt _ (by decide)
      have hj6 : j < 6 := by rw [hj]; exact Nat.mod_lt _ (by decide)
      have HTJ := put (And.intro ht hj)
      clear hx ht hj
      go_wp2_with fail
      obtain ⟨w4, hw4⟩ : ∃ w4, w4 = (wr.alloc (.cells #[.int .u8 (x.t : Int), .int .u8 (x.i : Int), .slice A2 x.row.length k2] 109)).alloc (.cells #[.int .u8 (t : Int), .int .u8 (j : Int)] 29) := ⟨_, rfl⟩
      have hB4 : Below wr.heap.size wr w4 := by rw [hw4]; exact balloc (balloc (Below.refl _ _) _) _
      obtain ⟨B, hB⟩ : ∃ B, B = wr.heap.size := ⟨_, rfl⟩
      have f2 : w4.cell? ⟨B, 2, none⟩ = some (.slice A2 x.row.length k2) := by rw [hw4, hB]; simp
      have g0 : w4.cell? ⟨B + 1, 0, none⟩ = some (.int .u8 (t : Int)) := by rw [hw4, hB]; simp
      have g1 : w4.cell? ⟨B + 1, 1, none⟩ = some (.int .u8 (j : Int)) := by rw [hw4, hB]; simp
      have s4 : B + 1 < w4.heap.size := by rw [hw4, hB]; simp
      rw [← hw4, ← hB]
      have HB4 := put (And.intro hB4 hB)
      have KM4 := put (KM.out.below hB4)
      have KO4 := put (KO.out.below hB4)
      have KR4 := put (KR.out.below hB4)
      have hb4 : b < w4.heap.size := KM4.out.lt
      obtain ⟨v3, hs3, hlook⟩ := KM4.out.look2 t j ht3 hj6
      obtain ⟨A3, k3, rfl, _⟩ := hs3.shape
      have KS3 := put hs3
      have KLK := put hlook
      have HNAME : Kp (∀ y, y = nameOf t → tChg.R (fun k => k < N ∧ some k ≠ (Value.slice Ao i co).ownBlock) w4 (chgAt (runR f (xs.take i)) x) [.string y, .int .i64 (j : Int), .slice A3 (runR f (xs.take i) t j).length k3, .slice A2 x.row.length k2]) := ⟨fun y hy => by
        subst hy
        have hne : ∀ k, k < N → k < N ∧ some k ≠ (Value.slice Ao i co).ownBlock := fun k hk => ⟨hk, fun e => by have := (KO.out.lt k e.symm).1; have := KM0.out.2; omega⟩
        exact chg_R HTJ.out (KS3.out.mono hne) (KR4.out.mono hne)⟩
      generalize runR f (xs.take i) t j = rr at *
      obtain ⟨cc, hcc⟩ : ∃ cc, cc = chgAt (runR f (xs.take i)) x := ⟨_, rfl⟩
      rw [← hcc] at HNAME
      have HCC := put hcc
      clear hcc
      clear hB4 hB hw4 x0 x1 x2 hs3 hlook et ej
      have hli : (chgsOf f (xs.take i)).length = i := by rw [chgs_length, List.length_take, ← HM.out]; omega
      have HLI := put hli
      clear hli
      generalize hOUT : chgsOf f (xs.take i) = out at *
      have HOUT := put hOUT
      clear hOUT
      have hcv := run_name t ht3
      have wj : IntKind.i64.wrap (j : Int) = (j : Int) := wrap_small j (by omega)
      have HSZ : Kp (w.heap.size ≤ w4.heap.size) := put (Nat.le_trans KG.out.size HB4.out.1.size)
      have HNE : Kp (some B ≠ (Value.slice Ao i co).ownBlock ∧ some (B + 1) ≠ (Value.slice Ao i co).ownBlock ∧ some b ≠ (Value.slice Ao i co).ownBlock ∧ ∀ k, k < N → some k ≠ (Value.slice Ao i co).ownBlock) := put ⟨fun e => by have := (KO.out.lt _ e.symm).2; have := HB4.out.2; omega, fun e => by have := (KO.out.lt _ e.symm).2; have := HB4.out.2; omega, fun e => by have := (KO.out.lt _ e.symm).1; have := KM0.out.1.lt; omega, fun k hk e => by have := (KO.out.lt _ e.symm).1; have := KM0.out.2; omega⟩
      have hlk0 : ∀ o, (Instr.lookup 26 (.map (some b)) (.agg #[.int .u8 (t : Int), .int .u8 (j : Int)]) false).run Try.prog (w4.alloc o).drew = .ok (.slice A3 rr.length k3) (w4.alloc o).drew := fun o => KLK.out _ _ (Below.block (B := w4.heap.size) ((Below.refl _ w4).alloc (Nat.le_refl _) o).drew b hb4) rfl
      have hlk1 : (Instr.lookup 26 (.map (some b)) (.agg #[.int .u8 (t : Int), .int .u8 (j : Int)]) false).run Try.prog w4.drew = .ok (.slice A3 rr.length k3) w4.drew := KLK.out _ _ rfl rfl
      go_region_held_law (fun w' => w'.cell? ⟨B, 2, none⟩ = some (.slice A2 x.row.length k2) ∧ w'.cell? ⟨B + 1, 0, none⟩ = some (.int .u8 (t : Int)) ∧ w'.cell? ⟨B + 1, 1, none⟩ = some (.int .u8 (j : Int))) (first | go_keep | exact ⟨f2, g0, g1⟩ | exact ⟨i2, j0, j1⟩)
        (first | (refine step_push1 tChg w.heap.size rfl _ _ 27 40 _ 72 rfl Try.underlying27 infoChg rfl (by decide) (by decide) (.slice Ao i co) _ out cc _ (fun k => k < N) rfl rfl (by simp only [heap_alloc_get, heap_drew_get] <;> simp <;> done) (Ty.below (HNAME.out _ rfl) (by (repeat (first | with_reducible exact (Below.refl _ _) | with_reducible apply Below.drew | with_reducible refine balloc ?_ _)))) (KO4.out.below (by (repeat (first | with_reducible exact (Below.refl _ _) | with_reducible apply Below.drew | with_reducible refine balloc ?_ _)))) (Nat.le_trans HSZ.out (bsize (w := w4) (by (repeat (first | with_reducible exact (Below.refl _ _) | with_reducible apply Below.drew | with_reducible refine balloc ?_ _))))) (by rw [HLI.out]; have := HL.out; omega) ?_; intro v1 w7 ho hg hat; obtain ⟨V1, c1, e1, _, _⟩ := ho.form; rw [List.length_append, HLI.out, List.length_singleton] at e1; subst e1; have hg7 : w4.grownBy w7 (Value.slice Ao i co).ownBlock := World.grownBy.trans (grown_of_below (by (repeat (first | with_reducible exact (Below.refl _ _) | with_reducible apply Below.drew | with_reducible refine balloc ?_ _)))) hg; have i2 : w7.cell? ⟨B, 2, none⟩ = some (.slice A2 x.row.length k2) := (World.cell?_of_block (a := ⟨B, 2, none⟩) (hg7.block B (Nat.lt_of_succ_lt s4) HNE.out.1)).trans f2; have j0 : w7.cell? ⟨B + 1, 0, none⟩ = some (.int .u8 (t : Int)) := (World.cell?_of_block (a := ⟨B + 1, 0, none⟩) (hg7.block (B + 1) s4 HNE.out.2.1)).trans g0; have j1 : w7.cell? ⟨B + 1, 1, none⟩ = some (.int .u8 (j : Int)) := (World.cell?_of_block (a := ⟨B + 1, 1, none⟩) (hg7.block (B + 1) s4 HNE.out.2.1)).trans g1; have OW := put ho; have HG7 := put hg7; clear ho hg hat hg7))
      all_goals
        have KM7 : Kp (MapIs (fun k => k < N) w7 b (n + i) (runR f (xs.take i))) := put (KM4.out.kept (fun k hk hlt => HG7.out.block k hlt (by rcases hk with hk | rfl; exact HNE.out.2.2.2 k hk; exact HNE.out.2.2.1)))
        have KR7 : Kp (Sl tVal (fun k => k < N) w7 (.slice A2 x.row.length k2) x.row) := put (KR4.out.grown HG7.out (fun k hk => HNE.out.2.2.2 k hk))
        go_wp2_with (at_mapUpdate; refine wpList_store rfl _ _ _ rfl (b := b) (n := n + i) (f := runR f (xs.take i)) rfl KM7.out (fun k hk e => by have := HN.out.1; omega) (by have := HN.out.2; have := HL.out; simp only [maxLen]; omega) rfl rfl t j ht3 hj6 rfl KR7.out ?_; intro w8 hm8 hg8; have HM8 := put hm8; have HG8 := put hg8; clear hm8 hg8)
        go_roundg (m - (i + 1))
        case measure => omega
        case rel =>
          have e1 : chgsOf f (xs.take (i + 1)) = out ++ [cc] := by rw [take_one_more KX.out, chgs_append, HOUT.out, HCC.out]; rfl
          have e2 : runR f (xs.take (i + 1)) = fun x_1 y => if x_1 = t ∧ y = j then x.row else runR f (xs.take i) x_1 y := by
            rw [take_one_more KX.out, runR_append]
            obtain ⟨h1, h2⟩ := HTJ.out
            subst h1; subst h2
            rfl
          refine ⟨i + 1, _, _, rfl, by go_num, by omega, Nat.le_refl _, put ?_, put ?_, put ?_⟩
          · rw [e1]; exact OW.out.move (fun k hk => HG8.out.block k (OW.out.lt k hk).2 (fun e => by have := (OW.out.lt k hk).1; have := KM0.out.1.lt; simp only [Option.some.injEq] at e; omega)) (fun k hk _ hlt => HG8.out.block k hlt (fun e => by have := HN.out.1; simp only [Option.some.injEq] at e; omega))
          · rw [e2]; exact HM8.out
          · exact World.grownBy.trans (grown_on (World.grownBy.trans KG.out (grown_of_below HB4.out.1)) HG7.out (fun k hk => (KO.out.lt k hk.symm.symm).1)) HG8.out
    · have hlz : ¬ (i : Int) < (m : Int) := by omega
      go_wp2
      go_ret
      obtain rfl : i = m := by omega
      have hk := KO.out
      have hk2 := KM.out
      rw [List.take_of_length_le (by rw [HM.out]; exact Nat.le_refl _)] at hk hk2
      exact ⟨_, rfl, hk, hk2, KG.out⟩
end Go.Proofs.Ytkfoknjflpklpaa.D
