/- The law DeltaTurns: its walk. -/
import Derived.Test.YtkfoknjflpklpaaDTurnsR
import Derived.Test.YtkfoknjflpklpaaDSmall
import Derived.Test.YtkfoknjflpklpaaDRefSame
import Derived.Test.YtkfoknjflpklpaaDAwake
namespace Go.Proofs.Ytkfoknjflpklpaa.D
open Go Go.RowKit Go.Sort Go.Proofs.Ytkfoknjflpklpaa.Mem Go.Proofs.Ytkfoknjflpklpaa.Stab

set_option maxHeartbeats 16000000 in
set_option maxRecDepth 100000 in
theorem deltaTurnsCalls (v : Value) (xs : List Ope) (w : World) (h : Sl tOpe (fun _ => True) w v xs) :
    Calls Try.prog 5 #[v] w fun e w' => e = .returned (.bool true) ∧ Below w.heap.size w w' := by
  obtain ⟨A, c, rfl, l1, l2, l3⟩ := h.shape
  have KS : Kp (Sl tOpe (fun k => k < w.heap.size) w (.slice A xs.length c) xs) := put (h.bnd.mono (fun k hk => hk.2))
  obtain ⟨m, hm⟩ : ∃ m, m = xs.length := ⟨_, rfl⟩
  rw [← hm] at l1 l3 KS ⊢
  have HM := put hm
  clear h hm
  have hmm := @run_makeMap Try.prog
  go_enter Try.func5, Try.ntmps5
  go_wp2_with (first | (go_at_call 13; refine (awakeCalls _).mono ?_; rintro e w1 ⟨rfl, hb1⟩; have HB1 := put hb1; clear hb1))
  refine (fewCalls _ _ xs w1 (KS.out.below HB1.out)).mono ?_
  rintro e w2 ⟨⟨b, rfl, hg⟩, hb2⟩
  have HB2 := put (HB1.out.trans (hb2.mono HB1.out.size))
  clear hb2
  have HG := put hg
  clear hg
  cases b with
  | false =>
    go_wp2_with fail
    go_ret
    exact ⟨rfl, HB2.out⟩
  | true =>
    have HX := put (HG.out rfl)
    clear HG
    go_wp2_with fail
    have HBM : Kp (Below w.heap.size w (w2.alloc (.map #[] 0))) := put (balloc HB2.out _)
    refine (changesCalls w.heap.size w2.heap.size 0 noRows _ xs (w2.alloc (.map #[] 0)) HB2.out.size (MapIs.made _ w2) (KS.out.below HBM.out) (by have := HX.out.1; omega) (Nat.zero_le _)).mono ?_
    rintro e w4 ⟨vo, rfl, ho, _, hg4⟩
    have HB4 := put (HBM.out.grown hg4 (by have := HB2.out.size; simp; omega) (fun k hk => by have := HB2.out.size; simp only [Option.some.injEq] at hk; omega))
    have hcl : (chgsOf noRows xs).length = m := by rw [chgs_length, HM.out]
    have HCS := put (chgs_small xs noRows noRows_small HX.out.2).1
    have hok4 : ∀ k, k < w.heap.size → k < w4.heap.size := fun k hk => Nat.lt_of_lt_of_le hk HB4.out.size
    have P1 : Kp (Sl tChg (fun k => k < w4.heap.size) w4 vo (chgsOf noRows xs)) := put (ho.sl (fun k hk => (ho.lt k hk).2) hok4 (by rw [hcl]; exact l3))
    clear hok4
    have m60 : m ≤ 60 := by rw [HM.out]; exact HX.out.1
    obtain ⟨V1, c1, rfl, c11, c12⟩ := ho.form
    rw [hcl] at c11 P1 ⊢
    have HCL := put hcl
    clear ho hg4 hcl hmm
    generalize hcs : chgsOf noRows xs = cs at *
    clear hcs
    go_wp2_with fail
    refine (netCalls _ _ cs w4 P1.out (by rw [HCL.out]; omega) (fun x hx => by have := HCS.out x hx; omega)).mono ?_
    rintro e w5 ⟨vo, rfl, ho, hb5⟩
    have HB5 := put (HB4.out.trans (hb5.mono HB4.out.size))
    have P1' := put (P1.out.below hb5)
    have HS45 : Kp (w4.heap.size ≤ w5.heap.size) := put hb5.size
    have HB4S : Kp (w.heap.size ≤ w4.heap.size) := put HB4.out.size
    have hnl : (net cs).length ≤ 60 := Nat.le_trans (net_le cs) (by rw [HCL.out]; exact m60)
    have P2 : Kp (Sl tChg (fun _ => True) w5 vo (net cs)) := put (ho.sl (fun _ _ => trivial) (fun _ _ => trivial) (by omega))
    obtain ⟨V2, c2, rfl, c21, c22⟩ := ho.form
    obtain ⟨n, hn⟩ : ∃ n, n = (net cs).length := ⟨_, rfl⟩
    rw [← hn] at hnl c21 P2 ⊢
    have HN := put hn
    clear ho hb5 hn P1
    go_wp2_with fail
    go_loopg [20] n (fun kx s20 wr => ∃ (i : Nat), s20 = .int .i64 i ∧ i ≤ n ∧ n - i ≤ kx ∧ Kp (Below w.heap.size w wr) ∧ Kp (Below w5.heap.size w5 wr))
    case atStart => exact ⟨0, rfl, Nat.zero_le _, Nat.le_refl _, HB5, put (Below.refl _ _)⟩
    case round =>
      clear HB1 HB2 HB4 HB5 HBM
      obtain ⟨i, rfl, hi, hkx, KB, KB5⟩ := hrel
      by_cases hlt : i < n
      · have hlz : (i : Int) < (n : Int) := by omega
        have i0 : (0 : Int) ≤ (i : Int) := by omega
        have hlr : Sl tChg (fun k => k < wr.heap.size) wr (.slice V2 n c2) (net cs) := (P2.out.elder KB5.out).mono (fun k hk => Nat.lt_of_lt_of_le hk.2 KB5.out.size)
        obtain ⟨ad, rfl⟩ : ∃ ad, V2 = some ad := by
          obtain ⟨ad, _, h, _⟩ := hlr.row.1.get i (by rw [← HN.out]; exact hlt)
          exact ⟨ad, h⟩
        have HLR := put hlr
        clear hlr
        go_wp2_with fail
        refine turnsRow _ _ _ _ _ _ _ _ _ _ _ _ _ _ _ _ _ _ _ _ _ _ _ _ _ _ _ _ _ _ _ _ _ _ _ _ _ _ _ _ _ _ _ _ _ _ _ _ _ _ _ _ _ _ _ _ _ _ _ _ _ _ _ _ _ _ _ _ _ _ _ _ _ _ _ _ _ _ _ _ _ _ _ _ _ _ _ _ _ _ _ _ _ _ _ _ _ _ _ _ _ _ _ _ _ _ _ _ _ _ _ _ n i c2 ad (net cs) wr _ HLR.out HN.out hlt hnl (net_rising cs) (fun y hy => ((mem_net _ _).1 hy).1) ?_ _ rfl
        intro r23 r24 r25 r26 r27 r28 r29 r30 r31 r32 r33 r34 r35 r36 r37 r38 r39 r40 r41 r42 r43 r44 r45 r46 r47 r48 r49 r50 r51 r52 r53 r54 r55 r56 r57 r58 r59 r60 r61 r62 r63 r64 r65 r66 r67 r68 r69 r70 r71 r72 r73 w6 hb6
        have HB6 := put hb6
        clear hb6
        go_wp2_with fail
        go_roundg (n - (i + 1))
        case measure => omega
        case rel => exact ⟨i + 1, by go_num, by omega, Nat.le_refl _, put (KB.out.trans (HB6.out.mono KB.out.size)), put (KB5.out.trans (HB6.out.mono KB5.out.size))⟩
      · have hlz : ¬ (i : Int) < (n : Int) := by omega
        have hmn : (cs ++ []).length = m := by rw [List.append_nil]; exact HCL.out
        have m0 : (0 : Int) ≤ (m : Int) := by omega
        have HB13 : Kp (Below wr.heap.size wr (wr.alloc (.cells #[] 40))) := put (balloc (Below.refl _ _) _)
        have P1w := put ((P1'.out.below KB5.out).below HB13.out)
        have HO0 : Kp (Own tChg 40 (fun k => k < w4.heap.size) (wr.alloc (.cells #[] 40)) wr.heap.size (.slice (some ⟨wr.heap.size, 0, none⟩) 0 0) []) := put (Own.lit _ _ _ _)
        have S45 : Kp (w4.heap.size ≤ wr.heap.size) := put (Nat.le_trans HS45.out KB5.out.size)
        go_wp2_with (first | (at_builtin; refine wpList_pushes tChg wr.heap.size rfl _ _ 27 40 _ 72 rfl Try.underlying27 infoChg rfl (by decide) (by decide) (.slice (some ⟨wr.heap.size, 0, none⟩) 0 0) (.slice V1 m c1) [] cs (fun k => k < w4.heap.size) (fun k => k < w4.heap.size) rfl rfl P1w.out (fun k hk => ⟨hk, fun e => by have := S45.out; simp only [Value.ownBlock, Option.some.injEq] at e; omega⟩) HO0.out (by simp) (by rw [HCL.out]; simp only [List.length_nil]; omega) ?_; intro v1 w7 ho hg hat; rw [List.nil_append] at ho; obtain ⟨V7, c7, e7, _, _⟩ := ho.form; rw [HCL.out] at e7; subst e7; have hb7 : Below w.heap.size w w7 := (KB.out.trans (HB13.out.mono KB.out.size)).grown hg (by have := KB.out.size; simp; omega) (fun k hk => by have := KB.out.size; simp only [Value.ownBlock, Option.some.injEq] at hk; omega); have hb75 : Below w5.heap.size w5 w7 := (KB5.out.trans (HB13.out.mono KB5.out.size)).grown hg (by have := KB5.out.size; simp; omega) (fun k hk => by have := KB5.out.size; simp only [Value.ownBlock, Option.some.injEq] at hk; omega); have HB7 := put hb7; have HB75 := put hb75; have OW := put (ho.lower (base' := w5.heap.size) KB5.out.size); clear ho hg hat hb7 hb75))
        clear hmn m0 KB HB13 P1w HO0 hlz
        have KP := put P1'.out
        have S45' := put HS45.out
        clear P1'
        go_loopg [6, 7] m (fun kx s6 s7 wr => ∃ (r : Nat) (z : Int) (A8 : Option Addr) (L c8 : Nat), s6 = .slice A8 L c8 ∧ s7 = .int .i64 z ∧ z = (r : Int) - 1 ∧ r ≤ m ∧ r ≤ kx ∧ Kp (L = m + (m - r)) ∧ Kp (Own tChg 40 (fun k => k < w4.heap.size) wr w5.heap.size (.slice A8 L c8) (cs ++ (cs.drop r).reverse.map Chg.turned)) ∧ Kp (Below w.heap.size w wr) ∧ Kp (Below w5.heap.size w5 wr))
        case atStart => exact ⟨m, _, _, m, _, rfl, rfl, rfl, Nat.le_refl _, Nat.le_refl _, put (by omega), put (by rw [List.drop_of_length_le (by rw [HCL.out]; exact Nat.le_refl _)]; simpa using OW.out), HB7, HB75⟩
        case round =>
          clear OW HB7 HB75 KB5
          obtain ⟨r, z, A8, L, c8, rfl, rfl, hz, hr, hkx, HL, KO, KB, KB5⟩ := hrel
          cases r with
          | zero =>
            obtain rfl : z = -1 := by omega
            have KN := put (net_turned cs)
            have hln : (cs ++ (cs.drop 0).reverse.map Chg.turned).length = m + m := by rw [List.drop_zero, List.length_append, List.length_map, List.length_reverse, HCL.out]
            have HLN := put hln
            have KR : Kp (∀ x ∈ cs ++ (cs.drop 0).reverse.map Chg.turned, x.old.length ≤ 1000 ∧ x.new.length ≤ 1000) := put (fun x hx => by
              rw [List.drop_zero] at hx
              rcases List.mem_append.1 hx with hx | hx
              · have := HCS.out x hx; omega
              · obtain ⟨y, hy, rfl⟩ := List.mem_map.1 hx
                have := HCS.out y (List.mem_reverse.1 hy)
                exact ⟨by show y.new.length ≤ 1000; omega, by show y.old.length ≤ 1000; omega⟩)
            have KS8 : Kp (Sl tChg (fun _ => True) wr (.slice A8 L c8) (cs ++ (cs.drop 0).reverse.map Chg.turned)) := put (KO.out.sl (fun _ _ => trivial) (fun _ _ => trivial) (by rw [hln]; omega))
            clear hln hz KO HL
            go_wp2_with fail
            refine (netCalls _ _ _ wr KS8.out (by rw [HLN.out]; omega) KR.out).mono ?_
            rintro e w9 ⟨vo, rfl, ho, hb9⟩
            rw [List.drop_zero, KN.out] at ho
            obtain ⟨E1, d1, rfl, _, _⟩ := ho.form
            have KB9 := put (KB.out.trans (hb9.mono KB.out.size))
            clear ho hb9
            go_wp2_with fail
            go_ret
            exact ⟨rfl, KB9.out⟩
          | succ q =>
            obtain rfl : z = (q : Int) := by omega
            have q0 : (0 : Int) ≤ (q : Int) := by omega
            have qm : (q : Int) < (m : Int) := by omega
            obtain ⟨ad, y, A2, k2, A3, k3, rfl, hy, y0, y1, y2, y3, KR, hok⟩ := chgs_at ((KP.out.below KB5.out).row.1) q (by rw [HCL.out]; omega)
            have hA : ad.block < wr.heap.size := by have := S45'.out; have := KB5.out.size; omega
            have HOK := put hok
            have HTR : Kp (cs ++ (cs.drop q).reverse.map Chg.turned = (cs ++ (cs.drop (q + 1)).reverse.map Chg.turned) ++ [y.turned]) := put (by
              have hlt : q < cs.length := by rw [HCL.out]; omega
              rw [List.drop_eq_getElem_cons hlt, (List.getElem?_eq_some_iff.1 hy).2, List.reverse_cons, List.map_append, List.append_assoc]
              rfl)
            have HP : Kp (tChg.R (fun k => k < w4.heap.size ∧ some k ≠ (Value.slice A8 L c8).ownBlock) wr y.turned [.string y.table, .int .i64 y.id, .slice A3 y.new.length k3, .slice A2 y.old.length k2]) := put ⟨_, _, rfl, ((R_parts KR.out).2.mono (fun k hk => ⟨hk, fun e => by have := (KO.out.lt k e.symm).1; have := S45'.out; omega⟩)), ((R_parts KR.out).1.mono (fun k hk => ⟨hk, fun e => by have := (KO.out.lt k e.symm).1; have := S45'.out; omega⟩))⟩
            have HNE : Kp (some ad.block ≠ (Value.slice A8 L c8).ownBlock) := put (fun e => by have := (KO.out.lt _ e.symm).1; have := S45'.out; omega)
            have HLN : Kp ((cs ++ (cs.drop (q + 1)).reverse.map Chg.turned).length = L) := put (by rw [HL.out, List.length_append, List.length_map, List.length_reverse, List.length_drop, HCL.out])
            have HL2 : Kp (L ≤ 200) := put (by rw [HL.out]; omega)
            have HL3 : Kp (L + 1 = m + (m - q)) := put (by rw [HL.out]; omega)
            generalize cs ++ (cs.drop (q + 1)).reverse.map Chg.turned = out at *
            clear hy hok hz HL
            go_wp2_with fail
            go_region_held3 (fun w' => w'.cell? (ad.add (q * 4)) = some (.string y.table) ∧ w'.cell? ⟨(ad.add (q * 4)).block, (ad.add (q * 4)).off + 1, none⟩ = some (.int .i64 y.id) ∧ w'.cell? ⟨(ad.add (q * 4)).block, (ad.add (q * 4)).off + 2, none⟩ = some (.slice A2 y.old.length k2) ∧ w'.cell? ⟨(ad.add (q * 4)).block, (ad.add (q * 4)).off + 3, none⟩ = some (.slice A3 y.new.length k3)) (first | go_keep | exact ⟨y0, y1, y2, y3⟩ | exact ⟨d0, d1, d2, d3⟩)
              (first | (refine step_push1 tChg w5.heap.size rfl _ _ 27 40 _ 72 rfl Try.underlying27 infoChg rfl (by decide) (by decide) (.slice A8 L c8) _ out y.turned _ (fun k => k < w4.heap.size) rfl rfl (by simp only [heap_alloc_get, heap_drew_get] <;> simp <;> done) (Ty.below HP.out (by (repeat (first | with_reducible exact (Below.refl _ _) | with_reducible apply Below.drew | with_reducible refine balloc ?_ _)))) (KO.out.below (by (repeat (first | with_reducible exact (Below.refl _ _) | with_reducible apply Below.drew | with_reducible refine balloc ?_ _)))) (Nat.le_trans KB5.out.size (bsize (w := wr) (by (repeat (first | with_reducible exact (Below.refl _ _) | with_reducible apply Below.drew | with_reducible refine balloc ?_ _))))) (by rw [HLN.out]; have := HL2.out; omega) ?_; intro v1 w7 ho hg hat; obtain ⟨V9, c9, e1, _, _⟩ := ho.form; rw [List.length_append, HLN.out, List.length_singleton] at e1; subst e1; have hg7 : wr.grownBy w7 (Value.slice A8 L c8).ownBlock := World.grownBy.trans (grown_of_below (by (repeat (first | with_reducible exact (Below.refl _ _) | with_reducible apply Below.drew | with_reducible refine balloc ?_ _)))) hg; have hbl : w7.heap[(ad.add (q * 4)).block]? = wr.heap[(ad.add (q * 4)).block]? := (by rw [add_block]; exact hg7.block _ hA HNE.out); have d0 := (World.cell?_of_block (a := ad.add (q * 4)) hbl).trans y0; have d1 := (World.cell?_of_block (a := ⟨(ad.add (q * 4)).block, (ad.add (q * 4)).off + 1, none⟩) hbl).trans y1; have d2 := (World.cell?_of_block (a := ⟨(ad.add (q * 4)).block, (ad.add (q * 4)).off + 2, none⟩) hbl).trans y2; have d3 := (World.cell?_of_block (a := ⟨(ad.add (q * 4)).block, (ad.add (q * 4)).off + 3, none⟩) hbl).trans y3; have OW := put ho; have HG7 := put hg7; clear ho hg hat hg7 hbl))
            all_goals
              go_wp2_with fail
              go_roundg q
              case measure => omega
              case rel => exact ⟨q, _, _, L + 1, _, rfl, rfl, by go_num, by omega, Nat.le_refl _, HL3, put (by rw [HTR.out]; exact OW.out), put (KB.out.grown HG7.out KB.out.size (fun k hk => by have := (KO.out.lt k hk).1; have := S45'.out; have := HB4S.out; omega)), put (KB5.out.grown HG7.out KB5.out.size (fun k hk => (KO.out.lt k hk).1))⟩
end Go.Proofs.Ytkfoknjflpklpaa.D
