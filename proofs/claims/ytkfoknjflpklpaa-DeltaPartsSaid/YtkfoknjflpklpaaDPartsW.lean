/- The law DeltaParts: its walk. -/
import Derived.Test.YtkfoknjflpklpaaDSmall
namespace Go.Proofs.Ytkfoknjflpklpaa.D
open Go Go.RowKit Go.Sort Go.Proofs.Ytkfoknjflpklpaa.Mem Go.Proofs.Ytkfoknjflpklpaa.Stab

theorem slA {α : Type} {d : Ty α} {E Wb b : Nat} {w : World} {v : Value} {l : List α} (h : Own d E (fun k => Wb ≤ k) w Wb v l) (hb : b < Wb) (hl : l.length ≤ 140737488355328) : Sl d (fun k => k ≠ b) w v l :=
  h.sl (fun k hk e => by have := (h.lt k hk).1; omega) (fun k hk e => by omega) hl
theorem slB {α : Type} {d : Ty α} {E Wb : Nat} {ok : Nat → Prop} {w W : World} {v : Value} {l : List α} (h : Own d E ok w Wb v l) (hl : l.length ≤ 140737488355328) (hb : Below w.heap.size w W) : Sl d (fun k => k ≠ w.heap.size) W v l :=
  (((h.sl (ok' := fun _ => True) (fun _ _ => trivial) (fun _ _ => trivial) hl).elder hb)).mono (fun k hk e => by have := hk.2; omega)

section
variable {P : Program} {α : Type} {ops : Array Oper} {o : Oper} {a : Act} {K : Act → World → Prop} {Q : Exit → Act → World → Prop} {E : Prop} {W : World}
/-- append(T{}, ys...) in a drawn region. -/
theorem step_pushes0 (d : Ty α) (base : Nat) (hgd : o.guard = none) (s x : Operand) (t e : TypeId) (z : Value) (bytes : Nat)
    (ho : o.op = .call { callee := .builtin .append, args := #[s, x], argTypes := #[t, t] })
    (ht : P.underlying t = some (.slice e)) (hinfo : (P.info? e).map (fun i => (i.zero, i.size, i.bytes)) = some (some z, d.sz, bytes)) (hz : z.cells.size = d.sz) (hs0 : 0 < d.sz) (hb0 : 0 < bytes)
    (b : Nat) (u : Value) (ys : List α) (hs : a.eval s = .slice (some ⟨b, 0, none⟩) 0 0) (hx : a.eval x = u)
    (hb : W.heap[b]? = some (.cells #[] e (0, 0))) (hbb : base ≤ b) (HS : Sl d (fun k => k ≠ b) W u ys) (hbase : base ≤ W.heap.size) (hl : (([] : List α).length + ys.length) * bytes ≤ 140737488355328)
    (h : ∀ v1 w1, Own d e (fun _ => True) w1 base v1 ys → W.grownBy w1 (some b) → (v1.ownBlock = some b ∨ ∃ b, v1.ownBlock = some b ∧ W.heap.size ≤ b) → K (a.put o.dst v1) w1) :
    if Region.wanted o (yielded ops a.tmps) = true then Oper.wp P o a W K Q else E :=
  step_pushes d base hgd s x t e z bytes ho ht hinfo hz hs0 hb0 (.slice (some ⟨b, 0, none⟩) 0 0) u [] ys (fun _ => True) (fun k => k ≠ b) hs hx HS (fun k hk => ⟨trivial, fun e => hk (by simpa [Value.ownBlock] using e)⟩) (Own.lit' d hb hbb) hbase hl h
end

theorem net_rows {l : List Chg} (h : ∀ c ∈ l, c.old.length ≤ 20 ∧ c.new.length ≤ 20) : ∀ c ∈ net l, c.old.length ≤ 20 ∧ c.new.length ≤ 20 := by
  intro c hc
  obtain ⟨_, h1, h2⟩ := (mem_net l c).1 hc
  obtain ⟨x, hx, e1⟩ := Option.map_eq_some_iff.1 h1
  obtain ⟨y, hy, e2⟩ := Option.map_eq_some_iff.1 h2
  have m1 := (List.mem_filter.1 (List.mem_of_mem_head? hx)).1
  have m2 := (List.mem_filter.1 (List.mem_of_getLast? hy)).1
  rw [← e1, ← e2]
  exact ⟨(h x m1).1, (h y m2).2⟩

set_option maxHeartbeats 16000000 in
set_option maxRecDepth 100000 in
theorem deltaPartsCalls (v : Value) (q : Nat) (xs : List Ope) (w : World) (h : Sl tOpe (fun _ => True) w v xs) (hq : q < 256) :
    Calls Try.prog 4 #[v, .int .u8 (q : Int)] w fun e w' => e = .returned (.bool true) ∧ Below w.heap.size w w' := by
  obtain ⟨A, c, rfl, l1, l2, l3⟩ := h.shape
  have KS : Kp (Sl tOpe (fun k => k < w.heap.size) w (.slice A xs.length c) xs) := put (h.bnd.mono (fun k hk => hk.2))
  obtain ⟨m, hm⟩ : ∃ m, m = xs.length := ⟨_, rfl⟩
  rw [← hm] at l1 l3 KS ⊢
  have HM := put hm
  clear h hm
  have hmm := @run_makeMap Try.prog
  go_enter Try.func4, Try.ntmps4
  go_wp2_with (first | (go_at_call 13; refine (awakeCalls _).mono ?_; rintro e w1 ⟨rfl, hb1⟩; have HB1 := put hb1; clear hb1))
  refine (fewCalls _ _ xs w1 (KS.out.below HB1.out)).mono ?_
  rintro e w2 ⟨⟨b, rfl, hg⟩, hb2⟩
  have HB2 := put (HB1.out.trans (hb2.mono HB1.out.size))
  clear hb2
  have HG := put hg
  clear hg
  cases b with
  | false =>
    go_wp2_with fail
    go_ret
    exact ⟨rfl, HB2.out⟩
  | true =>
    have HX := put (HG.out rfl)
    clear HG
    go_wp2_with fail
    have HBM : Kp (Below w.heap.size w (w2.alloc (.map #[] 0))) := put (balloc HB2.out _)
    refine (changesCalls w.heap.size w2.heap.size 0 noRows _ xs (w2.alloc (.map #[] 0)) HB2.out.size (MapIs.made _ w2) (KS.out.below HBM.out) (by have := HX.out.1; omega) (Nat.zero_le _)).mono ?_
    rintro e w5 ⟨vo, rfl, ho, _, hg4⟩
    have HB5 := put (HBM.out.grown hg4 (by have := HB2.out.size; simp; omega) (fun k hk => by have := HB2.out.size; simp only [Option.some.injEq] at hk; omega))
    have hcl : (chgsOf noRows xs).length = m := by rw [chgs_length, HM.out]
    have HCS := put (chgs_small xs noRows noRows_small HX.out.2).1
    have m60 : m ≤ 60 := by rw [HM.out]; exact HX.out.1
    have HNP := put (fun k => net_parts noRows xs k)
    have P1 : Kp (Sl tChg (fun _ => True) w5 vo (chgsOf noRows xs)) := put (ho.sl (fun _ _ => trivial) (fun _ _ => trivial) (by omega))
    have HSH := put ho.shape
    obtain ⟨V1, c1, rfl, c11, c12⟩ := ho.form
    rw [hcl] at c11 P1 HSH ⊢
    have HCL := put hcl
    clear ho hg4 hcl hmm HB1 HB2 HBM
    generalize chgsOf noRows xs = cs at *
    obtain ⟨k, hk⟩ : ∃ k, k = q % (m + 1) := ⟨_, rfl⟩
    have hkm : k ≤ m := by have := Nat.mod_lt q (Nat.succ_pos m); rw [hk]; exact Nat.le_of_lt_succ this
    have ekq : ((q : Int)).tmod ((m : Int) + 1) = (k : Int) := by rw [hk]; exact (Int.ofNat_tmod q (m + 1)).symm
    have wq : IntKind.i64.wrap (q : Int) = (q : Int) := wrap_small q (by omega)
    have hm1 : (m : Int) + 1 ≠ 0 := by omega
    have k0 : (0 : Int) ≤ (k : Int) := by omega
    have km : (k : Int) ≤ (m : Int) := by omega
    have kc : (k : Int) ≤ (c1 : Int) := by omega
    obtain ⟨ta, hta⟩ : ∃ ta, ta = cs.take k := ⟨_, rfl⟩
    obtain ⟨da, hda⟩ : ∃ da, da = cs.drop k := ⟨_, rfl⟩
    obtain ⟨na, hna⟩ : ∃ na, na = net ta := ⟨_, rfl⟩
    obtain ⟨nb, hnb⟩ : ∃ nb, nb = net da := ⟨_, rfl⟩
    have HEQ : Kp (net (na ++ nb) = net cs) := put (by rw [hna, hnb, hta, hda]; exact HNP.out k)
    have lt60 : ta.length ≤ 60 := by rw [hta, List.length_take, HCL.out]; omega
    have ld60 : da.length ≤ 60 := by rw [hda, List.length_drop, HCL.out]; omega
    have nt : na.length ≤ ta.length := by rw [hna]; exact net_le ta
    have nd : nb.length ≤ da.length := by rw [hnb]; exact net_le da
    have R1 : ∀ x ∈ ta, x.old.length ≤ 20 ∧ x.new.length ≤ 20 := fun x hx => HCS.out x (List.mem_of_mem_take (by rw [← hta]; exact hx))
    have R2 : ∀ x ∈ da, x.old.length ≤ 20 ∧ x.new.length ≤ 20 := fun x hx => HCS.out x (List.mem_of_mem_drop (by rw [← hda]; exact hx))
    have LT : Kp (ta.length ≤ 1000) := put (by omega)
    have LD : Kp (da.length ≤ 1000) := put (by omega)
    have RT : Kp (∀ x ∈ ta, x.old.length ≤ 1000 ∧ x.new.length ≤ 1000) := put (fun x hx => by have := R1 x hx; omega)
    have RD : Kp (∀ x ∈ da, x.old.length ≤ 1000 ∧ x.new.length ≤ 1000) := put (fun x hx => by have := R2 x hx; omega)
    have NT : Kp (na.length ≤ 140737488355328) := put (by omega)
    have ND : Kp (nb.length ≤ 140737488355328) := put (by omega)
    have NT1 : Kp ((([] : List Chg).length + na.length) * 72 ≤ 140737488355328) := put (by simp only [List.length_nil]; omega)
    have NT2 : Kp ((na.length + nb.length) * 72 ≤ 140737488355328) := put (by omega)
    have NPL : Kp ((na ++ nb).length ≤ 1000) := put (by rw [List.length_append]; omega)
    have NPR : Kp (∀ x ∈ na ++ nb, x.old.length ≤ 1000 ∧ x.new.length ≤ 1000) := put (fun x hx => by
      rcases List.mem_append.1 hx with hx | hx
      · rw [hna] at hx; have := net_rows R1 x hx; omega
      · rw [hnb] at hx; have := net_rows R2 x hx; omega)
    obtain ⟨pl, hpl⟩ : ∃ pl, (na ++ nb).length = pl := ⟨_, rfl⟩
    have HPL := put hpl
    have NC6 : Kp ((net cs).length ≤ 60) := put (Nat.le_trans (net_le cs) (by rw [HCL.out]; exact m60))
    have NCS : Kp ((net cs).length ≤ 140737488355328) := put (Nat.le_trans NC6.out (by decide))
    have HNA := put hna
    have HNB := put hnb
    have HTA := put hta
    have HDA := put hda
    have KT : Kp (∀ W, Below w5.heap.size w5 W → Sl tChg (fun _ => True) W (.slice V1 k c1) ta) := put (fun W hb => by rw [HTA.out]; exact (P1.out.take hkm).below hb)
    clear hpl hna hnb hta hda lt60 ld60 R1 R2 HNP
    clear hk nt nd
    rcases HSH.out with ⟨e, he⟩ | ⟨g, cap, e, _, _, _, _⟩
    · obtain ⟨rfl, rfl, rfl⟩ : V1 = none ∧ m = 0 ∧ c1 = 0 := by simpa using e
      obtain rfl : k = 0 := by omega
      have KD : Kp (∀ W, Below w5.heap.size w5 W → Sl tChg (fun _ => True) W (.slice none 0 0) da) := put (fun W hb => by rw [HDA.out, he]; exact Sl.nil _ _ _)
      clear HSH e he
      go_wp2_with fail
      go_region_held3 (fun _ => True) (exact trivial) (first | (go_at_call_of 18 (Value.slice none 0 0); refine (netCalls _ _ da _ (KD.out _ (by (repeat (first | with_reducible exact HB7.out | with_reducible apply Below.drew | with_reducible refine balloc ?_ _)))) LD.out RD.out).mono ?_; rintro e w8 ⟨vo2, rfl, ho3, hb8⟩; rw [← HNB.out] at ho3; obtain ⟨N2, k22, e2, _, _⟩ := ho3.form; subst e2; have hbb : Below w5.heap.size w5 w8 := Below.trans (by (repeat (first | with_reducible exact HB7.out | with_reducible apply Below.drew | with_reducible refine balloc ?_ _))) (hb8.mono (bsize (w := w5) (by (repeat (first | with_reducible exact HB7.out | with_reducible apply Below.drew | with_reducible refine balloc ?_ _))))); have OW8 := put (OW7.out.below hb8); have HO3 := put ho3; have HB8 := put hbb; clear ho3 hb8 hbb) | (refine step_pushes tChg w5.heap.size rfl _ _ 27 40 _ 72 rfl Try.underlying27 infoChg rfl (by decide) (by decide) (.slice V7 (na).length k7) (.slice N2 (nb).length k22) (na) (nb) (fun _ => True) (fun k => w7.heap.size ≤ k) rfl rfl (HO3.out.sl (fun k hk => (HO3.out.lt k hk).1) (fun k hk => hk) ND.out) (fun k hk => ⟨trivial, fun e => by have := (OW7.out.lt k e.symm).2; omega⟩) OW8.out HB8.out.size NT2.out ?_; intro v2 w9 ho4 hg4 hat4; obtain ⟨V9, k9, e9, _, _⟩ := ho4.form; rw [HPL.out] at e9; subst e9; have hb9 : Below w5.heap.size w5 w9 := HB8.out.grown hg4 HB8.out.size (fun k hk => (OW7.out.lt k hk).1); have OW9 := put ho4; have HB9 := put hb9; clear ho4 hg4 hat4 hb9) | (go_at_call_of 18 (Value.slice none 0 0); refine (netCalls _ _ ta _ (KT.out _ (by (repeat (first | with_reducible exact (Below.refl _ _) | with_reducible apply Below.drew | with_reducible refine balloc ?_ _)))) LT.out RT.out).mono ?_; rintro e w6 ⟨vo1, rfl, ho1, hb6⟩; rw [← HNA.out] at ho1; obtain ⟨N1, k1, e1, _, _⟩ := ho1.form; subst e1; have hbb : Below w5.heap.size w5 w6 := Below.trans (by (repeat (first | with_reducible exact (Below.refl _ _) | with_reducible apply Below.drew | with_reducible refine balloc ?_ _))) (hb6.mono (bsize (by (repeat (first | with_reducible exact (Below.refl _ _) | with_reducible apply Below.drew | with_reducible refine balloc ?_ _))))); have HO1 := put ho1; have HB6 := put hbb; have HBX := put hb6; clear ho1 hb6 hbb) | (refine step_pushes0 tChg w5.heap.size rfl _ _ 27 40 _ 72 rfl Try.underlying27 infoChg rfl (by decide) (by decide) _ (.slice N1 (na).length k1) (na) rfl rfl (by first | exact (HBX.out.block _ (by simp)).trans (by simp only [heap_alloc_get, heap_drew_get] <;> simp <;> done) | (simp only [heap_alloc_get, heap_drew_get] <;> simp <;> done)) (by first | exact Nat.le_refl _ | exact HB6.out.size) (by first | exact slA HO1.out (by simp) NT.out | exact slB HO1.out NT.out (by (repeat (first | with_reducible exact (Below.refl _ _) | with_reducible apply Below.drew | with_reducible refine balloc ?_ _)))) (bsize (w := w5) (by (repeat (first | with_reducible exact HB6.out | with_reducible apply Below.drew | with_reducible refine balloc ?_ _)))) NT1.out ?_; intro v1 w7 ho2 hg2 hat2; obtain ⟨V7, k7, e7, _, _⟩ := ho2.form; subst e7; have hb7 : Below w5.heap.size w5 w7 := Below.grown (by (repeat (first | with_reducible exact HB6.out | with_reducible apply Below.drew | with_reducible refine balloc ?_ _))) hg2 (bsize (w := w5) (by (repeat (first | with_reducible exact HB6.out | with_reducible apply Below.drew | with_reducible refine balloc ?_ _)))) (fun k hk => by simp only [Option.some.injEq] at hk; have := HB6.out.size; omega); have OW7 := put ho2; have HB7 := put hb7; clear ho2 hg2 hat2 hb7))
      all_goals
        have KB9 := put (HB5.out.trans (HB9.out.mono HB5.out.size))
        have KP := put (OW9.out.sl (ok' := fun _ => True) (fun _ _ => trivial) (fun _ _ => trivial) (Nat.le_trans NPL.out (by decide)))
        have KC := put (P1.out.below HB9.out)
        go_wp2_with fail
        refine (netCalls _ _ (na ++ nb) w9 KP.out NPL.out NPR.out).mono ?_
        rintro e u1 ⟨vo, rfl, ho, hb⟩
        rw [HEQ.out] at ho
        have KB10 := put (KB9.out.trans (hb.mono KB9.out.size))
        have KC1 := put (KC.out.below hb)
        have S1 : Kp (Sl tChg (fun _ => True) u1 vo (net cs)) := put (ho.sl (fun _ _ => trivial) (fun _ _ => trivial) NCS.out)
        obtain ⟨E1, d1, rfl, _, _⟩ := ho.form
        clear ho hb KP KC
        go_wp2_with fail
        refine (plainCalls _ _ (net cs) u1 S1.out (Nat.le_trans NC6.out (by decide))).mono ?_
        rintro e u2 ⟨vo, rfl, ho, hb⟩
        have KB11 := put (KB10.out.trans (hb.mono KB10.out.size))
        have KC2 := put (KC1.out.below hb)
        have S2 : Kp (Sl tChg (fun _ => True) u2 vo (net cs)) := put (ho.sl (fun _ _ => trivial) (fun _ _ => trivial) NCS.out)
        obtain ⟨E2, d2, rfl, _, _⟩ := ho.form
        clear ho hb S1 KC1
        go_wp2_with fail
        refine (netCalls _ _ cs u2 KC2.out (Nat.le_trans (Nat.le_of_eq HCL.out) (by omega)) (fun x hx => by have := HCS.out x hx; omega)).mono ?_
        rintro e u3 ⟨vo, rfl, ho, hb⟩
        have KB12 := put (KB11.out.trans (hb.mono KB11.out.size))
        have S2' := put (S2.out.below hb)
        have S3 : Kp (Sl tChg (fun _ => True) u3 vo (net cs)) := put (ho.sl (fun _ _ => trivial) (fun _ _ => trivial) NCS.out)
        obtain ⟨E3, d3, rfl, _, _⟩ := ho.form
        clear ho hb S2
        go_wp2_with fail
        refine (plainCalls _ _ (net cs) u3 S3.out (Nat.le_trans NC6.out (by decide))).mono ?_
        rintro e u4 ⟨vo, rfl, ho, hb⟩
        have KB13 := put (KB12.out.trans (hb.mono KB12.out.size))
        have S2q := put (S2'.out.below hb)
        have S4 : Kp (Sl tChg (fun _ => True) u4 vo (net cs)) := put (ho.sl (fun _ _ => trivial) (fun _ _ => trivial) NCS.out)
        obtain ⟨E4, d4, rfl, _, _⟩ := ho.form
        clear ho hb S3 S2'
        go_wp2_with fail
        refine (refSameCalls _ _ _ _ (net cs) (net cs) u4 S2q.out S4.out).mono ?_
        rintro e u5 ⟨rfl, qq, rfl⟩
        rw [decide_eq_true (rfl : net cs = net cs)]
        go_wp2_with fail
        go_ret
        exact ⟨rfl, Below.drewn KB13.out⟩
    · obtain ⟨rfl, rfl⟩ : V1 = some ⟨g, 0, none⟩ ∧ c1 = cap := by simpa using e
      have KD0 := P1.out.drop hkm
      clear HSH e
      by_cases hck : c1 = k
      · obtain rfl : c1 = m := by omega
        obtain rfl : k = c1 := by omega
        rw [if_pos rfl, Nat.sub_self] at KD0
        have KD : Kp (∀ W, Below w5.heap.size w5 W → Sl tChg (fun _ => True) W (.slice (some ⟨g, 0, none⟩) 0 0) da) := put (fun W hb => by rw [HDA.out]; exact KD0.below hb)
        clear KD0 hck
        go_wp2_with fail
        go_region_held3 (fun _ => True) (exact trivial) (first | (go_at_call_of 18 (Value.slice (some ⟨g, 0, none⟩) 0 0); refine (netCalls _ _ da _ (KD.out _ (by (repeat (first | with_reducible exact HB7.out | with_reducible apply Below.drew | with_reducible refine balloc ?_ _)))) LD.out RD.out).mono ?_; rintro e w8 ⟨vo2, rfl, ho3, hb8⟩; rw [← HNB.out] at ho3; obtain ⟨N2, k22, e2, _, _⟩ := ho3.form; subst e2; have hbb : Below w5.heap.size w5 w8 := Below.trans (by (repeat (first | with_reducible exact HB7.out | with_reducible apply Below.drew | with_reducible refine balloc ?_ _))) (hb8.mono (bsize (w := w5) (by (repeat (first | with_reducible exact HB7.out | with_reducible apply Below.drew | with_reducible refine balloc ?_ _))))); have OW8 := put (OW7.out.below hb8); have HO3 := put ho3; have HB8 := put hbb; clear ho3 hb8 hbb) | (refine step_pushes tChg w5.heap.size rfl _ _ 27 40 _ 72 rfl Try.underlying27 infoChg rfl (by decide) (by decide) (.slice V7 (na).length k7) (.slice N2 (nb).length k22) (na) (nb) (fun _ => True) (fun k => w7.heap.size ≤ k) rfl rfl (HO3.out.sl (fun k hk => (HO3.out.lt k hk).1) (fun k hk => hk) ND.out) (fun k hk => ⟨trivial, fun e => by have := (OW7.out.lt k e.symm).2; omega⟩) OW8.out HB8.out.size NT2.out ?_; intro v2 w9 ho4 hg4 hat4; obtain ⟨V9, k9, e9, _, _⟩ := ho4.form; rw [HPL.out] at e9; subst e9; have hb9 : Below w5.heap.size w5 w9 := HB8.out.grown hg4 HB8.out.size (fun k hk => (OW7.out.lt k hk).1); have OW9 := put ho4; have HB9 := put hb9; clear ho4 hg4 hat4 hb9) | (go_at_call_of 18 (Value.slice (some ⟨g, 0, none⟩) k k); refine (netCalls _ _ ta _ (KT.out _ (by (repeat (first | with_reducible exact (Below.refl _ _) | with_reducible apply Below.drew | with_reducible refine balloc ?_ _)))) LT.out RT.out).mono ?_; rintro e w6 ⟨vo1, rfl, ho1, hb6⟩; rw [← HNA.out] at ho1; obtain ⟨N1, k1, e1, _, _⟩ := ho1.form; subst e1; have hbb : Below w5.heap.size w5 w6 := Below.trans (by (repeat (first | with_reducible exact (Below.refl _ _) | with_reducible apply Below.drew | with_reducible refine balloc ?_ _))) (hb6.mono (bsize (by (repeat (first | with_reducible exact (Below.refl _ _) | with_reducible apply Below.drew | with_reducible refine balloc ?_ _))))); have HO1 := put ho1; have HB6 := put hbb; have HBX := put hb6; clear ho1 hb6 hbb) | (refine step_pushes0 tChg w5.heap.size rfl _ _ 27 40 _ 72 rfl Try.underlying27 infoChg rfl (by decide) (by decide) _ (.slice N1 (na).length k1) (na) rfl rfl (by first | exact (HBX.out.block _ (by simp)).trans (by simp only [heap_alloc_get, heap_drew_get] <;> simp <;> done) | (simp only [heap_alloc_get, heap_drew_get] <;> simp <;> done)) (by first | exact Nat.le_refl _ | exact HB6.out.size) (by first | exact slA HO1.out (by simp) NT.out | exact slB HO1.out NT.out (by (repeat (first | with_reducible exact (Below.refl _ _) | with_reducible apply Below.drew | with_reducible refine balloc ?_ _)))) (bsize (w := w5) (by (repeat (first | with_reducible exact HB6.out | with_reducible apply Below.drew | with_reducible refine balloc ?_ _)))) NT1.out ?_; intro v1 w7 ho2 hg2 hat2; obtain ⟨V7, k7, e7, _, _⟩ := ho2.form; subst e7; have hb7 : Below w5.heap.size w5 w7 := Below.grown (by (repeat (first | with_reducible exact HB6.out | with_reducible apply Below.drew | with_reducible refine balloc ?_ _))) hg2 (bsize (w := w5) (by (repeat (first | with_reducible exact HB6.out | with_reducible apply Below.drew | with_reducible refine balloc ?_ _)))) (fun k hk => by simp only [Option.some.injEq] at hk; have := HB6.out.size; omega); have OW7 := put ho2; have HB7 := put hb7; clear ho2 hg2 hat2 hb7))
        all_goals
          have KB9 := put (HB5.out.trans (HB9.out.mono HB5.out.size))
          have KP := put (OW9.out.sl (ok' := fun _ => True) (fun _ _ => trivial) (fun _ _ => trivial) (Nat.le_trans NPL.out (by decide)))
          have KC := put (P1.out.below HB9.out)
          go_wp2_with fail
          refine (netCalls _ _ (na ++ nb) w9 KP.out NPL.out NPR.out).mono ?_
          rintro e u1 ⟨vo, rfl, ho, hb⟩
          rw [HEQ.out] at ho
          have KB10 := put (KB9.out.trans (hb.mono KB9.out.size))
          have KC1 := put (KC.out.below hb)
          have S1 : Kp (Sl tChg (fun _ => True) u1 vo (net cs)) := put (ho.sl (fun _ _ => trivial) (fun _ _ => trivial) NCS.out)
          obtain ⟨E1, d1, rfl, _, _⟩ := ho.form
          clear ho hb KP KC
          go_wp2_with fail
          refine (plainCalls _ _ (net cs) u1 S1.out (Nat.le_trans NC6.out (by decide))).mono ?_
          rintro e u2 ⟨vo, rfl, ho, hb⟩
          have KB11 := put (KB10.out.trans (hb.mono KB10.out.size))
          have KC2 := put (KC1.out.below hb)
          have S2 : Kp (Sl tChg (fun _ => True) u2 vo (net cs)) := put (ho.sl (fun _ _ => trivial) (fun _ _ => trivial) NCS.out)
          obtain ⟨E2, d2, rfl, _, _⟩ := ho.form
          clear ho hb S1 KC1
          go_wp2_with fail
          refine (netCalls _ _ cs u2 KC2.out (Nat.le_trans (Nat.le_of_eq HCL.out) (by omega)) (fun x hx => by have := HCS.out x hx; omega)).mono ?_
          rintro e u3 ⟨vo, rfl, ho, hb⟩
          have KB12 := put (KB11.out.trans (hb.mono KB11.out.size))
          have S2' := put (S2.out.below hb)
          have S3 : Kp (Sl tChg (fun _ => True) u3 vo (net cs)) := put (ho.sl (fun _ _ => trivial) (fun _ _ => trivial) NCS.out)
          obtain ⟨E3, d3, rfl, _, _⟩ := ho.form
          clear ho hb S2
          go_wp2_with fail
          refine (plainCalls _ _ (net cs) u3 S3.out (Nat.le_trans NC6.out (by decide))).mono ?_
          rintro e u4 ⟨vo, rfl, ho, hb⟩
          have KB13 := put (KB12.out.trans (hb.mono KB12.out.size))
          have S2q := put (S2'.out.below hb)
          have S4 : Kp (Sl tChg (fun _ => True) u4 vo (net cs)) := put (ho.sl (fun _ _ => trivial) (fun _ _ => trivial) NCS.out)
          obtain ⟨E4, d4, rfl, _, _⟩ := ho.form
          clear ho hb S3 S2'
          go_wp2_with fail
          refine (refSameCalls _ _ _ _ (net cs) (net cs) u4 S2q.out S4.out).mono ?_
          rintro e u5 ⟨rfl, qq, rfl⟩
          rw [decide_eq_true (rfl : net cs = net cs)]
          go_wp2_with fail
          go_ret
          exact ⟨rfl, Below.drewn KB13.out⟩
      · rw [if_neg hck] at KD0
        simp only [Option.map_some, add_plain] at KD0
        have KD : Kp (∀ W, Below w5.heap.size w5 W → Sl tChg (fun _ => True) W (.slice (some ⟨g, k * 4, none⟩) (m - k) (c1 - k)) da) := put (fun W hb => by rw [HDA.out]; exact KD0.below hb)
        clear KD0
        go_wp2_with fail
        go_region_held3 (fun _ => True) (exact trivial) (first | (go_at_call_of 18 (Value.slice (some ⟨g, k * 4, none⟩) (m - k) (c1 - k)); refine (netCalls _ _ da _ (KD.out _ (by (repeat (first | with_reducible exact HB7.out | with_reducible apply Below.drew | with_reducible refine balloc ?_ _)))) LD.out RD.out).mono ?_; rintro e w8 ⟨vo2, rfl, ho3, hb8⟩; rw [← HNB.out] at ho3; obtain ⟨N2, k22, e2, _, _⟩ := ho3.form; subst e2; have hbb : Below w5.heap.size w5 w8 := Below.trans (by (repeat (first | with_reducible exact HB7.out | with_reducible apply Below.drew | with_reducible refine balloc ?_ _))) (hb8.mono (bsize (w := w5) (by (repeat (first | with_reducible exact HB7.out | with_reducible apply Below.drew | with_reducible refine balloc ?_ _))))); have OW8 := put (OW7.out.below hb8); have HO3 := put ho3; have HB8 := put hbb; clear ho3 hb8 hbb) | (refine step_pushes tChg w5.heap.size rfl _ _ 27 40 _ 72 rfl Try.underlying27 infoChg rfl (by decide) (by decide) (.slice V7 (na).length k7) (.slice N2 (nb).length k22) (na) (nb) (fun _ => True) (fun k => w7.heap.size ≤ k) rfl rfl (HO3.out.sl (fun k hk => (HO3.out.lt k hk).1) (fun k hk => hk) ND.out) (fun k hk => ⟨trivial, fun e => by have := (OW7.out.lt k e.symm).2; omega⟩) OW8.out HB8.out.size NT2.out ?_; intro v2 w9 ho4 hg4 hat4; obtain ⟨V9, k9, e9, _, _⟩ := ho4.form; rw [HPL.out] at e9; subst e9; have hb9 : Below w5.heap.size w5 w9 := HB8.out.grown hg4 HB8.out.size (fun k hk => (OW7.out.lt k hk).1); have OW9 := put ho4; have HB9 := put hb9; clear ho4 hg4 hat4 hb9) | (go_at_call_of 18 (Value.slice (some ⟨g, 0, none⟩) k c1); refine (netCalls _ _ ta _ (KT.out _ (by (repeat (first | with_reducible exact (Below.refl _ _) | with_reducible apply Below.drew | with_reducible refine balloc ?_ _)))) LT.out RT.out).mono ?_; rintro e w6 ⟨vo1, rfl, ho1, hb6⟩; rw [← HNA.out] at ho1; obtain ⟨N1, k1, e1, _, _⟩ := ho1.form; subst e1; have hbb : Below w5.heap.size w5 w6 := Below.trans (by (repeat (first | with_reducible exact (Below.refl _ _) | with_reducible apply Below.drew | with_reducible refine balloc ?_ _))) (hb6.mono (bsize (by (repeat (first | with_reducible exact (Below.refl _ _) | with_reducible apply Below.drew | with_reducible refine balloc ?_ _))))); have HO1 := put ho1; have HB6 := put hbb; have HBX := put hb6; clear ho1 hb6 hbb) | (refine step_pushes0 tChg w5.heap.size rfl _ _ 27 40 _ 72 rfl Try.underlying27 infoChg rfl (by decide) (by decide) _ (.slice N1 (na).length k1) (na) rfl rfl (by first | exact (HBX.out.block _ (by simp)).trans (by simp only [heap_alloc_get, heap_drew_get] <;> simp <;> done) | (simp only [heap_alloc_get, heap_drew_get] <;> simp <;> done)) (by first | exact Nat.le_refl _ | exact HB6.out.size) (by first | exact slA HO1.out (by simp) NT.out | exact slB HO1.out NT.out (by (repeat (first | with_reducible exact (Below.refl _ _) | with_reducible apply Below.drew | with_reducible refine balloc ?_ _)))) (bsize (w := w5) (by (repeat (first | with_reducible exact HB6.out | with_reducible apply Below.drew | with_reducible refine balloc ?_ _)))) NT1.out ?_; intro v1 w7 ho2 hg2 hat2; obtain ⟨V7, k7, e7, _, _⟩ := ho2.form; subst e7; have hb7 : Below w5.heap.size w5 w7 := Below.grown (by (repeat (first | with_reducible exact HB6.out | with_reducible apply Below.drew | with_reducible refine balloc ?_ _))) hg2 (bsize (w := w5) (by (repeat (first | with_reducible exact HB6.out | with_reducible apply Below.drew | with_reducible refine balloc ?_ _)))) (fun k hk => by simp only [Option.some.injEq] at hk; have := HB6.out.size; omega); have OW7 := put ho2; have HB7 := put hb7; clear ho2 hg2 hat2 hb7))
        all_goals
          have KB9 := put (HB5.out.trans (HB9.out.mono HB5.out.size))
          have KP := put (OW9.out.sl (ok' := fun _ => True) (fun _ _ => trivial) (fun _ _ => trivial) (Nat.le_trans NPL.out (by decide)))
          have KC := put (P1.out.below HB9.out)
          go_wp2_with fail
          refine (netCalls _ _ (na ++ nb) w9 KP.out NPL.out NPR.out).mono ?_
          rintro e u1 ⟨vo, rfl, ho, hb⟩
          rw [HEQ.out] at ho
          have KB10 := put (KB9.out.trans (hb.mono KB9.out.size))
          have KC1 := put (KC.out.below hb)
          have S1 : Kp (Sl tChg (fun _ => True) u1 vo (net cs)) := put (ho.sl (fun _ _ => trivial) (fun _ _ => trivial) NCS.out)
          obtain ⟨E1, d1, rfl, _, _⟩ := ho.form
          clear ho hb KP KC
          go_wp2_with fail
          refine (plainCalls _ _ (net cs) u1 S1.out (Nat.le_trans NC6.out (by decide))).mono ?_
          rintro e u2 ⟨vo, rfl, ho, hb⟩
          have KB11 := put (KB10.out.trans (hb.mono KB10.out.size))
          have KC2 := put (KC1.out.below hb)
          have S2 : Kp (Sl tChg (fun _ => True) u2 vo (net cs)) := put (ho.sl (fun _ _ => trivial) (fun _ _ => trivial) NCS.out)
          obtain ⟨E2, d2, rfl, _, _⟩ := ho.form
          clear ho hb S1 KC1
          go_wp2_with fail
          refine (netCalls _ _ cs u2 KC2.out (Nat.le_trans (Nat.le_of_eq HCL.out) (by omega)) (fun x hx => by have := HCS.out x hx; omega)).mono ?_
          rintro e u3 ⟨vo, rfl, ho, hb⟩
          have KB12 := put (KB11.out.trans (hb.mono KB11.out.size))
          have S2' := put (S2.out.below hb)
          have S3 : Kp (Sl tChg (fun _ => True) u3 vo (net cs)) := put (ho.sl (fun _ _ => trivial) (fun _ _ => trivial) NCS.out)
          obtain ⟨E3, d3, rfl, _, _⟩ := ho.form
          clear ho hb S2
          go_wp2_with fail
          refine (plainCalls _ _ (net cs) u3 S3.out (Nat.le_trans NC6.out (by decide))).mono ?_
          rintro e u4 ⟨vo, rfl, ho, hb⟩
          have KB13 := put (KB12.out.trans (hb.mono KB12.out.size))
          have S2q := put (S2'.out.below hb)
          have S4 : Kp (Sl tChg (fun _ => True) u4 vo (net cs)) := put (ho.sl (fun _ _ => trivial) (fun _ _ => trivial) NCS.out)
          obtain ⟨E4, d4, rfl, _, _⟩ := ho.form
          clear ho hb S3 S2'
          go_wp2_with fail
          refine (refSameCalls _ _ _ _ (net cs) (net cs) u4 S2q.out S4.out).mono ?_
          rintro e u5 ⟨rfl, qq, rfl⟩
          rw [decide_eq_true (rfl : net cs = net cs)]
          go_wp2_with fail
          go_ret
          exact ⟨rfl, Below.drewn KB13.out⟩
end Go.Proofs.Ytkfoknjflpklpaa.D
