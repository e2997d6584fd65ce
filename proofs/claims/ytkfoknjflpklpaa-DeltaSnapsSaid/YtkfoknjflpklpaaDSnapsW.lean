/- The law DeltaSnaps: its walk. -/
import Derived.Test.YtkfoknjflpklpaaDSmall
import Derived.Test.YtkfoknjflpklpaaDDiff
namespace Go.Proofs.Ytkfoknjflpklpaa.D
open Go Go.RowKit Go.Sort Go.Maps Go.Proofs.Ytkfoknjflpklpaa.Mem Go.Proofs.Ytkfoknjflpklpaa.Stab

theorem size_le {w : World} {b n : Nat} {D : DataW Value} (h : w.ownsMap Try.prog 29 vR b n D) : Maps.size D ≤ n := by
  obtain ⟨es, clock, _, _, hs, rfl⟩ := h
  rw [Maps.size_eq, length_sorted]
  simpa using hs

set_option maxRecDepth 100000 in
theorem lit_u8 {n : Nat} {c : Value} {ls : List Lit} (h : Try.prog.keyLits (n + 1) 5 [c] = some ls) : ∃ k, c = .int .u8 k := by
  unfold Program.keyLits at h
  rw [Try.underlying5] at h
  cases c <;> simp at h
  obtain ⟨⟨rfl, _⟩, _⟩ := h
  exact ⟨_, rfl⟩
set_option maxRecDepth 100000 in
theorem keyOf_ints {v : Value} {l : Lit} (h : keyOf Try.prog 29 v = some l) : ∃ x : Int × Int, v = .agg #[.int .u8 x.1, .int .u8 x.2] := by
  obtain ⟨⟨c0, c1⟩, rfl⟩ := keyOf_inv h
  simp only at h
  unfold keyOf at h
  rw [Try.underlying29] at h
  simp only at h
  split at h
  · obtain ⟨ls, h1, _⟩ := Option.map_eq_some_iff.1 h
    obtain ⟨n, hn⟩ : ∃ n, Try.prog.types.size = n + 1 := pos_succ sizePos
    rw [show (Value.agg #[c0, c1]).cells.toList = [c0, c1] from rfl] at h1
    unfold Program.keyLits at h1
    simp [Try.underlying29, cells_key, cells_u8, List.range_succ, hn] at h1
    cases h2 : Try.prog.keyLits (n + 1) 5 [c0] with
    | none => rw [h2] at h1; cases h1
    | some a =>
      rw [h2] at h1
      cases h3 : Try.prog.keyLits (n + 1) 5 [c1] with
      | none => rw [h3] at h1; cases h1
      | some b =>
        obtain ⟨p, rfl⟩ := lit_u8 h2
        obtain ⟨q, rfl⟩ := lit_u8 h3
        exact ⟨(p, q), rfl⟩
  · cases h

set_option maxHeartbeats 16000000 in
set_option maxRecDepth 100000 in
theorem deltaSnapsCalls (u v : Value) (xs ys : List Ope) (w : World) (hx : Sl tOpe (fun _ => True) w u xs) (hy : Sl tOpe (fun _ => True) w v ys) :
    Calls Try.prog 3 #[u, v] w fun e w' => e = .returned (.bool true) ∧ Below w.heap.size w w' := by
  obtain ⟨A, c, rfl, _, _, l3⟩ := hx.shape
  obtain ⟨A', c', rfl, _, _, l3'⟩ := hy.shape
  have KX : Kp (Sl tOpe (fun k => k < w.heap.size) w (.slice A xs.length c) xs) := put (hx.bnd.mono (fun k hk => hk.2))
  have KY : Kp (Sl tOpe (fun k => k < w.heap.size) w (.slice A' ys.length c') ys) := put (hy.bnd.mono (fun k hk => hk.2))
  obtain ⟨m, hm⟩ : ∃ m, m = xs.length := ⟨_, rfl⟩
  obtain ⟨n, hn⟩ : ∃ n, n = ys.length := ⟨_, rfl⟩
  rw [← hm] at l3 KX ⊢
  rw [← hn] at l3' KY ⊢
  have HM := put hm
  have HN := put hn
  clear hx hy hm hn
  have hmm := @run_makeMap Try.prog
  go_enter Try.func3, Try.ntmps3
  go_wp2_with (first | (go_at_call 13; refine (awakeCalls _).mono ?_; rintro e w1 ⟨rfl, hb1⟩; have HB1 := put hb1; clear hb1))
  refine (fewCalls _ _ xs w1 (KX.out.below HB1.out)).mono ?_
  rintro e w2 ⟨⟨b, rfl, hg⟩, hb2⟩
  have HB2 := put (HB1.out.trans (hb2.mono HB1.out.size))
  clear hb2
  have HG := put hg
  clear hg
  cases b with
  | false =>
    go_wp2_with fail
    go_ret
    exact ⟨rfl, HB2.out⟩
  | true =>
    have HX := put (HG.out rfl)
    clear HG
    go_wp2_with fail
    refine (fewCalls _ _ ys w2 (KY.out.below HB2.out)).mono ?_
    rintro e w3 ⟨⟨b, rfl, hg⟩, hb3⟩
    have HB3 := put (HB2.out.trans (hb3.mono HB2.out.size))
    clear hb3
    have HG := put hg
    clear hg
    cases b with
    | false =>
      go_wp2_with fail
      go_ret
      exact ⟨rfl, HB3.out⟩
    | true =>
      have HY := put (HG.out rfl)
      clear HG HB1 HB2
      go_wp2_with fail
      have HBM : Kp (Below w.heap.size w (w3.alloc (.map #[] 0))) := put (balloc HB3.out _)
      refine (changesCalls w.heap.size w3.heap.size 0 noRows _ xs (w3.alloc (.map #[] 0)) HB3.out.size (MapIs.made _ w3) (KX.out.below HBM.out) (by have := HX.out.1; omega) (Nat.zero_le _)).mono ?_
      rintro e w4 ⟨vo, rfl, _, hm4, hg4⟩
      have HB4 := put (HBM.out.grown hg4 (by have := HB3.out.size; simp; omega) (fun k hk => by have := HB3.out.size; simp only [Option.some.injEq] at hk; omega))
      have SM := put (chgs_small xs noRows noRows_small HX.out.2).2
      obtain ⟨b1, hb1⟩ : ∃ b1, b1 = w3.heap.size := ⟨_, rfl⟩
      rw [← hb1] at hm4 ⊢
      rw [Nat.zero_add] at hm4
      have HB1 : Kp (w.heap.size ≤ b1) := put (by rw [hb1]; exact HB3.out.size)
      have HM4 := put hm4
      clear hg4 hm4 hb1 HBM HB3
      generalize runR noRows xs = f at *
      obtain ⟨D, hown, hreads⟩ := HM4.out
      have HRD := put hreads
      clear hreads
      have HSD := put (size_le hown)
      have hbl := hown.lt
      have e1 : (w4.alloc (.map #[] 0)).heap.size = w4.heap.size + 1 := by simp
      go_wp2_with (first | (at_range; refine wpList_range_own _ rfl _ 26 rfl 29 30 keyLaw Try.underlying26 _ b1 _ D rfl (hown.alloc _) ?_; intro w0 hrg0 hg0 hs0) | go_in)
      go_frame
      rw [e1] at hrg0 hs0 ⊢
      have KR0 := put hrg0
      have KO0 := put (((World.ownsMap_made w4 Try.prog 29 vR).kept hg0 (by simp)).mono (Nat.zero_le (Maps.size D - Maps.size D)))
      have KB0 : Kp (Below w4.heap.size w4 w0) := put (((Below.refl w4.heap.size w4).alloc (Nat.le_refl _) _).grown hg0 (by simp) (fun j hj => by cases hj))
      clear hrg0 hg0 hs0 e1 hmm
      have hbl' : b1 < w4.heap.size := hbl
      have HOWN := put hown
      clear hown hbl
      go_loopg [8] (Maps.size D) (fun kx s8 wr => ∃ (left : Lit → Bool) (cnt : Nat) (Dout : DataW Value), cnt ≤ kx ∧ cnt ≤ Maps.size D ∧ Kp (wr.ranges Try.prog 29 vR b1 (w4.heap.size + 1) xs.length D left cnt) ∧ Kp (wr.ownsMap Try.prog 29 vR w4.heap.size (Maps.size D - cnt) Dout) ∧ Kp (Maps.Agree Dout D left) ∧ Kp (Below w4.heap.size w4 wr))
      case atStart => exact ⟨_, _, .map [], Nat.le_refl _, Nat.le_refl _, KR0, KO0, put (Maps.agree_start D), KB0⟩
      case round =>
        clear KR0 KO0 KB0
        obtain ⟨left, cnt, Dout, hkx, hcs, KR, KO, KA, KB⟩ := hrel
        go_wp2_with (first | (at_next; refine wpList_next_ranges _ rfl _ rfl 29 keyLaw vR (fun x : Int × Int => .agg #[.int .u8 x.1, .int .u8 x.2]) (fun c : Value => c) (fun key kl h => keyOf_ints h) (fun v _ _ => ⟨v, rfl⟩) b1 (w4.heap.size + 1) _ D left cnt rfl KR.out ?_ ?_) | go_in)
        · intro hc0 hl0
          subst hc0
          have e := Maps.agree_end KA.out hl0 (KO.out.canon keyLaw) (HOWN.out.canon keyLaw)
          subst e
          have KW : Kp (MapIs (fun k => k < w.heap.size) wr w4.heap.size (Maps.size Dout - 0) f) := put ⟨_, KO.out, fun t i ht hi => by
            obtain ⟨v, h1, h2⟩ := HRD.out t i ht hi
            exact ⟨v, h1, h2.below KB.out⟩⟩
          have KM := put (HM4.out.below KB.out)
          have KWB := put (HB4.out.trans (KB.out.mono HB4.out.size))
          clear KR KO KA hl0 HRD HOWN HM4
          go_wp2_with fail
          have f60 : xs.length ≤ 1000 := by have := HX.out.1; omega
          have y60 : ys.length ≤ 1000 := by have := HY.out.1; omega
          refine (changesCalls w.heap.size b1 xs.length f _ ys wr HB1.out KM.out ((KY.out.below HB4.out).below' KB.out (fun k hk => Nat.lt_of_lt_of_le hk HB4.out.size)) y60 f60).mono ?_
          rintro e w5 ⟨vo, rfl, ho, hm5, hg5⟩
          have KWB5 := put (KWB.out.grown hg5 KWB.out.size (fun k hk => by have := HB1.out; simp only [Option.some.injEq] at hk; omega))
          have KW5 := put (KW.out.kept (fun k hk hlt => hg5.block k hlt (by rcases hk with hk | rfl; (intro e; have := HB1.out; simp only [Option.some.injEq] at e; omega); (intro e; simp only [Option.some.injEq] at e; omega))))
          have KM5 := put hm5
          have SMC := put (chgs_small ys f SM.out HY.out.2).1
          have hcl : (chgsOf f ys).length = n := by rw [chgs_length, HN.out]
          have n60 : n ≤ 60 := by rw [HN.out]; exact HY.out.1
          have P1 : Kp (Sl tChg (fun _ => True) w5 vo (chgsOf f ys)) := put (ho.sl (fun _ _ => trivial) (fun _ _ => trivial) (by omega))
          obtain ⟨V1, c1, rfl, _, _⟩ := ho.form
          have HNC := put (net_chgs f ys)
          rw [hcl] at P1 ⊢
          have HCL := put hcl
          clear ho hg5 hm5 hcl KM KW KWB
          generalize chgsOf f ys = cs at *
          generalize runR f ys = g at *
          go_wp2_with fail
          refine (netCalls _ _ cs w5 P1.out (by rw [HCL.out]; omega) (fun x hx => by have := SMC.out x hx; omega)).mono ?_
          rintro e w6 ⟨vo, rfl, ho, hb6⟩
          have KWB6 := put (KWB5.out.trans (hb6.mono KWB5.out.size))
          have KW6 := put (KW5.out.below hb6)
          have KM6 := put (KM5.out.below hb6)
          have hnl : (net cs).length ≤ 60 := Nat.le_trans (net_le cs) (by rw [HCL.out]; exact n60)
          have P2 : Kp (Sl tChg (fun _ => True) w6 vo (net cs)) := put (ho.sl (fun _ _ => trivial) (fun _ _ => trivial) (by omega))
          obtain ⟨V2, c2, rfl, _, _⟩ := ho.form
          clear ho hb6 P1 KWB5 KW5 KM5
          go_wp2_with fail
          refine (plainCalls _ _ (net cs) w6 P2.out (by omega)).mono ?_
          rintro e w7 ⟨vo, rfl, ho, hb7⟩
          have KWB7 := put (KWB6.out.trans (hb7.mono KWB6.out.size))
          have KW7 := put (KW6.out.below hb7)
          have KM7 := put (KM6.out.below hb7)
          have P3 : Kp (Sl tChg (fun _ => True) w7 vo (net cs)) := put (ho.sl (fun _ _ => trivial) (fun _ _ => trivial) (by omega))
          obtain ⟨V3, c3, rfl, _, _⟩ := ho.form
          clear ho hb7 P2 KWB6 KW6 KM6
          go_wp2_with fail
          refine (differCalls w.heap.size w4.heap.size b1 _ _ f g w7 (Nat.le_trans HB1.out (Nat.le_of_lt hbl')) KW7.out KM7.out).mono ?_
          rintro e w8 ⟨vo, rfl, ho, hb8⟩
          have KWB8 := put (KWB7.out.trans (hb8.mono KWB7.out.size))
          have P3' := put (P3.out.below hb8)
          have hdl : (differR f g).length ≤ 60 := by rw [← HNC.out]; exact hnl
          have P4 : Kp (Sl tChg (fun _ => True) w8 vo (differR f g)) := put (ho.sl (fun _ _ => trivial) (fun _ _ => trivial) (by omega))
          obtain ⟨V4, c4, rfl, _, _⟩ := ho.form
          clear ho hb8 P3 KWB7 KW7 KM7
          go_wp2_with fail
          refine (refSameCalls _ _ _ _ (net cs) (differR f g) w8 P3'.out P4.out).mono ?_
          rintro e w9 ⟨rfl, q, rfl⟩
          rw [decide_eq_true HNC.out]
          go_wp2_with fail
          go_ret
          exact ⟨rfl, Below.drewn KWB8.out⟩
        · intro x1 x2 c kl y1 y2 w5 cnt1 hkey hlk hv hat hrg1 hlt hg1 hs1 hen
          obtain rfl : y1 = .held c := by simp only [vR, Option.some.injEq, Prod.mk.injEq] at hv; exact hv.1.symm
          have hat' : ∀ zd, D.atKey kl zd = .held c := hat
          have KHAT := put hat'
          have KHK := put hkey
          have hout1 := KO.out.kept hg1 (by simp)
          have hsz1 : w4.heap.size < w5.heap.size := hout1.lt
          have KO1 := put hout1
          have KR1 := put hrg1
          have KB1 := put (KB.out.grown hg1 KB.out.size (fun j hj => by cases hj; exact Nat.le_succ _))
          clear hv hat hat' hkey hlk hrg1 hg1 hs1 hout1
          have s140 : Maps.size D ≤ 1000 := by have := HSD.out; have := HX.out.1; omega
          go_wp2_with (first | (at_mapUpdate; refine wpList_mapUpdate_own _ rfl _ _ _ 26 rfl 29 30 keyLaw Try.underlying26 vR w4.heap.size _ _ rfl (KO1.out.alloc _) (by simp only [maxLen]; omega) _ _ _ rfl rfl KHK.out _ [] rfl ?_; intro w6 hout2 hg2; go_frame) | go_in)
          have KR2 := put ((KR1.out.alloc (.cells #[.int .u8 x1, .int .u8 x2] 29)).kept hg2 (fun e => by have := Option.some.inj e; omega) (fun e => by have := Option.some.inj e; omega))
          have KO2 := put hout2
          have KB2 := put ((balloc KB1.out _).grown hg2 (by have := KB1.out.size; simp; omega) (fun j hj => by cases hj; exact Nat.le_refl _))
          clear hout2 hg2
          go_roundg cnt1
          case measure => omega
          case rel => exact ⟨_, cnt1, _, Nat.le_refl _, by omega, KR2, put (KO2.out.mono (by omega)), put (Maps.agree_step KA.out KO.out.isMap (keyLaw.key KHK.out) KHAT.out), KB2⟩
end Go.Proofs.Ytkfoknjflpklpaa.D
