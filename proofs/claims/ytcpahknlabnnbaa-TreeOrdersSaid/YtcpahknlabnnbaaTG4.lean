/- Trees: insert, a node under way. Trees: insert. Trees: over, Len, Height, New. Trees: Each's walk: what a call-back may do, and what stays. -/
import Derived.Test.YtcpahknlabnnbaaTG3

namespace Go.Proofs.Ytcpahknlabnnbaa.T
open Go Go.RowKit Go.Sort Go.Proofs.Ytcpahknlabnnbaa.Mem

/-- A node at N under way; N and its rows' blocks are in M. -/
structure NW (M : Nat → Prop) (N : Nat) (W : World) (leaf : Bool) (vr vk : Value) (rs : List ByteArray) (ks : List Int) : Prop where
  n : W.heap[N]? = some (.cells #[.bool leaf, vr, vk] 69 (0, 0))
  r : Own tStr 9 no W 0 vr rs
  k : Own (tInt .i64) 3 no W 0 vk ks
  qn : M N
  qr : ∀ b, vr.ownBlock = some b → M b
  qk : ∀ b, vk.ownBlock = some b → M b
section
variable {M M' S : Nat → Prop} {N : Nat} {W W' : World} {leaf : Bool} {vr vk : Value} {rs : List ByteArray} {ks : List Int}
theorem NW.lt (h : NW M N W leaf vr vk rs ks) : N < W.heap.size := (Array.getElem?_eq_some_iff.1 h.n).1
theorem NW.kps (h : NW M N W leaf vr vk rs ks) (k : Kps S W W') (hs : ∀ b, M b → b < W.heap.size → ¬ S b) : NW M N W' leaf vr vk rs ks :=
  ⟨(k.block N h.lt (hs N h.qn h.lt)).trans h.n, h.r.move (fun b hb => k.block b (h.r.lt b hb).2 (hs b (h.qr b hb) (h.r.lt b hb).2)) (fun _ hb => hb.elim), h.k.move (fun b hb => k.block b (h.k.lt b hb).2 (hs b (h.qk b hb) (h.k.lt b hb).2)) (fun _ hb => hb.elim), h.qn, h.qr, h.qk⟩
theorem NW.below (h : NW M N W leaf vr vk rs ks) (hb : Below W.heap.size W W') : NW M N W' leaf vr vk rs ks := h.kps (below_kps hb (fun _ => False)) (fun _ _ _ => id)
theorem NW.imp (h : NW M N W leaf vr vk rs ks) (hm : ∀ b, M b → b < W.heap.size → M' b) : NW M' N W leaf vr vk rs ks := ⟨h.n, h.r, h.k, hm _ h.qn h.lt, fun b hb => hm _ (h.qr b hb) (h.r.lt b hb).2, fun b hb => hm _ (h.qk b hb) (h.k.lt b hb).2⟩
theorem grown_kps {w w' : World} {row : Option Nat} (h : Kps (fun k => row = some k) w w') : w.grownBy w' row := ⟨h.os, h.tape, h.output, h.size, fun k hk hn => h.block k hk (fun e => hn e.symm)⟩
theorem kps_new {ok : Nat → Prop} {w : World} (h : Kps ok w W) (k : Kps S W W') (hs : ∀ b, S b → w.heap.size ≤ b) : Kps ok w W' :=
  ⟨k.os.trans h.os, k.tape.trans h.tape, k.output.trans h.output, Nat.le_trans h.size k.size, fun b hb hn => (k.block b (Nat.lt_of_lt_of_le hb h.size) (fun e => by have := hs b e; omega)).trans (h.block b hb hn)⟩
theorem NW.pushR {vr1 : Value} {rs1 : List ByteArray} (h : NW M N W leaf vr vk rs ks) (hg : W.grownBy W' vr.ownBlock) (ho : Own tStr 9 no W' 0 vr1 rs1) (hm : ∀ b, vr1.ownBlock = some b → M b) : NW M N (W'.setCell ⟨N, 1, none⟩ vr1) leaf vr1 vk rs1 ks := by
  have hn := (hg.block N h.lt (h.r.ne_block h.n (by decide))).trans h.n
  have hk : Own (tInt .i64) 3 no W' 0 vk ks := h.k.move (fun k hk => hg.block k (h.k.lt k hk).2 (fun e => by
    obtain ⟨cs, hc⟩ := own_heap h.k hk
    exact h.r.ne_block hc (by decide) e)) (fun _ hk => hk.elim)
  have hN1 := ho.ne_block hn (by decide)
  have hN2 := hk.ne_block hn (by decide)
  exact ⟨(setCell_heap hn 1 vr1).trans rfl, ho.far (fun k hk e => hN1 (by rw [hk, show k = N from e])) (fun _ hk => hk.elim) _, hk.far (fun k hk e => hN2 (by rw [hk, show k = N from e])) (fun _ hk => hk.elim) _, h.qn, hm, h.qk⟩
theorem NW.pushK {vk1 : Value} {ks1 : List Int} (h : NW M N W leaf vr vk rs ks) (hg : W.grownBy W' vk.ownBlock) (ho : Own (tInt .i64) 3 no W' 0 vk1 ks1) (hm : ∀ b, vk1.ownBlock = some b → M b) : NW M N (W'.setCell ⟨N, 2, none⟩ vk1) leaf vr vk1 rs ks1 := by
  have hn := (hg.block N h.lt (h.k.ne_block h.n (by decide))).trans h.n
  have hr : Own tStr 9 no W' 0 vr rs := h.r.move (fun k hk => hg.block k (h.r.lt k hk).2 (fun e => by
    obtain ⟨cs, hc⟩ := own_heap h.r hk
    exact h.k.ne_block hc (by decide) e)) (fun _ hk => hk.elim)
  have hN1 := ho.ne_block hn (by decide)
  have hN2 := hr.ne_block hn (by decide)
  exact ⟨(setCell_heap hn 2 vk1).trans rfl, hr.far (fun k hk e => hN2 (by rw [hk, show k = N from e])) (fun _ hk => hk.elim) _, ho.far (fun k hk e => hN1 (by rw [hk, show k = N from e])) (fun _ hk => hk.elim) _, h.qn, h.qr, hm⟩
theorem NW.ndv {n : Nd} (h : NW M N W leaf vr vk n.recs (kints n.kids)) : NdV (fun b => M b ∧ b < W.heap.size) W vr vk n :=
  ⟨(own_rd strD rfl h.r).mono fun b hb => ⟨h.qr b hb, (h.r.lt b hb).2⟩, (own_rd intD rfl h.k).mono fun b hb => ⟨h.qk b hb, (h.k.lt b hb).2⟩⟩
theorem NW.form (h : NW M N W leaf vr vk rs ks) : (∃ A c, vr = .slice A rs.length c) ∧ ∃ A c, vk = .slice A ks.length c := by
  obtain ⟨A, c, e, _⟩ := h.r.form
  obtain ⟨A2, c2, e2, _⟩ := h.k.form
  exact ⟨⟨A, c, e⟩, ⟨A2, c2, e2⟩⟩
/-- A loaded node, laid at N. -/
theorem nw_new {base : Nat} {w : World} {n : Nd} (h : NdO base w vr vk n) (hM : ∀ b, base ≤ b → M b) (hb : base ≤ w.heap.size) (hW : W = w.alloc (.cells #[.bool n.leaf, vr, vk] 69)) : NW M w.heap.size W n.leaf vr vk n.recs (kints n.kids) := by
  subst hW
  exact ⟨heap_alloc_new _ _, (h.r.lower (Nat.zero_le _)).alloc _, (h.k.lower (Nat.zero_le _)).alloc _, hM _ hb, fun b e => hM b (h.r.lt b e).1, fun b e => hM b (h.k.lt b e).1⟩
end
theorem ArX.np {ok : Nat → Prop} {w : World} {a : Nat} {A : Ar} (h : ArX ok w a A) : A.pages.length ≤ 4096 := by
  obtain ⟨vp, vf, h⟩ := h
  exact h.np
end Go.Proofs.Ytcpahknlabnnbaa.T

namespace Go.Proofs.Ytcpahknlabnnbaa.T
open Go Go.RowKit Go.Sort Go.Proofs.Ytcpahknlabnnbaa.Mem

theorem ArX.kps {ok S : Nat → Prop} {w w' : World} {a : Nat} {A : Ar} (h : ArX ok w a A) (k : Kps S w w') (hs : ∀ b, ok b → b < w.heap.size → ¬ S b) : ArX ok w' a A := by
  obtain ⟨vp, vf, h⟩ := h
  have hl := (Array.getElem?_eq_some_iff.1 h.at').1
  exact ⟨vp, vf, (k.block a hl (hs a h.oka hl)).trans h.at', h.pages.move (fun b hb => k.block b (h.pages.lt b hb).2 (hs b (h.okp b hb) (h.pages.lt b hb).2)) (fun b hb _ hlt => k.block b hlt (hs b hb.1 hlt)), own_ints ((own_ints h.free no).move (fun b hb => k.block b (h.free.lt b hb).2 (hs b (h.okf b hb) (h.free.lt b hb).2)) (fun _ hb => hb.elim)) _, h.np, h.nf, h.oka, h.okp, h.okf⟩
theorem fair_of {n : Nd} (h : n.size ≤ 1432) : n.Fair := by
  have h2 := wt_dl n.recs
  unfold Nd.size at h
  exact ⟨by omega, by omega, by omega⟩
set_option maxHeartbeats 4000000 in
set_option maxRecDepth 100000 in
theorem insertN {μ : Nat → Nat} (hμ : ∀ l, μ l ≤ 1) (T a : Nat) : ∀ (h : Nat) (μ0 : Nat → Nat) (ok : Nat → Prop) (i : Nat) (B : Bnd) (s : ByteArray) (es : List ByteArray) (ps : List Nat) (A : Ar) (w : World), ArX ok w a A → A.Ok → (h : Int) + 1 ≤ A.left → (∀ k, w.heap.size ≤ k → ok k) → ¬ ok T → w.cell? ⟨T, 0, none⟩ = some (.pointer (some ⟨a, 0, none⟩)) → T < w.heap.size → Sub μ0 A h i B es ps → (h ≠ 0 → μ0 = μ) → B s → (1 ≤ s.size ∧ s.size ≤ 400) → s ∉ es →
    Calls Try.prog 37 #[.pointer (some ⟨T, 0, none⟩), .int .i64 ((i : Int) + 1), .string s] w fun e w' => ∃ (A' : Ar) (sep : ByteArray) (r : Nat) (es' : List ByteArray) (ps' : List Nat), e = .returned (.tuple #[.string sep, .int .i64 r]) ∧ InsOut μ A A' h i B s es ps sep r es' ps' ∧ ArX ok w' a A' ∧ Kps ok w w' := by
  intro h
  induction h with
  | zero =>
    intro μ0 ok i B s es ps A w ha hA hleft hok hTo hT hTl hsub _ hB hs hno
    obtain ⟨n, hp, ⟨hn, _⟩, hl, hbn, rfl, rfl⟩ := hsub
    obtain ⟨lf, recs, kids⟩ := n
    obtain rfl : lf = true := hl
    have HA := put ha
    have HAO := put hA
    have HL := put hleft
    have HOK := put hok
    have HTO := put hTo
    have HP := put hp
    have HN := put hn
    have HBN := put hbn
    have HB := put hB
    have HS := put hs
    have HNO := put hno
    have HFR : Kp (recs.length ≤ 100000) := put hn.fair.recs
    clear ha hA hleft hok hTo hp hn hbn hB hs hno
    go_enter Try.func37, Try.ntmps37
    go_wp2_with fail
    refine (loadN T a i A _ w HA.out hT hTl HP.out HN.out).mono ?_
    rintro e w1 ⟨vr, vk, rfl, ho1, hb1⟩
    have O1 := put ho1
    have B1 := put hb1
    obtain ⟨⟨A5, c5, rfl⟩, ⟨A6, c6, rfl⟩⟩ := ho1.form
    have hs1 := hb1.size
    clear ho1 hb1
    go_wp2_with fail
    obtain ⟨w2, hw2⟩ : ∃ w2, w2 = w1.alloc (.cells #[.bool true, .slice A5 recs.length c5, .slice A6 kids.length c6] 69) := ⟨_, rfl⟩
    rw [← hw2]
    have ST2 : Kp (NW (fun b => w.heap.size ≤ b) w1.heap.size w2 true (.slice A5 recs.length c5) (.slice A6 kids.length c6) recs (kints kids)) := put (nw_new (n := ⟨true, recs, kids⟩) O1.out (fun _ h => h) B1.out.size hw2)
    have B2 := put (bt B1.out (show Below w1.heap.size w1 w2 by rw [hw2]; exact balloc (Below.refl _ _) _))
    clear hw2
    have hks := kidAt_sep s HN.out.shp.rise
    have hkl : kidAt recs s ≤ recs.length := hks.1
    have HKS : Kp (Sep recs (kidAt recs s) s) := put hks.2
    refine (kidCalls (fun b => w.heap.size ≤ b) true _ _ recs s w2 (ST2.out.ndv (n := ⟨true, recs, kids⟩) |>.recs.mono fun _ h => h.1) HFR.out (posS_spec s HN.out.shp.rise).1).mono ?_
    rintro e w3 ⟨rfl, hb3⟩
    have ST3 := put (ST2.out.below hb3)
    have B3 := put (bt B2.out hb3)
    obtain ⟨m, hm⟩ : ∃ m, m = kidAt recs s := ⟨_, rfl⟩
    rw [← hm] at hkl HKS ⊢
    have HM := put hm
    have hfr := HFR.out
    obtain ⟨x0, x1, x2⟩ := c3 ST3.out.n
    have hlt3 := ST3.out.lt
    clear hb3 hks hm
    go_wp2_with fail
    obtain ⟨w4, hw4⟩ : ∃ w4, w4 = w3.alloc (.cells #[.string s] 9) := ⟨_, rfl⟩
    rw [← hw4]
    have hb4 : Below w3.heap.size w3 w4 := by rw [hw4]; exact balloc (Below.refl _ _) _
    have hlit : w4.heap[w3.heap.size]? = some (.cells #[.string s] 9 (0, 0)) := by rw [hw4]; exact heap_alloc_new _ _
    have ST4 := put (ST3.out.below hb4)
    have B4 := put (bt B3.out hb4)
    clear hw4 x0 x1 x2 hlt3
    refine (insS 0 m w3.heap.size _ recs s no w4 ST4.out.r (by omega) hlit (fun e => by have := (ST3.out.r.lt _ e.symm).2; omega) (Nat.zero_le _) (by omega)).mono ?_
    rintro e w5 ⟨v5, rfl, ho5, k5, hv5⟩
    obtain ⟨A7, c7, e7, q1, q2⟩ := ho5.form
    obtain ⟨n7, hn7⟩ : ∃ n7, n7 = (recs.take m ++ s :: recs.drop m).length := ⟨_, rfl⟩
    rw [← hn7] at e7 q1
    subst e7
    have hM5 : ∀ b, (Value.slice A7 n7 c7).ownBlock = some b → w.heap.size ≤ b := fun b hb => by
      rcases hv5 with h1 | ⟨b', h1, h2⟩
      · rw [h1] at hb; exact ST4.out.qr b hb
      · rw [h1] at hb; injection hb with hb; have := B4.out.size; omega
    have hnew5 : ∀ b, (Value.slice A5 recs.length c5).ownBlock = some b → w.heap.size ≤ b := ST4.out.qr
    have K5 : Kp (Kps ok w w5) := put (kps_new (below_kps B4.out ok) k5 hnew5)
    have hN5 := ((grown_kps k5).block _ ST4.out.lt (ST4.out.r.ne_block ST4.out.n (by decide))).trans ST4.out.n
    have hB5 : Below w.heap.size w w5 := B4.out.trans (k5.below hnew5 B4.out.size)
    have ST6 := put (ST4.out.pushR (grown_kps k5) ho5 hM5)
    obtain ⟨x0, x1, x2⟩ := c3 hN5
    obtain ⟨x3, x4, x5⟩ := f3 hN5
    have hlN : w1.heap.size < w5.heap.size := (Array.getElem?_eq_some_iff.1 hN5).1
    have hB6 : Below w.heap.size w (w5.setCell ⟨w1.heap.size, 1, none⟩ (.slice A7 n7 c7)) := hB5.setCell B1.out.size _
    have B6 := put hB6
    have MID := put (mid_leaf (μ := μ) (n := ⟨true, recs, kids⟩) (B := B) (s := s) HAO.out HP.out HN.out rfl HBN.out HB.out HS.out HNO.out)
    have HS2 : Kp ((Nd.mk true (recs.take m ++ s :: recs.drop m) kids).size ≤ 1432) := put (by
      have h1 := HN.out.size
      have h2 := wt_split recs m
      have h3 := wt_app (recs.take m) (s :: recs.drop m)
      have h4 := HS.out.2
      unfold Nd.size at h1 ⊢
      simp only at h1 ⊢
      rw [h3, wt]
      omega)
    have HSZ : Kp (1024 < (Nd.mk true (recs.take m ++ s :: recs.drop m) kids).size → CutOk ⟨true, recs.take m ++ s :: recs.drop m, kids⟩) := put (fun hz => cut_leaf rfl (HN.out.shp.leaf rfl) (fun x hx => (MID.out.shp.recs x (by rw [← HM.out]; exact hx)).2) hz (by
      have h1 := HN.out.size
      have h2 := wt_split recs m
      have h3 := wt_app (recs.take m) (s :: recs.drop m)
      have h4 := HS.out.2
      unfold Nd.size at h1 ⊢
      simp only at h1 ⊢
      rw [h3, wt]
      omega))
    rw [← HM.out] at MID
    clear hM5 hnew5 k5 hN5 hB5 hB6 ho5 hlit hb4 hv5 q1 q2 hn7
    obtain ⟨w6, hw6⟩ : ∃ w6, w6 = w5.setCell ⟨w1.heap.size, 1, none⟩ (.slice A7 n7 c7) := ⟨_, rfl⟩
    rw [← hw6] at ST6 B6
    have AX6 : Kp (ArX (nar ok w.heap.size w6.heap.size) w6 a A) := put (HA.out.nar B6.out)
    have HOKN : Kp (∀ k, w6.heap.size ≤ k → nar ok w.heap.size w6.heap.size k) := put fun k hk => .inr hk
    have HDIS : Kp (∀ b, (fun b => w.heap.size ≤ b) b → b < w6.heap.size → ¬ nar ok w.heap.size w6.heap.size b) := put fun b h1 h2 h3 => by
      have h1 : w.heap.size ≤ b := h1
      rcases h3 with h3 | h3 <;> omega
    have HSUB : Kp (∀ k, nar ok w.heap.size w6.heap.size k → k < w.heap.size → ok k) := put fun k h1 h2 => by
      have := B6.out.size
      rcases h1 with h1 | h1
      · exact h1.1
      · omega
    have HTA : Kp (¬ nar ok w.heap.size w6.heap.size T) := put fun h1 => by
      have := B6.out.size
      rcases h1 with h1 | h1
      · exact HTO.out h1.1
      · omega
    have hT6 := cell_at hT B6.out
    have hTl6 : T < w6.heap.size := Nat.lt_of_lt_of_le hTl B6.out.size
    have K6 : Kp (Kps ok w w6) := put (by rw [hw6]; exact K5.out.set (.inr B1.out.size) _ _)
    have HWS : Kp (w.heap.size ≤ w6.heap.size) := put B6.out.size
    go_wp2_with fail
    rw [← hw6]
    clear hw6 x0 x1 x2 x3 x4 x5 hlN
    refine (rightCalls (fun b => (fun b => w.heap.size ≤ b) b ∧ b < w6.heap.size) (.slice A7 n7 c7) (.slice A6 kids.length c6) ⟨true, recs.take m ++ s :: recs.drop m, kids⟩ w6 (ST6.out.ndv (n := ⟨true, recs.take m ++ s :: recs.drop m, kids⟩)) (fair_of HS2.out) MID.out.shp).mono ?_
    rintro e w7 ⟨rfl, hb7⟩
    have ST7 := put (ST6.out.below hb7)
    have B7 := put hb7
    have AX7 := put (AX6.out.below hb7)
    have hT7 := cell_at hT6 hb7
    have hTl7 : T < w7.heap.size := Nat.lt_of_lt_of_le hTl6 hb7.size
    have hs7 := hb7.size
    obtain ⟨x0, x1, x2⟩ := c3 ST7.out.n
    have V7 : Kp (NdV (fun b => (fun b => w.heap.size ≤ b) b ∧ b < w6.heap.size) w7 (.slice A7 n7 c7) (.slice A6 kids.length c6) ⟨true, recs.take m ++ s :: recs.drop m, kids⟩) := put ((ST6.out.ndv (n := ⟨true, recs.take m ++ s :: recs.drop m, kids⟩)).below hb7)
    clear hb7
    have hokf : ∀ k, (nar ok w.heap.size w6.heap.size) k → ok k := fun k hk => by
      rcases Nat.lt_or_ge k w.heap.size with h1 | h1
      · exact HSUB.out k hk h1
      · exact HOK.out k h1
    have HOKF := put hokf
    clear hokf
    obtain ⟨old, hold⟩ := MID.out.use
    have HOLD := put hold
    clear hold
    by_cases hz : (Nd.mk true (recs.take m ++ s :: recs.drop m) (kids)).size ≤ 1024
    · rw [decide_eq_true hz]
      have HZ := put hz
      clear hz
      go_wp2_with fail
      refine (storeN (ok := (nar ok w.heap.size w6.heap.size)) (fun b => (fun b => w.heap.size ≤ b) b ∧ b < w6.heap.size) T a i A old (.slice A7 n7 c7) (.slice A6 kids.length c6) ⟨true, recs.take m ++ s :: recs.drop m, kids⟩ w7 AX7.out (fun k hk => HOKN.out k (Nat.le_trans hs7 hk)) hT7 hTl7 HOLD.out V7.out ⟨MID.out.shp, HZ.out⟩).mono ?_
      rintro e w8 ⟨rfl, ha8, k8⟩
      have AX8 := put (ha8.mono HOKF.out)
      have K8 : Kp (Kps ok w w8) := put ((K6.out.trans (below_kps B7.out ok)).trans (k8.mono HOKF.out))
      clear ha8 k8
      go_wp2_with fail
      go_ret2
      exact ⟨_, _, 0, _, _, rfl, MID.out.fits hμ HZ.out, AX8.out, K8.out⟩
    · rw [decide_eq_false hz]
      have HBIG : Kp (1024 < (Nd.mk true (recs.take m ++ s :: recs.drop m) kids).size) := put (by omega)
      have HC := put (HSZ.out HBIG.out)
      clear hz
      go_wp2_with fail
      refine (splitCalls (fun b => (fun b => w.heap.size ≤ b) b ∧ b < w6.heap.size) (.slice A7 n7 c7) (.slice A6 kids.length c6) ⟨true, recs.take m ++ s :: recs.drop m, kids⟩ w7 V7.out (fair_of HS2.out) HC.out.len MID.out.shp.inner).mono ?_
      rintro e w8 ⟨r1, k1, r2, k2, y, rfl, hy, ho8, hp8, hb8⟩
      obtain ⟨⟨A1', c1', e1⟩, ⟨A2', c2', e2⟩⟩ := ho8.form
      obtain ⟨⟨A3', c3', e3⟩, ⟨A4', c4', e4⟩⟩ := hp8.form
      have e1' : ∃ l, r1 = .slice A1' l c1' := ⟨_, e1⟩
      have e2' : ∃ l, k1 = .slice A2' l c2' := ⟨_, e2⟩
      have e3' : ∃ l, r2 = .slice A3' l c3' := ⟨_, e3⟩
      have e4' : ∃ l, k2 = .slice A4' l c4' := ⟨_, e4⟩
      clear e1 e2 e3 e4
      obtain ⟨l1, rfl⟩ := e1'
      obtain ⟨l2, rfl⟩ := e2'
      obtain ⟨l3, rfl⟩ := e3'
      obtain ⟨l4, rfl⟩ := e4'
      obtain ⟨n', hn'⟩ : ∃ n', n' = Nd.mk true (recs.take m ++ s :: recs.drop m) (kids) := ⟨_, rfl⟩
      have hlf : n'.leaf = true := by rw [hn']
      rw [← hn'] at ho8 hp8 hy HC HBIG MID
      clear hn' HSZ HS2 V7
      have O8 := put ho8
      have P8 := put hp8
      have HY := put hy
      have B8 := put hb8
      have hT8 := cell_at hT7 hb8
      have hs8 := hb8.size
      clear ho8 hp8 hy hb8 x0 x1 x2
      go_wp2_with fail
      obtain ⟨w9, hw9⟩ : ∃ w9, w9 = (w8.alloc (.cells #[.bool true, .slice A1' l1 c1', .slice A2' l2 c2'] 69)).alloc (.cells #[.bool true, .slice A3' l3 c3', .slice A4' l4 c4'] 69) := ⟨_, rfl⟩
      rw [← hw9]
      have hb9 : Below w8.heap.size w8 w9 := by rw [hw9]; exact balloc (balloc (Below.refl _ _) _) _
      have hz9 : w9.heap.size = w8.heap.size + 1 + 1 := by rw [hw9, alloc_size, alloc_size]
      have hN3 : w9.heap[w8.heap.size + 1]? = some (.cells #[.bool true, .slice A3' l3 c3', .slice A4' l4 c4'] 69 (0, 0)) := by rw [hw9, hag, if_pos (by rw [alloc_size])]
      have B79 := put (bt B8.out hb9)
      have AX9 := put (AX7.out.nar B79.out)
      have hT9 := cell_at hT8 hb9
      have O9 := put ((O8.out.below hb9).v)
      have P9 := put ((P8.out.below hb9).v.bnd)
      have hle79 := B79.out.size
      obtain ⟨sh1, sh2⟩ := MID.out.shp.halves HC.out
      have N1 : Kp ((n'.some 0 n'.cut).Ok) := put ⟨sh1, HC.out.a⟩
      have N2 : Kp ((n'.some (n'.cut + n'.sk) n'.recs.length).Ok) := put ⟨sh2, HC.out.b⟩
      have hTB : ¬ nar (nar ok w.heap.size w6.heap.size) w7.heap.size w9.heap.size T := fun h1 => by
        rcases h1 with h1 | h1
        · exact HTA.out h1.1
        · omega
      have HTB := put hTB
      clear hw9 sh1 sh2 hT8 hTB
      have CS := storeN (ok := nar (nar ok w.heap.size w6.heap.size) w7.heap.size w9.heap.size) (fun b => w7.heap.size ≤ b) T a i A old (.slice A1' l1 c1') (.slice A2' l2 c2') (n'.some 0 n'.cut) w9 AX9.out (fun k hk => .inr hk) hT9 (by omega) HOLD.out O9.out N1.out
      rw [show (n'.some 0 n'.cut).leaf = true from hlf] at CS
      refine CS.mono ?_
      clear CS
      rintro e w10 ⟨rfl, ha10, k10⟩
      have AX10 := put ha10
      have K10 := put k10
      have hs10 := k10.size
      have hN10 := (k10.block (w8.heap.size + 1) (by omega) (by rintro (h1 | h1) <;> omega)).trans hN3
      have hT10 : w10.cell? ⟨T, 0, none⟩ = some (.pointer (some ⟨a, 0, none⟩)) := (World.cell?_of_block (a := ⟨T, 0, none⟩) (k10.block T (by omega) HTB.out)).trans hT9
      obtain ⟨y0, y1, y2⟩ := c3 hN10
      have P10 := put (P9.out.kps k10 (fun k hk _ => by rintro (h1 | h1) <;> have := hk.1 <;> have := hk.2 <;> omega))
      obtain ⟨r, hr⟩ := new_page (A := A.put i (enc (n'.some 0 n'.cut))) (put_ok MID.out.ok MID.out.use _) (by
        have h1 := MID.out.used
        have h2 := MID.out.len
        have h3 := HL.out
        have h4 := MID.out.q
        have h5 := HAO.out.q
        unfold Ar.left at h3 ⊢
        rw [put_used]
        show 0 < max (A.quota - A.used) 0
        rw [h4]
        omega) (by rw [show (A.put i (enc (n'.some 0 n'.cut))).pages.length = (A.put i (enc (n'.some 0 n'.cut))).pages.length from rfl]; exact ha10.np)
      have HR := put hr
      clear ha10 k10 hN10 hr
      go_wp2_with fail
      have CA := allocN (ok := nar (nar ok w.heap.size w6.heap.size) w7.heap.size w9.heap.size) (fun b => w7.heap.size ≤ b ∧ b < w9.heap.size) T a (A.put i (enc (n'.some 0 n'.cut))) (.slice A3' l3 c3') (.slice A4' l4 c4') (n'.some (n'.cut + n'.sk) n'.recs.length) w10 AX10.out (put_ok MID.out.ok MID.out.use _) (by
        have h1 := MID.out.used
        have h2 := MID.out.len
        have h3 := HL.out
        have h4 := MID.out.q
        have h5 := HAO.out.q
        unfold Ar.left at h3 ⊢
        rw [put_used]
        show 0 < max (A.quota - A.used) 0
        rw [h4]
        omega) (fun k hk => .inr (Nat.le_trans hs10 hk)) HTB.out hT10 (by omega) P10.out (fun k hk _ => by rintro (h1 | h1) <;> have := hk.1 <;> have := hk.2 <;> omega) N2.out r HR.out.id HR.out.at'
      rw [show (n'.some (n'.cut + n'.sk) n'.recs.length).leaf = true from hlf] at CA
      refine CA.mono ?_
      clear CA
      rintro e w11 ⟨rfl, ha11, k11⟩
      have hokb : ∀ k, nar (nar ok w.heap.size w6.heap.size) w7.heap.size w9.heap.size k → ok k := fun k hk => by
        rcases hk with hk | hk
        · exact HOKF.out k hk.1
        · exact HOK.out k (by have := HWS.out; omega)
      have AX11 := put (ha11.mono hokb)
      have K11 : Kp (Kps ok w w11) := put ((K6.out.trans (below_kps (bt B7.out B79.out) ok)).trans ((K10.out.trans k11).mono hokb))
      clear ha11 k11 hokb
      go_wp2_with fail
      go_ret2
      obtain ⟨ps', io⟩ := MID.out.split hμ HBIG.out HC.out HY.out HR.out
      exact ⟨_, y, r + 1, _, ps', by rw [show ((r + 1 : Nat) : Int) = (r : Int) + 1 by omega]; rfl, io, AX11.out, K11.out⟩
  | succ h ih =>
    intro μ0 ok i B s es ps A w ha hA hleft hok hTo hT hTl hsub hm0 hB hs hno
    obtain rfl := (hm0 (Nat.succ_ne_zero h)).symm
    obtain ⟨n, ks, hp, ⟨hn, hn2⟩, hb, hi, rfl, rfl⟩ := hsub
    have HNM : Kp (n.recs.length = n.recs.length ∧ μ (h + 1) ≤ n.recs.length) := put ⟨rfl, hn2⟩
    clear hm0 hn2
    obtain ⟨lf, recs, kids⟩ := n
    obtain rfl : lf = false := hb.inner
    have HA := put ha
    have HAO := put hA
    have HL := put hleft
    have HOK := put hok
    have HTO := put hTo
    have HP := put hp
    have HN := put hn
    have HBD := put hb
    have HI := put hi
    have HB := put hB
    have HS := put hs
    have HNO := put hno
    have IH := put ih
    have HFR : Kp (recs.length ≤ 100000) := put hn.fair.recs
    have HKL0 : Kp (kids.length = recs.length + 1) := put hb.len
    clear ha hA hleft hok hTo hp hn hb hi hB hs hno ih
    go_enter Try.func37, Try.ntmps37
    go_wp2_with fail
    refine (loadN T a i A _ w HA.out hT hTl HP.out HN.out).mono ?_
    rintro e w1 ⟨vr, vk, rfl, ho1, hb1⟩
    have O1 := put ho1
    have B1 := put hb1
    obtain ⟨⟨A5, c5, rfl⟩, ⟨A6, c6, rfl⟩⟩ := ho1.form
    have hs1 := hb1.size
    clear ho1 hb1
    go_wp2_with fail
    obtain ⟨w2, hw2⟩ : ∃ w2, w2 = w1.alloc (.cells #[.bool false, .slice A5 recs.length c5, .slice A6 kids.length c6] 69) := ⟨_, rfl⟩
    rw [← hw2]
    have ST2 : Kp (NW (fun b => w.heap.size ≤ b) w1.heap.size w2 false (.slice A5 recs.length c5) (.slice A6 kids.length c6) recs (kints kids)) := put (nw_new (n := ⟨false, recs, kids⟩) O1.out (fun _ h => h) B1.out.size hw2)
    have B2 := put (bt B1.out (show Below w1.heap.size w1 w2 by rw [hw2]; exact balloc (Below.refl _ _) _))
    clear hw2
    have hks := kidAt_sep s HN.out.shp.rise
    have hkl : kidAt recs s ≤ recs.length := hks.1
    have HKS : Kp (Sep recs (kidAt recs s) s) := put hks.2
    refine (kidCalls (fun b => w.heap.size ≤ b) false _ _ recs s w2 (ST2.out.ndv (n := ⟨false, recs, kids⟩) |>.recs.mono fun _ h => h.1) HFR.out (posS_spec s HN.out.shp.rise).1).mono ?_
    rintro e w3 ⟨rfl, hb3⟩
    have ST3 := put (ST2.out.below hb3)
    have B3 := put (bt B2.out hb3)
    obtain ⟨m, hm⟩ : ∃ m, m = kidAt recs s := ⟨_, rfl⟩
    rw [← hm] at hkl HKS ⊢
    have HM := put hm
    have hfr := HFR.out
    obtain ⟨k, hk⟩ : ∃ k, kids[m]? = some k := ⟨_, List.getElem?_eq_getElem (by have := HKL0.out; omega)⟩
    have hk1 := HN.out.shp.kids k (List.mem_of_getElem? hk)
    obtain ⟨p, hpk⟩ : ∃ p, ks[m]? = some p := ⟨_, List.getElem?_eq_getElem (by have h1 := HBD.out.lk; have h2 : (Nd.mk false recs kids).kids.length = kids.length := rfl; have := HKL0.out; omega)⟩
    have hrd := own_rd intD rfl ST3.out.k
    rw [show (Value.slice A6 kids.length c6) = .slice A6 (kints kids).length c6 by rw [kints_len]] at hrd
    obtain ⟨g, o, hg1, hg2, e0⟩ := hrd.get (kints_get hk)
    subst hg1
    have e0' : w3.cell? ⟨g, o + m, none⟩ = some (.int .i64 (((k - 1 : Nat) : Int) + 1)) := by rw [e0]; congr 2; omega
    have HKK := put hk
    have HPK := put hpk
    have hml : (m : Int) < (kids.length : Int) := by have := HKL0.out; omega
    have hm0 : (0 : Int) ≤ (m : Int) := by omega
    clear e0 hrd hk hpk
    obtain ⟨x0, x1, x2⟩ := c3 ST3.out.n
    have hlt3 := ST3.out.lt
    clear hb3 hks hm
    go_wp2_with fail
    have hsub := HBD.out.kid m k p HKK.out HPK.out
    have hs3 := B3.out.size
    have hT3 := cell_at hT B3.out
    have hdis : ∀ b, w.heap.size ≤ b → b < w3.heap.size → ¬ nar ok w.heap.size w3.heap.size b := fun b h1 h2 h3 => by
      rcases h3 with h3 | h3 <;> omega
    have HN1 : Kp (∀ k, nar ok w.heap.size w3.heap.size k → ok k) := put fun k hk => by
      rcases hk with hk | hk
      · exact hk.1
      · exact HOK.out k (by omega)
    have hT1 : ¬ nar ok w.heap.size w3.heap.size T := fun h1 => by
      rcases h1 with h1 | h1
      · exact HTO.out h1.1
      · omega
    refine (IH.out μ (nar ok w.heap.size w3.heap.size) (k - 1) _ s p.1 p.2 A w3 (HA.out.nar B3.out) HAO.out (by have := HL.out; omega) (fun b hb => .inr hb) hT1 hT3 (by omega) hsub (fun _ => rfl) ⟨HB.out, HKS.out⟩ HS.out (fun h1 => HNO.out (mem_ents.2 ⟨m, p, HPK.out, h1⟩))).mono ?_
    rintro e w4 ⟨AA, sep, r, es1, ps1, rfl, io, ax4, k4⟩
    have IO := put io
    have AX4 := put ax4
    have K4 : Kp (Kps ok w w4) := put ((below_kps B3.out ok).trans (k4.mono HN1.out))
    have hs4 := k4.size
    have ST4 := put ((ST3.out.imp (M' := fun b => (w.heap.size ≤ b ∧ b < w3.heap.size) ∨ w4.heap.size ≤ b) (fun b h1 h2 => .inl ⟨h1, h2⟩)).kps k4 (fun b h1 h2 => hdis b (by rcases h1 with h1 | h1 <;> omega) h2))
    have hT4 : w4.cell? ⟨T, 0, none⟩ = some (.pointer (some ⟨a, 0, none⟩)) := (World.cell?_of_block (a := ⟨T, 0, none⟩) (k4.block T (by omega) hT1)).trans hT3
    clear io ax4 k4 x0 x1 x2 e0' hlt3 hsub hT1 hdis
    by_cases hr0 : r = 0
    · subst hr0
      go_wp2_with fail
      go_ret2
      exact ⟨AA, ⟨#[]⟩, 0, _, _, rfl, ins_same HP.out ⟨HN.out, HNM.out.2⟩ HBD.out HI.out HKK.out HPK.out IO.out, AX4.out.mono HN1.out, K4.out⟩
    have hrz : ¬ (r : Int) = 0 := by omega
    obtain ⟨es2, bl2, mid⟩ := mid_inner HP.out HN.out HBD.out HI.out HKK.out HPK.out hr0 IO.out
    have MID := put mid
    clear mid
    obtain ⟨x0, x1, x2⟩ := c3 ST4.out.n
    have hlt4 := ST4.out.lt
    go_wp2_with fail
    obtain ⟨w5, hw5⟩ : ∃ w5, w5 = w4.alloc (.cells #[.string sep] 9) := ⟨_, rfl⟩
    rw [← hw5]
    have hb5 : Below w4.heap.size w4 w5 := by rw [hw5]; exact balloc (Below.refl _ _) _
    have hlit : w5.heap[w4.heap.size]? = some (.cells #[.string sep] 9 (0, 0)) := by rw [hw5]; exact heap_alloc_new _ _
    have ST5 := put (ST4.out.below hb5)
    have hs5 := hb5.size
    refine (insS 0 m w4.heap.size _ recs sep no w5 ST5.out.r (by omega) hlit (fun e => by have := (ST4.out.r.lt _ e.symm).2; omega) (Nat.zero_le _) (by omega)).mono ?_
    rintro e w6a ⟨v6, rfl, ho6, k6, hv6⟩
    obtain ⟨A7, c7, e7, q1, q2⟩ := ho6.form
    obtain ⟨n7, hn7⟩ : ∃ n7, n7 = (recs.take m ++ sep :: recs.drop m).length := ⟨_, rfl⟩
    rw [← hn7] at e7 q1
    subst e7
    have hM6 : ∀ b, (Value.slice A7 n7 c7).ownBlock = some b → (w.heap.size ≤ b ∧ b < w3.heap.size) ∨ w4.heap.size ≤ b := fun b hb => by
      rcases hv6 with h1 | ⟨b', h1, h2⟩
      · rw [h1] at hb; exact ST5.out.qr b hb
      · rw [h1] at hb; injection hb with hb; omega
    have hN6 := ((grown_kps k6).block _ ST5.out.lt (ST5.out.r.ne_block ST5.out.n (by decide))).trans ST5.out.n
    have ST6a := put (ST5.out.pushR (grown_kps k6) ho6 hM6)
    have K6a : Kp (Kps (fun b => (w.heap.size ≤ b ∧ b < w3.heap.size) ∨ w4.heap.size ≤ b) w4 w6a) := put ((below_kps hb5 _).trans (k6.mono ST5.out.qr))
    clear x0 x1 x2 hlt4
    obtain ⟨x0, x1, x2⟩ := c3 hN6
    obtain ⟨x3, x4, x5⟩ := f3 hN6
    have hlN : w1.heap.size < w6a.heap.size := (Array.getElem?_eq_some_iff.1 hN6).1
    have K7a := put (K6a.out.set (.inl ST5.out.qn) 1 (.slice A7 n7 c7))
    clear hM6 hN6 k6 ho6 hv6 q1 q2 hb5 hlit hw5 hn7
    go_wp2_with fail
    obtain ⟨w8, hw8⟩ : ∃ w8, w8 = (w6a.setCell ⟨w1.heap.size, 1, none⟩ (.slice A7 n7 c7)).alloc (.cells #[.int .i64 r] 3) := ⟨_, rfl⟩
    rw [← hw8]
    have hb8 : Below (w6a.setCell ⟨w1.heap.size, 1, none⟩ (.slice A7 n7 c7)).heap.size (w6a.setCell ⟨w1.heap.size, 1, none⟩ (.slice A7 n7 c7)) w8 := by rw [hw8]; exact balloc (Below.refl _ _) _
    have hlit : w8.heap[w6a.heap.size]? = some (.cells #[.int .i64 r] 3 (0, 0)) := by rw [hw8, hag, if_pos (by rw [World.size_setCell])]
    have ST8 := put (ST6a.out.below hb8)
    have hs8 : w6a.heap.size ≤ w8.heap.size := by have := hb8.size; rwa [World.size_setCell] at this
    have hs6 := K6a.out.size
    have CI := insI 0 (m + 1) w6a.heap.size _ (kints kids) (r : Int) no w8 ST8.out.k (by rw [kints_len]; have := HKL0.out; omega) hlit (fun e => by have := (ST6a.out.k.lt _ e.symm).2; rw [World.size_setCell] at this; omega) (Nat.zero_le _) (by rw [kints_len]; have := HKL0.out; omega)
    rw [show ((m + 1 : Nat) : Int) = (m : Int) + 1 by omega] at CI
    refine CI.mono ?_
    clear CI
    rintro e w9a ⟨v9, rfl, ho9, k9, hv9⟩
    rw [show (kints kids).take (m + 1) ++ (r : Int) :: (kints kids).drop (m + 1) = kints (kids.take (m + 1) ++ r :: kids.drop (m + 1)) by unfold kints; rw [List.map_append, List.map_cons, List.map_take, List.map_drop]] at ho9
    obtain ⟨A8, c8, e8, q1, q2⟩ := ho9.form
    obtain ⟨n8, hn8⟩ : ∃ n8, n8 = (kints (kids.take (m + 1) ++ r :: kids.drop (m + 1))).length := ⟨_, rfl⟩
    rw [← hn8] at e8 q1
    subst e8
    have hM9 : ∀ b, (Value.slice A8 n8 c8).ownBlock = some b → (w.heap.size ≤ b ∧ b < w3.heap.size) ∨ w4.heap.size ≤ b := fun b hb => by
      rcases hv9 with h1 | ⟨b', h1, h2⟩
      · rw [h1] at hb; exact ST8.out.qk b hb
      · rw [h1] at hb; injection hb with hb; omega
    have hN9 := ((grown_kps k9).block _ ST8.out.lt (ST8.out.k.ne_block ST8.out.n (by decide))).trans ST8.out.n
    have ST6 := put (ST8.out.pushK (grown_kps k9) ho9 hM9)
    have K9 := put ((K7a.out.trans (below_kps hb8 _)).trans (k9.mono ST8.out.qk))
    have K46 := put (K9.out.set (.inl ST8.out.qn) 2 (.slice A8 n8 c8))
    clear x0 x1 x2 x3 x4 x5 hlN
    obtain ⟨x0, x1, x2⟩ := c3 hN9
    obtain ⟨x3, x4, x5⟩ := f3 hN9
    have hlN : w1.heap.size < w9a.heap.size := (Array.getElem?_eq_some_iff.1 hN9).1
    clear hM9 hN9 k9 ho9 hv9 q1 q2 hb8 hlit hw8 hn8
    have HS2 : Kp ((Nd.mk false (recs.take m ++ sep :: recs.drop m) (kids.take (m + 1) ++ r :: kids.drop (m + 1))).size ≤ 1432) := put (by
      have h1 := HN.out.size
      have h2 := wt_split recs m
      have h3 := wt_app (recs.take m) (sep :: recs.drop m)
      have h4 := (MID.out.shp.recs sep (List.mem_append_right _ List.mem_cons_self)).2
      have h5 := HKL0.out
      unfold Nd.size at h1 ⊢
      simp only [List.length_append, List.length_cons, List.length_take, List.length_drop] at h1 ⊢
      rw [h3, wt]
      omega)
    have HSZ : Kp (1024 < (Nd.mk false (recs.take m ++ sep :: recs.drop m) (kids.take (m + 1) ++ r :: kids.drop (m + 1))).size → CutOk ⟨false, recs.take m ++ sep :: recs.drop m, kids.take (m + 1) ++ r :: kids.drop (m + 1)⟩) := put (fun hz => cut_inner rfl (MID.out.shp.inner rfl) (fun x hx => (MID.out.shp.recs x hx).2) hz HS2.out)
    obtain ⟨w6, hw6⟩ : ∃ w6, w6 = w9a.setCell ⟨w1.heap.size, 2, none⟩ (.slice A8 n8 c8) := ⟨_, rfl⟩
    rw [← hw6] at ST6 K46
    have hs46 := K46.out.size
    have AX6 : Kp (ArX (nar (nar ok w.heap.size w3.heap.size) w4.heap.size w6.heap.size) w6 a AA) := put ((AX4.out.bnd.kps K46.out (fun b h1 _ h2 => by
      rcases h1.1 with h3 | h3 <;> rcases h2 with h2 | h2 <;> have := h1.2 <;> omega)).mono fun _ h1 => .inl h1)
    have HOKN : Kp (∀ k, w6.heap.size ≤ k → nar (nar ok w.heap.size w3.heap.size) w4.heap.size w6.heap.size k) := put fun k hk => .inr hk
    have HDIS : Kp (∀ b, ((w.heap.size ≤ b ∧ b < w3.heap.size) ∨ w4.heap.size ≤ b) → b < w6.heap.size → ¬ nar (nar ok w.heap.size w3.heap.size) w4.heap.size w6.heap.size b) := put fun b h1 h2 h3 => by
      rcases h3 with ⟨h3 | h3, h4⟩ | h3 <;> rcases h1 with h1 | h1 <;> omega
    have HSUB : Kp (∀ k, nar (nar ok w.heap.size w3.heap.size) w4.heap.size w6.heap.size k → k < w.heap.size → ok k) := put fun k h1 h2 => by
      rcases h1 with h1 | h1
      · exact HN1.out k h1.1
      · omega
    have HTA : Kp (¬ nar (nar ok w.heap.size w3.heap.size) w4.heap.size w6.heap.size T) := put fun h1 => by
      rcases h1 with h1 | h1
      · exact HTO.out (HN1.out T h1.1)
      · omega
    have hT6 : w6.cell? ⟨T, 0, none⟩ = some (.pointer (some ⟨a, 0, none⟩)) := (World.cell?_of_block (a := ⟨T, 0, none⟩) (K46.out.block T (by omega) (by rintro (h1 | h1) <;> omega))).trans hT4
    have hTl6 : T < w6.heap.size := by omega
    have K6 : Kp (Kps ok w w6) := put (kps_new K4.out K46.out (fun b h1 => by rcases h1 with h1 | h1 <;> omega))
    have HWS : Kp (w.heap.size ≤ w6.heap.size) := put (by omega)
    go_wp2_with fail
    rw [← hw6]
    clear hw6 x0 x1 x2 x3 x4 x5 hlN
    refine (rightCalls (fun b => (fun b => (w.heap.size ≤ b ∧ b < w3.heap.size) ∨ w4.heap.size ≤ b) b ∧ b < w6.heap.size) (.slice A7 n7 c7) (.slice A8 n8 c8) ⟨false, recs.take m ++ sep :: recs.drop m, kids.take (m + 1) ++ r :: kids.drop (m + 1)⟩ w6 (ST6.out.ndv (n := ⟨false, recs.take m ++ sep :: recs.drop m, kids.take (m + 1) ++ r :: kids.drop (m + 1)⟩)) (fair_of HS2.out) MID.out.shp).mono ?_
    rintro e w7 ⟨rfl, hb7⟩
    have ST7 := put (ST6.out.below hb7)
    have B7 := put hb7
    have AX7 := put (AX6.out.below hb7)
    have hT7 := cell_at hT6 hb7
    have hTl7 : T < w7.heap.size := Nat.lt_of_lt_of_le hTl6 hb7.size
    have hs7 := hb7.size
    obtain ⟨x0, x1, x2⟩ := c3 ST7.out.n
    have V7 : Kp (NdV (fun b => (fun b => (w.heap.size ≤ b ∧ b < w3.heap.size) ∨ w4.heap.size ≤ b) b ∧ b < w6.heap.size) w7 (.slice A7 n7 c7) (.slice A8 n8 c8) ⟨false, recs.take m ++ sep :: recs.drop m, kids.take (m + 1) ++ r :: kids.drop (m + 1)⟩) := put ((ST6.out.ndv (n := ⟨false, recs.take m ++ sep :: recs.drop m, kids.take (m + 1) ++ r :: kids.drop (m + 1)⟩)).below hb7)
    clear hb7
    have hokf : ∀ k, (nar (nar ok w.heap.size w3.heap.size) w4.heap.size w6.heap.size) k → ok k := fun k hk => by
      rcases Nat.lt_or_ge k w.heap.size with h1 | h1
      · exact HSUB.out k hk h1
      · exact HOK.out k h1
    have HOKF := put hokf
    clear hokf
    obtain ⟨old, hold⟩ := MID.out.use
    have HOLD := put hold
    clear hold
    by_cases hz : (Nd.mk false (recs.take m ++ sep :: recs.drop m) (kids.take (m + 1) ++ r :: kids.drop (m + 1))).size ≤ 1024
    · rw [decide_eq_true hz]
      have HZ := put hz
      clear hz
      go_wp2_with fail
      refine (storeN (ok := (nar (nar ok w.heap.size w3.heap.size) w4.heap.size w6.heap.size)) (fun b => (fun b => (w.heap.size ≤ b ∧ b < w3.heap.size) ∨ w4.heap.size ≤ b) b ∧ b < w6.heap.size) T a i AA old (.slice A7 n7 c7) (.slice A8 n8 c8) ⟨false, recs.take m ++ sep :: recs.drop m, kids.take (m + 1) ++ r :: kids.drop (m + 1)⟩ w7 AX7.out (fun k hk => HOKN.out k (Nat.le_trans hs7 hk)) hT7 hTl7 HOLD.out V7.out ⟨MID.out.shp, HZ.out⟩).mono ?_
      rintro e w8 ⟨rfl, ha8, k8⟩
      have AX8 := put (ha8.mono HOKF.out)
      have K8 : Kp (Kps ok w w8) := put ((K6.out.trans (below_kps B7.out ok)).trans (k8.mono HOKF.out))
      clear ha8 k8
      go_wp2_with fail
      go_ret2
      exact ⟨_, _, 0, _, _, rfl, MID.out.fits hμ HZ.out, AX8.out, K8.out⟩
    · rw [decide_eq_false hz]
      have HBIG : Kp (1024 < (Nd.mk false (recs.take m ++ sep :: recs.drop m) (kids.take (m + 1) ++ r :: kids.drop (m + 1))).size) := put (by omega)
      have HC := put (HSZ.out HBIG.out)
      clear hz
      go_wp2_with fail
      refine (splitCalls (fun b => (fun b => (w.heap.size ≤ b ∧ b < w3.heap.size) ∨ w4.heap.size ≤ b) b ∧ b < w6.heap.size) (.slice A7 n7 c7) (.slice A8 n8 c8) ⟨false, recs.take m ++ sep :: recs.drop m, kids.take (m + 1) ++ r :: kids.drop (m + 1)⟩ w7 V7.out (fair_of HS2.out) HC.out.len MID.out.shp.inner).mono ?_
      rintro e w8 ⟨r1, k1, r2, k2, y, rfl, hy, ho8, hp8, hb8⟩
      obtain ⟨⟨A1', c1', e1⟩, ⟨A2', c2', e2⟩⟩ := ho8.form
      obtain ⟨⟨A3', c3', e3⟩, ⟨A4', c4', e4⟩⟩ := hp8.form
      have e1' : ∃ l, r1 = .slice A1' l c1' := ⟨_, e1⟩
      have e2' : ∃ l, k1 = .slice A2' l c2' := ⟨_, e2⟩
      have e3' : ∃ l, r2 = .slice A3' l c3' := ⟨_, e3⟩
      have e4' : ∃ l, k2 = .slice A4' l c4' := ⟨_, e4⟩
      clear e1 e2 e3 e4
      obtain ⟨l1, rfl⟩ := e1'
      obtain ⟨l2, rfl⟩ := e2'
      obtain ⟨l3, rfl⟩ := e3'
      obtain ⟨l4, rfl⟩ := e4'
      obtain ⟨n', hn'⟩ : ∃ n', n' = Nd.mk false (recs.take m ++ sep :: recs.drop m) (kids.take (m + 1) ++ r :: kids.drop (m + 1)) := ⟨_, rfl⟩
      have hlf : n'.leaf = false := by rw [hn']
      rw [← hn'] at ho8 hp8 hy HC HBIG MID
      clear hn' HSZ HS2 V7
      have O8 := put ho8
      have P8 := put hp8
      have HY := put hy
      have B8 := put hb8
      have hT8 := cell_at hT7 hb8
      have hs8 := hb8.size
      clear ho8 hp8 hy hb8 x0 x1 x2
      go_wp2_with fail
      obtain ⟨w9, hw9⟩ : ∃ w9, w9 = (w8.alloc (.cells #[.bool false, .slice A1' l1 c1', .slice A2' l2 c2'] 69)).alloc (.cells #[.bool false, .slice A3' l3 c3', .slice A4' l4 c4'] 69) := ⟨_, rfl⟩
      rw [← hw9]
      have hb9 : Below w8.heap.size w8 w9 := by rw [hw9]; exact balloc (balloc (Below.refl _ _) _) _
      have hz9 : w9.heap.size = w8.heap.size + 1 + 1 := by rw [hw9, alloc_size, alloc_size]
      have hN3 : w9.heap[w8.heap.size + 1]? = some (.cells #[.bool false, .slice A3' l3 c3', .slice A4' l4 c4'] 69 (0, 0)) := by rw [hw9, hag, if_pos (by rw [alloc_size])]
      have B79 := put (bt B8.out hb9)
      have AX9 := put (AX7.out.nar B79.out)
      have hT9 := cell_at hT8 hb9
      have O9 := put ((O8.out.below hb9).v)
      have P9 := put ((P8.out.below hb9).v.bnd)
      have hle79 := B79.out.size
      obtain ⟨sh1, sh2⟩ := MID.out.shp.halves HC.out
      have N1 : Kp ((n'.some 0 n'.cut).Ok) := put ⟨sh1, HC.out.a⟩
      have N2 : Kp ((n'.some (n'.cut + n'.sk) n'.recs.length).Ok) := put ⟨sh2, HC.out.b⟩
      have hTB : ¬ nar (nar (nar ok w.heap.size w3.heap.size) w4.heap.size w6.heap.size) w7.heap.size w9.heap.size T := fun h1 => by
        rcases h1 with h1 | h1
        · exact HTA.out h1.1
        · omega
      have HTB := put hTB
      clear hw9 sh1 sh2 hT8 hTB
      have CS := storeN (ok := nar (nar (nar ok w.heap.size w3.heap.size) w4.heap.size w6.heap.size) w7.heap.size w9.heap.size) (fun b => w7.heap.size ≤ b) T a i AA old (.slice A1' l1 c1') (.slice A2' l2 c2') (n'.some 0 n'.cut) w9 AX9.out (fun k hk => .inr hk) hT9 (by omega) HOLD.out O9.out N1.out
      rw [show (n'.some 0 n'.cut).leaf = false from hlf] at CS
      refine CS.mono ?_
      clear CS
      rintro e w10 ⟨rfl, ha10, k10⟩
      have AX10 := put ha10
      have K10 := put k10
      have hs10 := k10.size
      have hN10 := (k10.block (w8.heap.size + 1) (by omega) (by rintro (h1 | h1) <;> omega)).trans hN3
      have hT10 : w10.cell? ⟨T, 0, none⟩ = some (.pointer (some ⟨a, 0, none⟩)) := (World.cell?_of_block (a := ⟨T, 0, none⟩) (k10.block T (by omega) HTB.out)).trans hT9
      obtain ⟨y0, y1, y2⟩ := c3 hN10
      have P10 := put (P9.out.kps k10 (fun k hk _ => by rintro (h1 | h1) <;> have := hk.1 <;> have := hk.2 <;> omega))
      obtain ⟨rr, hr⟩ := new_page (A := AA.put i (enc (n'.some 0 n'.cut))) (put_ok MID.out.ok MID.out.use _) (by
        have h1 := MID.out.used
        have h2 := MID.out.len
        have h3 := HL.out
        have h4 := MID.out.q
        have h5 := HAO.out.q
        unfold Ar.left at h3 ⊢
        rw [put_used]
        show 0 < max (AA.quota - AA.used) 0
        rw [h4]
        omega) (by rw [show (AA.put i (enc (n'.some 0 n'.cut))).pages.length = (AA.put i (enc (n'.some 0 n'.cut))).pages.length from rfl]; exact ha10.np)
      have HR := put hr
      clear ha10 k10 hN10 hr
      go_wp2_with fail
      have CA := allocN (ok := nar (nar (nar ok w.heap.size w3.heap.size) w4.heap.size w6.heap.size) w7.heap.size w9.heap.size) (fun b => w7.heap.size ≤ b ∧ b < w9.heap.size) T a (AA.put i (enc (n'.some 0 n'.cut))) (.slice A3' l3 c3') (.slice A4' l4 c4') (n'.some (n'.cut + n'.sk) n'.recs.length) w10 AX10.out (put_ok MID.out.ok MID.out.use _) (by
        have h1 := MID.out.used
        have h2 := MID.out.len
        have h3 := HL.out
        have h4 := MID.out.q
        have h5 := HAO.out.q
        unfold Ar.left at h3 ⊢
        rw [put_used]
        show 0 < max (AA.quota - AA.used) 0
        rw [h4]
        omega) (fun k hk => .inr (Nat.le_trans hs10 hk)) HTB.out hT10 (by omega) P10.out (fun k hk _ => by rintro (h1 | h1) <;> have := hk.1 <;> have := hk.2 <;> omega) N2.out rr HR.out.id HR.out.at'
      rw [show (n'.some (n'.cut + n'.sk) n'.recs.length).leaf = false from hlf] at CA
      refine CA.mono ?_
      clear CA
      rintro e w11 ⟨rfl, ha11, k11⟩
      have hokb : ∀ k, nar (nar (nar ok w.heap.size w3.heap.size) w4.heap.size w6.heap.size) w7.heap.size w9.heap.size k → ok k := fun k hk => by
        rcases hk with hk | hk
        · exact HOKF.out k hk.1
        · exact HOK.out k (by have := HWS.out; omega)
      have AX11 := put (ha11.mono hokb)
      have K11 : Kp (Kps ok w w11) := put ((K6.out.trans (below_kps (bt B7.out B79.out) ok)).trans ((K10.out.trans k11).mono hokb))
      clear ha11 k11 hokb
      go_wp2_with fail
      go_ret2
      obtain ⟨ps', io⟩ := MID.out.split hμ HBIG.out HC.out HY.out HR.out
      exact ⟨_, y, rr + 1, _, ps', by rw [show ((rr + 1 : Nat) : Int) = (rr : Int) + 1 by omega]; rfl, io, AX11.out, K11.out⟩
end Go.Proofs.Ytcpahknlabnnbaa.T

namespace Go.Proofs.Ytcpahknlabnnbaa.T
open Go Go.RowKit Go.Sort Go.Proofs.Ytcpahknlabnnbaa.Mem

/-- A tree in memory. -/
def TrR (T a : Nat) (W : World) (root height n : Int) : Prop := W.heap[T]? = some (.cells #[.pointer (some ⟨a, 0, none⟩), .int .i64 root, .int .i64 height, .int .i64 n] 63 (0, 0))
theorem TrR.cells {T a : Nat} {W : World} {r h n : Int} (t : TrR T a W r h n) : W.cell? ⟨T, 0, none⟩ = some (.pointer (some ⟨a, 0, none⟩)) ∧ W.cell? ⟨T, 1, none⟩ = some (.int .i64 r) ∧ W.cell? ⟨T, 2, none⟩ = some (.int .i64 h) ∧ W.cell? ⟨T, 3, none⟩ = some (.int .i64 n) := c4 t
theorem TrR.lt {T a : Nat} {W : World} {r h n : Int} (t : TrR T a W r h n) : T < W.heap.size := (Array.getElem?_eq_some_iff.1 (show W.heap[T]? = _ from t)).1
theorem TrR.below {T a : Nat} {W W' : World} {r h n : Int} (t : TrR T a W r h n) (hb : Below W.heap.size W W') : TrR T a W' r h n := (hb.block T t.lt).trans t
theorem TrR.loose {T a : Nat} {W : World} {r h n : Int} (t : TrR T a W r h n) (j : Nat) : W.frozen? ⟨T, j, none⟩ = false := by unfold TrR at t; simp [World.frozen?, t]

set_option maxHeartbeats 1000000 in
set_option maxRecDepth 100000 in
theorem overCalls (T a : Nat) (r h n : Int) (w : World) (t : TrR T a w r h n) (hh : h ≠ 0) :
    Calls Try.prog 31 #[.pointer (some ⟨T, 0, none⟩)] w fun e w' => e = .returned (.bool false) ∧ w' = w := by
  obtain ⟨x0, x1, x2, x3⟩ := t.cells
  clear t
  go_enter Try.func31, Try.ntmps31
  go_wp2_with fail
  go_ret
  exact ⟨by simp [hh], rfl⟩

set_option maxHeartbeats 1000000 in
set_option maxRecDepth 100000 in
theorem lenCalls (T a : Nat) (r h n : Int) (w : World) (t : TrR T a w r h n) (hh : h ≠ 0) :
    Calls Try.prog 11 #[.pointer (some ⟨T, 0, none⟩)] w fun e w' => e = .returned (.int .i64 n) ∧ w' = w := by
  have C := put (overCalls T a r h n w t hh)
  obtain ⟨x0, x1, x2, x3⟩ := t.cells
  clear t
  go_enter Try.func11, Try.ntmps11
  go_wp2_with fail
  refine C.out.mono ?_
  rintro e w1 ⟨rfl, rfl⟩
  go_wp2_with fail
  go_ret
  exact ⟨rfl, rfl⟩

set_option maxHeartbeats 1000000 in
set_option maxRecDepth 100000 in
theorem heightCalls (T a : Nat) (r h n : Int) (w : World) (t : TrR T a w r h n) (hh : h ≠ 0) :
    Calls Try.prog 23 #[.pointer (some ⟨T, 0, none⟩)] w fun e w' => e = .returned (.int .i64 h) ∧ w' = w := by
  have C := put (overCalls T a r h n w t hh)
  obtain ⟨x0, x1, x2, x3⟩ := t.cells
  clear t
  go_enter Try.func23, Try.ntmps23
  go_wp2_with fail
  refine C.out.mono ?_
  rintro e w1 ⟨rfl, rfl⟩
  go_wp2_with fail
  go_ret
  exact ⟨rfl, rfl⟩
/-- The node without entries. -/
def nil0 : Nd := ⟨true, [], []⟩
theorem nil0_ok : nil0.Ok := ⟨⟨fun _ => rfl, fun e => by simp [nil0] at e, List.Pairwise.nil, by simp [nil0], by simp [nil0]⟩, by decide⟩

set_option maxHeartbeats 1000000 in
set_option maxRecDepth 100000 in
/-- New's closure, where there is a page. -/
theorem newFun {ok : Nat → Prop} (V T a : Nat) (A : Ar) (w : World) (hv : w.heap[V]? = some (.cells #[.pointer (some ⟨T, 0, none⟩)] 29 (0, 0))) (t : TrR T a w 0 1 0) (h : ArX ok w a A) (hA : A.Ok) (hl : 0 < A.left) (hok : ∀ k, w.heap.size ≤ k → ok k) (hTo : ¬ ok T) (hVo : ¬ ok V) (i : Nat) (hi : NewPg A i) :
    Calls Try.prog 26 #[.pointer (some ⟨V, 0, none⟩)] w fun e w' => e = .returned (.tuple #[]) ∧ ArX ok w' a (A.alloc.put i (enc nil0)) ∧ TrR T a w' ((i : Int) + 1) 1 0 ∧ Kps (fun k => ok k ∨ k = T) w w' := by
  obtain ⟨x0, x1, x2, x3⟩ := t.cells
  have y0 : w.cell? ⟨V, 0, none⟩ = some (.pointer (some ⟨T, 0, none⟩)) := by simp [World.cell?, hv]
  have C := put (fun (W : World) (hb : Below w.heap.size w W) => allocN (ok := ok) no T a A (.slice none 0 0) (.slice none 0 0) nil0 W (h.below hb) hA hl (fun k hk => hok k (Nat.le_trans hb.size hk)) hTo (cell_at x0 hb) (Nat.lt_of_lt_of_le t.lt hb.size) ⟨RdE.nil _ _ _, RdE.nil _ _ _⟩ (fun _ hk => hk.elim) nil0_ok i hi.id hi.at')
  have HT := put t
  have HTO := put hTo
  have HVO := put hVo
  have HV := put hv
  have hx2 := t.loose 1
  have hvt : T ≠ V := by
    rintro rfl
    have h1 : w.heap[T]? = _ := t
    rw [hv] at h1
    injection h1 with h1
    injection h1 with _ h1 _
    exact absurd h1 (by decide)
  have htl := t.lt
  have hvl := (Array.getElem?_eq_some_iff.1 hv).1
  clear hv h hA hl hok hTo hVo hi x2 x3
  go_enter Try.func26, Try.ntmps26
  go_wp2_with fail
  go_region_held3 (fun w' => w'.cell? ⟨V, 0, none⟩ = some (.pointer (some ⟨T, 0, none⟩))) (first | go_keep | exact y0 | exact z0 | exact (World.cell?_setCell_far _ _ _ _ (by exact hvt)).trans z0) (first | (go_at_call 27; refine (C.out _ (by (repeat (first | with_reducible exact (Below.refl _ _) | with_reducible apply Below.drew | with_reducible refine balloc ?_ _)))).mono ?_; rintro e w5 ⟨rfl, ha5, k5⟩; have hb5 : Kps ok w w5 := (below_kps (by (repeat (first | with_reducible exact (Below.refl _ _) | with_reducible apply Below.drew | with_reducible refine balloc ?_ _))) ok).trans k5; have z0 : w5.cell? ⟨V, 0, none⟩ = some (.pointer (some ⟨T, 0, none⟩)) := (World.cell?_of_block (a := ⟨V, 0, none⟩) (hb5.block V hvl HVO.out)).trans y0; have T5 := (hb5.block T htl HTO.out).trans HT.out; obtain ⟨t0, t1, t2, t3⟩ := c4 T5; have t4 : w5.frozen? ⟨T, 1, none⟩ = false := TrR.loose (a := a) (r := 0) (h := 1) (n := 0) T5 1; have A5 := put ha5; have K5 := put hb5; have HT5 := put T5; clear ha5 k5 hb5 T5))
  all_goals
    go_wp2_with fail
    refine bodyPost_end (results_none rfl _ _ _) rfl ⟨rfl, ?_, ?_, ?_⟩
    · exact A5.out.kps ((Kps.refl (fun k => k = T) w5).set (.inl rfl) 1 _) (fun b hb _ e => HTO.out (e ▸ hb))
    · exact (setCell_heap HT5.out 1 _).trans rfl
    · exact (K5.out.mono fun k hk => .inl hk).set (.inl (.inr rfl)) 1 _

set_option maxHeartbeats 1000000 in
set_option maxRecDepth 100000 in
/-- New, where there is a page. -/
theorem newTree {ok : Nat → Prop} (a : Nat) (A : Ar) (w : World) (h : ArX ok w a A) (hA : A.Ok) (hl : 0 < A.left) (hok : ∀ k, w.heap.size ≤ k → ok k) (i : Nat) (hi : NewPg A i) :
    Calls Try.prog 9 #[.pointer (some ⟨a, 0, none⟩)] w fun e w' => e = .returned (.tuple #[.pointer (some ⟨w.heap.size, 0, none⟩), .int .i64 0]) ∧ ArX (nar ok w.heap.size (w.heap.size + 1 + 1 + 1)) w' a (A.alloc.put i (enc nil0)) ∧ TrR w.heap.size a w' ((i : Int) + 1) 1 0 ∧ Kps ok w w' := by
  obtain ⟨w2, hw2⟩ : ∃ w2, w2 = (w.alloc (.cells #[.pointer (some ⟨a, 0, none⟩), .int .i64 0, .int .i64 1, .int .i64 0] 63)).alloc (.cells #[.pointer (some ⟨w.heap.size, 0, none⟩)] 29) := ⟨_, rfl⟩
  have s2 : w2.heap.size = w.heap.size + 1 + 1 := by rw [hw2, alloc_size, alloc_size]
  have B2 : Kp (Below w.heap.size w w2) := put (by rw [hw2]; exact balloc (balloc (Below.refl _ _) _) _)
  have T2 : TrR w.heap.size a w2 0 1 0 := by unfold TrR; rw [hw2, hag, if_neg (by rw [alloc_size]; omega), hag, if_pos rfl]
  have V2 : w2.heap[w.heap.size + 1]? = some (.cells #[.pointer (some ⟨w.heap.size, 0, none⟩)] 29 (0, 0)) := by rw [hw2, hag, if_pos (by rw [alloc_size])]
  have HC : Kp (Calls Try.prog 25 #[.func (.func 26) #[] #[.pointer (some ⟨w.heap.size + 1, 0, none⟩)]] w2 fun e w' => ∃ c, e = .returned (.agg #[.int .i64 c, .int .i64 0]) ∧ (c = 0 ∧ ArX (nar ok w.heap.size (w.heap.size + 1 + 1 + 1)) w' a (A.alloc.put i (enc nil0)) ∧ TrR w.heap.size a w' ((i : Int) + 1) 1 0 ∧ Kps ok w w' ∧ w'.heap[w.heap.size + 1]? = some (.cells #[.pointer (some ⟨w.heap.size, 0, none⟩)] 29 (0, 0)) ∧ w.heap.size + 1 + 1 < w'.heap.size)) := put (by
    have ha : Below w2.heap.size w2 (w2.alloc (.cells #[.int .i64 0, .int .i64 0] 65)) := balloc (Below.refl _ _) _
    have hz : (w2.alloc (.cells #[.int .i64 0, .int .i64 0] 65)).heap.size = w.heap.size + 1 + 1 + 1 := by rw [alloc_size, s2]
    have hA3 := h.nar (bt B2.out ha)
    rw [hz] at hA3
    have hno : ∀ k, w.heap.size ≤ k → k < w.heap.size + 1 + 1 + 1 → ¬ nar ok w.heap.size (w.heap.size + 1 + 1 + 1) k := fun k h1 h2 h3 => by rcases h3 with h3 | h3 <;> omega
    refine catchCalls 26 _ (enters_of Try.func26 (by kernel_rfl) rfl _) w2 _ ?_ ?_ ?_
    · refine (newFun (ok := nar ok w.heap.size (w.heap.size + 1 + 1 + 1)) (w.heap.size + 1) w.heap.size a A _ ((ha.block _ (by omega)).trans V2) (T2.below ha) hA3 hA hl (fun k hk => .inr (by rw [hz] at hk; exact hk)) (hno _ (by omega) (by omega)) (hno _ (by omega) (by omega)) i hi).mono ?_
      rintro e w' ⟨rfl, g1, g2, g3⟩
      have hkeep : ∀ k, w.heap.size < k → k < w.heap.size + 1 + 1 + 1 → w'.heap[k]? = (w2.alloc (.cells #[.int .i64 0, .int .i64 0] 65)).heap[k]? := fun k h1 h2 => g3.block k (by omega) (by rintro (h3 | h3); exact hno k (by omega) h2 h3; omega)
      refine ⟨0, rfl, ⟨rfl, g1, g2, ?_, (hkeep _ (by omega) (by omega)).trans ((ha.block _ (by omega)).trans V2), by have := g3.size; omega⟩, ?_⟩
      · refine (below_kps (bt B2.out ha) ok).trans ⟨g3.os, g3.tape, g3.output, g3.size, fun k hk hn => g3.block k hk ?_⟩
        rintro (h3 | h3)
        · rcases h3 with h3 | h3
          · exact hn h3.1
          · exact hn (hok k (by omega))
        · exact hn (hok k (by omega))
      · rw [hkeep _ (by omega) (by omega), hag, if_pos rfl]
    · rintro c w' o ⟨g0, g1, g2, g3, g4, g5⟩
      exact ⟨g0, g1.below (balloc (Below.refl _ _) _), g2.below (balloc (Below.refl _ _) _), g3.alloc o, (Below.heap_alloc _ _ _ (by omega)).trans g4, by rw [alloc_size]; omega⟩
    · rintro c w' j u ⟨g0, g1, g2, g3, g4, g5⟩
      have hk : Kps (fun k => k = w2.heap.size) w' (w'.setCell ⟨w2.heap.size, j, none⟩ u) := (Kps.refl (fun k => k = w2.heap.size) w').set (.inl rfl) j u
      refine ⟨g0, g1.kps hk (fun b hb _ e => hno b (by omega) (by omega) hb), (hk.block _ g2.lt (by omega)).trans g2, g3.set (.inr (by omega)) j u, (hk.block _ (by omega) (by omega)).trans g4, by rw [World.size_setCell]; exact g5⟩)
  have HW := put hw2
  clear hw2 h hA hl hok hi T2 V2 s2
  go_enter Try.func9, Try.ntmps9
  go_wp2_with fail
  rw [← HW.out]
  refine HC.out.mono ?_
  rintro e w3 ⟨c, rfl, rfl, g1, g2, g3, g4, g5⟩
  have y0 : w3.cell? ⟨w.heap.size + 1, 0, none⟩ = some (.pointer (some ⟨w.heap.size, 0, none⟩)) := by simp [World.cell?, g4]
  have G1 := put g1
  have G2 := put g2
  have G3 := put g3
  have n1 : w.heap.size + 1 < w3.heap.size := by omega
  clear g1 g2 g3 g4 g5
  go_wp2_with fail
  go_ret2
  exact ⟨rfl, G1.out.below (balloc (Below.refl _ _) _), G2.out.below (balloc (Below.refl _ _) _), G3.out.alloc _⟩
end Go.Proofs.Ytcpahknlabnnbaa.T

namespace Go.Proofs.Ytcpahknlabnnbaa.T
open Go Go.RowKit Go.Sort Go.Proofs.Ytcpahknlabnnbaa.Mem

/-- From W to W' only what a call-back may touch at W (SF W) changed, and it may touch nothing more of what there was. -/
structure Fr (SF : World → Nat → Prop) (W W' : World) : Prop where
  k : Kps (SF W) W W'
  s : ∀ b, b < W.heap.size → SF W' b → SF W b
theorem Fr.refl (SF : World → Nat → Prop) (W : World) : Fr SF W W := ⟨Kps.refl _ _, fun _ _ h => h⟩
theorem Fr.trans {SF : World → Nat → Prop} {W W1 W2 : World} (h : Fr SF W W1) (k : Fr SF W1 W2) : Fr SF W W2 :=
  ⟨⟨k.k.os.trans h.k.os, k.k.tape.trans h.k.tape, k.k.output.trans h.k.output, Nat.le_trans h.k.size k.k.size, fun b hb hn => (k.k.block b (Nat.lt_of_lt_of_le hb h.k.size) (fun e => hn (h.s b hb e))).trans (h.k.block b hb hn)⟩, fun b hb e => h.s b hb (k.s b (Nat.lt_of_lt_of_le hb h.k.size) e)⟩
/-- A call-back g: P j: j entries of G are told; F: it was enough. -/
structure Cb (g : Nat) (recv cb : Array Value) (SF : World → Nat → Prop) (P : Nat → World → Prop) (F : World → Prop) (G : List ByteArray) (to : ByteArray) : Prop where
  call : ∀ (j : Nat) (x : ByteArray) (W : World), G[j]? = some x → (to = ⟨#[]⟩ ∨ ltB x to = true) → P j W → Calls Try.prog g (recv ++ #[.string x] ++ cb) W fun e w' => ∃ b, e = .returned (.bool b) ∧ Aft b (P (j + 1) w') (F w') ∧ Fr SF W w'
  stop : ∀ (j : Nat) (x : ByteArray) (W : World), G[j]? = some x → to ≠ ⟨#[]⟩ → ltB x to = false → P j W → F W
  below : ∀ (j : Nat) (W W' : World), P j W → Below W.heap.size W W' → P j W' ∧ ∀ b, b < W'.heap.size → SF W' b → SF W b ∧ b < W.heap.size
  enter : ∀ args w, (callFunc g args).run Try.prog w = .ok (.enter g args) w
theorem Cb.fr {g : Nat} {recv cb : Array Value} {SF : World → Nat → Prop} {P : Nat → World → Prop} {F : World → Prop} {G : List ByteArray} {to : ByteArray} (c : Cb g recv cb SF P F G to) {j : Nat} {W W' : World} (h : P j W) (hb : Below W.heap.size W W') : Fr SF W W' :=
  ⟨below_kps hb _, fun b hl e => ((c.below j W W' h hb).2 b (Nat.lt_of_lt_of_le hl hb.size) e).1⟩
/-- A walk in memory. -/
def WkR (K T : Nat) (fr to : ByteArray) (fv : Value) (W : World) : Prop := W.heap[K]? = some (.cells #[.pointer (some ⟨T, 0, none⟩), .string fr, .string to, fv] 75 (0, 0))
/-- What a walk stands on. -/
structure Env (ok : Nat → Prop) (SF : World → Nat → Prop) (T a K : Nat) (fr to : ByteArray) (fv : Value) (A : Ar) (W : World) : Prop where
  ax : ArX ok W a A
  oks : ∀ b, ok b → b < W.heap.size ∧ ¬ SF W b
  t : W.cell? ⟨T, 0, none⟩ = some (.pointer (some ⟨a, 0, none⟩))
  tl : T < W.heap.size
  ts : ¬ SF W T
  k : WkR K T fr to fv W
  ks : ¬ SF W K
theorem Env.fr {ok : Nat → Prop} {SF : World → Nat → Prop} {T a K : Nat} {fr to : ByteArray} {fv : Value} {A : Ar} {W W' : World} (h : Env ok SF T a K fr to fv A W) (f : Fr SF W W') : Env ok SF T a K fr to fv A W' := by
  have hkl : K < W.heap.size := (Array.getElem?_eq_some_iff.1 (show W.heap[K]? = _ from h.k)).1
  exact ⟨h.ax.kps f.k (fun b hb _ => (h.oks b hb).2), fun b hb => ⟨Nat.lt_of_lt_of_le (h.oks b hb).1 f.k.size, fun e => (h.oks b hb).2 (f.s b (h.oks b hb).1 e)⟩, (World.cell?_of_block (a := ⟨T, 0, none⟩) (f.k.block T h.tl h.ts)).trans h.t, Nat.lt_of_lt_of_le h.tl f.k.size, fun e => h.ts (f.s T h.tl e), (f.k.block K hkl h.ks).trans h.k, fun e => h.ks (f.s K hkl e)⟩
/-- The entries from fr on. -/
def fromE (fr : ByteArray) (es : List ByteArray) : List ByteArray := es.filter fun x => !ltB x fr
theorem fromE_app (fr : ByteArray) (a b : List ByteArray) : fromE fr (a ++ b) = fromE fr a ++ fromE fr b := List.filter_append _ _
theorem fromE_none {fr : ByteArray} {l : List ByteArray} (h : ∀ x ∈ l, ltB x fr = true) : fromE fr l = [] := by
  unfold fromE
  rw [List.filter_eq_nil_iff]
  intro x hx
  rw [h x hx]; simp
theorem fromE_all {fr : ByteArray} {l : List ByteArray} (h : ∀ x ∈ l, ltB x fr = false) : fromE fr l = l := by
  unfold fromE
  rw [List.filter_eq_self]
  intro x hx
  rw [h x hx]; rfl
theorem fromE_drop {fr : ByteArray} {l : List ByteArray} (h : Rise l) : fromE fr l = l.drop (posS l fr) := by
  obtain ⟨_, h2, h3⟩ := posS_spec fr h
  conv => lhs; rw [← List.take_append_drop (posS l fr) l]
  rw [fromE_app, fromE_none h2, fromE_all h3, List.nil_append]
/-- The entries below the kids ahead of fr's kid stand ahead of fr; those behind it don't. -/
theorem fromE_ents {S : Nat → Bnd → List ByteArray → List Nat → Prop} {B : Bnd} {n : Nd} {ks : List Lo} {fr : ByteArray} (hb : Body S B n ks) (hs : ∀ i B es ps, S i B es ps → ∀ x ∈ es, B x) : fromE fr (entsOf ks) = fromE fr (entsOf (ks.drop (kidAt n.recs fr))) := by
  obtain ⟨h1, h2⟩ := kidAt_sep fr hb.rise
  conv => lhs; rw [← List.take_append_drop (kidAt n.recs fr) ks]
  rw [ents_app, fromE_app, fromE_none, List.nil_append]
  intro x hx
  obtain ⟨j, p, hp, hx⟩ := mem_ents.1 hx
  have hj := (List.getElem?_eq_some_iff.1 hp).1
  rw [List.length_take] at hj
  rw [List.getElem?_take_of_lt (by omega)] at hp
  obtain ⟨k, _, hk⟩ := hb.at hp
  exact sep_lt (by omega) h1 (hs _ _ _ _ hk x hx).2 h2
end Go.Proofs.Ytcpahknlabnnbaa.T
