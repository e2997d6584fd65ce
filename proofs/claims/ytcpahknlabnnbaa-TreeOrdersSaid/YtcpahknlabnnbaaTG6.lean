/- Trees: two kids joined. Trees: remove. -/
import Derived.Test.YtcpahknlabnnbaaTG5

namespace Go.Proofs.Ytcpahknlabnnbaa.T
open Go Go.RowKit Go.Sort Go.Proofs.Ytcpahknlabnnbaa.Mem

/-- A box with a joined node. -/
structure JB (base : Nat) (w2 W : World) (N : Nat) (lf : Bool) (va vk : Value) (x : Nd) : Prop where
  b : Below base w2 W
  n : W.heap[N]? = some (.cells #[.bool lf, va, vk] 69 (0, 0))
  nb : base ≤ N
  r : Own tStr 9 no W base va x.recs
  k : Own (tInt .i64) 3 no W base vk (kints x.kids)
theorem jb1 {w2 w5 W : World} {lf : Bool} {va vk : Value} {x : Nd} (hW : W = w5.alloc (.cells #[.bool lf, va, vk] 69)) (b : Below w2.heap.size w2 w5) (o : NdO w2.heap.size w5 va vk x) : JB w2.heap.size w2 W w5.heap.size lf va vk x := by
  subst hW
  exact ⟨balloc b _, heap_alloc_new _ _, b.size, o.r.alloc _, o.k.alloc _⟩
theorem jb2 {base : Nat} {w2 w5 W : World} {X : Nat} {lf : Bool} {va vk : Value} {x : Nd} (hX : base ≤ X) (hW : W = ((w5.setCell ⟨X, 0, none⟩ (.bool lf)).setCell ⟨X, 1, none⟩ va).setCell ⟨X, 2, none⟩ vk) (hz : w5.heap[X]? = some (.cells #[.bool false, .slice none 0 0, .slice none 0 0] 69 (0, 0))) (b : Below base w2 w5) (o : NdO base w5 va vk x) : JB base w2 W X lf va vk x := by
  have h1 := o.r.ne_block hz (by decide)
  have h2 := o.k.ne_block hz (by decide)
  subst hW
  have e1 : ∀ k, va.ownBlock = some k → k ≠ X := fun k hk e => h1 (by rw [hk, e])
  have e2 : ∀ k, vk.ownBlock = some k → k ≠ X := fun k hk e => h2 (by rw [hk, e])
  refine ⟨((b.setCell hX _).setCell hX _).setCell hX _, (setCell_heap (setCell_heap (setCell_heap hz 0 _) 1 _) 2 _).trans rfl, hX, ?_, ?_⟩
  · exact ((o.r.far (fun k hk e => e1 k hk e) (fun _ hk => hk.elim) _).far (fun k hk e => e1 k hk e) (fun _ hk => hk.elim) _).far (fun k hk e => e1 k hk e) (fun _ hk => hk.elim) _
  · exact ((o.k.far (fun k hk e => e2 k hk e) (fun _ hk => hk.elim) _).far (fun k hk e => e2 k hk e) (fun _ hk => hk.elim) _).far (fun k hk e => e2 k hk e) (fun _ hk => hk.elim) _
/-- What join leaves. -/
structure JoinP (ok M : Nat → Prop) (a h i : Nat) (B : Bnd) (ks : List Lo) (A : Ar) (w : World) (e : Ending) (w' : World) : Prop where
  out : ∃ r, e = .returned (.bool r) ∧ ((r = false ∧ ArX ok w' a A ∧ Kps ok w w') ∨ (r = true ∧ ∃ A' ps', DelOut A A' (h + 1) i B (i :: pagsOf ks) (entsOf ks) ps' ∧ ArX ok w' a A' ∧ Kps (fun b => ok b ∨ M b) w w'))
set_option maxHeartbeats 4000000 in
set_option maxRecDepth 100000 in
/-- join. -/
theorem joinN {ok M : Nat → Prop} (T a h i : Nat) (B : Bnd) (n : Nd) (ks : List Lo) (jj : Int) (A : Ar) (vr vk : Value) (w : World) (ha : ArX ok w a A) (hA : A.Ok) (hok : ∀ k, w.heap.size ≤ k → ok k) (hTo : ¬ ok T) (hT : w.cell? ⟨T, 0, none⟩ = some (.pointer (some ⟨a, 0, none⟩))) (hTl : T < w.heap.size) (hpg : A.pages[i]? = some (some (enc n))) (hn : n.Ok) (hb : Body (Sub m0 A h) B n ks) (hi : i ∉ pagsOf ks) (hr : Own tStr 9 no w 0 vr n.recs) (hk : Own (tInt .i64) 3 no w 0 vk (kints n.kids)) (qr : ∀ b, vr.ownBlock = some b → M b) (qk : ∀ b, vk.ownBlock = some b → M b) (hM : ∀ b, M b → ¬ ok b) (hMT : ¬ M T) :
    Calls Try.prog 57 #[.pointer (some ⟨T, 0, none⟩), .int .i64 ((i : Int) + 1), .agg #[.bool false, vr, vk], .int .i64 jj] w (JoinP ok M a h i B ks A w) := by
  obtain ⟨lf, recs, kids⟩ := n
  obtain rfl : lf = false := hb.inner
  obtain ⟨A5, c5, rfl, _⟩ := hr.form
  obtain ⟨A6, c6, rfl, _⟩ := hk.form
  rw [kints_len] at hk qk ⊢
  have HLEN : Kp (kids.length = recs.length + 1) := put hb.len
  have HA := put ha
  have HAO := put hA
  have HOK := put hok
  have HTO := put hTo
  have HP := put hpg
  have HN := put hn
  have HB := put hb
  have HI := put hi
  have HR := put hr
  have HK := put hk
  have HQR := put qr
  have HQK := put qk
  have HM := put hM
  have HMT := put hMT
  have hfr : recs.length ≤ 100000 := hn.fair.recs
  clear ha hA hok hTo hpg hn hb hi hr hk qr qk hM hMT
  go_enter Try.func57, Try.ntmps57
  by_cases hj1 : jj < 0
  · go_wp2_with fail
    go_ret
    have bb : Below w.heap.size w (w.alloc (.cells #[.bool false, .slice A5 recs.length c5, .slice A6 kids.length c6] 69)) := balloc (Below.refl _ _) _
    exact ⟨false, rfl, .inl ⟨rfl, HA.out.below bb, below_kps bb ok⟩⟩
  by_cases hj2 : (recs.length : Int) ≤ jj
  · go_wp2_with fail
    go_ret
    have bb : Below w.heap.size w (w.alloc (.cells #[.bool false, .slice A5 recs.length c5, .slice A6 kids.length c6] 69)) := balloc (Below.refl _ _) _
    exact ⟨false, rfl, .inl ⟨rfl, HA.out.below bb, below_kps bb ok⟩⟩
  obtain ⟨j, rfl⟩ : ∃ j : Nat, jj = (j : Int) := ⟨jj.toNat, by omega⟩
  have hjl : j < recs.length := by omega
  obtain ⟨sep, hsep⟩ : ∃ s, recs[j]? = some s := ⟨_, List.getElem?_eq_getElem hjl⟩
  obtain ⟨k0, hk0⟩ : ∃ k, kids[j]? = some k := ⟨_, List.getElem?_eq_getElem (by have := HLEN.out; omega)⟩
  obtain ⟨k1, hk1⟩ : ∃ k, kids[j + 1]? = some k := ⟨_, List.getElem?_eq_getElem (by have := HLEN.out; omega)⟩
  obtain ⟨p0, x, bl0, gx⟩ := kid_cont HB.out hk0
  obtain ⟨p1, y, bl1, gy⟩ := kid_cont HB.out hk1
  have GX := put gx
  have GY := put gy
  have hlf : Kp (x.leaf = y.leaf ∧ True) := put ⟨gx.2.2.2.1.leaf_eq gy.2.2.2.1, trivial⟩
  have hk01 := (HN.out.shp.kids k0 (List.mem_of_getElem? hk0)).1
  have hk11 := (HN.out.shp.kids k1 (List.mem_of_getElem? hk1)).1
  clear gx gy
  obtain ⟨w2, hw2⟩ : ∃ w2, w2 = w.alloc (.cells #[.bool false, .slice A5 recs.length c5, .slice A6 kids.length c6] 69) := ⟨_, rfl⟩
  have hb2 : Below w.heap.size w w2 := by rw [hw2]; exact balloc (Below.refl _ _) _
  have B2 := put hb2
  have ST2 : Kp (NW (fun b => (M b ∧ b < w.heap.size) ∨ b = w.heap.size) w.heap.size w2 false (.slice A5 recs.length c5) (.slice A6 kids.length c6) recs (kints kids)) := put (by
    rw [hw2]
    exact ⟨heap_alloc_new _ _, HR.out.alloc _, HK.out.alloc _, .inr rfl, fun b hb => .inl ⟨HQR.out b hb, (HR.out.lt b hb).2⟩, fun b hb => .inl ⟨HQK.out b hb, (HK.out.lt b hb).2⟩⟩)
  obtain ⟨x0, x1, x2⟩ := c3 ST2.out.n
  obtain ⟨g, o, eg, _, e3⟩ := (own_rd strD rfl ST2.out.r).get hsep
  have hkr := own_rd intD rfl ST2.out.k
  rw [show (Value.slice A6 kids.length c6) = .slice A6 (kints kids).length c6 by rw [kints_len]] at hkr
  obtain ⟨g2, o2, eg2, _, e4⟩ := hkr.get (kints_get hk0)
  obtain ⟨g3, o3, eg3, _, e5⟩ := hkr.get (kints_get hk1)
  rw [eg2] at eg3
  injection eg3 with eg3
  injection eg3 with eg3 eo3
  subst eg3 eo3 eg eg2
  have e4' : w2.cell? ⟨g2, o2 + j, none⟩ = some (.int .i64 (((k0 - 1 : Nat) : Int) + 1)) := by rw [e4]; congr 2; omega
  have e5' : w2.cell? ⟨g2, o2 + (j + 1), none⟩ = some (.int .i64 (((k1 - 1 : Nat) : Int) + 1)) := by rw [e5]; congr 2; omega
  have hT2 := cell_at hT B2.out
  have hTl2 : T < w2.heap.size := Nat.lt_of_lt_of_le hTl B2.out.size
  have HE4 := put e4'
  have HE5 := put e5'
  have HSEP := put hsep
  have HK0 := put hk0
  have HK1 := put hk1
  have L0 : Kp (∀ W, Below w2.heap.size w2 W → Calls Try.prog 40 #[.pointer (some ⟨T, 0, none⟩), .int .i64 (((k0 - 1 : Nat) : Int) + 1)] W fun e w' => ∃ vr vk, e = .returned (.agg #[.bool x.leaf, vr, vk]) ∧ NdO w2.heap.size w' vr vk x ∧ Below w2.heap.size w2 w' ∧ Below W.heap.size W w') := put fun W hb => (loadN T a (k0 - 1) A x W ((HA.out.below B2.out).below hb) (cell_at hT2 hb) (Nat.lt_of_lt_of_le hTl2 hb.size) GX.out.2.1 GX.out.2.2.1).mono (by
    rintro e w' ⟨u, v, h1, h2, h3⟩
    exact ⟨u, v, h1, h2.lower hb.size, bt hb h3, h3⟩)
  have L1 : Kp (∀ W, Below w2.heap.size w2 W → Calls Try.prog 40 #[.pointer (some ⟨T, 0, none⟩), .int .i64 (((k1 - 1 : Nat) : Int) + 1)] W fun e w' => ∃ vr vk, e = .returned (.agg #[.bool y.leaf, vr, vk]) ∧ NdO w2.heap.size w' vr vk y ∧ Below w2.heap.size w2 w' ∧ Below W.heap.size W w') := put fun W hb => (loadN T a (k1 - 1) A y W ((HA.out.below B2.out).below hb) (cell_at hT2 hb) (Nat.lt_of_lt_of_le hTl2 hb.size) GY.out.2.1 GY.out.2.2.1).mono (by
    rintro e w' ⟨u, v, h1, h2, h3⟩
    exact ⟨u, v, h1, h2.lower hb.size, bt hb h3, h3⟩)
  have J0 : Kp (∀ W ra ka rb kb, Below w2.heap.size w2 W → NdO w2.heap.size W ra ka x → NdO w2.heap.size W rb kb y → Calls Try.prog 73 #[.agg #[.bool x.leaf, ra, ka], .string sep, .agg #[.bool y.leaf, rb, kb]] W fun e w' => ∃ vr vk, e = .returned (.agg #[.bool x.leaf, vr, vk]) ∧ NdO w2.heap.size w' vr vk (x.join sep y) ∧ Below w2.heap.size w2 w' ∧ Below W.heap.size W w') := put fun W ra ka rb kb hb o1 o2 => (joinCalls _ ra ka rb kb x y sep W o1.v o2.v GX.out.2.2.1.fair GY.out.2.2.1.fair).mono (by
    rintro e w' ⟨u, v, h1, h2, h3⟩
    exact ⟨u, v, h1, h2.lower hb.size, bt hb h3, h3⟩)
  have HJ : Kp ((x.join sep y).Shp ∧ (x.join sep y).Fair) := put (by
    refine ⟨(join_cont HN.out HB.out hsep GX.out.1 GY.out.1 GX.out.2.2.1 GX.out.2.2.2.1 GX.out.2.2.2.2.2 GY.out.2.2.1 GY.out.2.2.2.1 GY.out.2.2.2.2.2).1, ?_⟩
    have s1 := (HN.out.shp.recs sep (List.mem_of_getElem? hsep)).2
    have a1 := GX.out.2.2.1.fair
    have b1 := GY.out.2.2.1.fair
    have a2 := GX.out.2.2.1.2
    have b2 := GY.out.2.2.1.2
    have a3 := wt_dl x.recs
    have b3 := wt_dl y.recs
    unfold Nd.size at a2 b2
    unfold Nd.join
    cases x.leaf <;> (refine ⟨?_, ?_, ?_⟩ <;> simp only [if_true, Bool.false_eq_true, if_false, List.length_append, List.length_cons, List.length_nil, wt_app, wt] <;> omega))
  have HW := put hw2
  have hs2 := B2.out.size
  have hwl := ST2.out.lt
  have hgl : g < w2.heap.size := World.block_lt_of_cell? _ _ e3
  have hgl2 : g2 < w2.heap.size := World.block_lt_of_cell? _ _ e4'
  have j1 : (j : Int) < (recs.length : Int) := by omega
  have j2 : (0 : Int) ≤ (j : Int) := by omega
  have j3 : (j : Int) < (kids.length : Int) := by have := HLEN.out; omega
  have j4 : (j : Int) + 1 < (kids.length : Int) := by have := HLEN.out; omega
  have j5 : (0 : Int) ≤ (j : Int) + 1 := by omega
  have j6 : IntKind.i64.wrap ((j : Int) + 1) = (j : Int) + 1 := IntWalk.i64_in _ (by omega)
  have j7 : ((j : Int) + 1).toNat = j + 1 := by omega
  have j8 : IntKind.i64.wrap ((j : Int) + 2) = (j : Int) + 2 := IntWalk.i64_in _ (by omega)
  clear hw2 hb2 hsep hk0 hk1 e4 e5 hkr hT2 hk01 hk11
  go_wp2_with fail
  rw [← HW.out]
  go_region_held3 (fun w' => w'.cell? ⟨w.heap.size, 1, none⟩ = some (.slice (some ⟨g, o, none⟩) recs.length c5) ∧ w'.cell? ⟨w.heap.size, 2, none⟩ = some (.slice (some ⟨g2, o2, none⟩) kids.length c6) ∧ w'.cell? ⟨g, o + j, none⟩ = some (.string sep) ∧ w'.cell? ⟨g2, o2 + j, none⟩ = some (.int .i64 (((k0 - 1 : Nat) : Int) + 1)) ∧ w'.cell? ⟨g2, o2 + (j + 1), none⟩ = some (.int .i64 (((k1 - 1 : Nat) : Int) + 1))) (first | go_keep | exact ⟨x1, x2, e3, e4', e5'⟩ | exact ⟨y1, y2, y3, y4, y5⟩ | exact ⟨z1, z2, z3, z4, z5⟩ | exact ⟨far3 hX1 q1, far3 hX1 q2, far3 hX2 q3, far3 hX3 q4, far3 hX3 q5⟩ | exact ⟨q1, q2, q3, q4, q5⟩) (first | (have qq := O4.out; go_at_call 73; refine (J0.out _ _ _ _ _ (bt B4.out (by (repeat (first | with_reducible exact (Below.refl _ _) | with_reducible apply Below.drew | with_reducible refine balloc ?_ _)))) (O34.out.below (by (repeat (first | with_reducible exact (Below.refl _ _) | with_reducible apply Below.drew | with_reducible refine balloc ?_ _)))) (qq.below (by (repeat (first | with_reducible exact (Below.refl _ _) | with_reducible apply Below.drew | with_reducible refine balloc ?_ _))))).mono ?_; rintro e w5 ⟨ra5, ka5, rfl, ho5, hb5, hc5⟩; have zk := put hz4; have hz5 := (hc5.block _ (Array.getElem?_eq_some_iff.1 zk.out).1).trans zk.out; clear zk hz4; obtain ⟨t0, t1, t2⟩ := c3 hz5; obtain ⟨t3, t4, t5⟩ := f3 hz5; have HZ5 := put hz5; clear hz5; obtain ⟨⟨A7, c7, e7⟩, ⟨A8, c8, e8⟩⟩ := ho5.form; obtain ⟨l7, hl7⟩ : ∃ l, l = (x.join sep y).recs.length := ⟨_, rfl⟩; obtain ⟨l8, hl8⟩ : ∃ l, l = (x.join sep y).kids.length := ⟨_, rfl⟩; rw [← hl7] at e7; rw [← hl8] at e8; subst e7 e8; clear hl7 hl8; have q1 := cell_at x1 hb5; have q2 := cell_at x2 hb5; have q3 := cell_at e3 hb5; have q4 := cell_at e4' hb5; have q5 := cell_at e5' hb5; have B5 := put hb5; have O5 := put ho5; clear hb5 ho5 hc5 qq) | (have qq := O4.out; go_at_call 73; refine (J0.out _ _ _ _ _ (bt B4.out (by (repeat (first | with_reducible exact (Below.refl _ _) | with_reducible apply Below.drew | with_reducible refine balloc ?_ _)))) (O34.out.below (by (repeat (first | with_reducible exact (Below.refl _ _) | with_reducible apply Below.drew | with_reducible refine balloc ?_ _)))) (qq.below (by (repeat (first | with_reducible exact (Below.refl _ _) | with_reducible apply Below.drew | with_reducible refine balloc ?_ _))))).mono ?_; rintro e w5 ⟨ra5, ka5, rfl, ho5, hb5, hc5⟩; refine useIt (P := w5.heap[w4.heap.size]? = some (.cells #[.bool false, .slice none 0 0, .slice none 0 0] 69 (0, 0))) ?_ (fun hz5 => ?_); (refine (hc5.block _ ?_).trans ?_; (first | (show w4.heap.size < (w4.alloc _).heap.size; rw [alloc_size]; exact Nat.lt_succ_self _) | (show w4.heap.size < (w4.drew.alloc _).heap.size; rw [alloc_size]; exact Nat.lt_succ_self _)); (exact heap_alloc_new _ _)); have hX1 : w4.heap.size ≠ w.heap.size := (by omega); have hX2 : w4.heap.size ≠ g := (by omega); have hX3 : w4.heap.size ≠ g2 := (by omega); obtain ⟨t0, t1, t2⟩ := c3 hz5; obtain ⟨t3, t4, t5⟩ := f3 hz5; have HZ5 := put hz5; clear hz5; obtain ⟨⟨A7, c7, e7⟩, ⟨A8, c8, e8⟩⟩ := ho5.form; obtain ⟨l7, hl7⟩ : ∃ l, l = (x.join sep y).recs.length := ⟨_, rfl⟩; obtain ⟨l8, hl8⟩ : ∃ l, l = (x.join sep y).kids.length := ⟨_, rfl⟩; rw [← hl7] at e7; rw [← hl8] at e8; subst e7 e8; clear hl7 hl8; have q1 := cell_at x1 hb5; have q2 := cell_at x2 hb5; have q3 := cell_at e3 hb5; have q4 := cell_at e4' hb5; have q5 := cell_at e5' hb5; have B5 := put hb5; have O5 := put ho5; clear hb5 ho5 hc5 qq) | (have qq := O4.out; go_at_call 73; refine (J0.out _ _ _ _ _ (bt B4.out (by (repeat (first | with_reducible exact (Below.refl _ _) | with_reducible apply Below.drew | with_reducible refine balloc ?_ _)))) (O34.out.below (by (repeat (first | with_reducible exact (Below.refl _ _) | with_reducible apply Below.drew | with_reducible refine balloc ?_ _)))) (qq.below (by (repeat (first | with_reducible exact (Below.refl _ _) | with_reducible apply Below.drew | with_reducible refine balloc ?_ _))))).mono ?_; rintro e w5 ⟨ra5, ka5, rfl, ho5, hb5, hc5⟩; obtain ⟨⟨A7, c7, e7⟩, ⟨A8, c8, e8⟩⟩ := ho5.form; obtain ⟨l7, hl7⟩ : ∃ l, l = (x.join sep y).recs.length := ⟨_, rfl⟩; obtain ⟨l8, hl8⟩ : ∃ l, l = (x.join sep y).kids.length := ⟨_, rfl⟩; rw [← hl7] at e7; rw [← hl8] at e8; subst e7 e8; clear hl7 hl8; have q1 := cell_at x1 hb5; have q2 := cell_at x2 hb5; have q3 := cell_at e3 hb5; have q4 := cell_at e4' hb5; have q5 := cell_at e5' hb5; have B5 := put hb5; have O5 := put ho5; clear hb5 ho5 hc5 qq) | (have qq := O3.out; go_at_call 40; refine (L1.out _ (bt B3.out (by (repeat (first | with_reducible exact (Below.refl _ _) | with_reducible apply Below.drew | with_reducible refine balloc ?_ _))))).mono ?_; rintro e w4 ⟨ra4, ka4, rfl, ho4, hb4, hc4⟩; have zk := put hz3; have hz4 := (hc4.block _ (Array.getElem?_eq_some_iff.1 zk.out).1).trans zk.out; clear zk hz3; have z1 := cell_at x1 hb4; have z2 := cell_at x2 hb4; have z3 := cell_at e3 hb4; have z4 := cell_at e4' hb4; have z5 := cell_at e5' hb4; have B4 := put hb4; have hs4 := hb4.size; have O4 := put ho4; have O34 := put (qq.below (bt (by (repeat (first | with_reducible exact (Below.refl _ _) | with_reducible apply Below.drew | with_reducible refine balloc ?_ _))) hc4)); clear hb4 ho4 hc4 qq) | (have qq := O3.out; go_at_call 40; refine (L1.out _ (bt B3.out (by (repeat (first | with_reducible exact (Below.refl _ _) | with_reducible apply Below.drew | with_reducible refine balloc ?_ _))))).mono ?_; rintro e w4 ⟨ra4, ka4, rfl, ho4, hb4, hc4⟩; refine useIt (P := w4.heap[w3.heap.size]? = some (.cells #[.bool false, .slice none 0 0, .slice none 0 0] 69 (0, 0))) ?_ (fun hz4 => ?_); (refine (hc4.block _ ?_).trans ?_; (first | (show w3.heap.size < (w3.alloc _).heap.size; rw [alloc_size]; exact Nat.lt_succ_self _) | (show w3.heap.size < (w3.drew.alloc _).heap.size; rw [alloc_size]; exact Nat.lt_succ_self _)); (exact heap_alloc_new _ _)); have hX1 : w3.heap.size ≠ w.heap.size := (by omega); have hX2 : w3.heap.size ≠ g := (by omega); have hX3 : w3.heap.size ≠ g2 := (by omega); have z1 := cell_at x1 hb4; have z2 := cell_at x2 hb4; have z3 := cell_at e3 hb4; have z4 := cell_at e4' hb4; have z5 := cell_at e5' hb4; have B4 := put hb4; have hs4 := hb4.size; have O4 := put ho4; have O34 := put (qq.below (bt (by (repeat (first | with_reducible exact (Below.refl _ _) | with_reducible apply Below.drew | with_reducible refine balloc ?_ _))) hc4)); clear hb4 ho4 hc4 qq) | (have qq := O3.out; go_at_call 40; refine (L1.out _ (bt B3.out (by (repeat (first | with_reducible exact (Below.refl _ _) | with_reducible apply Below.drew | with_reducible refine balloc ?_ _))))).mono ?_; rintro e w4 ⟨ra4, ka4, rfl, ho4, hb4, hc4⟩; have z1 := cell_at x1 hb4; have z2 := cell_at x2 hb4; have z3 := cell_at e3 hb4; have z4 := cell_at e4' hb4; have z5 := cell_at e5' hb4; have B4 := put hb4; have hs4 := hb4.size; have O4 := put ho4; have O34 := put (qq.below (bt (by (repeat (first | with_reducible exact (Below.refl _ _) | with_reducible apply Below.drew | with_reducible refine balloc ?_ _))) hc4)); clear hb4 ho4 hc4 qq) | (go_at_call 40; refine (L0.out _ (by (repeat (first | with_reducible exact (Below.refl _ _) | with_reducible apply Below.drew | with_reducible refine balloc ?_ _)))).mono ?_; rintro e w3 ⟨ra3, ka3, rfl, ho3, hb3, hc3⟩; refine useIt (P := w3.heap[w2.heap.size]? = some (.cells #[.bool false, .slice none 0 0, .slice none 0 0] 69 (0, 0))) ?_ (fun hz3 => ?_); (refine (hc3.block _ ?_).trans ?_; (first | (show w2.heap.size < (w2.alloc _).heap.size; rw [alloc_size]; exact Nat.lt_succ_self _) | (show w2.heap.size < (w2.drew.alloc _).heap.size; rw [alloc_size]; exact Nat.lt_succ_self _)); (exact heap_alloc_new _ _)); have hX1 : w2.heap.size ≠ w.heap.size := (by omega); have hX2 : w2.heap.size ≠ g := (by omega); have hX3 : w2.heap.size ≠ g2 := (by omega); have y1 := cell_at x1 hb3; have y2 := cell_at x2 hb3; have y3 := cell_at e3 hb3; have y4 := cell_at e4' hb3; have y5 := cell_at e5' hb3; have B3 := put hb3; have hs3 := hb3.size; have O3 := put ho3; clear hb3 ho3 hc3) | (go_at_call 40; refine (L0.out _ (by (repeat (first | with_reducible exact (Below.refl _ _) | with_reducible apply Below.drew | with_reducible refine balloc ?_ _)))).mono ?_; rintro e w3 ⟨ra3, ka3, rfl, ho3, hb3, hc3⟩; have y1 := cell_at x1 hb3; have y2 := cell_at x2 hb3; have y3 := cell_at e3 hb3; have y4 := cell_at e4' hb3; have y5 := cell_at e5' hb3; have B3 := put hb3; have hs3 := hb3.size; have O3 := put ho3; clear hb3 ho3 hc3))
  all_goals
    first | (obtain ⟨W, hW⟩ : ∃ W, W = w5.alloc (.cells #[.bool x.leaf, .slice A7 l7 c7, .slice A8 l8 c8] 69) := ⟨_, rfl⟩; rw [← hW]; obtain ⟨X, hX⟩ : ∃ X, X = w5.heap.size := ⟨_, rfl⟩; rw [← hX]; have J : Kp (JB w2.heap.size w2 W X x.leaf (.slice A7 l7 c7) (.slice A8 l8 c8) (x.join sep y)) := put (by rw [hX]; exact jb1 hW B5.out O5.out); clear hX hW) | (obtain ⟨W, hW⟩ : ∃ W, W = ((w5.setCell ⟨w4.heap.size, 0, none⟩ (.bool x.leaf)).setCell ⟨w4.heap.size, 1, none⟩ (.slice A7 l7 c7)).setCell ⟨w4.heap.size, 2, none⟩ (.slice A8 l8 c8) := ⟨_, rfl⟩; rw [← hW]; obtain ⟨X, hX⟩ : ∃ X, X = w4.heap.size := ⟨_, rfl⟩; rw [← hX]; have J : Kp (JB w2.heap.size w2 W X x.leaf (.slice A7 l7 c7) (.slice A8 l8 c8) (x.join sep y)) := put (by rw [hX]; exact jb2 hs4 hW HZ5.out B5.out O5.out); clear hX hW t0 t1 t2 t3 t4 t5 hX1 hX2 hX3) | (obtain ⟨W, hW⟩ : ∃ W, W = ((w5.setCell ⟨w3.heap.size, 0, none⟩ (.bool x.leaf)).setCell ⟨w3.heap.size, 1, none⟩ (.slice A7 l7 c7)).setCell ⟨w3.heap.size, 2, none⟩ (.slice A8 l8 c8) := ⟨_, rfl⟩; rw [← hW]; obtain ⟨X, hX⟩ : ∃ X, X = w3.heap.size := ⟨_, rfl⟩; rw [← hX]; have J : Kp (JB w2.heap.size w2 W X x.leaf (.slice A7 l7 c7) (.slice A8 l8 c8) (x.join sep y)) := put (by rw [hX]; exact jb2 hs3 hW HZ5.out B5.out O5.out); clear hX hW t0 t1 t2 t3 t4 t5 hX1 hX2 hX3) | (obtain ⟨W, hW⟩ : ∃ W, W = ((w5.setCell ⟨w2.heap.size, 0, none⟩ (.bool x.leaf)).setCell ⟨w2.heap.size, 1, none⟩ (.slice A7 l7 c7)).setCell ⟨w2.heap.size, 2, none⟩ (.slice A8 l8 c8) := ⟨_, rfl⟩; rw [← hW]; obtain ⟨X, hX⟩ : ∃ X, X = w2.heap.size := ⟨_, rfl⟩; rw [← hX]; have J : Kp (JB w2.heap.size w2 W X x.leaf (.slice A7 l7 c7) (.slice A8 l8 c8) (x.join sep y)) := put (by rw [hX]; exact jb2 (Nat.le_refl _) hW HZ5.out B5.out O5.out); clear hX hW t0 t1 t2 t3 t4 t5 hX1 hX2 hX3)
    clear q1 q2 q3 q4 q5 x0 x1 x2 e3 e4' e5' y1 y2 y3 y4 y5 z1 z2 z3 z4 z5
    have STW := put (ST2.out.kps (below_kps J.out.b (fun _ => False)) (fun _ _ _ => id))
    obtain ⟨x0, x1, x2⟩ := c3 STW.out.n
    obtain ⟨y0, y1, y2⟩ := c3 J.out.n
    have hTW := (Below.cell J.out.b hTl2).trans (cell_at hT B2.out)
    have BW := put (B2.out.trans (J.out.b.mono B2.out.size))
    have SHP := put HJ.out.1
    have AXW := put (HA.out.below BW.out)
    have hWs := BW.out.size
    have VW : Kp (NdV (fun b => w2.heap.size ≤ b ∧ b < W.heap.size) W (.slice A7 l7 c7) (.slice A8 l8 c8) (x.join sep y)) := put (by
      have h1 : NdO w2.heap.size W (.slice A7 l7 c7) (.slice A8 l8 c8) (x.join sep y) := ⟨J.out.r, J.out.k⟩
      exact h1.v.bnd)
    go_wp2_with fail
    refine (rightCalls (fun b => w2.heap.size ≤ b ∧ b < W.heap.size) (.slice A7 l7 c7) (.slice A8 l8 c8) (x.join sep y) W VW.out HJ.out.2 HJ.out.1).mono ?_
    rintro e w6 ⟨rfl, hb6⟩
    have B6 := put (bt BW.out hb6)
    by_cases hz : (x.join sep y).size ≤ 1024
    rotate_left
    · rw [decide_eq_false hz]
      clear hz
      go_wp2_with fail
      go_ret
      exact ⟨false, rfl, .inl ⟨rfl, HA.out.below B6.out, below_kps B6.out ok⟩⟩
    rw [decide_eq_true hz]
    have HZ := put hz
    have ST6 := put (STW.out.below hb6)
    have V6 : Kp (NdV (fun b => w2.heap.size ≤ b ∧ b < W.heap.size) w6 (.slice A7 l7 c7) (.slice A8 l8 c8) (x.join sep y)) := put (VW.out.below hb6)
    have J6 := put ((hb6.block X (Array.getElem?_eq_some_iff.1 J.out.n).1).trans J.out.n)
    have hT6 := cell_at hTW hb6
    have hs6 := hb6.size
    have f4 := cell_at HE4.out (bt J.out.b hb6)
    have f5 := cell_at HE5.out (bt J.out.b hb6)
    have hw6 : w.heap.size ≤ w6.heap.size := by omega
    have hw26 : w2.heap.size ≤ w6.heap.size := (bt J.out.b hb6).size
    have NB : Kp (∀ b, (M b ∨ w.heap.size ≤ b) → b < w6.heap.size → ¬ nar ok w.heap.size w6.heap.size b) := put fun b h1 h2 h3 => by
      rcases h3 with h3 | h3
      · rcases h1 with h1 | h1
        · exact HM.out b h1 h3.1
        · omega
      · omega
    have hTn : ¬ nar ok w.heap.size w6.heap.size T := by
      rintro (h1 | h1)
      · exact HTO.out h1.1
      · omega
    have HTN := put hTn
    have qk2 : M g2 ∨ w.heap.size ≤ g2 := (ST6.out.qk g2 rfl).imp (fun h => h.1) (fun e => by omega)
    have QK2 := put qk2
    clear hz hb6 x0 x1 x2 y0 y1 y2 hTW VW AXW hTn qk2
    obtain ⟨x0, x1, x2⟩ := c3 ST6.out.n
    obtain ⟨y0, y1, y2⟩ := c3 J6.out
    have JO := join_out HAO.out HP.out HN.out HB.out HI.out HSEP.out HK0.out GX.out.1 GY.out.1 GX.out.2.1 GX.out.2.2.1 GX.out.2.2.2.1 GX.out.2.2.2.2.1 GX.out.2.2.2.2.2 GY.out.2.1 GY.out.2.2.1 GY.out.2.2.2.1 GY.out.2.2.2.2.1 GY.out.2.2.2.2.2 HZ.out
    have JO := put JO
    have S6 : Kp (∀ W', Below w6.heap.size w6 W' → Calls Try.prog 45 #[.pointer (some ⟨T, 0, none⟩), .int .i64 (((k0 - 1 : Nat) : Int) + 1), .agg #[.bool x.leaf, .slice A7 l7 c7, .slice A8 l8 c8]] W' fun e w' => e = .returned (.tuple #[]) ∧ ArX (nar ok w.heap.size w6.heap.size) w' a (A.put (k0 - 1) (enc (x.join sep y))) ∧ Kps (nar ok w.heap.size w6.heap.size) w6 w') := put fun W' hb => (storeN (ok := nar ok w.heap.size w6.heap.size) (fun b => w2.heap.size ≤ b ∧ b < W.heap.size) T a (k0 - 1) A (enc x) (.slice A7 l7 c7) (.slice A8 l8 c8) (x.join sep y) W' ((HA.out.nar B6.out).below hb) (fun k hk => .inr (Nat.le_trans hb.size hk)) (cell_at hT6 hb) (Nat.lt_of_lt_of_le hTl (Nat.le_trans hw6 hb.size)) GX.out.2.1 (V6.out.below hb) JO.out.1).mono (by
      rintro e w' ⟨h1, h2, h3⟩
      exact ⟨h1, h2, (below_kps hb _).trans h3⟩)
    go_wp2_with fail
    go_region_held3 (fun w' => w'.cell? ⟨w.heap.size, 2, none⟩ = some (.slice (some ⟨g2, o2, none⟩) kids.length c6) ∧ w'.cell? ⟨g2, o2 + j, none⟩ = some (.int .i64 (((k0 - 1 : Nat) : Int) + 1)) ∧ w'.cell? ⟨X, 0, none⟩ = some (.bool x.leaf) ∧ w'.cell? ⟨X, 1, none⟩ = some (.slice A7 l7 c7) ∧ w'.cell? ⟨X, 2, none⟩ = some (.slice A8 l8 c8)) (first | go_keep | exact ⟨x2, f4, y0, y1, y2⟩ | exact ⟨r2, r4, r5, r6, r7⟩) (first | (go_at_call 45; refine (S6.out _ (by (repeat (first | with_reducible exact (Below.refl _ _) | with_reducible apply Below.drew | with_reducible refine balloc ?_ _)))).mono ?_; rintro e w7 ⟨rfl, ha7, k7⟩; have A7' := put ha7; have K7 := put k7; have r2 := keep_cell k7 (by omega) (NB.out _ (.inr (Nat.le_refl _)) (by omega)) x2; have r4 := keep_cell k7 (by omega) (NB.out _ QK2.out (by omega)) f4; have hXl := (Array.getElem?_eq_some_iff.1 J6.out).1; have hXb := J.out.nb; have r5 := keep_cell k7 hXl (NB.out _ (.inr (by omega)) hXl) y0; have r6 := keep_cell k7 hXl (NB.out _ (.inr (by omega)) hXl) y1; have r7 := keep_cell k7 hXl (NB.out _ (.inr (by omega)) hXl) y2; clear ha7 k7))
    have hT7 := keep_cell K7.out (by omega) HTN.out hT6
    have g5 := keep_cell K7.out (by omega) (NB.out _ QK2.out (by omega)) f5
    have hs7 := K7.out.size
    clear x0 x1 x2 y0 y1 y2 f4 f5 r4 r5 r6 r7 hXl hXb
    have F7 : Kp (∀ W', Below w7.heap.size w7 W' → Calls Try.prog 42 #[.pointer (some ⟨a, 0, none⟩), .int .i64 (((k1 - 1 : Nat) : Int) + 1)] W' fun e w' => e = .returned (.int .i64 0) ∧ ArX (nar ok w.heap.size w6.heap.size) w' a ((A.put (k0 - 1) (enc (x.join sep y))).give (k1 - 1)) ∧ Kps (nar ok w.heap.size w6.heap.size) w7 w') := put fun W' hb => by
      obtain ⟨bs, hbs⟩ := JO.out.2.2.1
      refine (freeCalls a _ (k1 - 1) bs W' (A7'.out.below hb) JO.out.2.2.2.2.2.1 hbs (fun k hk => .inr (by have := hb.size; omega))).mono ?_
      rintro e w' ⟨h1, h2, h3⟩
      exact ⟨h1, h2, (below_kps hb _).trans h3⟩
    go_wp2_with fail
    go_region_held3 (fun w' => w'.cell? ⟨T, 0, none⟩ = some (.pointer (some ⟨a, 0, none⟩)) ∧ w'.cell? ⟨w.heap.size, 2, none⟩ = some (.slice (some ⟨g2, o2, none⟩) kids.length c6) ∧ w'.cell? ⟨g2, o2 + (j + 1), none⟩ = some (.int .i64 (((k1 - 1 : Nat) : Int) + 1))) (first | go_keep | exact ⟨hT7, r2, g5⟩ | exact ⟨u0, u1, u2⟩) (first | (go_at_call 42; refine (F7.out _ (by (repeat (first | with_reducible exact (Below.refl _ _) | with_reducible apply Below.drew | with_reducible refine balloc ?_ _)))).mono ?_; rintro e w8 ⟨rfl, ha8, k8⟩; have A8' := put ha8; have K8 := put k8; have u0 := keep_cell k8 (by omega) HTN.out hT7; have u1 := keep_cell k8 (by omega) (NB.out _ (.inr (Nat.le_refl _)) (by omega)) r2; have u2 := keep_cell k8 (by omega) (NB.out _ QK2.out (by omega)) g5; clear ha8 k8) | (go_at_call 41; refine (checkNone _).mono ?_; rintro e w9 ⟨rfl, rfl⟩))
    have HN1 : Kp (∀ k, nar ok w.heap.size w6.heap.size k → ok k) := put fun k hk => by
      rcases hk with hk | hk
      · exact hk.1
      · exact HOK.out k (by omega)
    have K69 := put (K7.out.trans K8.out)
    have ST9 := put (ST6.out.kps K69.out (fun b h1 h2 => NB.out b (h1.imp (fun h => h.1) (fun e => by omega)) h2))
    have hs9 := K69.out.size
    clear u1 u2 r2 g5 hT7
    obtain ⟨x0, x1, x2⟩ := c3 ST9.out.n
    have hlt9 := ST9.out.lt
    go_wp2_with fail
    refine (delS 0 j _ recs no w9 ST9.out.r hjl).mono ?_
    rintro e w10 ⟨v10, rfl, ho10, k10, hv10⟩
    obtain ⟨A9, c9, e9, r1, r2⟩ := ho10.form
    obtain ⟨n9, hn9⟩ : ∃ n9, n9 = (recs.take j ++ recs.drop (j + 1)).length := ⟨_, rfl⟩
    rw [← hn9] at e9 r1
    subst e9
    have hM10 : ∀ b, (Value.slice A9 n9 c9).ownBlock = some b → (M b ∧ b < w.heap.size) ∨ b = w.heap.size := fun b hb => by
      rw [hv10] at hb
      exact ST9.out.qr b hb
    have hN10 := ((grown_kps k10).block _ ST9.out.lt (ST9.out.r.ne_block ST9.out.n (by decide))).trans ST9.out.n
    have ST10 := put (ST9.out.pushR (grown_kps k10) ho10 hM10)
    have K10 := put (Kps.set (k10.mono ST9.out.qr) (.inl ST9.out.qn) 1 (.slice A9 n9 c9))
    clear x0 x1 x2 hlt9
    obtain ⟨x0, x1, x2⟩ := c3 hN10
    obtain ⟨x3, x4, x5⟩ := f3 hN10
    have hlN : w.heap.size < w10.heap.size := (Array.getElem?_eq_some_iff.1 hN10).1
    clear hM10 hN10 k10 ho10 hv10 r1 r2 hn9
    go_wp2_with fail
    have CI := delI 0 (j + 1) _ (kints kids) no (w10.setCell ⟨w.heap.size, 1, none⟩ (.slice A9 n9 c9)) ST10.out.k (by rw [kints_len]; have := HLEN.out; omega)
    rw [show ((j + 1 : Nat) : Int) = (j : Int) + 1 by omega, show (j : Int) + 1 + 1 = (j : Int) + 2 by omega] at CI
    refine CI.mono ?_
    clear CI
    rintro e w11 ⟨v11, rfl, ho11, k11, hv11⟩
    rw [show (kints kids).take (j + 1) ++ (kints kids).drop (j + 1 + 1) = kints (kids.take (j + 1) ++ kids.drop (j + 2)) by unfold kints; rw [List.map_append, List.map_take, List.map_drop]] at ho11
    obtain ⟨A10, c10, e10, r1, r2⟩ := ho11.form
    obtain ⟨n10, hn10⟩ : ∃ n10, n10 = (kints (kids.take (j + 1) ++ kids.drop (j + 2))).length := ⟨_, rfl⟩
    rw [← hn10] at e10 r1
    subst e10
    have hM11 : ∀ b, (Value.slice A10 n10 c10).ownBlock = some b → (M b ∧ b < w.heap.size) ∨ b = w.heap.size := fun b hb => by
      rw [hv11] at hb
      exact ST10.out.qk b hb
    have hN11 := ((grown_kps k11).block _ ST10.out.lt (ST10.out.k.ne_block ST10.out.n (by decide))).trans ST10.out.n
    have ST12 := put (ST10.out.pushK (grown_kps k11) ho11 hM11)
    have K12 := put ((K10.out.trans (k11.mono ST10.out.qk)).set (.inl ST10.out.qn) 2 (.slice A10 n10 c10))
    clear x0 x1 x2 x3 x4 x5 hlN
    obtain ⟨x0, x1, x2⟩ := c3 hN11
    obtain ⟨x3, x4, x5⟩ := f3 hN11
    have hlN : w.heap.size < w11.heap.size := (Array.getElem?_eq_some_iff.1 hN11).1
    clear hM11 hN11 k11 ho11 hv11 r1 r2 hn10
    obtain ⟨w12, hw12⟩ : ∃ w12, w12 = w11.setCell ⟨w.heap.size, 2, none⟩ (.slice A10 n10 c10) := ⟨_, rfl⟩
    rw [← hw12] at ST12 K12
    have hs12 := K12.out.size
    have AX12 : Kp (ArX (nar ok w.heap.size w6.heap.size) w12 a ((A.put (k0 - 1) (enc (x.join sep y))).give (k1 - 1))) := put (A8'.out.kps K12.out (fun b h1 _ h2 => by
      rcases h2 with h2 | h2
      · exact NB.out b (.inl h2.1) (by omega) h1
      · exact NB.out b (.inr (by omega)) (by omega) h1))
    have hT12 : w12.cell? ⟨T, 0, none⟩ = some (.pointer (some ⟨a, 0, none⟩)) := keep_cell K12.out (by omega) (fun h1 => by
      rcases h1 with h1 | h1
      · exact HMT.out h1.1
      · omega) u0
    go_wp2_with fail
    rw [← hw12]
    obtain ⟨old, hold⟩ := JO.out.2.2.2.1
    refine (storeN (ok := nar ok w.heap.size w6.heap.size) (fun b => ((M b ∧ b < w.heap.size) ∨ b = w.heap.size) ∧ b < w12.heap.size) T a i _ old (.slice A9 n9 c9) (.slice A10 n10 c10) ⟨false, recs.take j ++ recs.drop (j + 1), kids.take (j + 1) ++ kids.drop (j + 2)⟩ w12 AX12.out (fun k hk => .inr (by omega)) hT12 (by omega) hold (ST12.out.ndv (n := ⟨false, recs.take j ++ recs.drop (j + 1), kids.take (j + 1) ++ kids.drop (j + 2)⟩)) JO.out.2.2.2.2.1).mono ?_
    rintro e w13 ⟨rfl, ha13, k13⟩
    have AX13 := put (ha13.mono HN1.out)
    have K13 := put k13
    clear ha13 k13 hold
    go_wp2_with fail
    go_ret
    obtain ⟨ps', hd⟩ := JO.out.2.2.2.2.2.2.2
    refine ⟨true, rfl, .inr ⟨rfl, _, ps', hd, AX13.out, ?_⟩⟩
    refine (((below_kps B6.out _).trans (K69.out.mono fun b hb => .inl (HN1.out b hb))).trans (K12.out.mono fun b hb => ?_)).trans (K13.out.mono fun b hb => .inl (HN1.out b hb))
    rcases hb with hb | hb
    · exact .inr hb.1
    · exact .inl (HOK.out b (by omega))
end Go.Proofs.Ytcpahknlabnnbaa.T

namespace Go.Proofs.Ytcpahknlabnnbaa.T
open Go Go.RowKit Go.Sort Go.Proofs.Ytcpahknlabnnbaa.Mem

/-- What remove leaves. -/
structure RemP (ok : Nat → Prop) (a h i : Nat) (B : Bnd) (s : ByteArray) (es : List ByteArray) (ps : List Nat) (A : Ar) (w : World) (e : Ending) (w' : World) : Prop where
  e0 : e = .returned (.tuple #[])
  out : ∃ (A' : Ar) (es' : List ByteArray) (ps' : List Nat), DelOut A A' h i B ps es' ps' ∧ (∀ x, x ∈ es' ↔ x ∈ es ∧ x ≠ s) ∧ ArX ok w' a A' ∧ Kps ok w w'
set_option maxHeartbeats 4000000 in
set_option maxRecDepth 100000 in
theorem removeN (T a : Nat) : ∀ (h : Nat) (ok : Nat → Prop) (i : Nat) (B : Bnd) (s : ByteArray) (es : List ByteArray) (ps : List Nat) (A : Ar) (w : World), ArX ok w a A → A.Ok → (∀ k, w.heap.size ≤ k → ok k) → ¬ ok T → w.cell? ⟨T, 0, none⟩ = some (.pointer (some ⟨a, 0, none⟩)) → T < w.heap.size → Sub m0 A h i B es ps → s ∈ es →
    Calls Try.prog 39 #[.pointer (some ⟨T, 0, none⟩), .int .i64 ((i : Int) + 1), .string s] w (RemP ok a h i B s es ps A w) := by
  intro h
  induction h with
  | zero =>
    intro ok i B s es ps A w ha hA hok hTo hT hTl hsub hs
    obtain ⟨n, hp, ⟨hn, _⟩, hl, hbn, rfl, rfl⟩ := hsub
    obtain ⟨lf, recs, kids⟩ := n
    obtain rfl : lf = true := hl
    have hat : recs[posS recs s]? = some s := (posS_there hn.shp.rise).2 hs
    have HD := put (del_leaf hA hp hn rfl hbn hat)
    have HA := put ha
    have HOK := put hok
    have HTO := put hTo
    have HP := put hp
    have HN := put hn
    have HFR : Kp (recs.length ≤ 100000) := put hn.fair.recs
    obtain ⟨m, hm⟩ : ∃ m, m = posS recs s := ⟨_, rfl⟩
    rw [← hm] at hat HD
    have hml : m < recs.length := (List.getElem?_eq_some_iff.1 hat).1
    have HM := put hm
    clear ha hA hok hTo hp hn hbn hs hat hm
    go_enter Try.func39, Try.ntmps39
    go_wp2_with fail
    refine (loadN T a i A _ w HA.out hT hTl HP.out HN.out).mono ?_
    rintro e w1 ⟨vr, vk, rfl, ho1, hb1⟩
    have O1 := put ho1
    have B1 := put hb1
    obtain ⟨⟨A5, c5, rfl⟩, ⟨A6, c6, rfl⟩⟩ := ho1.form
    have hs1 := hb1.size
    clear ho1 hb1
    go_wp2_with fail
    obtain ⟨w2, hw2⟩ : ∃ w2, w2 = w1.alloc (.cells #[.bool true, .slice A5 recs.length c5, .slice A6 kids.length c6] 69) := ⟨_, rfl⟩
    rw [← hw2]
    have ST2 : Kp (NW (fun b => w.heap.size ≤ b) w1.heap.size w2 true (.slice A5 recs.length c5) (.slice A6 kids.length c6) recs (kints kids)) := put (nw_new (n := ⟨true, recs, kids⟩) O1.out (fun _ h => h) B1.out.size hw2)
    have B2 := put (bt B1.out (show Below w1.heap.size w1 w2 by rw [hw2]; exact balloc (Below.refl _ _) _))
    clear hw2
    obtain ⟨x0, x1, x2⟩ := c3 ST2.out.n
    have hlt2 := ST2.out.lt
    go_wp2_with fail
    refine (findCalls (fun b => w.heap.size ≤ b) true _ _ recs s w2 (ST2.out.ndv (n := ⟨true, recs, kids⟩) |>.recs.mono fun _ h => h.1) HFR.out).mono ?_
    rintro e w3 ⟨rfl, hb3⟩
    rw [← HM.out]
    obtain ⟨fd, hfd⟩ : ∃ fd, fd = decide (recs[m]? = some s) := ⟨_, rfl⟩
    rw [← hfd]
    have ST3 := put (ST2.out.below hb3)
    have B3 := put (bt B2.out hb3)
    have hfr := HFR.out
    clear hb3 hfd x0 x1 x2 hlt2
    obtain ⟨x0, x1, x2⟩ := c3 ST3.out.n
    have hlt3 := ST3.out.lt
    go_wp2_with fail
    refine (delS 0 m _ recs no w3 ST3.out.r hml).mono ?_
    rintro e w4 ⟨v4, rfl, ho4, k4, hv4⟩
    obtain ⟨A7, c7, e7, q1, q2⟩ := ho4.form
    obtain ⟨n7, hn7⟩ : ∃ n7, n7 = (recs.take m ++ recs.drop (m + 1)).length := ⟨_, rfl⟩
    rw [← hn7] at e7 q1
    subst e7
    have hM4 : ∀ b, (Value.slice A7 n7 c7).ownBlock = some b → w.heap.size ≤ b := fun b hb => by
      rw [hv4] at hb
      exact ST3.out.qr b hb
    have hN4 := ((grown_kps k4).block _ ST3.out.lt (ST3.out.r.ne_block ST3.out.n (by decide))).trans ST3.out.n
    have ST4 := put (ST3.out.pushR (grown_kps k4) ho4 hM4)
    have hB4 : Below w.heap.size w w4 := B3.out.trans (k4.below ST3.out.qr B3.out.size)
    have hB6 : Below w.heap.size w (w4.setCell ⟨w1.heap.size, 1, none⟩ (.slice A7 n7 c7)) := hB4.setCell B1.out.size _
    clear x0 x1 x2 hlt3
    obtain ⟨x0, x1, x2⟩ := c3 hN4
    obtain ⟨x3, x4, x5⟩ := f3 hN4
    have hlN : w1.heap.size < w4.heap.size := (Array.getElem?_eq_some_iff.1 hN4).1
    clear hM4 hN4 k4 ho4 hv4 q1 q2 hn7 hB4
    obtain ⟨w6, hw6⟩ : ∃ w6, w6 = w4.setCell ⟨w1.heap.size, 1, none⟩ (.slice A7 n7 c7) := ⟨_, rfl⟩
    rw [← hw6] at ST4 hB6
    have B6 := put hB6
    have hs6 := hB6.size
    have hT6 := cell_at hT hB6
    clear hB6
    go_wp2_with fail
    rw [← hw6]
    refine (storeN (ok := nar ok w.heap.size w6.heap.size) (fun b => w.heap.size ≤ b ∧ b < w6.heap.size) T a i A _ (.slice A7 n7 c7) (.slice A6 kids.length c6) ⟨true, recs.take m ++ recs.drop (m + 1), kids⟩ w6 (HA.out.nar B6.out) (fun k hk => .inr hk) hT6 (Nat.lt_of_lt_of_le hTl hs6) HP.out (ST4.out.ndv (n := ⟨true, recs.take m ++ recs.drop (m + 1), kids⟩)) HD.out.1).mono ?_
    rintro e w7 ⟨rfl, ha7, k7⟩
    have HN1 : Kp (∀ k, nar ok w.heap.size w6.heap.size k → ok k) := put fun k hk => by
      rcases hk with hk | hk
      · exact hk.1
      · exact HOK.out k (by omega)
    have A7' := put (ha7.mono HN1.out)
    have K7 := put k7
    clear ha7 k7
    go_wp2_with fail
    exact bodyPost_ret (results_none rfl _ _ _) rfl ⟨rfl, _, _, _, HD.out.2.1, HD.out.2.2, A7'.out, (below_kps B6.out ok).trans (K7.out.mono HN1.out)⟩
  | succ h ih =>
    intro ok i B s es ps A w ha hA hok hTo hT hTl hsub hs
    obtain ⟨n, ks, hp, ⟨hn, _⟩, hb, hi, rfl, rfl⟩ := hsub
    obtain ⟨lf, recs, kids⟩ := n
    obtain rfl : lf = false := hb.inner
    have HA := put ha
    have HAO := put hA
    have HOK := put hok
    have HTO := put hTo
    have HP := put hp
    have HN := put hn
    have HBD := put hb
    have HI := put hi
    have HS := put hs
    have IH := put ih
    have HFR : Kp (recs.length ≤ 100000) := put hn.fair.recs
    have HKL0 : Kp (kids.length = recs.length + 1) := put hb.len
    clear ha hA hok hTo hp hn hb hi hs ih
    go_enter Try.func39, Try.ntmps39
    go_wp2_with fail
    refine (loadN T a i A _ w HA.out hT hTl HP.out HN.out).mono ?_
    rintro e w1 ⟨vr, vk, rfl, ho1, hb1⟩
    have O1 := put ho1
    have B1 := put hb1
    obtain ⟨⟨A5, c5, rfl⟩, ⟨A6, c6, rfl⟩⟩ := ho1.form
    have hs1 := hb1.size
    clear ho1 hb1
    go_wp2_with fail
    obtain ⟨w2, hw2⟩ : ∃ w2, w2 = w1.alloc (.cells #[.bool false, .slice A5 recs.length c5, .slice A6 kids.length c6] 69) := ⟨_, rfl⟩
    rw [← hw2]
    have ST2 : Kp (NW (fun b => w.heap.size ≤ b) w1.heap.size w2 false (.slice A5 recs.length c5) (.slice A6 kids.length c6) recs (kints kids)) := put (nw_new (n := ⟨false, recs, kids⟩) O1.out (fun _ h => h) B1.out.size hw2)
    have B2 := put (bt B1.out (show Below w1.heap.size w1 w2 by rw [hw2]; exact balloc (Below.refl _ _) _))
    clear hw2
    have hks := kidAt_sep s HN.out.shp.rise
    have hkl : kidAt recs s ≤ recs.length := hks.1
    have HKS : Kp (Sep recs (kidAt recs s) s) := put hks.2
    obtain ⟨x0, x1, x2⟩ := c3 ST2.out.n
    have hlt2 := ST2.out.lt
    go_wp2_with fail
    refine (kidCalls (fun b => w.heap.size ≤ b) false _ _ recs s w2 (ST2.out.ndv (n := ⟨false, recs, kids⟩) |>.recs.mono fun _ h => h.1) HFR.out (posS_spec s HN.out.shp.rise).1).mono ?_
    rintro e w3 ⟨rfl, hb3⟩
    have ST3 := put (ST2.out.below hb3)
    have B3 := put (bt B2.out hb3)
    obtain ⟨m, hm⟩ : ∃ m, m = kidAt recs s := ⟨_, rfl⟩
    rw [← hm] at hkl HKS ⊢
    have hfr := HFR.out
    obtain ⟨k, hk⟩ : ∃ k, kids[m]? = some k := ⟨_, List.getElem?_eq_getElem (by have := HKL0.out; omega)⟩
    have hk1 := HN.out.shp.kids k (List.mem_of_getElem? hk)
    obtain ⟨p, hpk⟩ : ∃ p, ks[m]? = some p := ⟨_, List.getElem?_eq_getElem (by have h1 := HBD.out.lk; have h2 : (Nd.mk false recs kids).kids.length = kids.length := rfl; have := HKL0.out; omega)⟩
    have hsp : s ∈ p.1 := by
      obtain ⟨m', q, hq, hsq⟩ := mem_ents.1 HS.out
      obtain ⟨_, _, hsub⟩ := HBD.out.at hq
      have h1 := (hsub.bound s hsq).2
      have h2 := (List.getElem?_eq_some_iff.1 hq).1
      have h3 := HBD.out.lk
      have h4 : (Nd.mk false recs kids).kids.length = kids.length := rfl
      have h5 := HKL0.out
      have : m' = m := sep_unique (by show m' ≤ recs.length; omega) hkl h1 HKS.out
      subst this
      rw [hpk] at hq
      injection hq with hq
      exact hq ▸ hsq
    have hrd := own_rd intD rfl ST3.out.k
    rw [show (Value.slice A6 kids.length c6) = .slice A6 (kints kids).length c6 by rw [kints_len]] at hrd
    obtain ⟨g, o, hg1, hg2, e0⟩ := hrd.get (kints_get hk)
    subst hg1
    have e0' : w3.cell? ⟨g, o + m, none⟩ = some (.int .i64 (((k - 1 : Nat) : Int) + 1)) := by rw [e0]; congr 2; omega
    have HKK := put hk
    have HPK := put hpk
    have HSP := put hsp
    have hml : (m : Int) < (kids.length : Int) := by have := HKL0.out; omega
    have hm0 : (0 : Int) ≤ (m : Int) := by omega
    have hm1 : IntKind.i64.wrap ((m : Int) - 1) = (m : Int) - 1 := IntWalk.i64_in _ (by omega)
    have qg : w.heap.size ≤ g := ST3.out.qk g rfl
    clear e0 hrd hk hpk hsp x0 x1 x2 hlt2
    obtain ⟨x0, x1, x2⟩ := c3 ST3.out.n
    have hlt3 := ST3.out.lt
    clear hb3 hks hm
    go_wp2_with fail
    have hsub := HBD.out.kid m k p HKK.out HPK.out
    have hs3 := B3.out.size
    have hT3 := cell_at hT B3.out
    have hdis : ∀ b, w.heap.size ≤ b → b < w3.heap.size → ¬ nar ok w.heap.size w3.heap.size b := fun b h1 h2 h3 => by
      rcases h3 with h3 | h3 <;> omega
    have HDIS := put hdis
    have HN1 : Kp (∀ k, nar ok w.heap.size w3.heap.size k → ok k) := put fun k hk => by
      rcases hk with hk | hk
      · exact hk.1
      · exact HOK.out k (by omega)
    have hT1 : ¬ nar ok w.heap.size w3.heap.size T := fun h1 => by
      rcases h1 with h1 | h1
      · exact HTO.out h1.1
      · omega
    have HT1 := put hT1
    refine (IH.out (nar ok w.heap.size w3.heap.size) (k - 1) _ s p.1 p.2 A w3 (HA.out.nar B3.out) HAO.out (fun b hb => .inr hb) hT1 hT3 (by omega) hsub HSP.out).mono ?_
    rintro e w4 ⟨rfl, AA, es1, ps1, dd, hmem, ax4, k4⟩
    obtain ⟨d1, d2, d3, d4⟩ := del_kid HP.out HN.out HBD.out HI.out HKK.out HPK.out dd
    have D1 := put d1
    have D2 := put d2
    have D3 := put d3
    have D4 := put d4
    have HME := put (del_kid_mem (ps' := ps1) HBD.out HPK.out HKS.out hmem)
    obtain ⟨y, bl, hy1, hy2, hy3, hy4, hy5⟩ := dd.sub.cont
    have Y1 := put hy1
    have Y2 := put hy2.1
    have AX4 := put ax4
    have K4 := put k4
    have hs4 := k4.size
    have ST4 := put ((ST3.out.imp (M' := fun b => w.heap.size ≤ b ∧ b < w3.heap.size) (fun b h1 h2 => ⟨h1, h2⟩)).kps k4 (fun b h1 _ => hdis b h1.1 h1.2))
    have hT4 : w4.cell? ⟨T, 0, none⟩ = some (.pointer (some ⟨a, 0, none⟩)) := keep_cell k4 (by omega) hT1 hT3
    have e4 := keep_cell k4 hg2 (hdis g qg hg2) e0'
    clear dd d1 d2 d3 d4 hmem hy1 hy2 hy3 hy4 hy5 ax4 k4 x0 x1 x2 e0' hlt3 hsub hT1 hdis
    obtain ⟨x0, x1, x2⟩ := c3 ST4.out.n
    have hlt4 := ST4.out.lt
    go_wp2_with fail
    refine (loadN T a (k - 1) AA y w4 AX4.out hT4 (by omega) Y1.out Y2.out).mono ?_
    rintro e w5 ⟨yr, yk, rfl, ho5, hb5⟩
    have O5 := put ho5
    have B5 := put hb5
    have ST5 := put (ST4.out.below hb5)
    have e5 := cell_at e4 hb5
    have hT5 := cell_at hT4 hb5
    have hs5 := hb5.size
    clear ho5 hb5 x0 x1 x2 hlt4 e4 hT4
    obtain ⟨x0, x1, x2⟩ := c3 ST5.out.n
    have hlt5 := ST5.out.lt
    go_wp2_with fail
    refine (sizeCalls _ yr yk y w5 O5.out.v Y2.out.fair).mono ?_
    rintro e w6 ⟨rfl, hb6⟩
    have ST6 := put (ST5.out.below hb6)
    have e6 := cell_at e5 hb6
    have hT6 := cell_at hT5 hb6
    have hs6 := hb6.size
    have B46 := put (bt B5.out hb6)
    clear hb6 x0 x1 x2 hlt5 e5 hT5
    obtain ⟨x0, x1, x2⟩ := c3 ST6.out.n
    have hlt6 := ST6.out.lt
    obtain ⟨sz, hsz⟩ : ∃ sz, sz = y.size := ⟨_, rfl⟩
    rw [← hsz]
    clear hsz
    have AX6 := put (AX4.out.below B46.out)
    have J : Kp (∀ (jj : Int) (W : World), ArX (nar ok w.heap.size w3.heap.size) W a AA → Kps (nar ok w.heap.size w3.heap.size) w6 W → Calls Try.prog 57 #[.pointer (some ⟨T, 0, none⟩), .int .i64 ((i : Int) + 1), .agg #[.bool false, .slice A5 recs.length c5, .slice (some ⟨g, o, none⟩) kids.length c6], .int .i64 jj] W (JoinP (nar ok w.heap.size w3.heap.size) (fun b => w.heap.size ≤ b ∧ b < w3.heap.size) a h i B (ks.set m (es1, ps1)) AA W)) := put fun jj W hax hk => by
      have stw := ST6.out.kps hk (fun b h1 _ => HDIS.out b h1.1 h1.2)
      exact joinN T a h i B ⟨false, recs, kids⟩ (ks.set m (es1, ps1)) jj AA _ _ W hax D1.out.ok (fun k hk2 => .inr (by have := hk.size; omega)) HT1.out (keep_cell hk (by omega) HT1.out hT6) (by have := hk.size; omega) D2.out HN.out D3.out D4.out stw.r stw.k stw.qr stw.qk (fun b h1 => HDIS.out b h1.1 h1.2) (fun h1 => by omega)
    have KW6 : Kp (Kps ok w w6) := put (((below_kps B3.out ok).trans (K4.out.mono HN1.out)).trans (below_kps B46.out ok))
    have FIN : Kp (∀ w9 A9 ps9, DelOut AA A9 (h + 1) i B (i :: pagsOf (ks.set m (es1, ps1))) (entsOf (ks.set m (es1, ps1))) ps9 → ArX (nar ok w.heap.size w3.heap.size) w9 a A9 → Kps (fun b => nar ok w.heap.size w3.heap.size b ∨ (w.heap.size ≤ b ∧ b < w3.heap.size)) w6 w9 → ∃ (A' : Ar) (es' : List ByteArray) (ps' : List Nat), DelOut A A' (h + 1) i B (i :: pagsOf ks) es' ps' ∧ (∀ x, x ∈ es' ↔ x ∈ entsOf ks ∧ x ≠ s) ∧ ArX ok w9 a A' ∧ Kps ok w w9) := put fun w9 A9 ps9 hd hax hk => ⟨A9, _, ps9, D1.out.trans hd, HME.out, hax.mono HN1.out, KW6.out.trans (hk.mono fun b hb => by
      rcases hb with hb | hb
      · exact HN1.out b hb
      · exact HOK.out b hb.1)⟩
    have FIN0 : Kp (∀ w9, ArX (nar ok w.heap.size w3.heap.size) w9 a AA → Kps (nar ok w.heap.size w3.heap.size) w6 w9 → ∃ (A' : Ar) (es' : List ByteArray) (ps' : List Nat), DelOut A A' (h + 1) i B (i :: pagsOf ks) es' ps' ∧ (∀ x, x ∈ es' ↔ x ∈ entsOf ks ∧ x ≠ s) ∧ ArX ok w9 a A' ∧ Kps ok w w9) := put fun w9 hax hk => FIN.out w9 AA _ (DelOut.refl D1.out.ok D1.out.sub) hax (hk.mono fun b hb => .inl hb)
    by_cases hz : ¬ (sz : Int) < 256
    · go_wp2_with fail
      exact bodyPost_end (results_none rfl _ _ _) rfl ⟨rfl, FIN0.out _ AX6.out (Kps.refl _ _)⟩
    have hz' : (sz : Int) < 256 := by omega
    clear hz
    go_wp2_with fail
    refine (J.out _ w6 AX6.out (Kps.refl _ _)).mono ?_
    rintro e w7 ⟨r, rfl, hr⟩
    cases r with
    | true =>
      have HR : Kp (∃ A' ps', DelOut AA A' (h + 1) i B (i :: pagsOf (ks.set m (es1, ps1))) (entsOf (ks.set m (es1, ps1))) ps' ∧ ArX (nar ok w.heap.size w3.heap.size) w7 a A' ∧ Kps (fun b => nar ok w.heap.size w3.heap.size b ∨ (w.heap.size ≤ b ∧ b < w3.heap.size)) w6 w7) := put (by
        rcases hr with hr | hr
        · exact absurd hr.1 (by simp)
        · exact hr.2)
      clear hr x0 x1 x2
      go_wp2_with fail
      obtain ⟨A9, ps9, h1, h2, h3⟩ := HR.out
      exact bodyPost_end (results_none rfl _ _ _) rfl ⟨rfl, FIN.out _ _ _ h1 h2 h3⟩
    | false =>
      have HR : Kp (ArX (nar ok w.heap.size w3.heap.size) w7 a AA ∧ Kps (nar ok w.heap.size w3.heap.size) w6 w7) := put (by
        rcases hr with hr | hr
        · exact hr.2
        · exact absurd hr.1 (by simp))
      have ST7 := put (ST6.out.kps HR.out.2 (fun b h1 _ => HDIS.out b h1.1 h1.2))
      clear hr x0 x1 x2
      obtain ⟨x0, x1, x2⟩ := c3 ST7.out.n
      go_wp2_with fail
      refine (J.out _ w7 HR.out.1 HR.out.2).mono ?_
      rintro e w8 ⟨r, rfl, hr2⟩
      have HR2 := put hr2
      clear hr2
      go_wp2_with fail
      rcases HR2.out with hr2 | hr2
      · exact bodyPost_end (results_none rfl _ _ _) rfl ⟨rfl, FIN0.out _ hr2.2.1 (HR.out.2.trans hr2.2.2)⟩
      · obtain ⟨_, A9, ps9, h1, h2, h3⟩ := hr2
        exact bodyPost_end (results_none rfl _ _ _) rfl ⟨rfl, FIN.out _ _ _ h1 h2 ((HR.out.2.mono fun b hb => .inl hb).trans h3)⟩
end Go.Proofs.Ytcpahknlabnnbaa.T
