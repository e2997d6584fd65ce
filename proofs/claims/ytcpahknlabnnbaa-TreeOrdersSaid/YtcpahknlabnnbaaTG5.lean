/- Trees: Each's walk. Trees: Each, Has. Trees over an arena's pages, in plain Lean: an insertion at the root. Trees over an arena's pages, in plain Lean: an entry out of a list; two kids joined. Trees over an arena's pages, in plain Lean: what a deletion leaves. -/
import Derived.Test.YtcpahknlabnnbaaTG4
import Derived.Test.YtcpahknlabnnbaaTG3

namespace Go.Proofs.Ytcpahknlabnnbaa.T
open Go Go.RowKit Go.Sort Go.Proofs.Ytcpahknlabnnbaa.Mem

theorem nilB : (⟨#[]⟩ : ByteArray).toList = [] := by rw [ByteArray.toList_eq]
/-- It answered b: X where b is true, else Y. -/
structure Out (e : Ending) (X Y : Prop) : Prop where
  out : ∃ b, e = .returned (.bool b) ∧ Aft b X Y

set_option maxHeartbeats 1000000 in
set_option maxRecDepth 100000 in
theorem stopsCalls (K : Nat) (id : Int) (w : World) (X Y R : World → Prop) (h : Calls Try.prog 35 #[.pointer (some ⟨K, 0, none⟩), .int .i64 id] w fun e w' => Out e (X w') (Y w') ∧ R w') :
    Calls Try.prog 50 #[.pointer (some ⟨K, 0, none⟩), .int .i64 id] w fun e w' => Out e (Y w') (X w') ∧ R w' := by
  have H := put h
  clear h
  go_enter Try.func50, Try.ntmps50
  go_wp2_with fail
  refine H.out.mono ?_
  rintro e w1 ⟨⟨b, rfl, ha⟩, hr⟩
  have HA := put ha
  have HR := put hr
  clear ha hr
  go_wp2_with fail
  go_ret
  refine ⟨⟨!b, rfl, ⟨?_⟩⟩, HR.out⟩
  have := HA.out.out
  cases b with
  | true => exact this
  | false => exact this

set_option maxHeartbeats 4000000 in
set_option maxRecDepth 100000 in
theorem nodeCalls {μ : Nat → Nat} {ok : Nat → Prop} {SF : World → Nat → Prop} {P : Nat → World → Prop} {F : World → Prop} {G : List ByteArray} {fr to : ByteArray} {g : Nat} {recv cb : Array Value} (T a K : Nat) (A : Ar) (C : Cb g recv cb SF P F G to) : ∀ (h i : Nat) (B : Bnd) (es : List ByteArray) (ps : List Nat) (j : Nat) (w : World), Sub μ A h i B es ps → Env ok SF T a K fr to (.func (.func g) recv cb) A w → P j w → (∀ (t : Nat) (x : ByteArray), (fromE fr es)[t]? = some x → G[j + t]? = some x) →
    Calls Try.prog 35 #[.pointer (some ⟨K, 0, none⟩), .int .i64 ((i : Int) + 1)] w fun e w' => Out e (P (j + (fromE fr es).length) w') (F w') ∧ Fr SF w w' := by
  have HC := put C
  clear C
  intro h
  induction h with
  | zero =>
    intro i B es ps j w hsub henv hP hG
    obtain ⟨n, hp, ⟨hn, _⟩, hl, hbn, rfl, rfl⟩ := hsub
    obtain ⟨lf, recs, kids⟩ := n
    obtain rfl : lf = true := hl
    have hE := fromE_drop (fr := fr) hn.shp.rise
    have HE : Kp (fromE fr recs = recs.drop (posS recs fr)) := put hE
    have HEN := put henv
    have HPJ := put hP
    have HG := put hG
    have HN := put hn
    have HPG := put hp
    have HFR : Kp (recs.length ≤ 100000) := put hn.fair.recs
    obtain ⟨k0, k1, k2, k3⟩ := c4 henv.k
    have hkl : K < w.heap.size := (Array.getElem?_eq_some_iff.1 (show w.heap[K]? = _ from henv.k)).1
    clear hp hn hbn hE henv hP hG
    go_enter Try.func35, Try.ntmps35
    go_wp2_with fail
    refine (loadN T a i A _ w HEN.out.ax HEN.out.t HEN.out.tl HPG.out HN.out).mono ?_
    rintro e w1 ⟨vr, vk, rfl, ho1, hb1⟩
    have O1 := put ho1
    have B1 := put hb1
    obtain ⟨⟨A5, c5, rfl⟩, ⟨A6, c6, rfl⟩⟩ := ho1.form
    clear ho1 hb1
    go_wp2_with fail
    obtain ⟨w2, hw2⟩ : ∃ w2, w2 = w1.alloc (.cells #[.bool true, .slice A5 recs.length c5, .slice A6 kids.length c6] 69) := ⟨_, rfl⟩
    rw [← hw2]
    have hb12 : Below w1.heap.size w1 w2 := by rw [hw2]; exact balloc (Below.refl _ _) _
    have O2 := put (O1.out.below hb12)
    have hN2 : w2.heap[w1.heap.size]? = some (.cells #[.bool true, .slice A5 recs.length c5, .slice A6 kids.length c6] 69 (0, 0)) := by rw [hw2]; exact heap_alloc_new _ _
    have B2 := put (bt B1.out hb12)
    obtain ⟨x0, x1, x2⟩ := c3 hN2
    have y1 := cell_at k1 B2.out
    have y2 := cell_at k2 B2.out
    have y3 := cell_at k3 B2.out
    have HN2 := put hN2
    clear hw2 hb12 hN2 k0 k1 k2 k3
    go_wp2_with fail
    go_region_held3 (fun w' => w'.cell? ⟨w1.heap.size, 0, none⟩ = some (.bool true) ∧ w'.cell? ⟨w1.heap.size, 1, none⟩ = some (.slice A5 recs.length c5) ∧ w'.cell? ⟨w1.heap.size, 2, none⟩ = some (.slice A6 kids.length c6) ∧ w'.cell? ⟨K, 1, none⟩ = some (.string fr)) (first | go_keep | exact ⟨x0, x1, x2, y1⟩ | exact ⟨z0, z1, z2, z3⟩) (first | (go_at_call 47; refine (findCalls (fun b => w.heap.size ≤ b) true _ _ recs fr _ ((O2.out.below (by (repeat (first | with_reducible exact (Below.refl _ _) | with_reducible apply Below.drew | with_reducible refine balloc ?_ _)))).v.recs) HFR.out).mono ?_; rintro e w3 ⟨rfl, hb3⟩; have hb23 : Below w2.heap.size w2 w3 := bt (by (repeat (first | with_reducible exact (Below.refl _ _) | with_reducible apply Below.drew | with_reducible refine balloc ?_ _))) hb3; have z0 := cell_at x0 hb23; have z1 := cell_at x1 hb23; have z2 := cell_at x2 hb23; have z3 := cell_at y1 hb23; have B23 := put hb23; clear hb3 hb23))
    obtain ⟨m, hm⟩ : ∃ m, m = posS recs fr := ⟨_, rfl⟩
    have hml : m ≤ recs.length := by rw [hm]; exact (posS_spec fr HN.out.shp.rise).1
    have B3 := put (bt B2.out B23.out)
    have HE3 : Kp (fromE fr recs = recs.drop m) := put (by rw [hm]; exact HE.out)
    rw [← hm]
    clear hm
    have FR3 := put (HC.out.fr HPJ.out B3.out)
    have EN3 := put (HEN.out.fr FR3.out)
    have P3 := put (HC.out.below j w w3 HPJ.out B3.out)
    have O3 := put (O2.out.below B23.out)
    generalize decide (recs[m]? = some fr) = bq at *
    by_cases hme : m = recs.length
    · have HL0 : Kp ((fromE fr recs).length = 0) := put (by rw [HE3.out, hme, List.length_drop, Nat.sub_self])
      have m0 : (0 : Int) ≤ (m : Int) := by omega
      rcases O3.out.r.shape with ⟨h1, h2⟩ | ⟨g0, cap, h1, _, _, h2, _⟩
      · have h2 : recs = [] := h2
        injection h1 with e1 e2 e3
        subst e1 e3
        have hm0 : m = 0 := by rw [hme, h2]; rfl
        subst hm0
        clear h2 hme x0 x1 x2 y1 y2 y3
        go_wp2_with fail
        go_loopg [9, 32] 0 (fun kx s9 s32 wr => s32 = .int .i64 0 ∧ wr = w3)
        case atStart => exact ⟨rfl, rfl⟩
        case round =>
          obtain ⟨rfl, rfl⟩ := hrel
          go_wp2_with fail
          go_ret
          exact ⟨⟨true, rfl, ⟨by rw [if_pos rfl, HL0.out]; exact P3.out.1⟩⟩, FR3.out⟩
      · have h2 : recs.length ≤ cap := h2
        injection h1 with e1 e2 e3
        subst e1 e3
        have m1 : (m : Int) ≤ (recs.length : Int) := by omega
        by_cases hc : c5 = m
        · subst hc
          clear x0 x1 x2 y1 y2 y3
          go_wp2_with fail
          go_loopg [9, 32] 0 (fun kx s9 s32 wr => s32 = .int .i64 0 ∧ wr = w3)
          case atStart => exact ⟨rfl, rfl⟩
          case round =>
            obtain ⟨rfl, rfl⟩ := hrel
            go_wp2_with fail
            go_ret
            exact ⟨⟨true, rfl, ⟨by rw [if_pos rfl, HL0.out]; exact P3.out.1⟩⟩, FR3.out⟩
        · clear x0 x1 x2 y1 y2 y3
          go_wp2_with fail
          go_loopg [9, 32] 0 (fun kx s9 s32 wr => s32 = .int .i64 0 ∧ wr = w3)
          case atStart => exact ⟨rfl, rfl⟩
          case round =>
            obtain ⟨rfl, rfl⟩ := hrel
            go_wp2_with fail
            go_ret
            exact ⟨⟨true, rfl, ⟨by rw [if_pos rfl, HL0.out]; exact P3.out.1⟩⟩, FR3.out⟩
    · have hlt : m < recs.length := by omega
      obtain ⟨g0, cap, e0, hg0, hgl, hcap, hcm⟩ : ∃ g cap, Value.slice A5 recs.length c5 = .slice (some ⟨g, 0, none⟩) recs.length cap ∧ w.heap.size ≤ g ∧ g < w3.heap.size ∧ recs.length ≤ cap ∧ cap ≤ 9223372036854775807 := by
        rcases O3.out.r.shape with ⟨_, h1⟩ | h1
        · have h2 : recs = [] := h1
          rw [h2] at hlt; simp at hlt
        · exact h1
      injection e0 with e1 e2 e3
      subst e1 e3
      have m0 : (0 : Int) ≤ (m : Int) := by omega
      have m1 : (m : Int) ≤ (recs.length : Int) := by omega
      have m2 : ¬ c5 = m := by omega
      obtain ⟨L, hL⟩ : ∃ L, L = recs.length - m := ⟨_, rfl⟩
      have HRD : Kp (RdE Value.string (fun b => w.heap.size ≤ b) w3 (.slice (some ⟨g0, 0, none⟩) recs.length c5) recs) := put O3.out.v.recs
      have HLL := put hL
      have eg := HC.out.enter
      clear hL x0 x1 x2 y1 y2 y3
      go_wp2_with fail
      clear z0 z1 z2 z3
      go_loopg [9, 32] L (fun kx s9 s32 wr => ∃ (t : Nat), s32 = .int .i64 t ∧ t ≤ L ∧ L - t ≤ kx ∧ Kp (P (j + t) wr) ∧ Kp (Fr SF w3 wr))
      case atStart => exact ⟨0, rfl, Nat.zero_le _, Nat.le_refl _, put P3.out.1, put (Fr.refl _ _)⟩
      case round =>
        obtain ⟨t, rfl, ht, hkx, PT, FT⟩ := hrel
        have EN := put (EN3.out.fr FT.out)
        by_cases hlt2 : t < L
        · have hLm := HLL.out
          have hlz : (t : Int) < ((recs.length - m : Nat) : Int) := by omega
          have t0 : (0 : Int) ≤ (t : Int) := by omega
          obtain ⟨x, hx⟩ : ∃ x, recs[m + t]? = some x := ⟨_, List.getElem?_eq_getElem (by omega)⟩
          have hrd := (HRD.out.kps FT.out.k (fun b h1 h2 h3 => by have := (P3.out.2 b h2 h3).2; omega)).get hx
          obtain ⟨g', o', hgo, hgl', e0⟩ := hrd
          injection hgo with hgo
          injection hgo with hg1 hg2 _
          subst hg1 hg2
          have e1 : wr.cell? ⟨g0, m + t, none⟩ = some (.string x) := by rw [Nat.zero_add] at e0; exact e0
          obtain ⟨k0, k1, k2, k3⟩ := c4 EN.out.k
          have HXG := put (HG.out t x (by rw [HE3.out, List.getElem?_drop]; exact hx))
          clear e0 hx hLm
          by_cases hte : to = ⟨#[]⟩
          · have q1 : to.toList.isEmpty = true := by rw [hte, nilB]; rfl
            have CC := put (HC.out.call (j + t) x wr HXG.out (.inl hte) PT.out)
            go_wp2_with (go_at_fn g; refine CC.out.mono ?_; rintro e w5 ⟨b, rfl, HH, ff⟩; have F5 := put ff; clear ff)
            · have hp := HH.out
              rw [if_neg (by simp_all)] at hp
              have HP := put hp
              clear hp
              go_wp2_with fail
              go_ret
              exact ⟨⟨false, rfl, ⟨HP.out⟩⟩, (FR3.out.trans FT.out).trans F5.out⟩
            · have hp := HH.out
              rw [if_pos (by simp_all)] at hp
              have HP := put hp
              clear hp
              go_roundg (L - (t + 1))
              case measure => omega
              case rel => exact ⟨t + 1, by go_num, by omega, Nat.le_refl _, put (by rw [← Nat.add_assoc]; exact HP.out), put (FT.out.trans F5.out)⟩
          · have q1 : to.toList.isEmpty = false := by
              cases hq : to.toList with
              | nil => exact absurd (toListB_inj (by rw [hq, nilB])) hte
              | cons _ _ => rfl
            cases hxt : ltB x to with
            | true =>
              have q2 : Op.bytesLess x.toList to.toList = true := hxt
              have CC := put (HC.out.call (j + t) x wr HXG.out (.inr hxt) PT.out)
              go_wp2_with (go_at_fn g; refine CC.out.mono ?_; rintro e w5 ⟨b, rfl, HH, ff⟩; have F5 := put ff; clear ff)
              · have hp := HH.out
                rw [if_neg (by simp_all)] at hp
                have HP := put hp
                clear hp
                go_wp2_with fail
                go_ret
                exact ⟨⟨false, rfl, ⟨HP.out⟩⟩, (FR3.out.trans FT.out).trans F5.out⟩
              · have hp := HH.out
                rw [if_pos (by simp_all)] at hp
                have HP := put hp
                clear hp
                go_roundg (L - (t + 1))
                case measure => omega
                case rel => exact ⟨t + 1, by go_num, by omega, Nat.le_refl _, put (by rw [← Nat.add_assoc]; exact HP.out), put (FT.out.trans F5.out)⟩
            | false =>
              have q2 : Op.bytesLess x.toList to.toList = false := hxt
              have HF := put (HC.out.stop (j + t) x wr HXG.out hte hxt PT.out)
              go_wp2_with fail
              go_ret
              exact ⟨⟨false, rfl, ⟨HF.out⟩⟩, FR3.out.trans FT.out⟩
        · have hLm := HLL.out
          have hlz : ¬ (t : Int) < ((recs.length - m : Nat) : Int) := by omega
          obtain rfl : t = L := by omega
          clear hLm
          have hlen : (fromE fr recs).length = t := by rw [HE3.out, List.length_drop, HLL.out]
          have HLEN := put hlen
          clear hlen
          go_wp2_with fail
          go_ret
          exact ⟨⟨true, rfl, ⟨by rw [if_pos rfl, HLEN.out]; exact PT.out⟩⟩, FR3.out.trans FT.out⟩
  | succ h ih =>
    intro i B es ps j w hsub henv hP hG
    obtain ⟨n, ks, hp, ⟨hn, _⟩, hb, hi, rfl, rfl⟩ := hsub
    obtain ⟨lf, recs, kids⟩ := n
    obtain rfl : lf = false := hb.inner
    have HE : Kp (fromE fr (entsOf ks) = fromE fr (entsOf (ks.drop (kidAt recs fr)))) := put (fromE_ents hb (fun _ _ _ _ hs => hs.bound))
    have HEN := put henv
    have HPJ := put hP
    have HG := put hG
    have HN := put hn
    have HPG := put hp
    have HBD := put hb
    have IH := put ih
    have HFR : Kp (recs.length ≤ 100000) := put hn.fair.recs
    have HFK : Kp (kids.length ≤ 100000) := put hn.fair.kids
    have HKL : Kp (kids.length = recs.length + 1) := put hb.len
    obtain ⟨k0, k1, k2, k3⟩ := c4 henv.k
    have hkl : K < w.heap.size := (Array.getElem?_eq_some_iff.1 (show w.heap[K]? = _ from henv.k)).1
    clear hp hn hb hi henv hP hG ih
    go_enter Try.func35, Try.ntmps35
    go_wp2_with fail
    refine (loadN T a i A _ w HEN.out.ax HEN.out.t HEN.out.tl HPG.out HN.out).mono ?_
    rintro e w1 ⟨vr, vk, rfl, ho1, hb1⟩
    have O1 := put ho1
    have B1 := put hb1
    obtain ⟨⟨A5, c5, rfl⟩, ⟨A6, c6, rfl⟩⟩ := ho1.form
    clear ho1 hb1
    go_wp2_with fail
    obtain ⟨w2, hw2⟩ : ∃ w2, w2 = w1.alloc (.cells #[.bool false, .slice A5 recs.length c5, .slice A6 kids.length c6] 69) := ⟨_, rfl⟩
    rw [← hw2]
    have hb12 : Below w1.heap.size w1 w2 := by rw [hw2]; exact balloc (Below.refl _ _) _
    have O2 := put (O1.out.below hb12)
    have hN2 : w2.heap[w1.heap.size]? = some (.cells #[.bool false, .slice A5 recs.length c5, .slice A6 kids.length c6] 69 (0, 0)) := by rw [hw2]; exact heap_alloc_new _ _
    have B2 := put (bt B1.out hb12)
    obtain ⟨x0, x1, x2⟩ := c3 hN2
    have y1 := cell_at k1 B2.out
    have y2 := cell_at k2 B2.out
    have y3 := cell_at k3 B2.out
    have HN2 := put hN2
    clear hw2 hb12 hN2 k0 k1 k2 k3
    obtain ⟨m, hm⟩ : ∃ m, m = kidAt recs fr := ⟨_, rfl⟩
    have hml : m ≤ recs.length := by rw [hm]; exact (kidAt_sep fr HN.out.shp.rise).1
    have hps := (posS_spec fr HN.out.shp.rise).1
    have HE3 : Kp (fromE fr (entsOf ks) = fromE fr (entsOf (ks.drop m))) := put (by rw [hm]; exact HE.out)
    have CK : Kp (∀ W, Below w2.heap.size w2 W → Calls Try.prog 49 #[.agg #[.bool false, .slice A5 recs.length c5, .slice A6 kids.length c6], .string fr] W fun e w' => e = .returned (.int .i64 m) ∧ Below W.heap.size W w') := put fun W hb => by
      rw [hm]
      exact kidCalls (fun b => w.heap.size ≤ b) false _ _ recs fr W ((O2.out.below hb).v.recs) HFR.out hps
    clear hm hps
    obtain ⟨g0, cap, e0, hg0, hgl, hcap⟩ : ∃ g cap, Value.slice A6 kids.length c6 = .slice (some ⟨g, 0, none⟩) kids.length cap ∧ w.heap.size ≤ g ∧ g < w2.heap.size ∧ kids.length ≤ cap := by
      rcases O2.out.k.shape with ⟨_, h1⟩ | ⟨g, cap, h1, h2, h3, h4, _⟩
      · have h2 : kids.length = 0 := by have := congrArg List.length h1; rwa [kints_len] at this
        have := HKL.out; omega
      · rw [kints_len] at h1 h4
        exact ⟨g, cap, h1, h2, h3, h4⟩
    injection e0 with e1 e2 e3
    subst e1 e3
    have HMK : Kp (m < kids.length) := put (by have := HKL.out; omega)
    have m0 : (0 : Int) ≤ (m : Int) := by omega
    have m1 : (m : Int) ≤ (kids.length : Int) := by have := HMK.out; omega
    have m2 : ¬ c6 = m := by have := HMK.out; omega
    have HRK : Kp (RdE (.int .i64) (fun b => w.heap.size ≤ b) w2 (.slice (some ⟨g0, m, none⟩) (kids.length - m) (c6 - m)) ((kints kids).drop m)) := put (by
      have h1 := O2.out.v.kids
      rw [show (Value.slice (some ⟨g0, 0, none⟩) kids.length c6) = .slice (some ⟨g0, 0, none⟩) (kints kids).length c6 by rw [kints_len]] at h1
      have h2 := h1.sub (a := m) (b := (kints kids).length) (by rw [kints_len]; exact HMK.out) (Nat.le_refl _)
      rw [kints_len, Nat.zero_add] at h2
      rwa [List.take_of_length_le (by rw [List.length_drop, kints_len]; exact Nat.le_refl _)] at h2)
    have FR2 := put (HC.out.fr HPJ.out B2.out)
    have CN : Kp (∀ W, Below w2.heap.size w2 W → Calls Try.prog 48 #[.slice (some ⟨g0, m, none⟩) (kids.length - m) (c6 - m), .func (.func 50) #[.pointer (some ⟨K, 0, none⟩)] #[]] W fun e w' => Out e (F w') (P (j + (fromE fr (entsOf ks)).length) w') ∧ Fr SF W w') := put fun W hb => by
      have hBW := bt B2.out hb
      have FRW := HC.out.fr HPJ.out hBW
      have hPW := HC.out.below j w W HPJ.out hBW
      have hlen : ((kints kids).drop m).length = kids.length - m := by rw [List.length_drop, kints_len]
      have hks : ks.length = kids.length := HBD.out.lk
      have hrw := HRK.out.below hb
      have := containsI 50 #[.pointer (some ⟨K, 0, none⟩)] #[] (enters_of Try.func50 (by kernel_rfl) rfl) (fun b => w.heap.size ≤ b) (some ⟨g0, m, none⟩) (c6 - m) ((kints kids).drop m) (fun t W' => P (j + (fromE fr (entsOf ((ks.drop m).take t))).length) W' ∧ Fr SF W W') (fun W' => F W' ∧ Fr SF W W') W (by rw [hlen]; have := HFK.out; omega) ⟨by simpa [entsOf, fromE] using hPW.1, Fr.refl _ _⟩ (fun t W' h1 => by rw [hlen]; exact hrw.kps h1.2.k (fun b h2 h3 h4 => by have := (hPW.2 b h3 h4).2; omega)) (fun t x W' hx h1 => by
        obtain ⟨hP1, hF1⟩ := h1
        rw [List.getElem?_drop] at hx
        have hti : m + t < kids.length := by have := (List.getElem?_eq_some_iff.1 hx).1; rwa [kints_len] at this
        have hkk : kids[m + t]? = some kids[m + t] := List.getElem?_eq_getElem hti
        rw [kints_get hkk] at hx
        simp only [Option.some.injEq] at hx
        subst hx
        have hpk : ks[m + t]? = some ks[m + t] := List.getElem?_eq_getElem (by omega)
        have hsub := HBD.out.kid (m + t) _ _ hkk hpk
        have hk1 := HN.out.shp.kids _ (List.mem_of_getElem? hkk)
        have hdt : (ks.drop m)[t]? = some ks[m + t] := by rw [List.getElem?_drop]; exact hpk
        have hcat : entsOf ((ks.drop m).take (t + 1)) = entsOf ((ks.drop m).take t) ++ ks[m + t].1 := by
          rw [take_one hdt, ents_app, ents_cons]
          simp [entsOf]
        have hall : fromE fr (entsOf ks) = fromE fr (entsOf ((ks.drop m).take t)) ++ (fromE fr ks[m + t].1 ++ fromE fr (entsOf ((ks.drop m).drop (t + 1)))) := by
          rw [HE3.out]
          conv => lhs; rw [split_at hdt]
          rw [ents_app, ents_cons, fromE_app, fromE_app]
        have hnode := IH.out (kids[m + t] - 1) _ _ _ (j + (fromE fr (entsOf ((ks.drop m).take t))).length) W' hsub ((HEN.out.fr FRW).fr hF1) hP1 (fun t' y hy => by
          rw [Nat.add_assoc]
          refine HG.out _ y ?_
          rw [hall, List.getElem?_append_right (by omega), Nat.add_sub_cancel_left, List.getElem?_append_left (List.getElem?_eq_some_iff.1 hy).1]
          exact hy)
        have hid : (((kids[m + t] - 1 : Nat) : Int) + 1) = (kids[m + t] : Int) := by omega
        rw [hid] at hnode
        refine (stopsCalls K _ W' _ _ _ hnode).mono ?_
        rintro e w' ⟨⟨b, rfl, hA⟩, hR⟩
        refine ⟨b, rfl, ⟨?_⟩⟩
        have hA := hA.out
        cases b with
        | true => exact ⟨hA, hF1.trans hR⟩
        | false =>
          refine ⟨?_, hF1.trans hR⟩
          rw [hcat, fromE_app, List.length_append, ← Nat.add_assoc]
          exact hA)
      rw [hlen] at this
      refine this.mono ?_
      rintro e w' ⟨b, rfl, hA⟩
      have hA := hA.out
      cases b with
      | true => exact ⟨⟨true, rfl, ⟨hA.1⟩⟩, hA.2⟩
      | false =>
        refine ⟨⟨false, rfl, ⟨?_⟩⟩, hA.2⟩
        have h1 := hA.1
        rw [List.take_of_length_le (by rw [List.length_drop]; omega)] at h1
        rw [HE3.out]
        exact h1
    clear hgl hcap
    go_region_held3 (fun w' => w'.cell? ⟨w1.heap.size, 0, none⟩ = some (.bool false) ∧ w'.cell? ⟨w1.heap.size, 1, none⟩ = some (.slice A5 recs.length c5) ∧ w'.cell? ⟨w1.heap.size, 2, none⟩ = some (.slice (some ⟨g0, 0, none⟩) kids.length c6) ∧ w'.cell? ⟨K, 1, none⟩ = some (.string fr)) (first | go_keep | exact ⟨x0, x1, x2, y1⟩ | exact ⟨z0, z1, z2, z3⟩ | exact ⟨u0, u1, u2, u3⟩) (first | (go_at_call 49; refine (CK.out _ (by (repeat (first | with_reducible exact (Below.refl _ _) | with_reducible apply Below.drew | with_reducible refine balloc ?_ _)))).mono ?_; rintro e w3 ⟨rfl, hb3⟩; have hb23 : Below w2.heap.size w2 w3 := bt (by (repeat (first | with_reducible exact (Below.refl _ _) | with_reducible apply Below.drew | with_reducible refine balloc ?_ _))) hb3; have z0 := cell_at x0 hb23; have z1 := cell_at x1 hb23; have z2 := cell_at x2 hb23; have z3 := cell_at y1 hb23; have B23 := put hb23; clear hb3 hb23) | (go_at_call 48; refine (CN.out _ B23.out).mono ?_; rintro e w4 ⟨⟨b, rfl, hA⟩, hF⟩; have hW := HC.out.below j w w3 HPJ.out (bt B2.out B23.out); have FRW := HC.out.fr HPJ.out (bt B2.out B23.out); have hlt3 : w1.heap.size < w3.heap.size := Nat.lt_of_lt_of_le (Array.getElem?_eq_some_iff.1 HN2.out).1 B23.out.size; have hsz1 := B1.out.size; have hn4 := (hF.k.block w1.heap.size hlt3 (fun e => by have := (hW.2 _ hlt3 e).2; omega)).trans ((B23.out.block _ (Array.getElem?_eq_some_iff.1 HN2.out).1).trans HN2.out); obtain ⟨u0, u1, u2⟩ := c3 hn4; have en4 := (HEN.out.fr FRW).fr hF; obtain ⟨_, u3, _, _⟩ := c4 en4.k; have HAB := put hA; have HFF := put (FRW.trans hF); clear hA hF hW FRW hlt3 hsz1 hn4 en4))
    all_goals
      go_wp2_with fail
      go_ret
      refine ⟨⟨!b, rfl, ⟨?_⟩⟩, HFF.out⟩
      have hA := HAB.out.out
      cases b with
      | true => exact hA
      | false => exact hA
end Go.Proofs.Ytcpahknlabnnbaa.T

namespace Go.Proofs.Ytcpahknlabnnbaa.T
open Go Go.RowKit Go.Sort Go.Proofs.Ytcpahknlabnnbaa.Mem

set_option maxHeartbeats 1000000 in
set_option maxRecDepth 100000 in
theorem eachCalls {μ : Nat → Nat} {ok : Nat → Prop} {SF : World → Nat → Prop} {P : Nat → World → Prop} {F : World → Prop} {fr to : ByteArray} {g : Nat} {recv cb : Array Value} (T a h i : Nat) (hh n : Int) (A : Ar) (B : Bnd) (es : List ByteArray) (ps : List Nat) (w : World) (C : Cb g recv cb SF P F (fromE fr es) to) (t : TrR T a w ((i : Int) + 1) hh n) (hh0 : hh ≠ 0) (hs : Sub μ A h i B es ps) (ha : ArX ok w a A) (ho : ∀ b, ok b → b < w.heap.size ∧ ¬ SF w b) (hT : ¬ SF w T) (hP : P 0 w) :
    Calls Try.prog 18 #[.pointer (some ⟨T, 0, none⟩), .string fr, .string to, .func (.func g) recv cb] w fun e w' => e = .returned (.tuple #[]) ∧ (∃ b, Aft b (P (fromE fr es).length w') (F w')) ∧ Fr SF w w' := by
  obtain ⟨w1, hw1⟩ : ∃ w1, w1 = w.alloc (.cells #[.pointer (some ⟨T, 0, none⟩), .string fr, .string to, .func (.func g) recv cb] 75) := ⟨_, rfl⟩
  have hb1 : Below w.heap.size w w1 := by rw [hw1]; exact balloc (Below.refl _ _) _
  have F1 := put (C.fr hP hb1)
  have hW1 := C.below 0 w w1 hP hb1
  have hk1 : WkR w.heap.size T fr to (.func (.func g) recv cb) w1 := by unfold WkR; rw [hw1]; exact heap_alloc_new _ _
  have hs1 : w1.heap.size = w.heap.size + 1 := by rw [hw1, alloc_size]
  have env : Env ok SF T a w.heap.size fr to (.func (.func g) recv cb) A w1 := ⟨ha.below hb1, fun b hb => ⟨by have := (ho b hb).1; omega, fun e => (ho b hb).2 (hW1.2 b (by have := (ho b hb).1; omega) e).1⟩, cell_at t.cells.1 hb1, by have := t.lt; omega, fun e => hT (hW1.2 T (by have := t.lt; omega) e).1, hk1, fun e => by have := (hW1.2 w.heap.size (by omega) e).2; omega⟩
  have N := put (nodeCalls T a w.heap.size A C h i B es ps 0 w1 hs env hW1.1 (fun t x hx => by rw [Nat.zero_add]; exact hx))
  have O := put (overCalls T a _ _ _ w t hh0)
  have x1 := t.cells.2.1
  have HW := put hw1
  have htl := t.lt
  clear hw1 hb1 hW1 hk1 hs1 env t hs ha ho hT hP C
  go_enter Try.func18, Try.ntmps18
  go_wp2_with fail
  refine O.out.mono ?_
  rintro e w0 ⟨rfl, rfl⟩
  go_wp2_with fail
  rw [← HW.out]
  refine N.out.mono ?_
  rintro e w2 ⟨⟨b, rfl, hA⟩, hF⟩
  have HA := put hA
  have HF := put (F1.out.trans hF)
  clear hA hF
  go_wp2_with fail
  refine bodyPost_end (results_none rfl _ _ _) rfl ⟨rfl, ⟨b, ?_⟩, HF.out⟩
  have := HA.out
  rwa [Nat.zero_add] at this

set_option maxHeartbeats 1000000 in
set_option maxRecDepth 100000 in
/-- Has's call-back. -/
theorem hasFun (S V : Nat) (s x : ByteArray) (w : World) (hS : w.cell? ⟨S, 0, none⟩ = some (.string s)) (hV : w.heap[V]? = some (.cells #[.bool false] 4 (0, 0))) :
    Calls Try.prog 33 #[.string x, .pointer (some ⟨S, 0, none⟩), .pointer (some ⟨V, 0, none⟩)] w fun e w' => e = .returned (.bool false) ∧ w' = w.setCell ⟨V, 0, none⟩ (.bool (x.toList == s.toList)) := by
  have x0 : w.cell? ⟨V, 0, none⟩ = some (.bool false) := by simp [World.cell?, hV]
  have x1 : w.frozen? ⟨V, 0, none⟩ = false := by simp [World.frozen?, hV]
  clear hV
  go_enter Try.func33, Try.ntmps33
  go_wp2_with fail
  go_ret
  exact ⟨rfl, rfl⟩

/-- Is an entry there? -/
def hasB (s : ByteArray) (es : List ByteArray) : Bool := es.any fun x => x.toList == s.toList
theorem hasB_true {s : ByteArray} {es : List ByteArray} : hasB s es = true ↔ s ∈ es := by
  unfold hasB
  rw [List.any_eq_true]
  constructor
  · rintro ⟨x, h1, h2⟩
    have : x = s := toListB_inj (eq_of_beq h2)
    exact this ▸ h1
  · intro h; exact ⟨s, h, by simp⟩
theorem hasB_false {s : ByteArray} {es : List ByteArray} : hasB s es = false ↔ ¬ s ∈ es := by
  rw [← hasB_true]; cases hasB s es <;> simp
theorem mem_from {fr : ByteArray} {es : List ByteArray} {x : ByteArray} : x ∈ fromE fr es ↔ x ∈ es ∧ ltB x fr = false := by
  unfold fromE
  rw [List.mem_filter]
  constructor
  · rintro ⟨h1, h2⟩; exact ⟨h1, by simpa using h2⟩
  · rintro ⟨h1, h2⟩; exact ⟨h1, by simpa using h2⟩
theorem has_first {s x : ByteArray} {es : List ByteArray} (h : Rise es) (hx : (fromE s es)[0]? = some x) : (x.toList == s.toList) = hasB s es := by
  have hm := mem_from.1 (List.mem_of_getElem? hx)
  by_cases hs : s ∈ es
  · have hsm : s ∈ fromE s es := mem_from.2 ⟨hs, ltB_irrefl s⟩
    have hr : Rise (fromE s es) := h.sublist List.filter_sublist
    obtain ⟨j, hj⟩ := List.mem_iff_getElem?.1 hsm
    have hxs : x = s := by
      rcases Nat.eq_zero_or_pos j with rfl | hj0
      · rw [hx] at hj; injection hj
      · obtain ⟨h1, h2⟩ := List.getElem?_eq_some_iff.1 hx
        obtain ⟨h3, h4⟩ := List.getElem?_eq_some_iff.1 hj
        have := List.pairwise_iff_getElem.1 hr 0 j h1 h3 hj0
        rw [h2, h4, hm.2] at this
        exact absurd this (by simp)
    rw [hxs, hasB_true.2 hs]; simp
  · rw [hasB_false.2 hs, beq_eq_false_iff_ne]
    intro e
    exact hs (toListB_inj e ▸ hm.1)

set_option maxHeartbeats 1000000 in
set_option maxRecDepth 100000 in
theorem hasCalls {μ : Nat → Nat} {ok : Nat → Prop} (T a h i : Nat) (hh n : Int) (A : Ar) (B : Bnd) (es : List ByteArray) (ps : List Nat) (s : ByteArray) (w : World) (t : TrR T a w ((i : Int) + 1) hh n) (hh0 : hh ≠ 0) (hs : Sub μ A h i B es ps) (ha : ArX ok w a A) :
    Calls Try.prog 14 #[.pointer (some ⟨T, 0, none⟩), .string s] w fun e w' => e = .returned (.bool (hasB s es)) ∧ Below w.heap.size w w' := by
  obtain ⟨w2, hw2⟩ : ∃ w2, w2 = (w.alloc (.cells #[.string s] 9)).alloc (.cells #[.bool false] 4) := ⟨_, rfl⟩
  have s2 : w2.heap.size = w.heap.size + 1 + 1 := by rw [hw2, alloc_size, alloc_size]
  have hb2 : Below w.heap.size w w2 := by rw [hw2]; exact balloc (balloc (Below.refl _ _) _) _
  have hS : w2.heap[w.heap.size]? = some (.cells #[.string s] 9 (0, 0)) := by rw [hw2, hag, if_neg (by rw [alloc_size]; omega), hag, if_pos rfl]
  have hV : w2.heap[w.heap.size + 1]? = some (.cells #[.bool false] 4 (0, 0)) := by rw [hw2, hag, if_pos (by rw [alloc_size])]
  have hcb : Cb 33 #[] #[.pointer (some ⟨w.heap.size, 0, none⟩), .pointer (some ⟨w.heap.size + 1, 0, none⟩)] (fun _ b => b = w.heap.size + 1) (fun j W => j = 0 ∧ W.heap[w.heap.size]? = some (.cells #[.string s] 9 (0, 0)) ∧ W.heap[w.heap.size + 1]? = some (.cells #[.bool false] 4 (0, 0))) (fun W => ∃ x, (fromE s es)[0]? = some x ∧ W.heap[w.heap.size + 1]? = some (.cells #[.bool (x.toList == s.toList)] 4 (0, 0))) (fromE s es) ⟨#[]⟩ := by
    refine ⟨fun j x W hx _ hP => ?_, fun j x W _ h1 _ _ => absurd rfl h1, fun j W W' hP hb => ?_, enters_of Try.func33 (by kernel_rfl) rfl⟩
    · obtain ⟨rfl, h1, h2⟩ := hP
      refine (hasFun w.heap.size (w.heap.size + 1) s x W (by simp [World.cell?, h1]) h2).mono ?_
      rintro e w' ⟨rfl, rfl⟩
      exact ⟨false, rfl, ⟨⟨x, hx, (setCell_heap h2 0 _).trans rfl⟩⟩, ⟨(Kps.refl (fun b => b = w.heap.size + 1) W).set (.inl rfl) 0 _, fun _ _ h => h⟩⟩
    · obtain ⟨h0, h1, h2⟩ := hP
      have hl := (Array.getElem?_eq_some_iff.1 h2).1
      exact ⟨⟨h0, (hb.block _ (Array.getElem?_eq_some_iff.1 h1).1).trans h1, (hb.block _ hl).trans h2⟩, fun b _ e => ⟨e, by rw [e]; exact hl⟩⟩
  have E := put (eachCalls (ok := fun b => ok b ∧ b < w.heap.size) T a h i hh n A B es ps w2 hcb (t.below hb2) hh0 hs (ha.bnd.below hb2) (fun b hb => ⟨by omega, fun e => by have := hb.2; omega⟩) (fun e => by have := t.lt; omega) ⟨rfl, hS, hV⟩)
  have hr := hs.rise
  have HR := put hr
  have HW := put hw2
  have B2 := put hb2
  have S2 := put s2
  clear hw2 s2 hb2 hS hV hcb t hs ha hr
  go_enter Try.func14, Try.ntmps14
  go_wp2_with fail
  rw [← HW.out]
  refine E.out.mono ?_
  rintro e w3 ⟨rfl, ⟨b, hA⟩, hF⟩
  have hv : w3.heap[w.heap.size + 1]? = some (.cells #[.bool (hasB s es)] 4 (0, 0)) := by
    have h1 := hA.out
    cases b with
    | true =>
      obtain ⟨h2, _, h3⟩ := h1
      have : ¬ s ∈ es := fun e => by
        have h4 := mem_from.2 ⟨e, ltB_irrefl s⟩
        rw [List.length_eq_zero_iff.1 h2] at h4
        simp at h4
      rw [hasB_false.2 this]; exact h3
    | false =>
      obtain ⟨x, h2, h3⟩ := h1
      rw [← has_first HR.out h2]; exact h3
  have x0 : w3.cell? ⟨w.heap.size + 1, 0, none⟩ = some (.bool (hasB s es)) := by simp [World.cell?, hv]
  have BF : Kp (Below w.heap.size w w3) := put (B2.out.trans (hF.k.below (fun k hk => by omega) B2.out.size))
  clear hA hF hv
  obtain ⟨bb, hbb⟩ : ∃ bb, bb = hasB s es := ⟨_, rfl⟩
  rw [← hbb] at x0
  have HBB := put hbb
  clear hbb
  go_wp2_with fail
  go_ret
  exact ⟨by rw [← HBB.out]; rfl, BF.out⟩
end Go.Proofs.Ytcpahknlabnnbaa.T

namespace Go.Proofs.Ytcpahknlabnnbaa.T
open Go Go.RowKit Go.Sort Go.Proofs.Ytcpahknlabnnbaa.Mem

theorem keep_cell {S : Nat → Prop} {w w' : World} {b j : Nat} {v : Value} (k : Kps S w w') (hb : b < w.heap.size) (hs : ¬ S b) (h : w.cell? ⟨b, j, none⟩ = some v) : w'.cell? ⟨b, j, none⟩ = some v := (World.cell?_of_block (a := ⟨b, j, none⟩) (k.block b hb hs)).trans h
def top : Bnd := fun _ => True
/-- Two rising lists with the same entries are one. -/
theorem rise_ext : ∀ {a b : List ByteArray}, Rise a → Rise b → (∀ x, x ∈ a ↔ x ∈ b) → a = b
  | [], [], _, _, _ => rfl
  | [], y :: b, _, _, h => by have := (h y).2 List.mem_cons_self; simp at this
  | x :: a, [], _, _, h => by have := (h x).1 List.mem_cons_self; simp at this
  | x :: a, y :: b, ha, hb, h => by
    have hno : ∀ {z : ByteArray} {l : List ByteArray}, Rise (z :: l) → z ∉ l := fun hz hm => by
      have := rise_head hz _ hm
      rw [ltB_irrefl] at this; exact absurd this (by simp)
    have hxy : x = y := by
      rcases List.mem_cons.1 ((h x).1 List.mem_cons_self) with h1 | h1
      · exact h1
      rcases List.mem_cons.1 ((h y).2 List.mem_cons_self) with h2 | h2
      · exact h2.symm
      have e1 := rise_head hb x h1
      have e2 := rise_head ha y h2
      rw [ltB_asymm e1] at e2; exact absurd e2 (by simp)
    subst hxy
    rw [rise_ext (rise_tail ha) (rise_tail hb) (fun z => ?_)]
    have hz := h z
    rw [List.mem_cons, List.mem_cons] at hz
    constructor
    · intro h1
      rcases hz.1 (.inr h1) with rfl | h2
      · exact absurd h1 (hno ha)
      · exact h2
    · intro h1
      rcases hz.2 (.inr h1) with rfl | h2
      · exact absurd h1 (hno hb)
      · exact h2
/-- s put in. -/
def putE (es : List ByteArray) (s : ByteArray) : List ByteArray := es.take (posS es s) ++ s :: es.drop (posS es s)
theorem putE_len (es : List ByteArray) (s : ByteArray) : (putE es s).length = es.length + 1 := by
  unfold putE
  have := congrArg List.length (List.take_append_drop (posS es s) es)
  rw [List.length_append] at this
  rw [List.length_append, List.length_cons]
  omega
theorem putE_mem {es : List ByteArray} {s x : ByteArray} : x ∈ putE es s ↔ x = s ∨ x ∈ es := by
  unfold putE
  conv => rhs; rw [← List.take_append_drop (posS es s) es]
  simp only [List.mem_append, List.mem_cons]
  constructor
  · rintro (h | h | h)
    · exact .inr (.inl h)
    · exact .inl h
    · exact .inr (.inr h)
  · rintro (h | h | h)
    · exact .inr (.inl h)
    · exact .inl h
    · exact .inr (.inr h)
theorem putE_rise {es : List ByteArray} {s : ByteArray} (h : Rise es) (hs : s ∉ es) : Rise (putE es s) := by
  obtain ⟨h1, h2, h3⟩ := posS_spec s h
  unfold putE
  rw [rise_app]
  have hlt : ∀ y ∈ es.drop (posS es s), ltB s y = true := fun y hy => by
    cases hy2 : ltB s y with
    | true => rfl
    | false => exact absurd (ltB_total hy2 (h3 y hy) ▸ List.mem_of_mem_drop hy) hs
  refine ⟨h.sublist (List.take_sublist _ _), List.pairwise_cons.2 ⟨hlt, h.sublist (List.drop_sublist _ _)⟩, fun x hx y hy => ?_⟩
  rcases List.mem_cons.1 hy with rfl | hy
  · exact h2 x hx
  · exact ltB_trans (h2 x hx) (hlt y hy)
/-- A new root has one entry. -/
def upM (μ : Nat → Nat) (h h' : Nat) : Nat → Nat := fun l => if l = h' ∧ l ≠ h then 1 else μ l
theorem upM_self (μ : Nat → Nat) (h : Nat) : upM μ h h = μ := by
  funext l
  unfold upM
  rw [if_neg (by omega)]
theorem upM_ge {μ : Nat → Nat} (hμ : ∀ l, μ l ≤ 1) (h h' l : Nat) : μ l ≤ upM μ h h' l := by
  unfold upM
  have := hμ l
  split <;> omega
/-- What an insertion at the root leaves. -/
structure Ins1 (μ : Nat → Nat) (A A' : Ar) (h : Nat) (s : ByteArray) (es : List ByteArray) (ps : List Nat) (h' i' : Nat) (ps' : List Nat) : Prop where
  ok : A'.Ok
  q : A'.quota = A.quota
  fr : ∀ p, inUse A p → p ∉ ps → A'.pages[p]? = A.pages[p]?
  new : ∀ p ∈ ps', p ∈ ps ∨ ¬ inUse A p
  used : A'.used - A.used = (ps'.length : Int) - (ps.length : Int)
  len : ps'.length ≤ ps.length + h + 2
  back : ∀ p, inUse A' p → inUse A p ∨ p ∈ ps'
  hh : h' = h ∨ h' = h + 1
  fit : h = 0 → 7 + wt es + s.size ≤ 1024 → h' = 0
  sub : Sub (upM μ h h') A' h' i' top (putE es s) ps'
theorem InsOut.ins1 {μ : Nat → Nat} {A A' : Ar} {h i : Nat} {s : ByteArray} {es : List ByteArray} {ps : List Nat} {sep : ByteArray} {es' : List ByteArray} {ps' : List Nat} (o : InsOut μ A A' h i top s es ps sep 0 es' ps') (hr : Rise es) (hs : s ∉ es) : Ins1 μ A A' h s es ps h i ps' := by
  have hsub : Sub μ A' h i top es' ps' := by
    rcases o.out with h1 | h1
    · exact h1.2
    · have := h1.1.1; omega
  have he : es' = putE es s := rise_ext hsub.rise (putE_rise hr hs) (fun x => by rw [o.mem, putE_mem])
  exact ⟨o.ok, o.q, o.fr, o.new, o.used, by have := o.len; omega, o.back, .inl rfl, fun e _ => e, by rw [upM_self]; exact he ▸ hsub⟩
/-- The new root. -/
def root2 (sep : ByteArray) (i r : Nat) : Nd := ⟨false, [sep], [i + 1, r]⟩
theorem root2_ok {sep : ByteArray} {i r : Nat} (hs : 1 ≤ sep.size ∧ sep.size ≤ 400) (hi : i + 1 ≤ 4096) (hr : 1 ≤ r ∧ r ≤ 4096) : (root2 sep i r).Ok := by
  refine ⟨⟨fun e => by simp [root2] at e, fun _ => rfl, List.pairwise_singleton _ _, fun x hx => ?_, fun k hk => ?_⟩, ?_⟩
  · simp only [root2, List.mem_singleton] at hx; rw [hx]; exact hs
  · simp only [root2, List.mem_cons, List.not_mem_nil, or_false] at hk
    rcases hk with rfl | rfl
    · exact ⟨by omega, hi⟩
    · exact hr
  · unfold Nd.size root2; simp only [wt, List.length_cons, List.length_nil]; omega
theorem InsOut.root {μ : Nat → Nat} {A A' : Ar} {h i : Nat} {s : ByteArray} {es : List ByteArray} {ps : List Nat} {sep : ByteArray} {r : Nat} {es' : List ByteArray} {ps' : List Nat} (o : InsOut μ A A' h i top s es ps sep r es' ps') (hr0 : r ≠ 0) (hr : Rise es) (hs : s ∉ es) {k : Nat} (hk : NewPg A' k) (hnp : A'.pages.length ≤ 4096) : Ins1 μ A (A'.alloc.put k (enc (root2 sep i r))) h s es ps (h + 1) k (k :: ps') := by
  obtain ⟨h1, h2, h3, h4, es1, ps1, es2, ps2, rfl, rfl, h5, h6, h7⟩ : ((1 ≤ r ∧ r ≤ 4096) ∧ (1 ≤ sep.size ∧ sep.size ≤ 400) ∧ top sep ∧ (∃ y, top y ∧ ltB y sep = true) ∧ ∃ es1 ps1 es2 ps2, es' = es1 ++ es2 ∧ ps' = ps1 ++ ps2 ∧ ps'.Nodup ∧ Sub μ A' h i (fun x => top x ∧ ltB x sep = true) es1 ps1 ∧ Sub μ A' h (r - 1) (fun x => top x ∧ ltB x sep = false) es2 ps2) := by
    rcases o.out with h1 | h1
    · exact absurd h1.1 hr0
    · exact h1
  have hu : inUse A'.alloc k := ⟨_, hk.at'⟩
  have huse : ∀ p ∈ ps1 ++ ps2, inUse A' p := fun p hp => by
    rcases List.mem_append.1 hp with hp | hp
    · exact h6.use p hp
    · exact h7.use p hp
  have hne : ∀ p, inUse A' p → p ≠ k := fun p hp e => hk.fresh (e ▸ hp)
  have hget : ∀ p, inUse A' p → (A'.alloc.put k (enc (root2 sep i r))).pages[p]? = A'.pages[p]? := fun p hp => by
    rw [put_other (hne p hp), hk.other p (hne p hp) hp]
  have hup : ∀ l, l ≤ h → upM μ h (h + 1) l ≤ μ l := fun l hl => by
    unfold upM
    rw [if_neg (by omega)]
    exact Nat.le_refl _
  have hsub : Sub (upM μ h (h + 1)) (A'.alloc.put k (enc (root2 sep i r))) (h + 1) k top (es1 ++ es2) (k :: (ps1 ++ ps2)) := by
    have hi : i + 1 ≤ 4096 := by
      obtain ⟨b, hb⟩ := h6.use i h6.head
      have := (List.getElem?_eq_some_iff.1 hb).1
      omega
    refine ⟨root2 sep i r, [(es1, ps1), (es2, ps2)], put_same hu _, ⟨root2_ok h2 hi h1, by unfold upM root2; rw [if_pos (by omega)]; exact Nat.le_refl _⟩, ⟨rfl, fun x hx => ?_, List.pairwise_singleton _ _, rfl, rfl, fun j q p hq hp => ?_, by simpa using h5⟩, fun e => hne k (huse k (by simpa [pagsOf] using e)) rfl, by simp [entsOf], by simp [pagsOf]⟩
    · simp only [root2, List.mem_singleton] at hx
      rw [hx]; exact ⟨trivial, h4⟩
    · match j, hq, hp with
      | 0, hq, hp =>
        simp only [root2, List.getElem?_cons_zero, Option.some.injEq] at hq hp
        subst hq hp
        refine ((h6.frame (fun p hp => hget p (h6.use p hp))).lower hup).mono (fun x hx => ⟨trivial, ⟨by simp, fun y hy => ?_⟩⟩)
        simp only [root2, List.drop_zero, List.mem_singleton] at hy
        rw [hy]; exact hx.2
      | 1, hq, hp =>
        simp only [root2, List.getElem?_cons_succ, List.getElem?_cons_zero, Option.some.injEq] at hq hp
        subst hq hp
        refine ((h7.frame (fun p hp => hget p (h7.use p hp))).lower hup).mono (fun x hx => ⟨trivial, ⟨fun y hy => ?_, by simp [root2]⟩⟩)
        simp only [root2, List.take_succ_cons, List.take_nil, List.mem_singleton] at hy
        rw [hy]; exact hx.2
      | j + 2, hq, _ => simp [root2] at hq
  have he : es1 ++ es2 = putE es s := rise_ext hsub.rise (putE_rise hr hs) (fun x => by rw [o.mem, putE_mem])
  refine ⟨put_ok hk.ok hu _, hk.q.trans o.q, fun p hp hps => ?_, fun p hp => ?_, ?_, ?_, fun p hp => ?_, .inr rfl, fun e hle => absurd (o.fit e hle) hr0, he ▸ hsub⟩
  · obtain ⟨b, hb⟩ := hp
    have hp2 : A'.pages[p]? = A.pages[p]? := o.fr p ⟨b, hb⟩ hps
    rw [hget p ⟨b, hp2.trans hb⟩, hp2]
  · rcases List.mem_cons.1 hp with rfl | hp
    · by_cases hpp : p ∈ ps
      · exact .inl hpp
      · refine .inr fun ⟨b, hb⟩ => hk.fresh ⟨b, (o.fr p ⟨b, hb⟩ hpp).trans hb⟩
    · exact o.new p hp
  · rw [put_used, hk.used, List.length_cons]; have := o.used; omega
  · rw [List.length_cons]; have := o.len; omega
  · by_cases hpk : p = k
    · exact .inr (by rw [hpk]; exact List.mem_cons_self)
    · rcases o.back p (hk.back p hpk ((put_use hu _).1 hp)) with h8 | h8
      · exact .inl h8
      · exact .inr (List.mem_cons_of_mem _ h8)
end Go.Proofs.Ytcpahknlabnnbaa.T

namespace Go.Proofs.Ytcpahknlabnnbaa.T
open Go Go.RowKit Go.Sort Go.Proofs.Ytcpahknlabnnbaa.Mem

theorem get_del {α : Type} {l : List α} {a : Nat} (ha : a ≤ l.length) (i : Nat) : (l.take a ++ l.drop (a + 1))[i]? = if i < a then l[i]? else l[i + 1]? := by
  have hl : (l.take a).length = a := by rw [List.length_take]; omega
  by_cases h1 : i < a
  · rw [if_pos h1, List.getElem?_append_left (by omega), List.getElem?_take_of_lt h1]
  · rw [if_neg h1, List.getElem?_append_right (by omega), hl, List.getElem?_drop, show a + 1 + (i - a) = i + 1 by omega]
theorem get_del2 {α : Type} {l : List α} {j : Nat} {x : α} (ha : j < l.length) (i : Nat) : (l.take j ++ x :: l.drop (j + 2))[i]? = if i < j then l[i]? else if i = j then some x else l[i + 1]? := by
  have hl : (l.take j).length = j := by rw [List.length_take]; omega
  by_cases h1 : i < j
  · rw [if_pos h1, List.getElem?_append_left (by omega), List.getElem?_take_of_lt h1]
  · rw [if_neg h1, List.getElem?_append_right (by omega), hl]
    by_cases h2 : i = j
    · rw [if_pos h2, h2, Nat.sub_self]; rfl
    · rw [if_neg h2, show i - j = (i - j - 1) + 1 by omega, List.getElem?_cons_succ, List.getElem?_drop, show j + 2 + (i - j - 1) = i + 1 by omega]
/-- Seps, one less of them. -/
theorem sep_del_lo {l : List ByteArray} {x : ByteArray} {i j : Nat} (hij : i ≤ j) (hj : j < l.length) (h : Sep l i x) : Sep (l.take j ++ l.drop (j + 1)) i x := by
  have hl : (l.take j).length = j := by rw [List.length_take]; omega
  constructor
  · intro y hy
    rw [List.take_append_of_le_length (by omega), List.take_take, Nat.min_eq_left hij] at hy
    exact h.1 y hy
  · intro y hy
    rw [List.drop_append_of_le_length (by omega)] at hy
    rcases List.mem_append.1 hy with hy | hy
    · rw [List.drop_take] at hy
      exact h.2 y (List.mem_of_mem_take hy)
    · refine h.2 y ?_
      rw [show j + 1 = i + (j + 1 - i) by omega, ← List.drop_drop] at hy
      exact List.mem_of_mem_drop hy
theorem sep_del_hi {l : List ByteArray} {x : ByteArray} {i j : Nat} (hij : j ≤ i) (hj : j < l.length) (h : Sep l (i + 1) x) : Sep (l.take j ++ l.drop (j + 1)) i x := by
  have hl : (l.take j).length = j := by rw [List.length_take]; omega
  have hi1 : i = (l.take j).length + (i - j) := by rw [hl]; omega
  constructor
  · intro y hy
    rw [hi1, List.take_length_add_append] at hy
    rcases List.mem_append.1 hy with hy | hy
    · exact h.1 y (List.take_subset_take_left _ (by omega) hy)
    · have : y ∈ l.take (i + 1) := by
        rw [show i + 1 = (j + 1) + (i - j) by omega, List.take_add]
        exact List.mem_append_right _ hy
      exact h.1 y this
  · intro y hy
    rw [hi1, List.drop_length_add_append, List.drop_drop, show j + 1 + (i - j) = i + 1 by omega] at hy
    exact h.2 y hy
theorem rise_del {l : List ByteArray} {j : Nat} (h : Rise l) : Rise (l.take j ++ l.drop (j + 1)) := by
  refine h.sublist ?_
  conv => rhs; rw [← List.take_append_drop j l]
  refine List.Sublist.append (List.Sublist.refl _) ?_
  rw [← List.drop_drop]
  exact List.drop_sublist _ _
/-- s taken out. -/
theorem mem_del {l : List ByteArray} {s : ByteArray} {j : Nat} (h : Rise l) (hs : l[j]? = some s) (x : ByteArray) : x ∈ l.take j ++ l.drop (j + 1) ↔ x ∈ l ∧ x ≠ s := by
  have h1 := h
  rw [split_at hs, rise_app] at h1
  obtain ⟨_, h2, h3⟩ := h1
  have hno1 : s ∉ l.take j := fun hm => by
    have := h3 s hm s List.mem_cons_self
    rw [ltB_irrefl] at this; exact absurd this (by simp)
  have hno2 : s ∉ l.drop (j + 1) := fun hm => by
    have := rise_head h2 s hm
    rw [ltB_irrefl] at this; exact absurd this (by simp)
  conv => rhs; rw [split_at hs]
  simp only [List.mem_append, List.mem_cons]
  constructor
  · rintro (h | h)
    · exact ⟨.inl h, fun e => hno1 (e ▸ h)⟩
    · exact ⟨.inr (.inr h), fun e => hno2 (e ▸ h)⟩
  · rintro ⟨h | h | h, hn⟩
    · exact .inl h
    · exact absurd h hn
    · exact .inr h
section
variable {S S' : Nat → Bnd → List ByteArray → List Nat → Prop} {B : Bnd} {n : Nd} {ks : List Lo}
/-- Two kids joined: a sep and a kid less. -/
theorem Body.join (h : Body S B n ks) {j k : Nat} {p0 p1 p : Lo} (hk : n.kids[j]? = some k) (hp0 : ks[j]? = some p0) (hp1 : ks[j + 1]? = some p1)
    (hs : S' (k - 1) (fun x => B x ∧ Sep (n.recs.take j ++ n.recs.drop (j + 1)) j x) p.1 p.2)
    (ho : ∀ (i : Nat) (q : Lo) (m : Nat) (B : Bnd), i ≠ j → i ≠ j + 1 → ks[i]? = some q → S m B q.1 q.2 → S' m B q.1 q.2) (hmono : ∀ (i : Nat) (B B' : Bnd) (es : List ByteArray) (ps : List Nat), (∀ x, B x → B' x) → S' i B es ps → S' i B' es ps)
    (hn : p.2.Nodup) (hq : ∀ q ∈ p.2, q ∈ p0.2 ∨ q ∈ p1.2) :
    Body S' B ⟨false, n.recs.take j ++ n.recs.drop (j + 1), n.kids.take (j + 1) ++ n.kids.drop (j + 2)⟩ (ks.take j ++ p :: ks.drop (j + 2)) := by
  have hj1 := (List.getElem?_eq_some_iff.1 hp1).1
  have hlk := h.lk
  have hlen := h.len
  have hjr : j < n.recs.length := by omega
  refine ⟨rfl, fun r' hr => ?_, rise_del h.rise, ?_, ?_, fun i m q hm hq' => ?_, ?_⟩
  · rcases List.mem_append.1 hr with hr | hr
    · exact h.recs r' (List.mem_of_mem_take hr)
    · exact h.recs r' (List.mem_of_mem_drop hr)
  · simp only [List.length_append, List.length_take, List.length_drop]; omega
  · simp only [List.length_append, List.length_take, List.length_cons, List.length_drop]; omega
  · rw [get_del (by omega)] at hm
    rw [get_del2 (by omega)] at hq'
    by_cases c1 : i < j
    · rw [if_pos (by omega)] at hm
      rw [if_pos c1] at hq'
      exact hmono _ _ _ _ _ (fun x hx => ⟨hx.1, sep_del_lo (Nat.le_of_lt c1) hjr hx.2⟩) (ho i q _ _ (by omega) (by omega) hq' (h.kid i m q hm hq'))
    · rw [if_neg c1] at hq'
      by_cases c2 : i = j
      · subst c2
        rw [if_pos (by omega), hk] at hm
        rw [if_pos rfl] at hq'
        simp only [Option.some.injEq] at hm hq'
        subst hm hq'
        exact hs
      · rw [if_neg c2] at hq'
        rw [if_neg (by omega)] at hm
        exact hmono _ _ _ _ _ (fun x hx => ⟨hx.1, sep_del_hi (by omega) hjr hx.2⟩) (ho (i + 1) q _ _ (by omega) (by omega) hq' (h.kid (i + 1) m q hm hq'))
  · have hnd' : (pagsOf ks).Nodup := h.nd
    have e2 : pagsOf ks = pagsOf (ks.take j) ++ ((p0.2 ++ p1.2) ++ pagsOf (ks.drop (j + 2))) := by
      conv => lhs; rw [split_at hp0, pags_app, pags_cons, List.drop_eq_getElem_cons hj1, pags_cons]
      rw [show ks[j + 1] = p1 from (List.getElem?_eq_some_iff.1 hp1).2, List.append_assoc]
    show (pagsOf _).Nodup
    rw [pags_app, pags_cons]
    rw [e2] at hnd'
    exact nd_put hnd' hn (fun q hq' => .inl (List.mem_append.2 (hq q hq')))
end
/-- Two nodes joined. -/
theorem Cont.join {μ : Nat → Nat} {A : Ar} {h : Nat} {B1 B2 B : Bnd} {a b : Nd} {es1 es2 : List ByteArray} {bl1 bl2 : List Nat} {sep : ByteArray} (c1 : Cont μ A h B1 a es1 bl1) (c2 : Cont μ A h B2 b es2 bl2) (h1 : ∀ x, B1 x → B x ∧ ltB x sep = true) (h2 : ∀ x, B2 x → B x ∧ ltB x sep = false) (hs : B sep ∧ ∃ y, B y ∧ ltB y sep = true) (hd : (bl1 ++ bl2).Nodup) :
    Cont μ A h B (a.join sep b) (es1 ++ es2) (bl1 ++ bl2) := by
  cases h with
  | zero =>
    obtain ⟨a1, a2, a3, a4, rfl, rfl⟩ := c1
    obtain ⟨b1, b2, b3, b4, rfl, rfl⟩ := c2
    have e : a.join sep b = ⟨true, a.recs ++ b.recs, []⟩ := by unfold Nd.join; rw [a1]; rfl
    rw [e]
    refine ⟨rfl, rfl, rise_app.2 ⟨a3, b3, fun x hx y hy => lt_leB (h1 x (a4 x hx)).2 (h2 y (b4 y hy)).2⟩, fun r hr => ?_, rfl, rfl⟩
    rcases List.mem_append.1 hr with hr | hr
    · exact (h1 r (a4 r hr)).1
    · exact (h2 r (b4 r hr)).1
  | succ h =>
    obtain ⟨k1, g1, rfl, rfl⟩ := c1
    obtain ⟨k2, g2, rfl, rfl⟩ := c2
    have e : a.join sep b = ⟨false, a.recs ++ sep :: b.recs, a.kids ++ b.kids⟩ := by unfold Nd.join; rw [g1.inner]; rfl
    rw [e]
    have hsr : ∀ r ∈ b.recs, ltB sep r = true := fun r hr => by
      obtain ⟨_, y, hy1, hy2⟩ := g2.recs r hr
      exact leB_lt (h2 y hy1).2 hy2
    have har : ∀ r ∈ a.recs, ltB r sep = true := fun r hr => (h1 r (g1.recs r hr).1).2
    have l1 := g1.len
    have l2 := g2.len
    have m1 := g1.lk
    have m2 := g2.lk
    refine ⟨k1 ++ k2, ⟨rfl, fun r hr => ?_, rise_app.2 ⟨g1.rise, List.pairwise_cons.2 ⟨hsr, g2.rise⟩, fun x hx y hy => ?_⟩, ?_, ?_, fun i m q hm hq => ?_, ?_⟩, (ents_app _ _).symm, (pags_app _ _).symm⟩
    · rcases List.mem_append.1 hr with hr | hr
      · obtain ⟨r1, y, r2, r3⟩ := g1.recs r hr
        exact ⟨(h1 r r1).1, y, (h1 y r2).1, r3⟩
      · rcases List.mem_cons.1 hr with rfl | hr
        · exact hs
        · obtain ⟨r1, y, r2, r3⟩ := g2.recs r hr
          exact ⟨(h2 r r1).1, y, (h2 y r2).1, r3⟩
    · rcases List.mem_cons.1 hy with rfl | hy
      · exact har x hx
      · exact ltB_trans (har x hx) (hsr y hy)
    · simp only [List.length_append, List.length_cons]; omega
    · simp only [List.length_append]; omega
    · by_cases c : i < a.kids.length
      · rw [List.getElem?_append_left c] at hm
        rw [List.getElem?_append_left (by omega)] at hq
        refine (g1.kid i m q hm hq).mono fun x hx => ⟨(h1 x hx.1).1, fun y hy => ?_, fun y hy => ?_⟩
        · rw [List.take_append_of_le_length (by omega)] at hy
          exact hx.2.1 y hy
        · rw [List.drop_append_of_le_length (by omega)] at hy
          rcases List.mem_append.1 hy with hy | hy
          · exact hx.2.2 y hy
          · rcases List.mem_cons.1 hy with rfl | hy
            · exact (h1 x hx.1).2
            · exact ltB_trans (h1 x hx.1).2 (hsr y hy)
      · rw [List.getElem?_append_right (by omega)] at hm
        rw [List.getElem?_append_right (by omega)] at hq
        rw [show i - k1.length = i - a.kids.length by omega] at hq
        have e3 : a.recs ++ sep :: b.recs = (a.recs ++ [sep]) ++ b.recs := by simp
        have e4 : i = (a.recs ++ [sep]).length + (i - a.kids.length) := by rw [List.length_append, List.length_singleton]; omega
        refine (g2.kid (i - a.kids.length) m q hm hq).mono fun x hx => ⟨(h2 x hx.1).1, fun y hy => ?_, fun y hy => ?_⟩
        · rw [e3, e4, List.take_length_add_append] at hy
          rcases List.mem_append.1 hy with hy | hy
          · rcases List.mem_append.1 hy with hy | hy
            · exact ltB_asymm (lt_leB (har y hy) (h2 x hx.1).2)
            · rw [List.mem_singleton.1 hy]; exact (h2 x hx.1).2
          · exact hx.2.1 y hy
        · rw [e3, e4, List.drop_length_add_append] at hy
          exact hx.2.2 y hy
    · show (pagsOf _).Nodup
      rw [pags_app]; exact hd
theorem Nd.Shp.join {a b : Nd} {sep : ByteArray} (ha : a.Shp) (hb : b.Shp) (hl : a.leaf = b.leaf) (hs : 1 ≤ sep.size ∧ sep.size ≤ 400) (hr : Rise (a.join sep b).recs) : (a.join sep b).Shp := by
  refine ⟨fun e => ?_, fun e => ?_, hr, fun r h => ?_, fun k h => ?_⟩
  · have e' : a.leaf = true := e
    unfold Nd.join; simp only [e', if_true]
  · have e' : a.leaf = false := e
    have h1 := ha.inner e'
    have h2 := hb.inner (hl ▸ e')
    unfold Nd.join
    rw [if_neg (by rw [e']; simp), if_neg (by rw [e']; simp)]
    simp only [List.length_append, List.length_cons]
    omega
  · unfold Nd.join at h
    cases e : a.leaf with
    | true =>
      simp only [e, if_true] at h
      rcases List.mem_append.1 h with h | h
      · exact ha.recs r h
      · exact hb.recs r h
    | false =>
      simp only [e, Bool.false_eq_true, if_false] at h
      rcases List.mem_append.1 h with h | h
      · exact ha.recs r h
      · rcases List.mem_cons.1 h with rfl | h
        · exact hs
        · exact hb.recs r h
  · unfold Nd.join at h
    cases e : a.leaf with
    | true => simp only [e, if_true] at h; simp at h
    | false =>
      simp only [e, Bool.false_eq_true, if_false] at h
      rcases List.mem_append.1 h with h | h
      · exact ha.kids k h
      · exact hb.kids k h
/-! ### a page given back -/
theorem give_same {A : Ar} {i : Nat} : ¬ inUse (A.give i) i := by
  rintro ⟨b, hb⟩
  unfold Ar.give at hb
  have h1 : (A.pages.set i none)[i]? = some (some b) := hb
  have hl := (List.getElem?_eq_some_iff.1 h1).1
  rw [List.length_set] at hl
  rw [List.getElem?_set_self hl] at h1
  simp at h1
theorem give_other {A : Ar} {i p : Nat} (hp : p ≠ i) : (A.give i).pages[p]? = A.pages[p]? := List.getElem?_set_ne (Ne.symm hp)
theorem give_use {A : Ar} {i p : Nat} (h : inUse (A.give i) p) : inUse A p ∧ p ≠ i := by
  have hp : p ≠ i := fun e => by subst e; exact give_same h
  exact ⟨by unfold inUse at *; rwa [give_other hp] at h, hp⟩
theorem give_ok {A : Ar} {i : Nat} (hA : A.Ok) (h : inUse A i) : (A.give i).Ok := by
  obtain ⟨b, hb⟩ := h
  have hi := (List.getElem?_eq_some_iff.1 hb).1
  refine ⟨hA.q, fun n hn => ?_, ?_⟩
  · rcases List.mem_append.1 (show n ∈ A.free ++ [(i : Int) + 1] from hn) with hn | hn
    · obtain ⟨h1, h2, h3⟩ := hA.free n hn
      refine ⟨h1, by show n ≤ ((A.pages.set i none).length : Int); rw [List.length_set]; exact h2, ?_⟩
      rw [give_other]
      · exact h3
      · intro e
        rw [e, hb] at h3
        simp at h3
    · rw [List.mem_singleton.1 hn]
      refine ⟨by omega, by show ((i : Int) + 1) ≤ ((A.pages.set i none).length : Int); rw [List.length_set]; omega, ?_⟩
      rw [show ((i : Int) + 1 - 1).toNat = i by omega]
      exact List.getElem?_set_self hi
  · show (A.free ++ [(i : Int) + 1]).Nodup
    refine List.nodup_append.2 ⟨hA.nd, by simp, fun x hx y hy e => ?_⟩
    rw [List.mem_singleton.1 hy] at e
    have := (hA.free x hx).2.2
    rw [e, show ((i : Int) + 1 - 1).toNat = i by omega, hb] at this
    simp at this
theorem give_used {A : Ar} (i : Nat) : (A.give i).used = A.used - 1 := by
  unfold Ar.used Ar.give
  simp only [List.length_set, List.length_append, List.length_singleton]
  omega
end Go.Proofs.Ytcpahknlabnnbaa.T

namespace Go.Proofs.Ytcpahknlabnnbaa.T
open Go Go.RowKit Go.Sort Go.Proofs.Ytcpahknlabnnbaa.Mem

abbrev m0 : Nat → Nat := fun _ => 0
/-- What a deletion leaves: es', ps' below page i. -/
structure DelOut (A A' : Ar) (h i : Nat) (B : Bnd) (ps : List Nat) (es' : List ByteArray) (ps' : List Nat) : Prop where
  ok : A'.Ok
  q : A'.quota = A.quota
  fr : ∀ p, inUse A p → p ∉ ps → A'.pages[p]? = A.pages[p]?
  new : ∀ p ∈ ps', p ∈ ps
  used : A'.used - A.used = (ps'.length : Int) - (ps.length : Int)
  back : ∀ p, inUse A' p → inUse A p ∧ (p ∈ ps → p ∈ ps')
  sub : Sub m0 A' h i B es' ps'
theorem DelOut.trans {A A1 A2 : Ar} {h h' i i' : Nat} {B B' : Bnd} {ps ps1 ps2 : List Nat} {es1 es2 : List ByteArray} (d1 : DelOut A A1 h i B ps es1 ps1) (d2 : DelOut A1 A2 h' i' B' ps1 es2 ps2) : DelOut A A2 h' i' B' ps es2 ps2 := by
  refine ⟨d2.ok, d2.q.trans d1.q, fun p hp hps => ?_, fun p hp => d1.new p (d2.new p hp), by have := d1.used; have := d2.used; omega, fun p hp => ?_, d2.sub⟩
  · have e := d1.fr p hp hps
    obtain ⟨b, hb⟩ := hp
    rw [d2.fr p ⟨b, e.trans hb⟩ (fun h1 => hps (d1.new p h1)), e]
  · obtain ⟨h1, h2⟩ := d2.back p hp
    obtain ⟨h3, h4⟩ := d1.back p h1
    exact ⟨h3, fun h5 => h2 (h4 h5)⟩
theorem DelOut.refl {A : Ar} {h i : Nat} {B : Bnd} {es : List ByteArray} {ps : List Nat} (hA : A.Ok) (hs : Sub m0 A h i B es ps) : DelOut A A h i B ps es ps :=
  ⟨hA, rfl, fun _ _ _ => rfl, fun _ h => h, by omega, fun _ h => ⟨h, fun h => h⟩, hs⟩
theorem wt_del {l : List ByteArray} {j : Nat} {s : ByteArray} (h : l[j]? = some s) : wt (l.take j ++ l.drop (j + 1)) ≤ wt l := by
  conv => rhs; rw [split_at h]
  rw [wt_app, wt_app, wt]
  omega
theorem del_leaf {A : Ar} {i j : Nat} {B : Bnd} {s : ByteArray} {n : Nd} (hA : A.Ok) (hp : A.pages[i]? = some (some (enc n))) (hn : n.Ok) (hl : n.leaf = true) (hb : ∀ r ∈ n.recs, B r) (hs : n.recs[j]? = some s) :
    (⟨n.leaf, n.recs.take j ++ n.recs.drop (j + 1), n.kids⟩ : Nd).Ok ∧ DelOut A (A.put i (enc ⟨n.leaf, n.recs.take j ++ n.recs.drop (j + 1), n.kids⟩)) 0 i B [i] (n.recs.take j ++ n.recs.drop (j + 1)) [i] ∧ ∀ x, x ∈ n.recs.take j ++ n.recs.drop (j + 1) ↔ x ∈ n.recs ∧ x ≠ s := by
  have hm := mem_del hn.shp.rise hs
  have hiu : inUse A i := ⟨_, hp⟩
  have hok : (⟨n.leaf, n.recs.take j ++ n.recs.drop (j + 1), n.kids⟩ : Nd).Ok := by
    refine ⟨⟨fun _ => hn.shp.leaf hl, fun e => ?_, rise_del hn.shp.rise, fun r hr => hn.shp.recs r ((hm r).1 hr).1, hn.shp.kids⟩, ?_⟩
    · have e' : n.leaf = false := e
      rw [hl] at e'; exact absurd e' (by simp)
    · have h1 := hn.2
      have h2 := wt_del hs
      unfold Nd.size at h1 ⊢
      simp only
      omega
  refine ⟨hok, ⟨put_ok hA hiu _, rfl, fun p _ hps => put_other (fun e => hps (by rw [e]; exact List.mem_singleton.2 rfl)) _, fun _ h => h, by rw [put_used]; omega, fun p hp => ⟨(put_use hiu _).1 hp, fun h => h⟩, ⟨_, put_same hiu _, ⟨hok, Nat.zero_le _⟩, hl, fun r hr => hb r ((hm r).1 hr).1, rfl, rfl⟩⟩, hm⟩
section
variable {A A1 : Ar} {h i : Nat} {B : Bnd} {s sep : ByteArray} {n : Nd} {ks : List Lo} {j k : Nat} {p : Lo} {es' : List ByteArray} {ps' : List Nat}
theorem body_use {μ : Nat → Nat} (hb : Body (Sub μ A h) B n ks) : ∀ q, q ∈ pagsOf ks → inUse A q := fun q hq => by
  obtain ⟨m, q', hm, hq'⟩ := mem_pags.1 hq
  obtain ⟨_, _, hs⟩ := hb.at hm
  exact hs.use q hq'
/-- Something was done below a kid. -/
theorem del_kid (hA : A.pages[i]? = some (some (enc n))) (hn : n.Ok) (hb : Body (Sub m0 A h) B n ks) (hi : i ∉ pagsOf ks) (hk : n.kids[j]? = some k) (hp : ks[j]? = some p) (hr : DelOut A A1 h (k - 1) (fun x => B x ∧ Sep n.recs j x) p.2 es' ps') :
    DelOut A A1 (h + 1) i B (i :: pagsOf ks) (entsOf (ks.set j (es', ps'))) (i :: pagsOf (ks.set j (es', ps'))) ∧ A1.pages[i]? = some (some (enc n)) ∧ Body (Sub m0 A1 h) B n (ks.set j (es', ps')) ∧ i ∉ pagsOf (ks.set j (es', ps')) := by
  have hiu : inUse A i := ⟨_, hA⟩
  have hip : i ∉ p.2 := fun e => hi (mem_pags.2 ⟨j, p, hp, e⟩)
  have hips : i ∉ ps' := fun e => hip (hr.new i e)
  have hbody : Body (Sub m0 A1 h) B n (ks.set j (es', ps')) := hb.set (p' := (es', ps')) hk hp hr.sub (other_kids hb hp hr.fr) hr.sub.nodup (fun q hq => .inl (hr.new q hq))
  have hi2 : i ∉ pagsOf (ks.set j (es', ps')) := by
    rw [set_at hp, pags_app, pags_cons]
    rw [pags_at hp] at hi
    simp only [List.mem_append, not_or] at hi ⊢
    exact ⟨hi.1, hips, hi.2.2⟩
  have hpg : A1.pages[i]? = some (some (enc n)) := (hr.fr i hiu hip).trans hA
  refine ⟨⟨hr.ok, hr.q, fun q hq hqs => hr.fr q hq (fun e => hqs (List.mem_cons_of_mem _ (mem_pags.2 ⟨j, p, hp, e⟩))), fun q hq => ?_, ?_, fun q hq => ?_, ⟨n, _, hpg, ⟨hn, Nat.zero_le _⟩, hbody, hi2, rfl, rfl⟩⟩, hpg, hbody, hi2⟩
  · rcases List.mem_cons.1 hq with rfl | hq
    · exact List.mem_cons_self
    · rw [set_at hp, pags_app, pags_cons] at hq
      rw [pags_at hp]
      simp only [List.mem_append, List.mem_cons] at hq ⊢
      rcases hq with h1 | h1 | h1
      · exact .inr (.inl h1)
      · exact .inr (.inr (.inl (hr.new q h1)))
      · exact .inr (.inr (.inr h1))
  · have := hr.used
    rw [pags_at hp, set_at hp, pags_app, pags_cons]
    simp only [List.length_cons, List.length_append]
    omega
  · obtain ⟨h1, h2⟩ := hr.back q hq
    refine ⟨h1, fun h3 => ?_⟩
    rcases List.mem_cons.1 h3 with rfl | h3
    · exact List.mem_cons_self
    · refine List.mem_cons_of_mem _ ?_
      rw [pags_at hp] at h3
      rw [set_at hp, pags_app, pags_cons]
      simp only [List.mem_append] at h3 ⊢
      rcases h3 with h4 | h4 | h4
      · exact .inl h4
      · exact .inr (.inl (h2 h4))
      · exact .inr (.inr h4)
theorem del_kid_mem {μ : Nat → Nat} (hb : Body (Sub μ A h) B n ks) (hp : ks[j]? = some p) (hs : Sep n.recs j s) (hm : ∀ x, x ∈ es' ↔ x ∈ p.1 ∧ x ≠ s) (x : ByteArray) : x ∈ entsOf (ks.set j (es', ps')) ↔ x ∈ entsOf ks ∧ x ≠ s := by
  have hj := (List.getElem?_eq_some_iff.1 hp).1
  have hl := hb.len
  have hlk := hb.lk
  have hoth : ∀ (m : Nat) (q : Lo), m ≠ j → ks[m]? = some q → s ∉ q.1 := fun m q hmj hq hsq => by
    obtain ⟨_, _, hsub⟩ := hb.at hq
    have h1 := (hsub.bound s hsq).2
    have hm' := (List.getElem?_eq_some_iff.1 hq).1
    exact hmj (sep_unique (by omega) (by omega) h1 hs)
  constructor
  · intro h
    obtain ⟨m, q, hq, hx⟩ := mem_ents.1 h
    by_cases hmj : m = j
    · subst hmj
      rw [List.getElem?_set_self hj] at hq
      simp only [Option.some.injEq] at hq
      subst hq
      obtain ⟨h1, h2⟩ := (hm x).1 hx
      exact ⟨mem_ents.2 ⟨m, p, hp, h1⟩, h2⟩
    · rw [List.getElem?_set_ne (Ne.symm hmj)] at hq
      exact ⟨mem_ents.2 ⟨m, q, hq, hx⟩, fun e => hoth m q hmj hq (e ▸ hx)⟩
  · rintro ⟨h, hxs⟩
    obtain ⟨m, q, hq, hx⟩ := mem_ents.1 h
    by_cases hmj : m = j
    · subst hmj
      rw [hp] at hq
      simp only [Option.some.injEq] at hq
      subst hq
      exact mem_ents.2 ⟨m, _, List.getElem?_set_self hj, (hm x).2 ⟨hx, hxs⟩⟩
    · exact mem_ents.2 ⟨m, q, by rw [List.getElem?_set_ne (Ne.symm hmj)]; exact hq, hx⟩
/-- A kid. -/
theorem kid_cont {μ : Nat → Nat} (hb : Body (Sub μ A h) B n ks) (hk : n.kids[j]? = some k) : ∃ p a bl, ks[j]? = some p ∧ A.pages[k - 1]? = some (some (enc a)) ∧ a.Ok ∧ Cont μ A h (fun x => B x ∧ Sep n.recs j x) a p.1 bl ∧ k - 1 ∉ bl ∧ p.2 = (k - 1) :: bl := by
  have hj := (List.getElem?_eq_some_iff.1 hk).1
  have hlk := hb.lk
  have hp : ks[j]? = some ks[j] := List.getElem?_eq_getElem (by omega)
  obtain ⟨a, bl, h1, h2, h3, h4, h5⟩ := (hb.kid j k _ hk hp).cont
  exact ⟨_, a, bl, hp, h1, h2.1, h3, h4, h5⟩
theorem Cont.leaf_eq {μ : Nat → Nat} {B2 : Bnd} {a b : Nd} {e1 e2 : List ByteArray} {b1 b2 : List Nat} (h1 : Cont μ A h B a e1 b1) (h2 : Cont μ A h B2 b e2 b2) : a.leaf = b.leaf := by
  cases h with
  | zero =>
    obtain ⟨h1, _⟩ := h1
    obtain ⟨h2, _⟩ := h2
    rw [h1, h2]
  | succ h =>
    obtain ⟨_, h1, _⟩ := h1
    obtain ⟨_, h2, _⟩ := h2
    rw [h1.inner, h2.inner]
theorem Cont.rise {μ : Nat → Nat} {e1 : List ByteArray} {b1 : List Nat} (h1 : Cont μ A h B n e1 b1) : Rise n.recs := by
  cases h with
  | zero => exact h1.2.2.1
  | succ h =>
    obtain ⟨_, h1, _⟩ := h1
    exact h1.rise
end
section
variable {A : Ar} {h i : Nat} {B : Bnd} {sep : ByteArray} {n a b : Nd} {ks : List Lo} {j k0 k1 : Nat} {p0 p1 : Lo} {bl0 bl1 : List Nat}
theorem join_cont (hn : n.Ok) (hb : Body (Sub m0 A h) B n ks) (hsep : n.recs[j]? = some sep) (hp0 : ks[j]? = some p0) (hp1 : ks[j + 1]? = some p1)
    (hao : a.Ok) (hac : Cont m0 A h (fun x => B x ∧ Sep n.recs j x) a p0.1 bl0) (ha2 : p0.2 = (k0 - 1) :: bl0)
    (hbo : b.Ok) (hbc : Cont m0 A h (fun x => B x ∧ Sep n.recs (j + 1) x) b p1.1 bl1) (hb2 : p1.2 = (k1 - 1) :: bl1) :
    (a.join sep b).Shp ∧ Cont m0 A h (fun x => B x ∧ Sep (n.recs.take j ++ n.recs.drop (j + 1)) j x) (a.join sep b) (p0.1 ++ p1.1) (bl0 ++ bl1) := by
  have hj1 := (List.getElem?_eq_some_iff.1 hp1).1
  have hlk := hb.lk
  have hlen := hb.len
  have hjr : j < n.recs.length := by omega
  have hnd : (pagsOf ks).Nodup := hb.nd
  have epg : pagsOf ks = pagsOf (ks.take j) ++ ((p0.2 ++ p1.2) ++ pagsOf (ks.drop (j + 2))) := by
    rw [pags_at hp0, List.drop_eq_getElem_cons hj1, pags_cons, show ks[j + 1] = p1 from (List.getElem?_eq_some_iff.1 hp1).2, List.append_assoc]
  have hnd1 : (p0.2 ++ p1.2).Nodup := by
    rw [epg] at hnd
    exact (List.nodup_append.1 (List.nodup_append.1 hnd).2.1).1
  have hd : (bl0 ++ bl1).Nodup := by
    rw [ha2, hb2, List.nodup_append] at hnd1
    exact List.nodup_append.2 ⟨(List.nodup_cons.1 hnd1.1).2, (List.nodup_cons.1 hnd1.2.1).2, fun x hx y hy => hnd1.2.2 x (List.mem_cons_of_mem _ hx) y (List.mem_cons_of_mem _ hy)⟩
  have hsm := List.mem_of_getElem? hsep
  have hsB := hb.recs sep hsm
  have hsplit := hb.rise
  rw [split_at hsep, rise_app] at hsplit
  have hdel := Cont.join (B := fun x => B x ∧ Sep (n.recs.take j ++ n.recs.drop (j + 1)) j x) (sep := sep) hac hbc
    (fun x hx => ⟨⟨hx.1, sep_del_lo (Nat.le_refl _) hjr hx.2⟩, hx.2.2 sep (List.mem_of_getElem? (i := 0) (by rw [List.getElem?_drop, Nat.add_zero]; exact hsep))⟩)
    (fun x hx => ⟨⟨hx.1, sep_del_hi (Nat.le_refl _) hjr hx.2⟩, hx.2.1 sep (List.mem_of_getElem? (i := j) (by rw [List.getElem?_take_of_lt (by omega)]; exact hsep))⟩)
    (by
      have hS : Sep (n.recs.take j ++ n.recs.drop (j + 1)) j sep := by
        have hl : (n.recs.take j).length = j := by rw [List.length_take]; omega
        constructor
        · intro y hy
          rw [List.take_append_of_le_length (by omega), List.take_take, Nat.min_self] at hy
          exact ltB_asymm (hsplit.2.2 y hy sep List.mem_cons_self)
        · intro y hy
          rw [List.drop_append_of_le_length (by omega), List.drop_eq_nil_of_le (by omega), List.nil_append] at hy
          exact rise_head hsplit.2.1 y hy
      refine ⟨⟨hsB.1, hS⟩, ?_⟩
      rcases Nat.eq_zero_or_pos j with rfl | hj
      · obtain ⟨y, hy1, hy2⟩ := hsB.2
        refine ⟨y, ⟨hy1, fun z hz => by simp at hz, fun z hz => ?_⟩, hy2⟩
        exact ltB_trans hy2 (hS.2 z hz)
      · have hjm : n.recs[j - 1]? = some n.recs[j - 1] := List.getElem?_eq_getElem (by omega)
        have hyt : n.recs[j - 1] ∈ n.recs.take j := List.mem_of_getElem? (i := j - 1) (by rw [List.getElem?_take_of_lt (by omega)]; exact hjm)
        have hys : ltB n.recs[j - 1] sep = true := hsplit.2.2 _ hyt sep List.mem_cons_self
        refine ⟨n.recs[j - 1], ⟨(hb.recs _ (List.getElem_mem _)).1, fun z hz => ?_, fun z hz => ltB_trans hys (hS.2 z hz)⟩, hys⟩
        have hl : (n.recs.take j).length = j := by rw [List.length_take]; omega
        rw [List.take_append_of_le_length (by omega), List.take_take, Nat.min_self] at hz
        obtain ⟨t, ht⟩ := List.mem_iff_getElem?.1 hz
        have ht1 := (List.getElem?_eq_some_iff.1 ht).1
        rw [List.getElem?_take_of_lt (by omega)] at ht
        obtain ⟨ht2, rfl⟩ := List.getElem?_eq_some_iff.1 ht
        rcases Nat.lt_or_ge t (j - 1) with h1 | h1
        · exact ltB_asymm (List.pairwise_iff_getElem.1 hb.rise t (j - 1) ht2 (by omega) h1)
        · have : t = j - 1 := by omega
          subst this
          exact ltB_irrefl _) hd
  exact ⟨hao.shp.join hbo.shp (hac.leaf_eq hbc) (hn.shp.recs sep hsm) hdel.rise, hdel⟩
theorem join_out (hA : A.Ok) (hpg : A.pages[i]? = some (some (enc n))) (hn : n.Ok) (hb : Body (Sub m0 A h) B n ks) (hi : i ∉ pagsOf ks) (hsep : n.recs[j]? = some sep) (hk0 : n.kids[j]? = some k0) (hp0 : ks[j]? = some p0) (hp1 : ks[j + 1]? = some p1)
    (ha : A.pages[k0 - 1]? = some (some (enc a))) (hao : a.Ok) (hac : Cont m0 A h (fun x => B x ∧ Sep n.recs j x) a p0.1 bl0) (ha1 : k0 - 1 ∉ bl0) (ha2 : p0.2 = (k0 - 1) :: bl0)
    (hbg : A.pages[k1 - 1]? = some (some (enc b))) (hbo : b.Ok) (hbc : Cont m0 A h (fun x => B x ∧ Sep n.recs (j + 1) x) b p1.1 bl1) (hb1 : k1 - 1 ∉ bl1) (hb2 : p1.2 = (k1 - 1) :: bl1)
    (hz : (a.join sep b).size ≤ 1024) :
    (a.join sep b).Ok ∧ inUse A (k0 - 1) ∧ inUse (A.put (k0 - 1) (enc (a.join sep b))) (k1 - 1) ∧ inUse ((A.put (k0 - 1) (enc (a.join sep b))).give (k1 - 1)) i ∧ (⟨n.leaf, n.recs.take j ++ n.recs.drop (j + 1), n.kids.take (j + 1) ++ n.kids.drop (j + 2)⟩ : Nd).Ok ∧ (A.put (k0 - 1) (enc (a.join sep b))).Ok ∧ ((A.put (k0 - 1) (enc (a.join sep b))).give (k1 - 1)).Ok ∧
    ∃ ps', DelOut A (((A.put (k0 - 1) (enc (a.join sep b))).give (k1 - 1)).put i (enc ⟨n.leaf, n.recs.take j ++ n.recs.drop (j + 1), n.kids.take (j + 1) ++ n.kids.drop (j + 2)⟩)) (h + 1) i B (i :: pagsOf ks) (entsOf ks) ps' := by
  have hj1 := (List.getElem?_eq_some_iff.1 hp1).1
  have hlk := hb.lk
  have hlen := hb.len
  have hjr : j < n.recs.length := by omega
  have hnd : (pagsOf ks).Nodup := hb.nd
  have epg : pagsOf ks = pagsOf (ks.take j) ++ ((p0.2 ++ p1.2) ++ pagsOf (ks.drop (j + 2))) := by
    rw [pags_at hp0, List.drop_eq_getElem_cons hj1, pags_cons, show ks[j + 1] = p1 from (List.getElem?_eq_some_iff.1 hp1).2, List.append_assoc]
  have een : entsOf ks = entsOf (ks.take j) ++ ((p0.1 ++ p1.1) ++ entsOf (ks.drop (j + 2))) := by
    rw [ents_at hp0, List.drop_eq_getElem_cons hj1, ents_cons, show ks[j + 1] = p1 from (List.getElem?_eq_some_iff.1 hp1).2, List.append_assoc]
  have hnd1 : (p0.2 ++ p1.2).Nodup := by
    rw [epg] at hnd
    exact (List.nodup_append.1 (List.nodup_append.1 hnd).2.1).1
  have hm0 : k0 - 1 ∈ pagsOf ks := mem_pags.2 ⟨j, p0, hp0, by rw [ha2]; exact List.mem_cons_self⟩
  have hm1 : k1 - 1 ∈ pagsOf ks := mem_pags.2 ⟨j + 1, p1, hp1, by rw [hb2]; exact List.mem_cons_self⟩
  have hne : k0 - 1 ≠ k1 - 1 := fun e => (List.nodup_append.1 hnd1).2.2 (k0 - 1) (by rw [ha2]; exact List.mem_cons_self) (k1 - 1) (by rw [hb2]; exact List.mem_cons_self) e
  have hi0 : i ≠ k0 - 1 := fun e => hi (e ▸ hm0)
  have hi1 : i ≠ k1 - 1 := fun e => hi (e ▸ hm1)
  have hu0 : inUse A (k0 - 1) := ⟨_, ha⟩
  have hu1 : inUse (A.put (k0 - 1) (enc (a.join sep b))) (k1 - 1) := (put_use hu0 _).2 ⟨_, hbg⟩
  have hui : inUse ((A.put (k0 - 1) (enc (a.join sep b))).give (k1 - 1)) i := ⟨_, by rw [give_other hi1, put_other hi0]; exact hpg⟩
  have hok1 := put_ok hA hu0 (enc (a.join sep b))
  have hok2 := give_ok hok1 hu1
  have hbl0 : ∀ q ∈ bl0, q ∈ pagsOf ks ∧ q ≠ k0 - 1 ∧ q ≠ k1 - 1 := fun q hq => ⟨mem_pags.2 ⟨j, p0, hp0, by rw [ha2]; exact List.mem_cons_of_mem _ hq⟩, fun e => ha1 (e ▸ hq), fun e => (List.nodup_append.1 hnd1).2.2 q (by rw [ha2]; exact List.mem_cons_of_mem _ hq) (k1 - 1) (by rw [hb2]; exact List.mem_cons_self) e⟩
  have hbl1 : ∀ q ∈ bl1, q ∈ pagsOf ks ∧ q ≠ k0 - 1 ∧ q ≠ k1 - 1 := fun q hq => ⟨mem_pags.2 ⟨j + 1, p1, hp1, by rw [hb2]; exact List.mem_cons_of_mem _ hq⟩, fun e => (List.nodup_append.1 hnd1).2.2 (k0 - 1) (by rw [ha2]; exact List.mem_cons_self) q (by rw [hb2]; exact List.mem_cons_of_mem _ hq) e.symm, fun e => hb1 (e ▸ hq)⟩
  have hd : (bl0 ++ bl1).Nodup := by
    rw [ha2, hb2, List.nodup_append] at hnd1
    exact List.nodup_append.2 ⟨(List.nodup_cons.1 hnd1.1).2, (List.nodup_cons.1 hnd1.2.1).2, fun x hx y hy => hnd1.2.2 x (List.mem_cons_of_mem _ hx) y (List.mem_cons_of_mem _ hy)⟩
  have hno : k0 - 1 ∉ bl0 ++ bl1 := fun e => by
    rcases List.mem_append.1 e with e | e
    · exact (hbl0 _ e).2.1 rfl
    · exact (hbl1 _ e).2.1 rfl
  have hsm := List.mem_of_getElem? hsep
  obtain ⟨hjshp, hdel⟩ := join_cont hn hb hsep hp0 hp1 hao hac ha2 hbo hbc hb2
  have hjok : (a.join sep b).Ok := ⟨hjshp, hz⟩
  have hget : ∀ q, q ≠ k0 - 1 → q ≠ k1 - 1 → q ≠ i → (((A.put (k0 - 1) (enc (a.join sep b))).give (k1 - 1)).put i (enc ⟨n.leaf, n.recs.take j ++ n.recs.drop (j + 1), n.kids.take (j + 1) ++ n.kids.drop (j + 2)⟩)).pages[q]? = A.pages[q]? := fun q h1 h2 h3 => by
    rw [put_other h3, give_other h2, put_other h1]
  have hsubk := (hdel.frame (A' := ((A.put (k0 - 1) (enc (a.join sep b))).give (k1 - 1)).put i (enc ⟨n.leaf, n.recs.take j ++ n.recs.drop (j + 1), n.kids.take (j + 1) ++ n.kids.drop (j + 2)⟩)) (fun q hq => by
    rcases List.mem_append.1 hq with hq | hq
    · exact hget q (hbl0 q hq).2.1 (hbl0 q hq).2.2 (fun e => hi (e ▸ (hbl0 q hq).1))
    · exact hget q (hbl1 q hq).2.1 (hbl1 q hq).2.2 (fun e => hi (e ▸ (hbl1 q hq).1)))).sub (i := k0 - 1) (by rw [put_other (Ne.symm hi0), give_other hne, put_same hu0]) ⟨hjok, Nat.zero_le _⟩ hno
  have hbody := hb.join (S' := Sub m0 (((A.put (k0 - 1) (enc (a.join sep b))).give (k1 - 1)).put i (enc ⟨n.leaf, n.recs.take j ++ n.recs.drop (j + 1), n.kids.take (j + 1) ++ n.kids.drop (j + 2)⟩)) h) (p := (p0.1 ++ p1.1, (k0 - 1) :: (bl0 ++ bl1))) hk0 hp0 hp1 hsubk (fun m q x B' h1 h2 hq hs => by
    refine hs.frame fun y hy => ?_
    have hyi : y ∈ pagsOf ks := mem_pags.2 ⟨m, q, hq, hy⟩
    have hdis : ∀ (m' : Nat) (q' : Lo), m' ≠ m → ks[m']? = some q' → y ∉ q'.2 := fun m' q' hmm hq' hy2 => by
      rcases Nat.lt_or_gt_of_ne hmm with hlt | hlt
      · rw [pags_at hq, List.nodup_append] at hnd
        exact hnd.2.2 y (mem_pags.2 ⟨m', q', by rw [List.getElem?_take_of_lt hlt]; exact hq', hy2⟩) y (List.mem_append_left _ hy) rfl
      · rw [pags_at hq', List.nodup_append] at hnd
        exact hnd.2.2 y (mem_pags.2 ⟨m, q, by rw [List.getElem?_take_of_lt hlt]; exact hq, hy⟩) y (List.mem_append_left _ hy2) rfl
    exact hget y (fun e => hdis j p0 (Ne.symm h1) hp0 (by rw [e, ha2]; exact List.mem_cons_self)) (fun e => hdis (j + 1) p1 (Ne.symm h2) hp1 (by rw [e, hb2]; exact List.mem_cons_self)) (fun e => hi (e ▸ hyi))) sub_mono' (List.nodup_cons.2 ⟨hno, hd⟩) (fun q hq => by
    rw [ha2, hb2]
    rcases List.mem_cons.1 hq with rfl | hq
    · exact .inl List.mem_cons_self
    · rcases List.mem_append.1 hq with hq | hq
      · exact .inl (List.mem_cons_of_mem _ hq)
      · exact .inr (List.mem_cons_of_mem _ hq))
  have hlf : n.leaf = false := hb.inner
  have hnok : (⟨n.leaf, n.recs.take j ++ n.recs.drop (j + 1), n.kids.take (j + 1) ++ n.kids.drop (j + 2)⟩ : Nd).Ok := by
    refine ⟨⟨fun e => ?_, fun _ => hbody.len, rise_del hn.shp.rise, fun r hr => ?_, fun m hm => ?_⟩, ?_⟩
    · have e' : n.leaf = true := e
      rw [hlf] at e'; exact absurd e' (by simp)
    · rcases List.mem_append.1 hr with hr | hr
      · exact hn.shp.recs r (List.mem_of_mem_take hr)
      · exact hn.shp.recs r (List.mem_of_mem_drop hr)
    · rcases List.mem_append.1 hm with hm | hm
      · exact hn.shp.kids m (List.mem_of_mem_take hm)
      · exact hn.shp.kids m (List.mem_of_mem_drop hm)
    · have h1 := hn.2
      have h2 := wt_del hsep
      unfold Nd.size at h1 ⊢
      simp only [List.length_append, List.length_take, List.length_drop]
      omega
  have epg2 : pagsOf (ks.take j ++ ((p0.1 ++ p1.1, (k0 - 1) :: (bl0 ++ bl1)) : Lo) :: ks.drop (j + 2)) = pagsOf (ks.take j) ++ (((k0 - 1) :: (bl0 ++ bl1)) ++ pagsOf (ks.drop (j + 2))) := by rw [pags_app, pags_cons]
  have hmem : ∀ q, q ∈ pagsOf ks ↔ q = k1 - 1 ∨ q ∈ pagsOf (ks.take j ++ ((p0.1 ++ p1.1, (k0 - 1) :: (bl0 ++ bl1)) : Lo) :: ks.drop (j + 2)) := fun q => by
    rw [epg, epg2, ha2, hb2]
    simp only [List.mem_append, List.mem_cons]
    constructor
    · rintro (h1 | ((h1 | h1) | (h1 | h1)) | h1)
      · exact .inr (.inl h1)
      · exact .inr (.inr (.inl (.inl h1)))
      · exact .inr (.inr (.inl (.inr (.inl h1))))
      · exact .inl h1
      · exact .inr (.inr (.inl (.inr (.inr h1))))
      · exact .inr (.inr (.inr h1))
    · rintro (h1 | h1 | (h1 | h1 | h1) | h1)
      · exact .inr (.inl (.inr (.inl h1)))
      · exact .inl h1
      · exact .inr (.inl (.inl (.inl h1)))
      · exact .inr (.inl (.inl (.inr h1)))
      · exact .inr (.inl (.inr (.inr h1)))
      · exact .inr (.inr h1)
  refine ⟨hjok, hu0, hu1, hui, hnok, hok1, hok2, i :: pagsOf (ks.take j ++ ((p0.1 ++ p1.1, (k0 - 1) :: (bl0 ++ bl1)) : Lo) :: ks.drop (j + 2)), put_ok hok2 hui _, rfl, fun q hq hqs => ?_, fun q hq => ?_, ?_, fun q hq => ?_, ⟨_, _, put_same hui _, ⟨hnok, Nat.zero_le _⟩, by rw [hlf]; rw [hlf] at hbody; exact hbody, fun e => hi ((hmem i).2 (.inr e)), ?_, rfl⟩⟩
  · have h1 : q ∉ pagsOf ks := fun e => hqs (List.mem_cons_of_mem _ e)
    exact hget q (fun e => h1 (e ▸ hm0)) (fun e => h1 (e ▸ hm1)) (fun e => hqs (by rw [e]; exact List.mem_cons_self))
  · rcases List.mem_cons.1 hq with rfl | hq
    · exact List.mem_cons_self
    · exact List.mem_cons_of_mem _ ((hmem q).2 (.inr hq))
  · rw [put_used, give_used, put_used, epg2, epg, ha2, hb2]
    simp only [List.length_cons, List.length_append]
    omega
  · obtain ⟨h1, h2⟩ := give_use ((put_use hui _).1 hq)
    refine ⟨(put_use hu0 _).1 h1, fun h3 => ?_⟩
    rcases List.mem_cons.1 h3 with rfl | h3
    · exact List.mem_cons_self
    · exact List.mem_cons_of_mem _ (((hmem q).1 h3).resolve_left h2)
  · rw [een, ents_app, ents_cons]
/-- The root has but one kid. -/
theorem root_out {k : Nat} (hA : A.Ok) (hpg : A.pages[i]? = some (some (enc n))) (hb : Body (Sub m0 A h) B n ks) (hi : i ∉ pagsOf ks) (hr : n.recs = []) (hk : n.kids[0]? = some k) : ∃ ps', DelOut A (A.give i) h (k - 1) B (i :: pagsOf ks) (entsOf ks) ps' := by
  have hlen := hb.len
  have hlk := hb.lk
  have hl0 : n.recs.length = 0 := by rw [hr]; rfl
  obtain ⟨p, hp⟩ : ∃ p, ks = [p] := List.length_eq_one_iff.1 (by omega)
  subst hp
  have hs := hb.kid 0 k p hk rfl
  have hpe : pagsOf [p] = p.2 := by simp [pagsOf]
  have hee : entsOf [p] = p.1 := by simp [entsOf]
  have hiu : inUse A i := ⟨_, hpg⟩
  rw [hpe] at hi
  rw [hpe, hee]
  refine ⟨p.2, give_ok hA hiu, rfl, fun q _ hqs => give_other (fun e => hqs (by rw [e]; exact List.mem_cons_self)), fun q hq => List.mem_cons_of_mem _ hq, by rw [give_used, List.length_cons]; omega, fun q hq => ?_, (hs.mono fun x hx => hx.1).frame fun q hq => give_other (fun e => hi (e ▸ hq))⟩
  obtain ⟨h1, h2⟩ := give_use hq
  exact ⟨h1, fun h3 => (List.mem_cons.1 h3).resolve_left h2⟩
end
end Go.Proofs.Ytcpahknlabnnbaa.T
