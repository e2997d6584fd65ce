/- The laws of the trees: a tree's state, beside what is the law's own; what each call does with it. The laws of the trees: step. The laws of the trees: an arena, a tree; awake. The laws of the trees: awake. The laws of the trees: Same; Range. The laws of the trees: Each over a range. The laws of the trees: TreeRanges, walked. Ops, ranges and texts, as a row of the laws hands them in. -/
import Derived.Test.YtcpahknlabnnbaaTG8
import Derived.Test.YtcpahknlabnnbaaTG9
import Derived.Deep.Slices
import Derived.Deep.Strs
import Derived.Lib.SmallJoins
import Derived.SizedLaws

namespace Go.Proofs.Ytcpahknlabnnbaa.T
open Go Go.RowKit Go.Sort Go.Proofs.Ytcpahknlabnnbaa.Mem

/-- The tree T over the arena a; the blocks D are the law's own; the height and the entries are m at most. -/
structure TS (a T : Nat) (D : Nat → Prop) (W : World) (A : Ar) (h i : Nat) (es : List ByteArray) (ps : List Nat) (m : Nat) : Prop where
  out : ∃ ok : Nat → Prop, ArX ok W a A ∧ (∀ k, W.heap.size ≤ k → ok k) ∧ ¬ ok T ∧ ∀ k, D k → ¬ ok k
  aok : A.Ok
  t : TrR T a W ((i : Int) + 1) ((h : Int) + 1) es.length
  s : Sub m0 A h i top es ps
  dt : ¬ D T
  hm : h ≤ m
  em : es.length ≤ m
section
variable {a T : Nat} {D D' : Nat → Prop} {W W' : World} {A : Ar} {h i : Nat} {es : List ByteArray} {ps : List Nat} {m : Nat}
/-- The law did something: in D, and new. -/
theorem TS.step (t : TS a T D W A h i es ps m) (k : Kps D W W') (hd : ∀ b, D' b → D b ∨ (W.heap.size ≤ b ∧ b < W'.heap.size)) : TS a T D' W' A h i es ps m := by
  obtain ⟨ok, h1, h2, h3, h4⟩ := t.out
  have hT := t.t.lt
  refine ⟨⟨nar ok W.heap.size W'.heap.size, ((h1.bnd.kps k (fun b hb _ hD => h4 b hD hb.1)).mono fun b hb => .inl hb), fun b hb => .inr hb, fun hb => ?_, fun b hb hb2 => ?_⟩, t.aok, (k.block T hT t.dt).trans t.t, t.s, fun hb => ?_, t.hm, t.em⟩
  · rcases hb with hb | hb
    · exact h3 hb.1
    · have := k.size; omega
  · rcases hd b hb with h5 | h5
    · rcases hb2 with h6 | h6
      · exact h4 b h5 h6.1
      · rcases Nat.lt_or_ge b W.heap.size with h7 | h7
        · have := k.size; omega
        · exact absurd (h2 b h7) (h4 b h5)
    · rcases hb2 with h6 | h6 <;> omega
  · rcases hd T hb with h5 | h5
    · exact t.dt h5
    · omega
theorem TS.below (t : TS a T D W A h i es ps m) (hb : Below W.heap.size W W') : TS a T D W' A h i es ps m := t.step (below_kps hb _) (fun _ h => .inl h)
theorem TS.up (t : TS a T D W A h i es ps m) {m' : Nat} (hm : m ≤ m') : TS a T D W A h i es ps m' := ⟨t.out, t.aok, t.t, t.s, t.dt, Nat.le_trans t.hm hm, Nat.le_trans t.em hm⟩
/-- Behind a call that leaves D alone. -/
theorem ts_of {ok : Nat → Prop} {A' : Ar} {h' i' : Nat} {es' : List ByteArray} {ps' : List Nat} {m' : Nat} (ho : ∀ k, W.heap.size ≤ k → ok k) (hT : ¬ ok T) (hD : ∀ k, D k → ¬ ok k) (dt : ¬ D T) (k : Kps (fun k => ok k ∨ k = T) W W') (ax : ArX ok W' a A') (aok : A'.Ok) (t : TrR T a W' ((i' : Int) + 1) ((h' : Int) + 1) es'.length) (s : Sub m0 A' h' i' top es' ps') (hm : h' ≤ m') (em : es'.length ≤ m') : TS a T D W' A' h' i' es' ps' m' ∧ Kps (fun b => ¬ D b) W W' :=
  ⟨⟨⟨ok, ax, fun b hb => ho b (Nat.le_trans k.size hb), hT, hD⟩, aok, t, s, dt, hm, em⟩, k.mono fun b hb hb2 => by
    rcases hb with hb | hb
    · exact hD b hb2 hb
    · exact dt (hb ▸ hb2)⟩
end
section
variable {a T : Nat} {D : Nat → Prop} {W : World} {A : Ar} {h i : Nat} {es : List ByteArray} {ps : List Nat} {m : Nat}
/-- What Insert does. -/
structure InsL (a T : Nat) (D : Nat → Prop) (W : World) (A : Ar) (h : Nat) (es : List ByteArray) (m : Nat) (s : ByteArray) (e : Ending) (W' : World) : Prop where
  out : ∃ (c : Int) (A' : Ar) (h' i' : Nat) (ps' : List Nat), e = .returned (.int .i64 c) ∧ c = insCode A h es s ∧ TS a T D W' A' h' i' (if c = 0 then putE es s else es) ps' (m + 1) ∧ Kps (fun k => ¬ D k) W W' ∧ A'.quota = A.quota ∧ A'.used ≤ A.used + (h : Int) + 2 ∧ (h = 0 → 7 + wt es + s.size ≤ 1024 → h' = 0)
theorem insTS (t : TS a T D W A h i es ps m) (s : ByteArray) (hs : s.size ≤ 1000000) (hm : m ≤ 999999) : Calls Try.prog 21 #[.pointer (some ⟨T, 0, none⟩), .string s] W (InsL a T D W A h es m s) := by
  obtain ⟨ok, h1, h2, h3, h4⟩ := t.out
  refine (insertTree (μ := m0) (μ0 := m0) (fun _ => Nat.zero_le _) T a h i es.length s A es ps W t.t h1 t.aok h2 h3 (by have := t.em; omega) t.s (fun _ => rfl) (by have := t.hm; omega) hs).mono ?_
  rintro e W' ⟨c, rfl, hc, hx⟩
  rcases hx with ⟨hc0, g1, g2, g3⟩ | ⟨hc0, hno, A', h', i', ps', g1, g2, g3, g4⟩
  · obtain ⟨r1, r2⟩ := ts_of h2 h3 h4 t.dt (g3.mono fun b hb => .inl hb) g1 t.aok g2 t.s (Nat.le_trans t.hm (Nat.le_succ m)) (Nat.le_trans t.em (Nat.le_succ m))
    exact ⟨c, A, h, i, ps, rfl, hc, by rw [if_neg hc0]; exact r1, r2, rfl, by omega, fun e _ => e⟩
  · have hsub : Sub m0 A' h' i' top (putE es s) ps' := g1.sub.lower (fun _ _ => Nat.zero_le _)
    rw [← putE_len es s] at g3
    obtain ⟨r1, r2⟩ := ts_of (m' := m + 1) h2 h3 h4 t.dt g4 g2 g1.ok g3 hsub (by have := t.hm; rcases g1.hh with h5 | h5 <;> omega) (by rw [putE_len]; have := t.em; omega)
    exact ⟨c, A', h', i', ps', rfl, hc, by rw [if_pos hc0]; exact r1, r2, g1.q, by have := g1.used; have := g1.len; omega, g1.fit⟩
/-- What Delete does. -/
structure DelL (a T : Nat) (D : Nat → Prop) (W : World) (h : Nat) (es : List ByteArray) (m : Nat) (s : ByteArray) (e : Ending) (W' : World) : Prop where
  out : ∃ (A' : Ar) (h' i' : Nat) (ps' : List Nat), e = .returned (.int .i64 (if hasB s es = true then 0 else 2)) ∧ TS a T D W' A' h' i' (if hasB s es = true then dropE es s else es) ps' m ∧ Kps (fun k => ¬ D k) W W' ∧ h' ≤ h
theorem delTS (t : TS a T D W A h i es ps m) (s : ByteArray) (hm : m ≤ 999999) : Calls Try.prog 22 #[.pointer (some ⟨T, 0, none⟩), .string s] W (DelL a T D W h es m s) := by
  obtain ⟨ok, h1, h2, h3, h4⟩ := t.out
  refine (deleteTree T a h i es.length s A es ps W t.t h1 t.aok h2 h3 (by have := t.em; omega) t.s (by have := t.hm; omega)).mono ?_
  rintro e W' ⟨c, rfl, hx⟩
  rcases hx with ⟨rfl, hno, g1, g2, g3⟩ | ⟨rfl, hin, A', h', i', ps', g1, g2, g3, g4⟩
  · have hb := hasB_false.2 hno
    obtain ⟨r1, r2⟩ := ts_of h2 h3 h4 t.dt (g3.mono fun b hb => .inl hb) g1 t.aok g2 t.s t.hm t.em
    exact ⟨A, h, i, ps, by rw [hb]; rfl, by rw [hb]; exact r1, r2, Nat.le_refl _⟩
  · have hb := hasB_true.2 hin
    have hl := dropE_len t.s.rise hin
    rw [show (es.length : Int) - 1 = ((dropE es s).length : Int) by omega] at g3
    obtain ⟨r1, r2⟩ := ts_of (m' := m) h2 h3 h4 t.dt g4 g2 g1.d.ok g3 g1.d.sub (by have := t.hm; have := g1.hh; omega) (by have := t.em; omega)
    exact ⟨A', h', i', ps', by rw [hb]; rfl, by rw [hb]; exact r1, r2, g1.hh⟩
theorem hasTS (t : TS a T D W A h i es ps m) (s : ByteArray) : Calls Try.prog 14 #[.pointer (some ⟨T, 0, none⟩), .string s] W fun e W' => e = .returned (.bool (hasB s es)) ∧ Below W.heap.size W W' := by
  obtain ⟨ok, h1, h2, h3, h4⟩ := t.out
  exact hasCalls T a h i ((h : Int) + 1) es.length A top es ps s W t.t (by omega) t.s h1
theorem lenTS (t : TS a T D W A h i es ps m) : Calls Try.prog 11 #[.pointer (some ⟨T, 0, none⟩)] W fun e W' => e = .returned (.int .i64 es.length) ∧ W' = W := lenCalls T a _ _ _ W t.t (by omega)
theorem heightTS (t : TS a T D W A h i es ps m) : Calls Try.prog 23 #[.pointer (some ⟨T, 0, none⟩)] W fun e W' => e = .returned (.int .i64 ((h : Int) + 1)) ∧ W' = W := heightCalls T a _ _ _ W t.t (by omega)
theorem leftTS (t : TS a T D W A h i es ps m) : Calls Try.prog 28 #[.pointer (some ⟨a, 0, none⟩)] W fun e W' => e = .returned (.int .i64 A.left) ∧ Below W.heap.size W W' := by
  obtain ⟨ok, ⟨vp, vf, h1⟩, h2, h3, h4⟩ := t.out
  refine (leftCalls a vp vf A W h1 t.aok.q).mono ?_
  rintro e W' ⟨h5, q, rfl⟩
  exact ⟨h5, bdr W q⟩
theorem allTS (t : TS a T D W A h i es ps m) (hm : m ≤ 999999) : Calls Try.prog 16 #[.pointer (some ⟨T, 0, none⟩)] W fun e W' => ∃ v, e = .returned v ∧ RdE Value.string (fun k => W.heap.size ≤ k ∧ k < W'.heap.size) W' v es ∧ Below W.heap.size W W' := by
  obtain ⟨ok, h1, h2, h3, h4⟩ := t.out
  exact allCalls T a h i es.length A es ps W t.t t.s h1 (by have := t.em; omega)
/-- What Limit does. -/
structure LimL (a T : Nat) (D : Nat → Prop) (W : World) (h i : Nat) (es : List ByteArray) (ps : List Nat) (m : Nat) (e : Ending) (W' : World) : Prop where
  out : ∃ (c : Int) (A' : Ar), e = .returned (.int .i64 c) ∧ TS a T D W' A' h i es ps m ∧ Kps (fun k => ¬ D k) W W'
theorem limTS (t : TS a T D W A h i es ps m) (n : Int) : Calls Try.prog 24 #[.pointer (some ⟨a, 0, none⟩), .int .i64 n] W (LimL a T D W h i es ps m) := by
  obtain ⟨ok, ⟨vp, vf, h1⟩, h2, h3, h4⟩ := t.out
  refine (limitCalls a vp vf A n W h1).mono ?_
  rintro e W' ⟨hx, hk⟩
  have ha := h1.oka
  have haT : a ≠ T := fun e => h3 (e ▸ ha)
  have hk' : Kps (fun k => ok k ∨ k = T) W W' := hk.mono fun b hb => .inl (hb ▸ ha)
  have ht := (hk.block T t.t.lt (fun e => haT e.symm)).trans t.t
  by_cases hn : 0 ≤ n ∧ n ≤ 4096
  · rw [if_pos hn] at hx
    obtain ⟨rfl, hx⟩ := hx
    obtain ⟨r1, r2⟩ := ts_of (A' := { A with quota := n }) (es' := es) (h' := h) (i' := i) (ps' := ps) h2 h3 h4 t.dt hk' ⟨vp, vf, hx⟩ ⟨hn, t.aok.free, t.aok.nd⟩ ht (t.s.frame fun _ _ => rfl) t.hm t.em
    exact ⟨0, _, rfl, r1, r2⟩
  · rw [if_neg hn] at hx
    obtain ⟨rfl, rfl⟩ := hx
    obtain ⟨r1, r2⟩ := ts_of (A' := A) (es' := es) (h' := h) (i' := i) (ps' := ps) h2 h3 h4 t.dt hk' ⟨vp, vf, h1⟩ t.aok ht t.s t.hm t.em
    exact ⟨15, _, rfl, r1, r2⟩
end
end Go.Proofs.Ytcpahknlabnnbaa.T

namespace Go.Proofs.Ytcpahknlabnnbaa.T
open Go Go.RowKit Go.Sort Go.Proofs.Ytcpahknlabnnbaa.Mem

theorem SetR.kps {D : Nat → Prop} {S : Nat} {W W' : World} {l : List ByteArray} (s : SetR D S W l) (k : Kps (fun b => ¬ D b) W W') : SetR D S W' l := by
  obtain ⟨v, h1, h2⟩ := s.out
  exact ⟨s.s, ⟨v, (k.block S (Array.getElem?_eq_some_iff.1 h1).1 (fun h => h s.s)).trans h1, h2.kps k (fun b hb _ h => h hb)⟩, s.r⟩
theorem SetR.below {D : Nat → Prop} {S : Nat} {W W' : World} {l : List ByteArray} (s : SetR D S W l) (hb : Below W.heap.size W W') : SetR D S W' l := s.kps (below_kps hb _)
/-- What step leaves. -/
structure StepP (a T S : Nat) (D : Nat → Prop) (W : World) (m : Nat) (e : Ending) (W' : World) : Prop where
  e0 : e = .returned (.bool true)
  out : ∃ (D' : Nat → Prop) (A' : Ar) (h' i' : Nat) (es' : List ByteArray) (ps' : List Nat), (∀ b, D b → D' b) ∧ TS a T D' W' A' h' i' es' ps' (m + 1) ∧ SetR D' S W' es' ∧ Kps (fun b => ¬ D b ∨ b = S) W W'
theorem step_same {a T S : Nat} {D : Nat → Prop} {W W4 W6 : World} {m : Nat} {A' : Ar} {h' i' : Nat} {es : List ByteArray} {ps' : List Nat} (k4 : Kps (fun b => ¬ D b) W W4) (t4 : TS a T D W4 A' h' i' es ps' (m + 1)) (b : Below W4.heap.size W4 W6) (s : SetR D S W es) : StepP a T S D W m (.returned (.bool true)) W6 :=
  ⟨rfl, D, A', h', i', es, ps', fun _ h => h, t4.below b, (s.kps k4).below b, (k4.trans (below_kps b _)).mono fun _ h => .inl h⟩
theorem step_put {a T S : Nat} {D : Nat → Prop} {W W4 W5 W6 : World} {m : Nat} {A' : Ar} {h' i' : Nat} {es' : List ByteArray} {ps' : List Nat} {e : Ending} (hS : D S) (k4 : Kps (fun b => ¬ D b) W W4) (t4 : TS a T D W4 A' h' i' es' ps' (m + 1)) (b : Below W4.heap.size W4 W5) (sp : SetP S W5 es' 0 e W6) : StepP a T S D W m (.returned (.bool true)) W6 := by
  refine ⟨rfl, fun b => D b ∨ (W5.heap.size ≤ b ∧ b < W6.heap.size), A', h', i', es', ps', fun _ h => .inl h, (t4.below b).step (sp.k.mono fun b hb => by have : b = S := hb; exact this ▸ hS) (fun b hb => hb), ⟨.inl hS, ?_, sp.s.r⟩, ((k4.trans (below_kps b _)).mono fun _ h => .inl h).trans (sp.k.mono fun b hb => .inr hb)⟩
  obtain ⟨v, h1, h2⟩ := sp.s.out
  refine ⟨v, h1, h2.mono fun b hb => ?_⟩
  rcases hb with hb | hb
  · exact .inl (hb ▸ hS)
  · exact .inr hb
set_option maxHeartbeats 4000000 in
set_option maxRecDepth 100000 in
theorem stepCalls {a T S : Nat} {D : Nat → Prop} {W : World} {A : Ar} {h i : Nat} {es : List ByteArray} {ps : List Nat} {m : Nat} (t : TS a T D W A h i es ps m) (s : SetR D S W es) (o : Opr) (ho : o.s.size ≤ 420) (hn : -9223372036854775808 ≤ o.n ∧ o.n ≤ 9223372036854775807) (hm : m ≤ 900000) :
    Calls Try.prog 10 #[.pointer (some ⟨a, 0, none⟩), .pointer (some ⟨T, 0, none⟩), .pointer (some ⟨S, 0, none⟩), .agg #[.int .i64 o.k, .int .i64 o.n, .string o.s]] W (StepP a T S D W m) := by
  obtain ⟨k, n, x⟩ := o
  obtain ⟨W1, hW1⟩ : ∃ W1, W1 = W.alloc (.cells #[.int .i64 k, .int .i64 n, .string x] 37) := ⟨_, rfl⟩
  have hb1 : Below W.heap.size W W1 := by rw [hW1]; exact balloc (Below.refl _ _) _
  have B1 := put hb1
  have HX := put (show W1.heap[W.heap.size]? = some (.cells #[.int .i64 k, .int .i64 n, .string x] 37 (0, 0)) by rw [hW1]; exact heap_alloc_new _ _)
  obtain ⟨x0, x1, x2⟩ := c3 HX.out
  have TT := put t
  have SS := put s
  have HW := put hW1
  have TX := put (textCalls k n x W1 ho)
  clear hW1 t s
  go_enter Try.func10, Try.ntmps10
  go_wp2_with fail
  rw [← HW.out]
  refine TX.out.mono ?_
  rintro e W2 ⟨rfl, hb2⟩
  obtain ⟨x0', x1', x2'⟩ := c3 ((hb2.block _ (Array.getElem?_eq_some_iff.1 HX.out).1).trans HX.out)
  have B2 := put (bt B1.out hb2)
  obtain ⟨tx, htx⟩ : ∃ tx, tx = opTxt n x := ⟨_, rfl⟩
  obtain ⟨ok, hok⟩ : ∃ ok, ok = opOk n x := ⟨_, rfl⟩
  have HTS : Kp (tx.size ≤ 1000) := put (by rw [htx]; exact opTxt_size n x)
  rw [← htx, ← hok]
  clear x0 x1 x2 hb2 htx hok
  have T2 := put (TT.out.below B2.out)
  have S2 := put (SS.out.below B2.out)
  have K2 : Kp (Kps (fun b => ¬ D b) W W2) := put (below_kps B2.out _)
  have TRUE : Kp (∀ W3, Below W.heap.size W W3 → StepP a T S D W m (.returned (.bool true)) W3) := put fun W3 hb => step_same (Kps.refl _ W) (TT.out.up (Nat.le_succ m)) hb SS.out
  by_cases h0 : k = 0
  · subst h0
    cases ok with
    | false =>
      go_wp2_with fail
      go_ret
      exact TRUE.out _ B2.out
    | true =>
      have LC := put (leftTS T2.out)
      go_wp2_with fail
      refine LC.out.mono ?_
      rintro e W3 ⟨rfl, hb3⟩
      have T3 := put (T2.out.below hb3)
      have S3 := put (S2.out.below hb3)
      have K3 := put (K2.out.trans (below_kps hb3 _))
      clear hb3
      go_wp2_with fail
      refine (heightTS T3.out).mono ?_
      rintro e W4 ⟨rfl, rfl⟩
      go_wp2_with fail
      refine (insTS T3.out tx (by have := HTS.out; omega) (by omega)).mono ?_
      rintro e W4 ⟨c, A', h', i', ps', rfl, hc, ht4, hk4, _⟩
      have T4 := put ht4
      have S4 := put (S3.out.kps hk4)
      have K4 := put (K3.out.trans hk4)
      have HC := put hc
      clear hc ht4 hk4 x0' x1' x2'
      go_wp2_with fail
      obtain ⟨v, hv1, hv2⟩ := S4.out.out
      refine (atCalls D S v es tx W4 hv1 hv2 S4.out.r (by have := TT.out.em; omega)).mono ?_
      rintro e W5 ⟨rfl, hb5⟩
      have B5 := put hb5
      have S5 := put (S4.out.below hb5)
      obtain ⟨bb, hbb⟩ : ∃ bb, bb = hasB tx es := ⟨_, rfl⟩
      rw [← hbb]
      have HBB := put hbb
      clear hbb hb5 hv1 hv2
      obtain ⟨q, hq⟩ : ∃ q, q = posS es tx := ⟨_, rfl⟩
      rw [← hq]
      clear hq
      have SI := put (setInsert S es tx W5 S5.out (by have := TT.out.em; omega) (by have := HTS.out; omega))
      have FIN : Kp (∀ (e : Ending) (W6 : World), ((tx.size < 1 ∨ 400 < tx.size) ∧ e = .returned (.int .i64 15) ∧ Below W5.heap.size W5 W6 ∨ ((1 ≤ tx.size ∧ tx.size ≤ 400) ∧ hasB tx es = true ∧ e = .returned (.int .i64 3) ∧ Below W5.heap.size W5 W6) ∨ ((1 ≤ tx.size ∧ tx.size ≤ 400) ∧ hasB tx es = false ∧ SetP S W5 (putE es tx) 0 e W6)) → ((h : Int) + 1 < A.left ∨ bb = true ∨ tx.size < 1 ∨ 400 < tx.size) → ∃ r : Int, e = .returned (.int .i64 r) ∧ c = r ∧ StepP a T S D W m (.returned (.bool true)) W6) := put fun e W6 hx hcase => by
        have hc := HC.out
        have ht := T4.out
        unfold insCode at hc
        rcases hx with ⟨hz, rfl, hb⟩ | ⟨hz, hh, rfl, hb⟩ | ⟨hz, hh, sp⟩
        · rw [if_pos hz] at hc
          subst hc
          rw [if_neg (by decide)] at ht
          exact ⟨15, rfl, rfl, step_same K4.out ht (bt B5.out hb) SS.out⟩
        · rw [if_neg (by omega), if_pos hh] at hc
          subst hc
          rw [if_neg (by decide)] at ht
          exact ⟨3, rfl, rfl, step_same K4.out ht (bt B5.out hb) SS.out⟩
        · rw [hh] at HBB
          have h1 := HBB.out
          subst h1
          rw [if_neg (by omega), if_neg (by rw [hh]; simp), if_neg (by
            rcases hcase with h2 | h2 | h2
            · omega
            · exact absurd h2 (by simp)
            · omega)] at hc
          subst hc
          rw [if_pos rfl] at ht
          exact ⟨0, sp.e0, rfl, step_put SS.out.s K4.out ht B5.out sp⟩
      have FIN9 : Kp (¬ (h : Int) + 1 < A.left → bb = false → (1 ≤ tx.size ∧ tx.size ≤ 400) → c = 9 ∧ StepP a T S D W m (.returned (.bool true)) W5) := put fun hr hb hz => by
        have hc := HC.out
        have ht := T4.out
        unfold insCode at hc
        rw [if_neg (by omega), if_neg (by rw [← HBB.out, hb]; simp), if_pos (by omega)] at hc
        subst hc
        rw [if_neg (by decide)] at ht
        exact ⟨rfl, step_same K4.out ht B5.out SS.out⟩
      by_cases hr : (h : Int) + 1 < A.left
      · rw [decide_eq_true hr]
        go_wp2_with fail
        refine SI.out.mono ?_
        rintro e W6 hx
        obtain ⟨r, rfl, hcr, hst⟩ := FIN.out e W6 hx (.inl hr)
        subst hcr
        have HST := put hst
        clear hx hst
        go_wp2_with fail
        go_ret
        exact HST.out
      · rw [decide_eq_false hr]
        cases bb with
        | true =>
          go_wp2_with fail
          refine SI.out.mono ?_
          rintro e W6 hx
          obtain ⟨r, rfl, hcr, hst⟩ := FIN.out e W6 hx (.inr (.inl (by first | rfl | trivial)))
          subst hcr
          have HST := put hst
          clear hx hst
          go_wp2_with fail
          go_ret
          exact HST.out
        | false =>
          by_cases hz1 : (tx.size : Int) ≥ 1
          · by_cases hz2 : (tx.size : Int) ≤ 400
            · obtain ⟨hc9, hst⟩ := FIN9.out hr (by first | rfl | trivial) (by omega)
              subst hc9
              have HST := put hst
              clear hst
              go_wp2_with fail
              go_ret
              exact HST.out
            · go_wp2_with fail
              refine SI.out.mono ?_
              rintro e W6 hx
              obtain ⟨r, rfl, hcr, hst⟩ := FIN.out e W6 hx (.inr (.inr (by omega)))
              subst hcr
              have HST := put hst
              clear hx hst
              go_wp2_with fail
              go_ret
              exact HST.out
          · go_wp2_with fail
            refine SI.out.mono ?_
            rintro e W6 hx
            obtain ⟨r, rfl, hcr, hst⟩ := FIN.out e W6 hx (.inr (.inr (by omega)))
            subst hcr
            have HST := put hst
            clear hx hst
            go_wp2_with fail
            go_ret
            exact HST.out
  have DELS : Kp (∀ (W2 : World) (y : ByteArray), Below W.heap.size W W2 → Calls Try.prog 22 #[.pointer (some ⟨T, 0, none⟩), .string y] W2 fun e W4 => Kp (∃ r : Int, e = .returned (.int .i64 r) ∧ Calls Try.prog 30 #[.pointer (some ⟨S, 0, none⟩), .string y] W4 fun e W6 => Kp (e = .returned (.int .i64 r) ∧ StepP a T S D W m (.returned (.bool true)) W6))) := put fun W2 y hb2 => by
    have t2 := TT.out.below hb2
    have s2 := SS.out.below hb2
    refine (delTS t2 y (by omega)).mono ?_
    rintro e W4 ⟨A', h', i', ps', rfl, ht4, hk4, _⟩
    refine ⟨_, rfl, ?_⟩
    have s4 := s2.kps hk4
    refine (setDelete S es y W4 s4 (by have := TT.out.em; omega)).mono ?_
    rintro e W6 hx
    have hk := (below_kps hb2 (fun b => ¬ D b)).trans hk4
    rcases hx with ⟨hh, rfl, hb⟩ | ⟨hh, sp⟩
    · rw [hh] at ht4 ⊢
      rw [if_neg (by simp)] at ht4
      exact put ⟨rfl, step_same hk (ht4.up (Nat.le_succ m)) hb SS.out⟩
    · rw [hh] at ht4 ⊢
      rw [if_pos rfl] at ht4
      exact put ⟨sp.e0, step_put SS.out.s hk (ht4.up (Nat.le_succ m)) (Below.refl _ _) sp⟩
  by_cases h1 : k = 1
  · subst h1
    cases ok with
    | false =>
      go_wp2_with fail
      go_ret
      exact TRUE.out _ B2.out
    | true =>
      go_wp2_with fail
      refine (DELS.out W2 tx B2.out).mono ?_
      rintro e W4 ⟨r, rfl, hd⟩
      have HD := put hd
      clear hd
      go_wp2_with fail
      refine HD.out.mono ?_
      rintro e W6 ⟨rfl, hst⟩
      have HST := put hst
      clear hst
      go_wp2_with fail
      go_ret
      exact HST.out
  by_cases h2 : k = 2
  · subst h2
    obtain ⟨v, hv1, hv2⟩ := S2.out.out
    obtain ⟨A5, c5, rfl, hv3, hv4, _⟩ := hv2.shape
    have y0 : W2.cell? ⟨S, 0, none⟩ = some (.slice A5 es.length c5) := by simp [World.cell?, hv1]
    obtain ⟨l, hl⟩ : ∃ l, l = es.length := ⟨_, rfl⟩
    rw [← hl] at y0 hv2
    have HL := put hl
    have HV := put hv2
    have hlm : l ≤ 900001 := by have := TT.out.em; omega
    clear hl hv1 hv2 hv3 hv4
    by_cases hl0 : (l : Int) = 0
    · go_wp2_with fail
      go_ret
      exact TRUE.out _ B2.out
    · have hlp : 0 < l := by omega
      obtain ⟨p, hp⟩ : ∃ p : Int, p = n.tmod (l : Int) := ⟨_, rfl⟩
      have hp1 : p < (l : Int) := by rw [hp]; exact Int.tmod_lt_of_pos _ (by omega)
      have hp2 : -(l : Int) < p := by rw [hp]; exact Int.lt_tmod_of_pos _ (by omega)
      obtain ⟨q, hq⟩ : ∃ q : Nat, (q : Int) = p + (l : Int) := ⟨(p + (l : Int)).toNat, by omega⟩
      have e1 : n.tmod (l : Int) = p := hp.symm
      have e2 : IntKind.i64.wrap p = p := IntWalk.i64_in _ (by omega)
      have e3 : IntKind.i64.wrap (p + (l : Int)) = (q : Int) := by rw [hq]; exact IntWalk.i64_in _ (by omega)
      have e4 : (q : Int).tmod (l : Int) = ((q % l : Nat) : Int) := (Int.ofNat_tmod q l).symm
      have hj : q % l < l := Nat.mod_lt _ hlp
      obtain ⟨j, hj'⟩ : ∃ j, j = q % l := ⟨_, rfl⟩
      rw [← hj'] at e4 hj
      have e5 : IntKind.i64.wrap (j : Int) = (j : Int) := IntWalk.i64_in _ (by omega)
      obtain ⟨y, g, o, hy, hA, hg, hcell⟩ := HV.out.at' (i := j) (by rw [← HL.out]; exact hj)
      subst hA
      have hj0 : (0 : Int) ≤ (j : Int) := by omega
      have hj1 : (j : Int) < (l : Int) := by omega
      clear hp hq hj' hy
      go_wp2_with fail
      go_quiet (fail)
      go_wp2_with fail
      refine (DELS.out _ y (bdr' B2.out _)).mono ?_
      rintro e W4 ⟨r, rfl, hd⟩
      have HD := put hd
      clear hd
      go_wp2_with fail
      refine HD.out.mono ?_
      rintro e W6 ⟨rfl, hst⟩
      have HST := put hst
      clear hst
      go_wp2_with fail
      go_ret
      exact HST.out
  by_cases h3 : k = 3
  · subst h3
    go_wp2_with fail
    refine (limTS T2.out n).mono ?_
    rintro e W3 ⟨c, A', rfl, ht, hk⟩
    have HST : Kp (StepP a T S D W m (.returned (.bool true)) W3) := put (step_same (K2.out.trans hk) (ht.up (Nat.le_succ m)) (Below.refl _ _) SS.out)
    clear ht hk
    go_wp2_with fail
    go_ret
    exact HST.out
  go_wp2_with fail
  go_ret
  exact TRUE.out _ B2.out
end Go.Proofs.Ytcpahknlabnnbaa.T

namespace Go.Proofs.Ytcpahknlabnnbaa.T
open Go Go.RowKit Go.Sort Go.Proofs.Ytcpahknlabnnbaa.Mem

/-- An arena, beside the law's own blocks D. -/
structure AS (a : Nat) (D : Nat → Prop) (W : World) (A : Ar) : Prop where
  out : ∃ ok : Nat → Prop, ArX ok W a A ∧ (∀ k, W.heap.size ≤ k → ok k) ∧ ∀ k, D k → ¬ ok k
theorem AS.below {a : Nat} {D : Nat → Prop} {W W' : World} {A : Ar} (h : AS a D W A) (hb : Below W.heap.size W W') : AS a D W' A := by
  obtain ⟨ok, h1, h2, h3⟩ := h.out
  exact ⟨ok, h1.below hb, fun k hk => h2 k (Nat.le_trans hb.size hk), h3⟩
theorem AS.step {a : Nat} {D D' : Nat → Prop} {W W' : World} {A : Ar} (t : AS a D W A) (k : Kps D W W') (hd : ∀ b, D' b → D b ∨ (W.heap.size ≤ b ∧ b < W'.heap.size)) : AS a D' W' A := by
  obtain ⟨ok, h1, h2, h4⟩ := t.out
  refine ⟨nar ok W.heap.size W'.heap.size, ((h1.bnd.kps k (fun b hb _ hD => h4 b hD hb.1)).mono fun b hb => .inl hb), fun b hb => .inr hb, fun b hb hb2 => ?_⟩
  rcases hd b hb with h5 | h5
  · rcases hb2 with h6 | h6
    · exact h4 b h5 h6.1
    · rcases Nat.lt_or_ge b W.heap.size with h7 | h7
      · have := k.size; omega
      · exact absurd (h2 b h7) (h4 b h5)
  · rcases hb2 with h6 | h6 <;> omega
theorem newArena {D : Nat → Prop} (n : Int) (W : World) (hn : 0 ≤ n ∧ n ≤ 4096) (hD : ∀ k, D k → k < W.heap.size) : Calls Try.prog 7 #[.int .i64 n] W fun e W' => e = .returned (.tuple #[.pointer (some ⟨W.heap.size, 0, none⟩), .int .i64 0]) ∧ AS W.heap.size D W' ⟨[], [], n⟩ ∧ Below W.heap.size W W' := by
  refine (newCalls (ok := fun k => W.heap.size ≤ k) n W hn (fun _ h => h)).mono ?_
  rintro e W' ⟨h1, h2, h3⟩
  exact ⟨h1, ⟨_, ⟨_, _, h2⟩, fun k hk => Nat.le_trans h3.size hk, fun k hk h => by have := hD k hk; omega⟩, h3⟩
set_option maxHeartbeats 4000000 in
set_option maxRecDepth 100000 in
/-- No arena. -/
theorem badArena (n : Int) (W : World) (hn : ¬ (0 ≤ n ∧ n ≤ 4096)) : Calls Try.prog 7 #[.int .i64 n] W fun e W' => e = .returned (.tuple #[.pointer none, .int .i64 15]) ∧ Below W.heap.size W W' := by
  obtain ⟨w1, hw1⟩ : ∃ w1, w1 = W.alloc (.cells #[.slice none 0 0, .slice none 0 0, .int .i64 0] 60) := ⟨_, rfl⟩
  have hb1 : Below W.heap.size W w1 := by rw [hw1]; exact balloc (Below.refl _ _) _
  have hr1 : ArR (fun k => W.heap.size ≤ k) w1 W.heap.size (.slice none 0 0) (.slice none 0 0) ⟨[], [], 0⟩ := ⟨by rw [hw1]; exact heap_alloc_new _ _, Own.nil _ _ _ _ _, Own.nil _ _ _ _ _, by simp, by simp, Nat.le_refl _, fun k hk => by simp [Value.ownBlock] at hk, fun k hk => by simp [Value.ownBlock] at hk⟩
  have LC := put (limitCalls W.heap.size (.slice none 0 0) (.slice none 0 0) ⟨[], [], 0⟩ n w1 hr1)
  have HN := put hn
  have HB1 := put hb1
  have HW := put hw1
  clear hr1 hb1 hn hw1
  go_enter Try.func7, Try.ntmps7
  go_wp2_with fail
  rw [← HW.out]
  refine LC.out.mono ?_
  rintro e w2 ⟨hl, hk2⟩
  rw [if_neg HN.out] at hl
  obtain ⟨rfl, rfl⟩ := hl
  clear hk2
  go_wp2_with fail
  go_ret2
  exact ⟨rfl, HB1.out⟩
/-- What New leaves. -/
structure NewL (a : Nat) (D : Nat → Prop) (W : World) (A : Ar) (e : Ending) (W' : World) : Prop where
  e0 : e = .returned (.tuple #[.pointer (some ⟨W.heap.size, 0, none⟩), .int .i64 0])
  out : ∃ (A' : Ar) (i : Nat), TS a W.heap.size D W' A' 0 i [] [i] 0 ∧ Kps (fun b => ¬ D b) W W' ∧ A'.quota = A.quota ∧ A'.used = A.used + 1 ∧ ¬ inUse A i ∧ ∀ p, inUse A p → A'.pages[p]? = A.pages[p]?
theorem newTS {a : Nat} {D : Nat → Prop} {W : World} {A : Ar} (t : AS a D W A) (hA : A.Ok) (hl : 0 < A.left) (hD : ∀ k, D k → k < W.heap.size) : Calls Try.prog 9 #[.pointer (some ⟨a, 0, none⟩)] W (NewL a D W A) := by
  obtain ⟨ok, h1, h2, h3⟩ := t.out
  obtain ⟨i, hi⟩ := new_page hA hl h1.np
  refine (newTree a A W h1 hA hl h2 i hi).mono ?_
  rintro e W' ⟨rfl, g1, g2, g3⟩
  have hu : inUse A.alloc i := ⟨_, hi.at'⟩
  have hTl := g2.lt
  have hsz := g3.size
  refine ⟨rfl, A.alloc.put i (enc nil0), i, ⟨⟨nar (nar ok W.heap.size (W.heap.size + 1 + 1 + 1)) W'.heap.size W'.heap.size, g1.bnd.mono fun k hk => .inl hk, fun k hk => .inr hk, fun h => ?_, fun k hk h => ?_⟩, put_ok hi.ok hu _, g2, ⟨nil0, put_same hu _, ⟨nil0_ok, Nat.zero_le _⟩, rfl, by simp [nil0], rfl, rfl⟩, fun h => by have := hD _ h; omega, Nat.le_refl _, Nat.le_refl _⟩, g3.mono fun k hk hk2 => h3 k hk2 hk, hi.q, by rw [put_used]; exact hi.used, hi.fresh, fun p hp => ?_⟩
  · rcases h with ⟨h | h, _⟩ | h <;> omega
  · have hkD := hD k hk
    rcases h with ⟨h | h, _⟩ | h
    · exact h3 k hk h.1
    · omega
    · omega
  · have hpi : p ≠ i := fun e => hi.fresh (e ▸ hp)
    rw [put_other hpi, hi.other p hpi hp]
end Go.Proofs.Ytcpahknlabnnbaa.T

namespace Go.Proofs.Ytcpahknlabnnbaa.T
open Go Go.RowKit Go.Sort Go.Proofs.Ytcpahknlabnnbaa.Mem

abbrev tA : ByteArray := ⟨#[97]⟩
abbrev tB : ByteArray := ⟨#[98]⟩
theorem ab_lt : ltB tA tB = true := by
  rw [ltB_iff, ByteArray.toList_eq, ByteArray.toList_eq]
  decide
theorem ba_lt : ltB tB tA = false := ltB_asymm ab_lt
theorem ab_ne : ¬ tA = tB := by
  intro h
  have := ab_lt
  rw [h, ltB_irrefl] at this
  exact absurd this (by simp)
theorem rise_b : Rise [tB] := List.pairwise_singleton _ _
theorem rise_ab : Rise [tA, tB] := List.pairwise_cons.2 ⟨fun y hy => by rw [List.mem_singleton.1 hy]; exact ab_lt, rise_b⟩
theorem put_b : putE [] tB = [tB] := by
  have h : posS [] tB = 0 := posS_eq List.Pairwise.nil (Nat.le_refl _) (by simp) (fun x hx => by simp at hx)
  unfold putE
  rw [h]; rfl
theorem put_ab : putE [tB] tA = [tA, tB] := by
  have h : posS [tB] tA = 0 := posS_eq rise_b (Nat.zero_le _) (by simp) (fun x hx => by
    simp only [List.getElem?_cons_zero, Option.some.injEq] at hx
    rw [← hx]; exact ba_lt)
  unfold putE
  rw [h]; rfl
theorem drop_ab : dropE [tA, tB] tB = [tA] := by
  have h : posS [tA, tB] tB = 1 := posS_eq rise_ab (by simp) (fun y hy => by
    simp only [List.take_succ_cons, List.take_zero, List.mem_singleton] at hy
    rw [hy]; exact ab_lt) (fun x hx => by
    simp only [List.getElem?_cons_succ, List.getElem?_cons_zero, Option.some.injEq] at hx
    rw [← hx]; exact ltB_irrefl _)
  unfold dropE
  rw [h]; rfl
theorem ar_ok (n : Int) (h : 0 ≤ n ∧ n ≤ 4096) : (⟨[], [], n⟩ : Ar).Ok := ⟨h, fun _ h => by simp at h, List.nodup_nil⟩
theorem ar_left (n : Int) (h : 1 ≤ n) : 0 < (⟨[], [], n⟩ : Ar).left := by
  unfold Ar.left Ar.used
  simp only [List.length_nil]
  omega
theorem ins_zero {A : Ar} {h : Nat} {es : List ByteArray} {s : ByteArray} (h1 : 1 ≤ s.size ∧ s.size ≤ 400) (h2 : s ∉ es) (h3 : (h : Int) + 2 ≤ A.left) : insCode A h es s = 0 := by
  unfold insCode
  rw [if_neg (by omega), if_neg (by rw [hasB_false.2 h2]; simp), if_neg (by omega)]
set_option maxHeartbeats 4000000 in
set_option maxRecDepth 100000 in
theorem awakeCalls (W : World) : Calls Try.prog 6 #[] W fun e W' => e = .returned (.bool true) ∧ Below W.heap.size W W' := by
  go_enter Try.func6, Try.ntmps6
  go_wp2_with fail
  refine (newArena (D := fun k => k < W.heap.size) 20 W (by omega) (fun _ h => h)).mono ?_
  rintro e W1 ⟨rfl, as1, b1⟩
  have AS1 := put as1
  have B1 := put b1
  clear as1 b1
  go_wp2_with fail
  refine (newTS AS1.out (ar_ok 20 (by omega)) (ar_left 20 (by omega)) (fun k hk => Nat.lt_of_lt_of_le hk B1.out.size)).mono ?_
  rintro e W2 ⟨rfl, A2, i2, t2, k2, q2, u2, _, _⟩
  have T2 := put t2
  have K2 : Kp (Kps (fun b => ¬ b < W.heap.size) W W2) := put ((below_kps B1.out _).trans k2)
  have l2 : A2.left = 19 := by
    unfold Ar.left
    rw [q2, u2]
    unfold Ar.used
    simp only [List.length_nil]
    omega
  have L2 := put l2
  have U2 : Kp (A2.used = 1 ∧ A2.quota = 20) := put ⟨by rw [u2]; rfl, q2⟩
  clear t2 k2 q2 u2 l2
  go_wp2_with fail
  refine (insTS T2.out tB (Nat.le_of_ble_eq_true rfl) (Nat.zero_le _)).mono ?_
  rintro e W3 ⟨c, A3, h3, i3, ps3, rfl, hc, t3, k3, q3, u3, f3⟩
  rw [ins_zero (by exact ⟨Nat.le_of_ble_eq_true rfl, Nat.le_of_ble_eq_true rfl⟩) (by simp) (by rw [L2.out]; exact of_decide_eq_true rfl)] at hc
  subst hc
  rw [if_pos rfl, put_b] at t3
  obtain rfl : h3 = 0 := f3 rfl (Nat.le_of_ble_eq_true rfl)
  have T3 := put t3
  have K3 := put (K2.out.trans k3)
  have l3 : 2 ≤ A3.left := by
    have h1 := U2.out.1
    have h2 := U2.out.2
    unfold Ar.left
    omega
  have L3 := put l3
  clear t3 k3 q3 u3 f3 l3
  go_wp2_with fail
  refine (insTS T3.out tA (Nat.le_of_ble_eq_true rfl) (Nat.le_of_ble_eq_true rfl)).mono ?_
  rintro e W4 ⟨c, A4, h4, i4, ps4, rfl, hc, t4, k4, _, _, f4⟩
  rw [ins_zero (by exact ⟨Nat.le_of_ble_eq_true rfl, Nat.le_of_ble_eq_true rfl⟩) (fun h => ab_ne (List.mem_singleton.1 h)) (by have := L3.out; omega)] at hc
  subst hc
  rw [if_pos rfl, put_ab] at t4
  obtain rfl : h4 = 0 := f4 rfl (Nat.le_of_ble_eq_true rfl)
  have T4 := put t4
  have K4 := put (K3.out.trans k4)
  clear t4 k4 f4
  go_wp2_with fail
  refine (allTS T4.out (Nat.le_of_ble_eq_true rfl)).mono ?_
  rintro e W5 ⟨v, rfl, hr, b5⟩
  obtain ⟨A5, c5, rfl, _⟩ := hr.shape
  obtain ⟨g, o, hA, hg, e0⟩ := hr.get (i := 0) (x := tA) rfl
  subst hA
  have T5 := put (T4.out.below b5)
  have K5 := put (K4.out.trans (below_kps b5 _))
  have e0' : W5.cell? ⟨g, o, none⟩ = some (.string tA) := e0
  have i1 : ([tA, tB] : List ByteArray).length = 2 := rfl
  clear hr b5
  go_wp2_with fail
  refine (delTS T5.out tB (Nat.le_of_ble_eq_true rfl)).mono ?_
  rintro e W6 ⟨A6, h6, i6, ps6, rfl, t6, k6, hh6⟩
  have hb : hasB tB [tA, tB] = true := hasB_true.2 (by simp)
  rw [hb] at t6 ⊢
  rw [if_pos rfl, drop_ab] at t6
  obtain rfl : h6 = 0 := Nat.le_zero.1 hh6
  have T6 := put t6
  have K6 := put (K5.out.trans k6)
  clear t6 k6 hb
  go_wp2_with fail
  refine (lenTS T6.out).mono ?_
  rintro e W7 ⟨rfl, rfl⟩
  go_wp2_with fail
  refine (heightTS T6.out).mono ?_
  rintro e W8 ⟨rfl, rfl⟩
  go_wp2_with fail
  go_ret
  exact ⟨rfl, K6.out.below (fun k hk => Nat.le_of_not_lt hk) (Nat.le_refl _)⟩
end Go.Proofs.Ytcpahknlabnnbaa.T

namespace Go.Proofs.Ytcpahknlabnnbaa.T
open Go Go.RowKit Go.Sort Go.Proofs.Ytcpahknlabnnbaa.Mem

set_option maxHeartbeats 4000000 in
set_option maxRecDepth 100000 in
/-- Same, of equal lists. -/
theorem sameTrue (ok1 ok2 : Nat → Prop) (v1 v2 : Value) (l : List ByteArray) (w : World) (h1 : RdE Value.string ok1 w v1 l) (h2 : RdE Value.string ok2 w v2 l) (hl : l.length ≤ 1000000) :
    Calls Try.prog 15 #[v1, v2] w fun e w' => e = .returned (.bool true) ∧ Below w.heap.size w w' := by
  obtain ⟨A1, c1, rfl, _⟩ := h1.shape
  obtain ⟨A2, c2, rfl, _⟩ := h2.shape
  obtain ⟨m, hm⟩ : ∃ m, m = l.length := ⟨_, rfl⟩
  rw [← hm] at h1 h2 hl ⊢
  have H1 := put h1
  have H2 := put h2
  have HM := put hm
  clear h1 h2 hm
  go_enter Try.func15, Try.ntmps15
  go_wp2_with fail
  go_loopg [5] m (fun kx s5 wr => ∃ (i : Nat), s5 = .int .i64 i ∧ i ≤ m ∧ m - i ≤ kx ∧ Kp (Below w.heap.size w wr))
  case atStart => exact ⟨0, rfl, Nat.zero_le _, Nat.le_refl _, put (Below.refl _ _)⟩
  case round =>
    obtain ⟨i, rfl, hi, hkx, BQ⟩ := hrel
    by_cases hlt : i < m
    · have hlz : (i : Int) < (m : Int) := by omega
      have hnn : (0 : Int) ≤ (i : Int) := by omega
      have hwr : IntKind.i64.wrap ((i : Int) + 1) = (i : Int) + 1 := IntWalk.i64_in _ (by omega)
      obtain ⟨x, g1, o1, hx, hA1, hg1, y1⟩ := (H1.out.below BQ.out).at' (i := i) (by rw [← HM.out]; exact hlt)
      obtain ⟨x', g2, o2, hx', hA2, hg2, y2⟩ := (H2.out.below BQ.out).at' (i := i) (by rw [← HM.out]; exact hlt)
      rw [hx] at hx'
      injection hx' with hx'
      subst hx' hA1 hA2
      have z1 : ∀ n, (wr.drewN n).cell? ⟨g1, o1 + i, none⟩ = some (.string x) := fun _ => y1
      have z2 : ∀ n, (wr.drewN n).cell? ⟨g2, o2 + i, none⟩ = some (.string x) := fun _ => y2
      clear hx
      go_wp2_with fail
      go_quiet (fail)
      go_wp2_with fail
      go_roundg (m - (i + 1))
      case measure => exact Nat.lt_of_lt_of_le (Nat.sub_lt_sub_left hlt (Nat.lt_succ_self i)) hkx
      case rel => exact ⟨i + 1, rfl, hlt, Nat.le_refl _, put (bdr' BQ.out _)⟩
    · have hlz : ¬ (i : Int) < (m : Int) := by omega
      go_wp2_with fail
      go_ret
      exact ⟨rfl, BQ.out⟩
/-- A row under way. -/
structure RgS (base : Nat) (w wr : World) (v : Value) (l : List ByteArray) : Prop where
  o : Own tStr 9 no wr base v l
  b : Below base w wr
theorem RgS.shape {base : Nat} {w wr : World} {v : Value} {l : List ByteArray} (s : RgS base w wr v l) : ∃ A n c, v = .slice A n c := by
  obtain ⟨A, c, e, _⟩ := s.o.form
  exact ⟨A, _, c, e⟩
/-- The entries from fr on, below to. -/
def rangeE (fr to : ByteArray) (l : List ByteArray) : List ByteArray := l.filter fun x => !ltB x fr && (to.toList.isEmpty || ltB x to)
set_option maxHeartbeats 4000000 in
set_option maxRecDepth 100000 in
theorem rangeCalls {D : Nat → Prop} (S : Nat) (l : List ByteArray) (fr to : ByteArray) (w : World) (s : SetR D S w l) (hl : l.length ≤ 1000000) :
    Calls Try.prog 17 #[.pointer (some ⟨S, 0, none⟩), .string fr, .string to] w fun e w' => ∃ v, e = .returned v ∧ RdE Value.string (fun k => w.heap.size ≤ k ∧ k < w'.heap.size) w' v (rangeE fr to l) ∧ Below w.heap.size w w' := by
  obtain ⟨v, hv1, hv2⟩ := s.out
  obtain ⟨A5, c5, rfl, hv3, hv4, _⟩ := hv2.shape
  have HS := put hv1
  have HR := put hv2
  obtain ⟨m, hm⟩ : ∃ m, m = l.length := ⟨_, rfl⟩
  rw [← hm] at HS HR hl
  have HM := put hm
  have hSl := (Array.getElem?_eq_some_iff.1 HS.out).1
  clear s hv1 hv2 hv3 hv4 hm
  go_enter Try.func17, Try.ntmps17
  go_wp2_with fail
  have ST0 : Kp (RgS w.heap.size w (w.alloc (.cells #[] 9)) (.slice (some ⟨w.heap.size, 0, none⟩) 0 0) (rangeE fr to (l.take 0))) := put ⟨by rw [List.take_zero]; exact Own.lit' _ (heap_alloc_new _ _) (Nat.le_refl _), balloc (Below.refl _ _) _⟩
  go_loopg [7, 8] m (fun kx s7 s8 wr => ∃ (i : Nat), s8 = .int .i64 i ∧ i ≤ m ∧ m - i ≤ kx ∧ Kp (RgS w.heap.size w wr s7 (rangeE fr to (l.take i))))
  case atStart => exact ⟨0, rfl, Nat.zero_le _, Nat.le_refl _, ST0⟩
  case round =>
    obtain ⟨i, rfl, hi, hkx, ST⟩ := hrel
    have hSr := (ST.out.b.block S hSl).trans HS.out
    have x0 : wr.cell? ⟨S, 0, none⟩ = some (.slice A5 m c5) := by simp [World.cell?, hSr]
    by_cases hlt : i < m
    · have hlz : (i : Int) < (m : Int) := by omega
      have hnn : (0 : Int) ≤ (i : Int) := by omega
      have hwr : IntKind.i64.wrap ((i : Int) + 1) = (i : Int) + 1 := IntWalk.i64_in _ (by omega)
      obtain ⟨x, g1, o1, hx, hA1, hg1, y1⟩ := (HR.out.below ST.out.b).at' (i := i) (by rw [← HM.out]; exact hlt)
      subst hA1
      have HX := put hx
      have HTK : Kp (rangeE fr to (l.take (i + 1)) = rangeE fr to (l.take i) ++ rangeE fr to [x]) := put (by rw [take1 hx]; unfold rangeE; exact List.filter_append _ _)
      have HLN : Kp ((rangeE fr to (l.take i)).length ≤ 1000000) := put (by
        have h1 := List.length_filter_le (fun x => !ltB x fr && (to.toList.isEmpty || ltB x to)) (l.take i)
        have h2 : (rangeE fr to (l.take i)).length ≤ (l.take i).length := h1
        rw [List.length_take] at h2
        omega)
      have h1x : Kp (rangeE fr to [x] = if (!ltB x fr && (to.toList.isEmpty || ltB x to)) = true then [x] else []) := put (by unfold rangeE; rw [List.filter_cons]; rfl)
      obtain ⟨V7, n7, c7, e7⟩ := ST.out.shape
      subst e7
      obtain ⟨bf, hbf⟩ : ∃ bf, bf = ltB x fr := ⟨_, rfl⟩
      obtain ⟨bt', hbt⟩ : ∃ b, b = ltB x to := ⟨_, rfl⟩
      obtain ⟨be, hbe⟩ : ∃ b, b = to.toList.isEmpty := ⟨_, rfl⟩
      rw [← hbf, ← hbt, ← hbe] at h1x
      have r1 : Op.bytesLess x.toList fr.toList = bf := hbf.symm
      have r2 : Op.bytesLess x.toList to.toList = bt' := hbt.symm
      have r3 : to.toList.isEmpty = be := hbe.symm
      clear hx hbf hbt hbe
      cases bf with
      | true =>
        have HEQ : Kp (rangeE fr to (l.take (i + 1)) = rangeE fr to (l.take i)) := put (by rw [HTK.out, h1x.out]; simp)
        go_wp2_with fail
        go_roundg (m - (i + 1))
        case measure => omega
        case rel => exact ⟨i + 1, rfl, by omega, Nat.le_refl _, put (by rw [HEQ.out]; exact ST.out)⟩
      | false =>
        cases be with
        | true =>
          have HEQ : Kp (rangeE fr to (l.take (i + 1)) = rangeE fr to (l.take i) ++ [x]) := put (by rw [HTK.out, h1x.out]; simp)
          go_wp2_with (at_builtin; go_loud (refine wpList_push tStr w.heap.size rfl _ _ 33 9 _ 16 rfl Try.underlying33 infoStr rfl (by decide) (by decide) (.slice V7 n7 c7) (rangeE fr to (l.take i)) x [.string x] no rfl rfl rfl ST.out.o ST.out.b.size (by have := HLN.out; omega) ?_; intro v1 w6 ho hg hat; have HO6 := put ho; have HG6 := put hg; clear ho hg hat))
          go_roundg (m - (i + 1))
          case measure => omega
          case rel => exact ⟨i + 1, rfl, by omega, Nat.le_refl _, put ⟨by rw [HEQ.out]; exact HO6.out, Below.grown ST.out.b HG6.out ST.out.b.size (fun k hk => (ST.out.o.lt k hk).1)⟩⟩
        | false =>
          cases bt' with
          | true =>
            have HEQ : Kp (rangeE fr to (l.take (i + 1)) = rangeE fr to (l.take i) ++ [x]) := put (by rw [HTK.out, h1x.out]; simp)
            go_wp2_with (at_builtin; go_loud (refine wpList_push tStr w.heap.size rfl _ _ 33 9 _ 16 rfl Try.underlying33 infoStr rfl (by decide) (by decide) (.slice V7 n7 c7) (rangeE fr to (l.take i)) x [.string x] no rfl rfl rfl ST.out.o ST.out.b.size (by have := HLN.out; omega) ?_; intro v1 w6 ho hg hat; have HO6 := put ho; have HG6 := put hg; clear ho hg hat))
            go_roundg (m - (i + 1))
            case measure => omega
            case rel => exact ⟨i + 1, rfl, by omega, Nat.le_refl _, put ⟨by rw [HEQ.out]; exact HO6.out, Below.grown ST.out.b HG6.out ST.out.b.size (fun k hk => (ST.out.o.lt k hk).1)⟩⟩
          | false =>
            have HEQ : Kp (rangeE fr to (l.take (i + 1)) = rangeE fr to (l.take i)) := put (by rw [HTK.out, h1x.out]; simp)
            go_wp2_with fail
            go_roundg (m - (i + 1))
            case measure => omega
            case rel => exact ⟨i + 1, rfl, by omega, Nat.le_refl _, put (by rw [HEQ.out]; exact ST.out)⟩
    · have hlz : ¬ (i : Int) < (m : Int) := by omega
      obtain rfl : i = m := by omega
      have hall : l.take i = l := List.take_of_length_le (by rw [← HM.out]; exact Nat.le_refl _)
      rw [hall] at ST
      clear hall
      obtain ⟨V7, n7, c7, e7⟩ := ST.out.shape
      subst e7
      go_wp2_with fail
      go_ret
      exact ⟨_, rfl, (own_rd strD rfl ST.out.o).mono fun k hk => ST.out.o.lt k hk, ST.out.b⟩
end Go.Proofs.Ytcpahknlabnnbaa.T

namespace Go.Proofs.Ytcpahknlabnnbaa.T
open Go Go.RowKit Go.Sort Go.Proofs.Ytcpahknlabnnbaa.Mem

def ltT (to x : ByteArray) : Bool := to.toList.isEmpty || ltB x to
theorem range_from (fr to : ByteArray) (l : List ByteArray) : rangeE fr to l = (fromE fr l).filter (ltT to) := by
  unfold rangeE fromE
  rw [List.filter_filter]
  congr 1
  funext x
  unfold ltT
  rw [Bool.and_comm]
theorem ltT_of {to y : ByteArray} (h : to = ⟨#[]⟩ ∨ ltB y to = true) : ltT to y = true := by
  unfold ltT
  rcases h with h | h
  · rw [h, nilB]; rfl
  · rw [h]; simp
theorem ltT_not {to x : ByteArray} (h1 : to ≠ ⟨#[]⟩) (h2 : ltB x to = false) : ltT to x = false := by
  unfold ltT
  rw [h2, Bool.or_false]
  cases h : to.toList with
  | nil => exact absurd (toListB_inj (by rw [h, nilB])) h1
  | cons a l => rfl
theorem rng_all {G : List ByteArray} {to : ByteArray} (h : ∀ y ∈ G, to = ⟨#[]⟩ ∨ ltB y to = true) : G.filter (ltT to) = G := by
  rw [List.filter_eq_self]
  exact fun y hy => ltT_of (h y hy)
theorem rng_stop {G : List ByteArray} {to x : ByteArray} {j : Nat} (hr : Rise G) (hx : G[j]? = some x) (h1 : to ≠ ⟨#[]⟩) (h2 : ltB x to = false) (h : ∀ y ∈ G.take j, to = ⟨#[]⟩ ∨ ltB y to = true) : G.filter (ltT to) = G.take j := by
  conv => lhs; rw [← List.take_append_drop j G]
  rw [List.filter_append, rng_all h, List.filter_eq_nil_iff.2, List.append_nil]
  intro y hy
  have hj := (List.getElem?_eq_some_iff.1 hx).1
  have hge : ltB y to = false := by
    rw [List.drop_eq_getElem_cons hj, show G[j] = x from (List.getElem?_eq_some_iff.1 hx).2] at hy
    rcases List.mem_cons.1 hy with rfl | hy
    · exact h2
    · have hs : Rise (G.drop j) := hr.sublist (List.drop_sublist _ _)
      rw [List.drop_eq_getElem_cons hj, show G[j] = x from (List.getElem?_eq_some_iff.1 hx).2] at hs
      exact leB_trans h2 (ltB_asymm (rise_head hs y hy))
  rw [ltT_not h1 hge]
  simp
theorem from_rise {fr : ByteArray} {es : List ByteArray} (h : Rise es) : Rise (fromE fr es) := h.sublist List.filter_sublist
theorem from_len (fr : ByteArray) (es : List ByteArray) : (fromE fr es).length ≤ es.length := List.length_filter_le _ _
section
variable {a T : Nat} {D : Nat → Prop} {W : World} {A : Ar} {h i : Nat} {es : List ByteArray} {ps : List Nat} {m : Nat}
theorem eachRange (t : TS a T D W A h i es ps m) (hm : m ≤ 900000) (O : Nat) (fr to : ByteArray) (hO : W.heap[O]? = some (.cells #[.slice none 0 0] 33 (0, 0))) (hD : D O) :
    Calls Try.prog 18 #[.pointer (some ⟨T, 0, none⟩), .string fr, .string to, .func (.func 19) #[] #[.pointer (some ⟨O, 0, none⟩)]] W fun e W' => e = .returned (.tuple #[]) ∧ (∃ v, W'.heap[O]? = some (.cells #[v] 33 (0, 0)) ∧ RdE Value.string (fun k => W.heap.size ≤ k ∧ k < W'.heap.size) W' v (rangeE fr to es)) ∧ Kps (fun k => k = O) W W' := by
  obtain ⟨ok, h1, h2, h3, h4⟩ := t.out
  have hOl := (Array.getElem?_eq_some_iff.1 hO).1
  have hsf : ∀ b, SFa O W b → b = O := fun b hb => by
    rcases hb with hb | ⟨v, hv, hb⟩
    · exact hb
    · rw [hO] at hv
      injection hv with hv
      injection hv with hv
      have hv : Value.slice none 0 0 = v := by simpa using hv
      subst hv
      simp [Value.ownBlock] at hb
  have hcb := cb_app (g := 19) O W.heap.size (fromE fr es) to (by have := from_len fr es; have := t.em; omega) (fun v xs x W h1 h2 h3 h4 h5 => rngFun O _ v xs x W h1 h2 h3 h4 h5) (enters_of Try.func19 (by kernel_rfl) rfl)
  refine (eachCalls (ok := fun b => ok b ∧ b < W.heap.size) T a h i ((h : Int) + 1) es.length A top es ps W hcb t.t (by omega) t.s h1.bnd (fun b hb => ⟨hb.2, fun e => h4 O hD (hsf b e ▸ hb.1)⟩) (fun e => t.dt (hsf T e ▸ hD)) ⟨⟨_, hO, by rw [List.take_zero]; exact Own.nil _ _ _ _ _⟩, by simp, Nat.le_refl _, hOl⟩).mono ?_
  rintro e W' ⟨rfl, ⟨b, hA⟩, hF⟩
  refine ⟨rfl, ?_, hF.k.mono hsf⟩
  have hx := hA.out
  cases b with
  | true =>
    have hP : Pa O W.heap.size (fromE fr es) to (fromE fr es).length W' := hx
    obtain ⟨v, hv, ho⟩ := hP.out
    have hal := hP.all
    rw [List.take_length] at ho hal
    refine ⟨v, hv, ?_⟩
    rw [range_from, rng_all hal]
    exact (own_rd strD rfl ho).mono fun k hk => ho.lt k hk
  | false =>
    obtain ⟨j, x, hj, h5, h6, hP⟩ : Fa O W.heap.size (fromE fr es) to W' := hx
    obtain ⟨v, hv, ho⟩ := hP.out
    refine ⟨v, hv, ?_⟩
    rw [range_from, rng_stop (from_rise t.s.rise) hj h5 h6 hP.all]
    exact (own_rd strD rfl ho).mono fun k hk => ho.lt k hk
end
/-- j entries are counted, and that is not enough. -/
structure Pc (N X : Nat) (st : Nat) (G : List ByteArray) (to : ByteArray) (j : Nat) (W : World) : Prop where
  n : W.heap[N]? = some (.cells #[.int .i64 j] 3 (0, 0))
  x : W.heap[X]? = some (.cells #[.int .u8 st] 5 (0, 0))
  all : ∀ y ∈ G.take j, to = ⟨#[]⟩ ∨ ltB y to = true
  le : j ≤ st
def Fc (N : Nat) (st : Nat) (G : List ByteArray) (to : ByteArray) (W : World) : Prop := W.heap[N]? = some (.cells #[.int .i64 (min (G.filter (ltT to)).length (st + 1) : Nat)] 3 (0, 0))
set_option maxHeartbeats 4000000 in
set_option maxRecDepth 100000 in
theorem cntFun (N X st j : Nat) (x : ByteArray) (W : World) (hN : W.heap[N]? = some (.cells #[.int .i64 j] 3 (0, 0))) (hX : W.heap[X]? = some (.cells #[.int .u8 st] 5 (0, 0))) (hst : st ≤ 255) (hj : j ≤ st) :
    Calls Try.prog 20 #[.string x, .pointer (some ⟨N, 0, none⟩), .pointer (some ⟨X, 0, none⟩)] W fun e w' => e = .returned (.bool (decide (((j + 1 : Nat) : Int) ≤ (st : Int)))) ∧ w' = W.setCell ⟨N, 0, none⟩ (.int .i64 ((j + 1 : Nat) : Int)) := by
  have x0 : W.cell? ⟨N, 0, none⟩ = some (.int .i64 j) := by simp [World.cell?, hN]
  have x1 : W.cell? ⟨X, 0, none⟩ = some (.int .u8 st) := by simp [World.cell?, hX]
  have f0 : W.frozen? ⟨N, 0, none⟩ = false := by simp [World.frozen?, hN]
  have hne : N ≠ X := fun e => by
    rw [e, hX] at hN
    injection hN with hN
    injection hN with _ hN _
    exact absurd hN (by decide)
  have k1 : IntKind.i64.wrap ((j : Int) + 1) = ((j + 1 : Nat) : Int) := by rw [IntWalk.i64_in _ (by omega)]; omega
  have k2 : IntKind.i64.wrap (st : Int) = (st : Int) := IntWalk.i64_in _ (by omega)
  have hNl := (Array.getElem?_eq_some_iff.1 hN).1
  clear hN hX
  go_enter Try.func20, Try.ntmps20
  go_wp2_with fail
  go_ret
  exact ⟨rfl, rfl⟩
theorem filter_take {G : List ByteArray} {to : ByteArray} {j : Nat} (hj : j ≤ G.length) (h : ∀ y ∈ G.take j, to = ⟨#[]⟩ ∨ ltB y to = true) : j ≤ (G.filter (ltT to)).length := by
  have h1 : ((G.take j).filter (ltT to)).length ≤ (G.filter (ltT to)).length := ((List.take_sublist j G).filter _).length_le
  rw [rng_all h, List.length_take] at h1
  omega
theorem cb_cnt (N X st : Nat) (G : List ByteArray) (to : ByteArray) (hr : Rise G) (hst : st ≤ 255) : Cb 20 #[] #[.pointer (some ⟨N, 0, none⟩), .pointer (some ⟨X, 0, none⟩)] (fun _ b => b = N) (Pc N X st G to) (Fc N st G to) G to := by
  refine ⟨fun j x W hx ht hP => ?_, fun j x W hx h1 h2 hP => ?_, fun j W W' hP hb => ?_, enters_of Try.func20 (by kernel_rfl) rfl⟩
  · have hall : ∀ y ∈ G.take (j + 1), to = ⟨#[]⟩ ∨ ltB y to = true := fun y hy => by
      rw [take1 hx] at hy
      rcases List.mem_append.1 hy with hy | hy
      · exact hP.all y hy
      · rw [List.mem_singleton.1 hy]; exact ht
    have hne : X ≠ N := fun e => by
      have h1 := hP.n
      rw [← e, hP.x] at h1
      injection h1 with h1
      injection h1 with _ h1 _
      exact absurd h1 (by decide)
    have hjl := (List.getElem?_eq_some_iff.1 hx).1
    refine (cntFun N X st j x W hP.n hP.x hst hP.le).mono ?_
    rintro e w' ⟨rfl, rfl⟩
    have hn' : (W.setCell ⟨N, 0, none⟩ (.int .i64 ((j + 1 : Nat) : Int))).heap[N]? = some (.cells #[.int .i64 ((j + 1 : Nat) : Int)] 3 (0, 0)) := (setCell_heap hP.n 0 _).trans rfl
    refine ⟨_, rfl, ?_, ⟨(Kps.refl (fun b => b = N) W).set (.inl rfl) 0 _, fun _ _ h => h⟩⟩
    by_cases hd : ((j + 1 : Nat) : Int) ≤ (st : Int)
    · rw [decide_eq_true hd]
      exact ⟨⟨hn', (Below.heap_setCell _ ⟨N, 0, none⟩ _ X (by exact hne)).trans hP.x, hall, by omega⟩⟩
    · rw [decide_eq_false hd]
      have h2 := filter_take (Nat.succ_le_of_lt hjl) hall
      have h3 : min (G.filter (ltT to)).length (st + 1) = j + 1 := by have := hP.le; omega
      exact ⟨show Fc N st G to _ by unfold Fc; rw [h3]; exact hn'⟩
  · unfold Fc
    rw [rng_stop hr hx h1 h2 hP.all, List.length_take]
    have hj := (List.getElem?_eq_some_iff.1 hx).1
    rw [show min (min j G.length) (st + 1) = j by have := hP.le; omega]
    exact hP.n
  · have hNl := (Array.getElem?_eq_some_iff.1 hP.n).1
    exact ⟨⟨(hb.block N hNl).trans hP.n, (hb.block X (Array.getElem?_eq_some_iff.1 hP.x).1).trans hP.x, hP.all, hP.le⟩, fun b _ e => ⟨e, e ▸ hNl⟩⟩
section
variable {a T : Nat} {D : Nat → Prop} {W : World} {A : Ar} {h i : Nat} {es : List ByteArray} {ps : List Nat} {m : Nat}
theorem eachCount (t : TS a T D W A h i es ps m) (N X st : Nat) (fr to : ByteArray) (hN : W.heap[N]? = some (.cells #[.int .i64 0] 3 (0, 0))) (hX : W.heap[X]? = some (.cells #[.int .u8 st] 5 (0, 0))) (hst : st ≤ 255) (hD : D N) :
    Calls Try.prog 18 #[.pointer (some ⟨T, 0, none⟩), .string fr, .string to, .func (.func 20) #[] #[.pointer (some ⟨N, 0, none⟩), .pointer (some ⟨X, 0, none⟩)]] W fun e W' => e = .returned (.tuple #[]) ∧ W'.heap[N]? = some (.cells #[.int .i64 (min (rangeE fr to es).length (st + 1) : Nat)] 3 (0, 0)) ∧ Kps (fun k => k = N) W W' := by
  obtain ⟨ok, h1, h2, h3, h4⟩ := t.out
  refine (eachCalls (ok := fun b => ok b ∧ b < W.heap.size) T a h i ((h : Int) + 1) es.length A top es ps W (cb_cnt N X st (fromE fr es) to (from_rise t.s.rise) hst) t.t (by omega) t.s h1.bnd (fun b hb => ⟨hb.2, fun e => h4 N hD (e ▸ hb.1)⟩) (fun e => t.dt (e ▸ hD)) ⟨hN, hX, by simp, Nat.zero_le _⟩).mono ?_
  rintro e W' ⟨rfl, ⟨b, hA⟩, hF⟩
  refine ⟨rfl, ?_, hF.k⟩
  have hx := hA.out
  rw [range_from]
  cases b with
  | true =>
    have hP : Pc N X st (fromE fr es) to (fromE fr es).length W' := hx
    have hal := hP.all
    rw [List.take_length] at hal
    rw [rng_all hal, show min (fromE fr es).length (st + 1) = (fromE fr es).length by have := hP.le; omega]
    exact hP.n
  | false => exact hx
end
end Go.Proofs.Ytcpahknlabnnbaa.T

namespace Go.Proofs.Ytcpahknlabnnbaa.T
open Go Go.RowKit Go.Sort Go.Proofs.Ytcpahknlabnnbaa.Mem

/-- A tree and its rising list, in a loop: what lies below B is as it was in W0. -/
structure PL (B : Nat) (W0 : World) (a T S : Nat) (j : Nat) (wr : World) : Prop where
  out : ∃ (D : Nat → Prop) (A : Ar) (h i : Nat) (es : List ByteArray) (ps : List Nat), (∀ k, k < B → D k) ∧ TS a T D wr A h i es ps j ∧ SetR D S wr es
  k : Kps (fun b => ¬ b < B) W0 wr
  s : B ≤ S
theorem PL.below {B : Nat} {W0 : World} {a T S j : Nat} {wr wr' : World} (p : PL B W0 a T S j wr) (hb : Below wr.heap.size wr wr') : PL B W0 a T S j wr' := by
  obtain ⟨D, A, h, i, es, ps, h1, h2, h3⟩ := p.out
  exact ⟨⟨D, A, h, i, es, ps, h1, h2.below hb, h3.below hb⟩, p.k.trans (below_kps hb _), p.s⟩
theorem PL.up {B : Nat} {W0 : World} {a T S j j' : Nat} {wr : World} (p : PL B W0 a T S j wr) (hj : j ≤ j') : PL B W0 a T S j' wr := by
  obtain ⟨D, A, h, i, es, ps, h1, h2, h3⟩ := p.out
  exact ⟨⟨D, A, h, i, es, ps, h1, h2.up hj, h3⟩, p.k, p.s⟩
theorem PL.step {B : Nat} {W0 : World} {a T S j : Nat} {wr : World} (p : PL B W0 a T S j wr) (hj : j ≤ 900000) (o : Opr) (ho : o.s.size ≤ 420) (hn : -9223372036854775808 ≤ o.n ∧ o.n ≤ 9223372036854775807) :
    Calls Try.prog 10 #[.pointer (some ⟨a, 0, none⟩), .pointer (some ⟨T, 0, none⟩), .pointer (some ⟨S, 0, none⟩), .agg #[.int .i64 o.k, .int .i64 o.n, .string o.s]] wr fun e w' => e = .returned (.bool true) ∧ PL B W0 a T S (j + 1) w' := by
  obtain ⟨D, A, h, i, es, ps, h1, h2, h3⟩ := p.out
  refine (stepCalls h2 h3 o ho hn hj).mono ?_
  rintro e w' ⟨rfl, D', A', h', i', es', ps', g1, g2, g3, g4⟩
  refine ⟨rfl, ⟨⟨D', A', h', i', es', ps', fun k hk => g1 k (h1 k hk), g2, g3⟩, p.k.trans (g4.mono fun b hb hlt => ?_), p.s⟩⟩
  rcases hb with hb | hb
  · exact hb (h1 b hlt)
  · have := p.s; omega
/-- The beginning. -/
theorem PL.new {B : Nat} {W0 W1 : World} {a T : Nat} {A : Ar} {i : Nat} {ps : List Nat} (t : TS a T (fun k => k < B) W1 A 0 i [] ps 0) (k : Kps (fun b => ¬ b < B) W0 W1) (hB : B ≤ W1.heap.size) : PL B W0 a T W1.heap.size 0 (W1.alloc (.cells #[.slice none 0 0] 35)) := by
  have hb : Below W1.heap.size W1 (W1.alloc (.cells #[.slice none 0 0] 35)) := balloc (Below.refl _ _) _
  refine ⟨⟨fun b => b < B ∨ b = W1.heap.size, A, 0, i, [], ps, fun _ h => .inl h, t.step (below_kps hb _) (fun b hb => ?_), ⟨.inr rfl, ⟨_, heap_alloc_new _ _, RdE.nil _ _ _⟩, List.Pairwise.nil⟩⟩, k.trans (below_kps hb _), hB⟩
  rcases hb with hb | hb
  · exact .inl hb
  · exact .inr ⟨by omega, by rw [alloc_size]; omega⟩
set_option maxHeartbeats 4000000 in
set_option maxRecDepth 100000 in
theorem rangesCalls (okx : Nat → Prop) (v : Value) (zs : List Opr) (fr to : ByteArray) (st : Nat) (W : World) (hst : st ≤ 255) (hz : Sl tOp okx W v zs) :
    Calls Try.prog 4 #[v, .agg #[.string fr, .string to, .int .u8 st]] W fun e W' => e = .returned (.bool true) ∧ Below W.heap.size W W' := by
  obtain ⟨A0, c0, rfl, l1, l2, l3⟩ := hz.shape
  have KS := put hz
  obtain ⟨mm, hmm⟩ : ∃ mm, mm = zs.length := ⟨_, rfl⟩
  rw [← hmm] at l1 l3 KS ⊢
  have HMM := put hmm
  clear hz hmm
  obtain ⟨w1, hw1⟩ : ∃ w1, w1 = W.alloc (.cells #[.string fr, .string to, .int .u8 st] 49) := ⟨_, rfl⟩
  have B1 : Kp (Below W.heap.size W w1) := put (by rw [hw1]; exact balloc (Below.refl _ _) _)
  have HX1 := put (show w1.heap[W.heap.size]? = some (.cells #[.string fr, .string to, .int .u8 st] 49 (0, 0)) by rw [hw1]; exact heap_alloc_new _ _)
  have HW1 := put hw1
  clear hw1
  go_enter Try.func4, Try.ntmps4
  go_wp2_with fail
  rw [← HW1.out]
  refine (awakeCalls w1).mono ?_
  rintro e w2 ⟨rfl, hb2⟩
  have B2 := put (bt B1.out hb2)
  obtain ⟨x0, x1, x2⟩ := c3 ((hb2.block _ (Array.getElem?_eq_some_iff.1 HX1.out).1).trans HX1.out)
  clear hb2
  go_wp2_with fail
  go_region_held3 (fun w' => w'.cell? ⟨W.heap.size, 0, none⟩ = some (.string fr) ∧ w'.cell? ⟨W.heap.size, 1, none⟩ = some (.string to) ∧ w'.cell? ⟨W.heap.size, 2, none⟩ = some (.int .u8 st)) (first | go_keep | exact ⟨x0, x1, x2⟩) (first | fail)
  obtain ⟨w3, hw3⟩ : ∃ w3, w3 = (w2.alloc (.cells #[.int .u8 st] 5)).drew := ⟨_, rfl⟩
  rw [← hw3]
  have B3 : Kp (Below W.heap.size W w3) := put (bt B2.out (by rw [hw3]; exact (balloc (Below.refl _ _) _).drew))
  have HX2 := put (show w3.heap[w2.heap.size]? = some (.cells #[.int .u8 st] 5 (0, 0)) by rw [hw3]; exact heap_alloc_new _ _)
  clear hw3 x0 x1 x2
  go_wp2_with fail
  refine (greatCalls okx _ 200 zs w3 (by have := KS.out.below B3.out; rw [← HMM.out] at *; exact this) (by omega)).mono ?_
  rintro e w4 ⟨⟨b, rfl, hsm⟩, hb4⟩
  have HX4 := put ((hb4.block _ (Array.getElem?_eq_some_iff.1 HX2.out).1).trans HX2.out)
  have B4 := put (bt B3.out hb4)
  have HSM := put hsm
  clear hb4 hsm
  cases b with
  | true =>
    go_wp2_with fail
    go_ret
    exact ⟨rfl, B4.out⟩
  | false =>
  by_cases hf1 : (420 : Int) < fr.size
  · go_wp2_with fail
    go_ret
    exact ⟨rfl, B4.out⟩
  by_cases hf2 : (420 : Int) < to.size
  · go_wp2_with fail
    go_ret
    exact ⟨rfl, B4.out⟩
  have SM := put (HSM.out rfl)
  have hmm2 : mm ≤ 200 := by rw [HMM.out]; exact SM.out.1
  go_wp2_with fail
  refine (newArena (D := fun k => k < w4.heap.size) 4000 w4 (by omega) (fun _ h => h)).mono ?_
  rintro e w5 ⟨rfl, as1, b1⟩
  have AS1 := put as1
  have B5 := put b1
  clear as1 b1
  go_wp2_with fail
  refine (newTS AS1.out (ar_ok 4000 (by omega)) (ar_left 4000 (by omega)) (fun k hk => Nat.lt_of_lt_of_le hk B5.out.size)).mono ?_
  rintro e w6 ⟨rfl, A6, i6, t6, k6, _, _, _, _⟩
  have P0 : Kp (PL w4.heap.size w4 w4.heap.size w5.heap.size w6.heap.size 0 (w6.alloc (.cells #[.slice none 0 0] 35))) := put (PL.new t6 ((below_kps B5.out _).trans k6) (Nat.le_trans B5.out.size k6.size))
  clear t6 k6
  go_wp2_with fail
  obtain ⟨a, ha⟩ : ∃ a, a = w4.heap.size := ⟨_, rfl⟩
  obtain ⟨T, hT⟩ : ∃ T, T = w5.heap.size := ⟨_, rfl⟩
  obtain ⟨S, hS⟩ : ∃ S, S = w6.heap.size := ⟨_, rfl⟩
  obtain ⟨w7, hw7⟩ : ∃ w7, w7 = w6.alloc (.cells #[.slice none 0 0] 35) := ⟨_, rfl⟩
  rw [← hw7, ← hT, ← hS]
  rw [← hw7, ← hT, ← hS] at P0
  have HXL := (Array.getElem?_eq_some_iff.1 HX4.out).1
  have P1 : Kp (PL w4.heap.size w4 a T S 0 w7) := put (by rw [ha]; exact P0.out)
  rw [← ha]
  clear hw7 hT hS P0 ha
  go_loopg [53] mm (fun kx s53 wr => ∃ (i : Nat), s53 = .int .i64 i ∧ i ≤ mm ∧ mm - i ≤ kx ∧ Kp (PL w4.heap.size w4 a T S i wr))
  case atStart => exact ⟨0, rfl, Nat.zero_le _, Nat.le_refl _, P1⟩
  case round =>
    obtain ⟨i, rfl, hi, hkx, PP⟩ := hrel
    have BW : Kp (Below W.heap.size W wr) := put (bt B4.out (PP.out.k.below (fun k hk => Nat.le_of_not_lt hk) (Nat.le_refl _)))
    by_cases hlt : i < mm
    · have hlz : (i : Int) < (mm : Int) := by omega
      have i0 : (0 : Int) ≤ (i : Int) := by omega
      have hwr : IntKind.i64.wrap ((i : Int) + 1) = (i : Int) + 1 := IntWalk.i64_in _ (by omega)
      obtain ⟨ad, o, rfl, ho, hon, x0, x1, x2⟩ := ops_get (KS.out.below BW.out).row.1 i (by rw [← HMM.out]; exact hlt)
      have hos : o.s.size ≤ 420 := SM.out.2 o (List.mem_of_getElem? ho)
      obtain ⟨w8, hw8⟩ : ∃ w8, w8 = wr.alloc (.cells #[.int .i64 o.k, .int .i64 o.n, .string o.s] 37) := ⟨_, rfl⟩
      have P8 : Kp (PL w4.heap.size w4 a T S i w8) := put (PP.out.below (by rw [hw8]; exact balloc (Below.refl _ _) _))
      have HW8 := put hw8
      have SC := put (P8.out.step (by omega) o hos hon)
      clear ho hw8
      by_cases hk3 : o.k = 3
      · have HW8' := put (show w8 = wr.alloc (.cells #[.int .i64 3, .int .i64 o.n, .string o.s] 37) by rw [HW8.out, hk3])
        go_wp2_with fail
        rw [← HW8'.out]
        have P9 := put (P8.out.up (Nat.le_succ i))
        go_roundg (mm - (i + 1))
        case measure => omega
        case rel => exact ⟨i + 1, rfl, by omega, Nat.le_refl _, P9⟩
      · go_wp2_with fail
        rw [← HW8.out]
        refine SC.out.mono ?_
        rintro e w9 ⟨rfl, hp⟩
        have P9 := put hp
        clear hp
        go_wp2_with fail
        go_roundg (mm - (i + 1))
        case measure => omega
        case rel => exact ⟨i + 1, rfl, by omega, Nat.le_refl _, P9⟩
    · have hlz : ¬ (i : Int) < (mm : Int) := by omega
      obtain rfl : i = mm := by omega
      obtain ⟨D, A, h, i', es, ps, hD, ht, hs⟩ := PP.out.out
      have TT := put ht
      have hem := ht.em
      have RC := put (rangeCalls S es fr to wr hs (by omega))
      have HX5 := put ((PP.out.k.block _ HXL (fun h => h HXL)).trans HX4.out)
      have HXL2 := (Array.getElem?_eq_some_iff.1 HX5.out).1
      clear hs ht hD
      go_wp2_with fail
      refine RC.out.mono ?_
      rintro e w10 ⟨vv, rfl, hrd, hb10⟩
      obtain ⟨A9, c9, rfl, _⟩ := hrd.shape
      obtain ⟨rl, hrl⟩ : ∃ rl, rl = (rangeE fr to es).length := ⟨_, rfl⟩
      rw [← hrl] at hrd
      have RD := put hrd
      have HRL := put hrl
      have B10 := put hb10
      have BW10 := put (bt BW.out hb10)
      clear hrd hrl hb10
      rw [← HRL.out]
      obtain ⟨w11, hw11⟩ : ∃ w11, w11 = w10.alloc (.cells #[.slice none 0 0] 33) := ⟨_, rfl⟩
      have hb11 : Below w10.heap.size w10 w11 := by rw [hw11]; exact balloc (Below.refl _ _) _
      have hO : w11.heap[w10.heap.size]? = some (.cells #[.slice none 0 0] 33 (0, 0)) := by rw [hw11]; exact heap_alloc_new _ _
      have s11 : w11.heap.size = w10.heap.size + 1 := by rw [hw11, alloc_size]
      have T11 : Kp (TS a T (fun k => D k ∨ (w10.heap.size ≤ k ∧ k < w11.heap.size)) w11 A h i' es ps i) := put ((TT.out.below B10.out).step (below_kps hb11 _) (fun b hb => hb))
      have ER := put (eachRange T11.out (by omega) w10.heap.size fr to hO (.inr ⟨Nat.le_refl _, by omega⟩))
      have HW11 := put hw11
      have B11 := put hb11
      have S11 := put s11
      clear hw11 hb11 hO s11
      go_wp2_with fail
      rw [← HW11.out]
      refine ER.out.mono ?_
      rintro e w12 ⟨rfl, ⟨v2, hv2, hr2⟩, k12⟩
      have RD2 := put hr2
      have K12 := put k12
      obtain ⟨A8, c8, rfl, _⟩ := hr2.shape
      have y0 : w12.cell? ⟨w10.heap.size, 0, none⟩ = some (.slice A8 (rangeE fr to es).length c8) := by simp [World.cell?, hv2]
      rw [← HRL.out] at y0
      have RD1 : Kp (RdE Value.string (fun k => wr.heap.size ≤ k ∧ k < w10.heap.size) w12 (.slice A9 rl c9) (rangeE fr to es)) := put ((RD.out.below B11.out).kps K12.out (fun k hk _ e => by have : k = w10.heap.size := e; omega))
      have BW12 : Kp (Below W.heap.size W w12) := put ((bt BW10.out B11.out).trans (K12.out.below (fun k hk => by have : k = w10.heap.size := hk; have := BW10.out.size; omega) (by have := BW10.out.size; have := B11.out.size; omega)))
      have hrl9 : (rangeE fr to es).length ≤ 1000000 := by
        have h1 : (rangeE fr to es).length ≤ es.length := List.length_filter_le _ _
        omega
      have hrl8 : rl ≤ 1000000 := by rw [HRL.out]; exact hrl9
      have ST := put (sameTrue _ _ (.slice A8 rl c8) (.slice A9 rl c9) (rangeE fr to es) w12 (by rw [HRL.out]; exact RD2.out) RD1.out hrl9)
      have T12 : Kp (TS a T (fun k => D k ∨ (w10.heap.size ≤ k ∧ k < w11.heap.size)) w12 A h i' es ps i) := put (T11.out.step (K12.out.mono fun b hb => .inr ⟨by have : b = w10.heap.size := hb; omega, by have : b = w10.heap.size := hb; have := S11.out; omega⟩) (fun b hb => .inl hb))
      have HX12 : Kp (w12.heap[w2.heap.size]? = some (.cells #[.int .u8 st] 5 (0, 0))) := put ((K12.out.block _ (by have := B10.out.size; have := B11.out.size; omega) (by have := B10.out.size; intro e; have : w2.heap.size = w10.heap.size := e; omega)).trans (((B11.out.block _ (by have := B10.out.size; omega)).trans (B10.out.block _ HXL2)).trans HX5.out))
      clear hr2 k12 hv2 hrl9
      go_wp2_with fail
      refine ST.out.mono ?_
      rintro e w13 ⟨rfl, hb13⟩
      have B13 := put hb13
      clear hb13 y0
      obtain ⟨w14, hw14⟩ : ∃ w14, w14 = w13.alloc (.cells #[.int .i64 0] 3) := ⟨_, rfl⟩
      have hb14 : Below w13.heap.size w13 w14 := by rw [hw14]; exact balloc (Below.refl _ _) _
      have hN : w14.heap[w13.heap.size]? = some (.cells #[.int .i64 0] 3 (0, 0)) := by rw [hw14]; exact heap_alloc_new _ _
      have s14 : w14.heap.size = w13.heap.size + 1 := by rw [hw14, alloc_size]
      have T14 := put ((T12.out.below B13.out).step (D' := fun k => (D k ∨ (w10.heap.size ≤ k ∧ k < w11.heap.size)) ∨ (w13.heap.size ≤ k ∧ k < w14.heap.size)) (below_kps hb14 _) (fun b hb => hb))
      have HX14 := put ((bt B13.out hb14).block _ (Array.getElem?_eq_some_iff.1 HX12.out).1 |>.trans HX12.out)
      have EC := put (eachCount T14.out w13.heap.size w2.heap.size st fr to hN HX14.out hst (.inr ⟨Nat.le_refl _, by omega⟩))
      have HW14 := put hw14
      have B14 := put (bt B13.out hb14)
      have hXl14 := (Array.getElem?_eq_some_iff.1 HX12.out).1
      have hs13 := B13.out.size
      clear hw14 hb14 hN s14
      go_wp2_with fail
      rw [← HW14.out]
      refine EC.out.mono ?_
      rintro e w15 ⟨rfl, hn15, k15⟩
      rw [← HRL.out] at hn15
      have HX15 := (k15.block _ (Array.getElem?_eq_some_iff.1 HX14.out).1 (by intro e; have : w2.heap.size = w13.heap.size := e; omega)).trans HX14.out
      have z0 : w15.cell? ⟨w13.heap.size, 0, none⟩ = some (.int .i64 ((min rl (st + 1) : Nat) : Int)) := by simp [World.cell?, hn15]
      have z1 : w15.cell? ⟨w2.heap.size, 0, none⟩ = some (.int .u8 st) := by simp [World.cell?, HX15]
      have BW15 : Kp (Below W.heap.size W w15) := put ((bt BW12.out B14.out).trans (k15.below (fun k hk => by have : k = w13.heap.size := hk; have := BW12.out.size; omega) (by have := BW12.out.size; have := B14.out.size; omega)))
      have c1 : IntKind.i64.wrap (st : Int) = (st : Int) := IntWalk.i64_in _ (by omega)
      have c2 : IntKind.i64.wrap ((st : Int) + 1) = (st : Int) + 1 := IntWalk.i64_in _ (by omega)
      obtain ⟨mn, hmn⟩ : ∃ mn : Int, mn = ((min rl (st + 1) : Nat) : Int) := ⟨_, rfl⟩
      have hq : min (rl : Int) ((st : Int) + 1) = mn := by rw [hmn]; omega
      rw [← hmn] at z0
      clear hn15 HX15 k15 hmn
      go_wp2_with fail
      go_ret
      exact ⟨rfl, BW15.out⟩
end Go.Proofs.Ytcpahknlabnnbaa.T

namespace Go.Proofs.Ytcpahknlabnnbaa.T
open Go Go.RowKit Go.Proofs.Ytcpahknlabnnbaa.Mem

def Light {H : Type} (P : Program) (t : TypeId) (d : DataW H) : Prop := ∀ n ∈ d.weights P t, n ≤ reachBytes

theorem light_all {H : Type} {P : Program} {e : TypeId} : ∀ {l : List (DataW H)}, (∀ n ∈ DataW.weightsAll P e l, n ≤ reachBytes) → ∀ d ∈ l, Light P e d
  | [], _, d, hd => by cases hd
  | x :: l, h, d, hd => by
    simp only [DataW.weightsAll, List.mem_append] at h
    rcases List.mem_cons.1 hd with rfl | hd
    · exact fun n hn => h n (.inl hn)
    · exact light_all (fun n hn => h n (.inr hn)) d hd

theorem light_each {H : Type} {P : Program} {ts : List TypeId} {ds : List (DataW H)} (h : ∀ n ∈ DataW.weightsEach P ts ds, n ≤ reachBytes) {j : Nat} {t : TypeId} {d : DataW H} (ht : ts[j]? = some t) (hd : ds[j]? = some d) : Light P t d :=
  fun n hn => h n (DataW.weights_mem_each ht hd n hn)

/-- What is handed in at type t reads as d says. -/
def Opn {H α : Type} (enc : TypeId × Value → H) (d : Ty α) (t : TypeId) (W : World) : Prop :=
  ∀ (fuel : Nat) (cs : List Value) (x : DataW H × List MemPlace), DataW.trod enc Try.prog W 0 (fun _ => true) true fuel t cs = some x → Light Try.prog t x.1 → ∃ a, d.R (fun _ => True) W a cs

section
variable {H : Type} {enc : TypeId × Value → H} {W : World}

theorem opn_slice {α : Type} [Inhabited α] {d : Ty α} {t e : TypeId} (ht : Try.prog.underlying t = some (.slice e)) (hc : Try.prog.cellsOf e = d.sz) (hb : 0 < Try.prog.bytesOf e) (hz : 0 < d.sz) (ho : Opn enc d e W) : Opn enc (tSl d) t W := by
  intro fuel cs x h hl
  rcases Deep.open_slice ht h with ⟨rfl, rfl⟩ | ⟨a, len, cap, m, n, D, Pl, rfl, _, hlc, hcm, hmm, rfl, hx⟩
  · exact ⟨[], _, rfl, Sl.nil _ _ _⟩
  · simp only [if_true] at hmm
    subst hmm
    have hw : ∀ n ∈ DataW.weights Try.prog t (.slice ((List.range len).map D) ((List.range (m - len)).map fun j => D (len + j))), n ≤ reachBytes := hl
    simp only [DataW.weights, ht, List.mem_cons, List.mem_append] at hw
    have h0 := hw _ (.inl rfl)
    have hall := light_all (fun n hn => hw n (.inr (.inl hn)))
    have hlen : len ≤ 140737488355328 := by
      simp only [List.length_map, List.length_range] at h0
      have h1 : len ≤ len + (m - len) := by omega
      have h2 : len * 1 ≤ (len + (m - len)) * Try.prog.bytesOf e := Nat.mul_le_mul h1 hb
      have h3 := reachBytes_lt
      omega
    obtain ⟨f, hf⟩ := Deep.choose_lt (n := len) (p := fun i b => ∃ cs, W.cells? 0 (a.add (i * d.sz)) d.sz = some cs ∧ d.R (fun _ => True) W b cs) (fun i hi => by
      obtain ⟨cs', h1, h2⟩ := hx i (by omega)
      rw [hc] at h1
      obtain ⟨b, hb'⟩ := ho n cs' _ h2 (hall (D i) (List.mem_map.2 ⟨i, List.mem_range.2 hi, rfl⟩))
      exact ⟨b, cs', h1, hb'⟩)
    refine ⟨(List.range len).map f, _, rfl, some a, m, by simp, by simpa using hlc, by simpa [maxLen] using hcm, by simpa using hlen, (fun e => by cases e), fun hne => ?_⟩
    have hpos : 0 < len := by
      rcases Nat.eq_zero_or_pos len with h | h
      · subst h; simp at hne
      · exact h
    refine ⟨a, rfl, trivial, ?_, fun i x hx => ?_⟩
    · obtain ⟨cs', h1, hr⟩ := hf 0 hpos
      have hsz : 0 < d.sz := hz
      obtain ⟨_, hcl, hcg⟩ := World.cells?_some h1
      have h2 := hcg 0 hsz
      rw [List.getElem?_eq_getElem (by omega), Nat.zero_mul, add_zero, add_zero] at h2
      unfold World.cell? at h2
      cases hh : W.heap[a.block]? with
      | none => rw [hh] at h2; simp at h2
      | some o => exact (Array.getElem?_eq_some_iff.1 hh).1
    · rw [List.getElem?_map] at hx
      cases hr : (List.range len)[i]? with
      | none => rw [hr] at hx; cases hx
      | some j =>
        rw [hr] at hx
        obtain ⟨hi, hj⟩ := List.getElem?_eq_some_iff.1 hr
        rw [List.getElem_range] at hj
        subst hj
        simp only [Option.map_some, Option.some.injEq] at hx
        subst hx
        obtain ⟨cs', h1, hr'⟩ := hf i (by simpa using hi)
        obtain ⟨_, hcl, hcg⟩ := World.cells?_some h1
        refine ⟨cs', hr', fun j u hu => ?_⟩
        have hjl := (List.getElem?_eq_some_iff.1 hu).1
        have := hcg j (by omega)
        rw [add_add] at this
        rw [this, hu]

theorem cells_int : Try.prog.cellsOf 3 = 1 := by kernel_rfl
theorem cells_str : Try.prog.cellsOf 9 = 1 := by kernel_rfl
theorem cells_u8 : Try.prog.cellsOf 5 = 1 := by kernel_rfl
theorem wf_in {n : Int} (h : (Lit.int .i64 n).wf = true) : -9223372036854775808 ≤ n ∧ n ≤ 9223372036854775807 := by
  unfold Lit.wf at h
  rw [Bool.and_eq_true, decide_eq_true_eq, decide_eq_true_eq] at h
  exact ⟨h.1, h.2⟩
theorem wf_u8 {n : Int} (h : (Lit.int .u8 n).wf = true) : 0 ≤ n ∧ n ≤ 255 := by
  unfold Lit.wf at h
  rw [Bool.and_eq_true, decide_eq_true_eq, decide_eq_true_eq] at h
  exact ⟨h.1, h.2⟩
instance : Inhabited Opr := ⟨⟨0, 0, ⟨#[]⟩⟩⟩
theorem opn_op : Opn enc tOp 37 W := by
  intro fuel cs x h _
  obtain ⟨y0, y1, y2, n, rfl, hl, h0, h1, h2⟩ := Deep.trod_struct3 Try.underlying37 h
  rw [show Try.prog.cellsOf 37 = 3 from by kernel_rfl] at hl
  dsimp only at h0 h1 h2
  rw [cells_int] at h0 h1
  rw [cells_str] at h2
  match cs, hl with
  | [c0, c1, c2], _ =>
    simp only [List.drop_zero, List.drop_succ_cons, List.take_succ_cons, List.take_zero] at h0 h1 h2
    obtain ⟨n0, e0, _, _⟩ := DataW.trod_int Try.underlying3 h0
    obtain ⟨n1, e1, _, hw⟩ := DataW.trod_int Try.underlying3 h1
    obtain ⟨s2, e2, _, _⟩ := DataW.trod_string Try.underlying9 h2
    simp only [List.cons.injEq, and_true] at e0 e1 e2
    exact ⟨⟨n0, n1, s2⟩, by rw [e0, e1, e2]; rfl, wf_in hw⟩
theorem opn_ops : Opn enc (tSl tOp) 22 W := opn_slice Try.underlying22 (by kernel_rfl) (of_decide_eq_true (by kernel_rfl)) (by decide) opn_op
theorem opn_range {fuel : Nat} {cs : List Value} {x : DataW H × List MemPlace} (h : DataW.trod enc Try.prog W 0 (fun _ => true) true fuel 49 cs = some x) : ∃ (fr to : ByteArray) (st : Nat), cs = [.string fr, .string to, .int .u8 st] ∧ st ≤ 255 := by
  obtain ⟨y0, y1, y2, n, rfl, hl, h0, h1, h2⟩ := Deep.trod_struct3 Try.underlying49 h
  rw [show Try.prog.cellsOf 49 = 3 from by kernel_rfl] at hl
  dsimp only at h0 h1 h2
  rw [cells_str] at h0 h1
  rw [cells_u8] at h2
  match cs, hl with
  | [c0, c1, c2], _ =>
    simp only [List.drop_zero, List.drop_succ_cons, List.take_succ_cons, List.take_zero] at h0 h1 h2
    obtain ⟨s0, e0, _, _⟩ := DataW.trod_string Try.underlying9 h0
    obtain ⟨s1, e1, _, _⟩ := DataW.trod_string Try.underlying9 h1
    obtain ⟨n2, e2, _, hw⟩ := DataW.trod_int Try.underlying5 h2
    simp only [List.cons.injEq, and_true] at e0 e1 e2
    have hr := wf_u8 hw
    obtain ⟨k, rfl⟩ : ∃ k : Nat, n2 = (k : Int) := ⟨n2.toNat, by omega⟩
    exact ⟨s0, s1, k, by rw [e0, e1, e2], by omega⟩
theorem opn_int : Opn enc (tInt .i64) 3 W := by
  intro fuel cs x h _
  obtain ⟨n, e, _, _⟩ := DataW.trod_int Try.underlying3 h
  exact ⟨n, e⟩
theorem opn_ints : Opn enc (tSl (tInt .i64)) 53 W := opn_slice Try.underlying53 (by kernel_rfl) (of_decide_eq_true (by kernel_rfl)) (by decide) opn_int
instance : Inhabited ByteArray := ⟨⟨#[]⟩⟩
theorem opn_str : Opn enc tStr 9 W := by
  intro fuel cs x h _
  obtain ⟨s, e, _, _⟩ := DataW.trod_string Try.underlying9 h
  exact ⟨s, e⟩
theorem opn_strs : Opn enc (tSl tStr) 33 W := opn_slice Try.underlying33 (by kernel_rfl) (of_decide_eq_true (by kernel_rfl)) (by decide) opn_str
/-- A list handed in. -/
theorem opn_one {α : Type} {d : Ty α} {t : TypeId} (ho : Opn enc (tSl d) t W) {fuel : Nat} {v : Value} {x : DataW H × List MemPlace} (h : DataW.trod enc Try.prog W 0 (fun _ => true) true fuel t [v] = some x) (hl : Light Try.prog t x.1) : ∃ xs, Sl d (fun _ => True) W v xs := by
  obtain ⟨xs, u, e, hs⟩ := ho fuel _ _ h hl
  obtain rfl : v = u := by simpa using e
  exact ⟨xs, hs⟩
end
end Go.Proofs.Ytcpahknlabnnbaa.T
