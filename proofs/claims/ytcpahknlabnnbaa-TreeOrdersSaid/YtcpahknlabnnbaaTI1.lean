/- The laws of the trees: two trees in one arena; pages never lack where nodes have entries. The laws of the trees: an element cut out of a row in place. The laws of the trees: TreeOrders, walked. -/
import Derived.Test.YtcpahknlabnnbaaTG10
namespace Go.Proofs.Ytcpahknlabnnbaa.T
open Go Go.RowKit Go.Sort Go.Proofs.Ytcpahknlabnnbaa.Mem

abbrev m1 : Nat → Nat := fun _ => 1
theorem sum_pages {f g : Lo → Nat} : ∀ (ks : List Lo), (∀ p ∈ ks, f p + 1 ≤ 2 * g p) → (ks.map f).sum + ks.length ≤ 2 * (ks.map g).sum
  | [], _ => by simp
  | p :: ks, h => by
    have h1 := h p List.mem_cons_self
    have h2 := sum_pages ks (fun q hq => h q (List.mem_cons_of_mem _ hq))
    simp only [List.map_cons, List.sum_cons, List.length_cons]
    omega
theorem pags_len (ks : List Lo) : (pagsOf ks).length = (ks.map fun p => p.2.length).sum := by
  unfold pagsOf
  rw [List.length_flatten, List.map_map]
  rfl
theorem ents_len (ks : List Lo) : (entsOf ks).length = (ks.map fun p => p.1.length).sum := by
  unfold entsOf
  rw [List.length_flatten, List.map_map]
  rfl
/-- Where each node has an entry, the pages are fewer than twice the entries, and the height is less. -/
theorem Sub.count {A : Ar} : ∀ {h i : Nat} {B : Bnd} {es : List ByteArray} {ps : List Nat}, Sub m1 A h i B es ps → ps.length + 1 ≤ 2 * es.length ∧ h + 1 ≤ ps.length := by
  intro h
  induction h with
  | zero =>
    rintro i B es ps ⟨n, h1, ⟨h2, g2⟩, h3, h4, rfl, rfl⟩
    have g2 : 1 ≤ n.recs.length := g2
    simp only [List.length_singleton]
    omega
  | succ h ih =>
    rintro i B es ps ⟨n, ks, h1, ⟨h2, g2⟩, h3, h4, rfl, rfl⟩
    have g2 : 1 ≤ n.recs.length := g2
    have hl := h3.len
    have hlk := h3.lk
    have hall : ∀ p ∈ ks, p.2.length + 1 ≤ 2 * p.1.length ∧ h + 1 ≤ p.2.length := fun p hp => by
      obtain ⟨j, hj⟩ := List.mem_iff_getElem?.1 hp
      obtain ⟨k, _, hs⟩ := h3.at hj
      exact ih hs
    have h5 := sum_pages (f := fun p => p.2.length) (g := fun p => p.1.length) ks (fun p hp => (hall p hp).1)
    rw [List.length_cons, pags_len, ents_len]
    obtain ⟨p, hp⟩ : ∃ p, ks[0]? = some p := ⟨_, List.getElem?_eq_getElem (by omega)⟩
    have h6 := (hall p (List.mem_of_getElem? hp)).2
    have h7 : p.2.length ≤ (pagsOf ks).length := by
      rw [pags_at hp, List.length_append, List.length_append]; omega
    rw [pags_len] at h7
    omega
/-- How full the nodes are. -/
def mOf (es : List ByteArray) : Nat → Nat := fun _ => if es.length = 0 then 0 else 1
/-- A tree in an arena. -/
structure Tr1 (A : Ar) (h i : Nat) (es : List ByteArray) (ps : List Nat) : Prop where
  s : Sub (mOf es) A h i top es ps
  e : es = [] → h = 0 ∧ ps.length = 1
theorem Tr1.count {A : Ar} {h i : Nat} {es : List ByteArray} {ps : List Nat} (t : Tr1 A h i es ps) : ps.length ≤ 2 * es.length + 1 ∧ h ≤ ps.length := by
  cases es with
  | nil =>
    obtain ⟨h1, h2⟩ := t.e rfl
    simp only [List.length_nil]
    omega
  | cons x l =>
    have h1 : Sub m1 A h i top (x :: l) ps := t.s
    have := h1.count
    omega
theorem Tr1.frame {A A' : Ar} {h i : Nat} {es : List ByteArray} {ps : List Nat} (t : Tr1 A h i es ps) (hf : ∀ p ∈ ps, A'.pages[p]? = A.pages[p]?) : Tr1 A' h i es ps := ⟨t.s.frame hf, t.e⟩
theorem Tr1.ins {A A' : Ar} {h h' i' : Nat} {s : ByteArray} {es : List ByteArray} {ps ps' : List Nat} (g : Ins1 m1 A A' h s es ps h' i' ps') : Tr1 A' h' i' (putE es s) ps' := by
  refine ⟨g.sub.lower fun l _ => ?_, fun e => ?_⟩
  · unfold mOf upM
    rw [if_neg (by rw [putE_len]; omega)]
    split <;> exact Nat.le_refl _
  · have h1 := putE_len es s
    rw [e] at h1
    simp at h1
set_option maxHeartbeats 1000000 in
set_option maxRecDepth 100000 in
/-- Insert of a text that is too long. -/
theorem insBig (T a : Nat) (r h n : Int) (s : ByteArray) (w : World) (t : TrR T a w r h n) (hh : h ≠ 0) (hz : 400 < s.size) :
    Calls Try.prog 21 #[.pointer (some ⟨T, 0, none⟩), .string s] w fun e w' => e = .returned (.int .i64 15) ∧ Below w.heap.size w w' := by
  obtain ⟨w2, hw2⟩ : ∃ w2, w2 = (w.alloc (.cells #[.pointer (some ⟨T, 0, none⟩)] 29)).alloc (.cells #[.string s] 9) := ⟨_, rfl⟩
  have hb2 : Below w.heap.size w w2 := by rw [hw2]; exact balloc (balloc (Below.refl _ _) _) _
  have hV : w2.heap[w.heap.size]? = some (.cells #[.pointer (some ⟨T, 0, none⟩)] 29 (0, 0)) := by rw [hw2, hag, if_neg (by rw [alloc_size]; omega), hag, if_pos rfl]
  have hV2 : w2.heap[w.heap.size + 1]? = some (.cells #[.string s] 9 (0, 0)) := by rw [hw2, hag, if_pos (by rw [alloc_size])]
  have B2 := put hb2
  have HOV := put (overCalls T a r h n w2 (t.below hb2) hh)
  have x0 : w2.cell? ⟨w.heap.size, 0, none⟩ = some (.pointer (some ⟨T, 0, none⟩)) := by simp [World.cell?, hV]
  have x1 : w2.cell? ⟨w.heap.size + 1, 0, none⟩ = some (.string s) := by simp [World.cell?, hV2]
  have HW := put hw2
  have hz1 : ¬ (s.size : Int) < 1 := by omega
  have hz2 : (400 : Int) < s.size := by omega
  clear hw2 hb2 hV hV2 t hz
  go_enter Try.func21, Try.ntmps21
  go_wp2_with fail
  rw [← HW.out]
  refine HOV.out.mono ?_
  rintro e w3 ⟨rfl, rfl⟩
  go_wp2_with fail
  go_ret
  exact ⟨rfl, B2.out⟩
/-- Two trees. -/
structure TT2 (a T U : Nat) (D : Nat → Prop) (W : World) (es1 es2 : List ByteArray) : Prop where
  out : ∃ (ok : Nat → Prop) (A : Ar) (h1 i1 h2 i2 : Nat) (ps1 ps2 : List Nat), ArX ok W a A ∧ (∀ k, W.heap.size ≤ k → ok k) ∧ (¬ ok T ∧ ¬ ok U ∧ T ≠ U) ∧ (∀ k, D k → ¬ ok k) ∧ A.Ok ∧ TrR T a W ((i1 : Int) + 1) ((h1 : Int) + 1) es1.length ∧ TrR U a W ((i2 : Int) + 1) ((h2 : Int) + 1) es2.length ∧ Tr1 A h1 i1 es1 ps1 ∧ Tr1 A h2 i2 es2 ps2 ∧ (∀ p ∈ ps1, p ∉ ps2) ∧ A.used = (ps1.length : Int) + ps2.length ∧ A.quota = 4000
  dt : ¬ D T ∧ ¬ D U
section
variable {a T U : Nat} {D D' : Nat → Prop} {W W' : World} {es1 es2 : List ByteArray}
theorem TT2.swap (t : TT2 a T U D W es1 es2) : TT2 a U T D W es2 es1 := by
  obtain ⟨ok, A, h1, i1, h2, i2, ps1, ps2, g1, g2, ⟨g3, g4, g5⟩, g6, g7, g8, g9, g10, g11, g12, g13, g14⟩ := t.out
  exact ⟨⟨ok, A, h2, i2, h1, i1, ps2, ps1, g1, g2, ⟨g4, g3, g5.symm⟩, g6, g7, g9, g8, g11, g10, fun p hp hq => g12 p hq hp, by omega, g14⟩, ⟨t.dt.2, t.dt.1⟩⟩
theorem TT2.step (t : TT2 a T U D W es1 es2) (k : Kps D W W') (hd : ∀ b, D' b → D b ∨ (W.heap.size ≤ b ∧ b < W'.heap.size)) : TT2 a T U D' W' es1 es2 := by
  obtain ⟨ok, A, h1, i1, h2, i2, ps1, ps2, g1, g2, ⟨g3, g4, g5⟩, g6, g7, g8, g9, g10, g11, g12, g13, g14⟩ := t.out
  have hT := g8.lt
  have hU := g9.lt
  have hks := k.size
  refine ⟨⟨nar ok W.heap.size W'.heap.size, A, h1, i1, h2, i2, ps1, ps2, ((g1.bnd.kps k (fun b hb _ hD => g6 b hD hb.1)).mono fun b hb => .inl hb), fun b hb => .inr hb, ⟨fun hb => ?_, fun hb => ?_, g5⟩, fun b hb hb2 => ?_, g7, (k.block T hT t.dt.1).trans g8, (k.block U hU t.dt.2).trans g9, g10, g11, g12, g13, g14⟩, ⟨fun hb => ?_, fun hb => ?_⟩⟩
  · rcases hb with hb | hb
    · exact g3 hb.1
    · omega
  · rcases hb with hb | hb
    · exact g4 hb.1
    · omega
  · rcases hd b hb with h5 | h5
    · rcases hb2 with h6 | h6
      · exact g6 b h5 h6.1
      · rcases Nat.lt_or_ge b W.heap.size with h7 | h7
        · omega
        · exact absurd (g2 b h7) (g6 b h5)
    · rcases hb2 with h6 | h6 <;> omega
  · rcases hd T hb with h5 | h5
    · exact t.dt.1 h5
    · omega
  · rcases hd U hb with h5 | h5
    · exact t.dt.2 h5
    · omega
theorem TT2.below (t : TT2 a T U D W es1 es2) (hb : Below W.heap.size W W') : TT2 a T U D W' es1 es2 := t.step (below_kps hb _) (fun _ h => .inl h)
def okTxt (s : ByteArray) : Prop := 1 ≤ s.size ∧ s.size ≤ 400
/-- What Insert into the first does. -/
structure Ins2 (a T U : Nat) (D : Nat → Prop) (W : World) (es1 es2 : List ByteArray) (s : ByteArray) (e : Ending) (W' : World) : Prop where
  out : ∃ (c : Int) (es' : List ByteArray), e = .returned (.int .i64 c) ∧ TT2 a T U D W' es' es2 ∧ (∀ x, x ∈ es' ↔ x ∈ es1 ∨ (x = s ∧ okTxt s)) ∧ es'.length ≤ es1.length + 1 ∧ Kps (fun b => ¬ D b) W W'
theorem ins2 (t : TT2 a T U D W es1 es2) (s : ByteArray) (hl1 : es1.length ≤ 120) (hl2 : es2.length ≤ 120) : Calls Try.prog 21 #[.pointer (some ⟨T, 0, none⟩), .string s] W (Ins2 a T U D W es1 es2 s) := by
  obtain ⟨ok, A, h1, i1, h2, i2, ps1, ps2, g1, g2, ⟨g3, g4, g5⟩, g6, g7, g8, g9, g10, g11, g12, g13, g14⟩ := t.out
  have c1 := g10.count
  have c2 := g11.count
  rcases Nat.lt_or_ge 400 s.size with hs | hs
  · refine (insBig T a _ _ _ s W g8 (by omega) hs).mono ?_
    rintro e W' ⟨rfl, hb⟩
    refine ⟨15, es1, rfl, t.below hb, fun x => ⟨.inl, ?_⟩, by omega, below_kps hb _⟩
    rintro (h5 | ⟨rfl, h6⟩)
    · exact h5
    · have := h6.2; omega
  refine (insertTree (μ := m1) (μ0 := mOf es1) (fun _ => Nat.le_refl _) T a h1 i1 es1.length s A es1 ps1 W g8 g1 g7 g2 g3 (by omega) g10.s (fun hh => by
    unfold mOf
    rw [if_neg (fun e => hh (g10.e (List.length_eq_zero_iff.1 e)).1)]) (by omega) (by omega)).mono ?_
  rintro e W' ⟨c, rfl, hc, hx⟩
  have hkD : ∀ {K : World → World → Prop}, Kps (fun k => ok k ∨ k = T) W W' → Kps (fun b => ¬ D b) W W' := fun k => k.mono fun b hb hb2 => by
    rcases hb with hb | hb
    · exact g6 b hb2 hb
    · exact t.dt.1 (hb ▸ hb2)
  rcases hx with ⟨hc0, r1, r2, r3⟩ | ⟨hc0, hno, A', h', i', ps', r1, r2, r3, r4⟩
  · have hkk := hkD (K := fun _ _ => True) (r3.mono fun b hb => .inl hb)
    have hU := (r3.block U g9.lt g4).trans g9
    refine ⟨c, es1, rfl, ⟨⟨ok, A, h1, i1, h2, i2, ps1, ps2, r1, fun b hb => g2 b (Nat.le_trans r3.size hb), ⟨g3, g4, g5⟩, g6, g7, r2, hU, g10, g11, g12, g13, g14⟩, t.dt⟩, fun x => ⟨.inl, ?_⟩, by omega, hkk⟩
    rintro (h5 | ⟨rfl, h6⟩)
    · exact h5
    · have hleft : (h1 : Int) + 2 ≤ A.left := by unfold Ar.left; rw [g14, g13]; omega
      unfold insCode at hc
      rw [if_neg (by have := h6.1; have := h6.2; omega)] at hc
      by_cases hb : hasB x es1 = true
      · exact hasB_true.1 hb
      · rw [if_neg hb, if_neg (by omega)] at hc
        exact absurd hc hc0
  · have hkk := hkD (K := fun _ _ => True) r4
    have hU := (r4.block U g9.lt (by
      rintro (h5 | h5)
      · exact g4 h5
      · exact g5 h5.symm)).trans g9
    have hok : okTxt s := by
      unfold insCode at hc
      rcases Classical.em (s.size < 1 ∨ 400 < s.size) with h5 | h5
      · rw [if_pos h5] at hc; omega
      · unfold okTxt; omega
    rw [← putE_len es1 s] at r3
    refine ⟨c, putE es1 s, rfl, ⟨⟨ok, A', h', i', h2, i2, ps', ps2, r2, fun b hb => g2 b (Nat.le_trans r4.size hb), ⟨g3, g4, g5⟩, g6, r1.ok, r3, hU, Tr1.ins r1, g11.frame fun p hp => r1.fr p (g11.s.use p hp) (fun hq => g12 p hq hp), fun p hp hq => ?_, by have := r1.used; omega, r1.q.trans g14⟩, t.dt⟩, fun x => ?_, by rw [putE_len]; omega, hkk⟩
    · rcases r1.new p hp with h5 | h5
      · exact g12 p h5 hq
      · exact h5 (g11.s.use p hq)
    · rw [putE_mem]
      constructor
      · rintro (h5 | h5)
        · exact .inr ⟨h5, hok⟩
        · exact .inl h5
      · rintro (h5 | h5)
        · exact .inr h5
        · exact .inl h5.1
theorem all2 (t : TT2 a T U D W es1 es2) (hl : es1.length ≤ 1000000) : Calls Try.prog 16 #[.pointer (some ⟨T, 0, none⟩)] W fun e W' => ∃ v, e = .returned v ∧ RdE Value.string (fun k => W.heap.size ≤ k ∧ k < W'.heap.size) W' v es1 ∧ Below W.heap.size W W' := by
  obtain ⟨ok, A, h1, i1, h2, i2, ps1, ps2, g1, g2, ⟨g3, g4, g5⟩, g6, g7, g8, g9, g10, g11, g12, g13, g14⟩ := t.out
  exact allCalls T a h1 i1 es1.length A es1 ps1 W g8 g10.s g1 hl
theorem len2 (t : TT2 a T U D W es1 es2) : Calls Try.prog 11 #[.pointer (some ⟨T, 0, none⟩)] W fun e W' => e = .returned (.int .i64 es1.length) ∧ W' = W := by
  obtain ⟨ok, A, h1, i1, h2, i2, ps1, ps2, g1, g2, ⟨g3, g4, g5⟩, g6, g7, g8, g9, g10, g11, g12, g13, g14⟩ := t.out
  exact lenCalls T a _ _ _ W g8 (by omega)
theorem TT2.rise (t : TT2 a T U D W es1 es2) : Rise es1 := by
  obtain ⟨ok, A, h1, i1, h2, i2, ps1, ps2, g1, g2, ⟨g3, g4, g5⟩, g6, g7, g8, g9, g10, g11, g12, g13, g14⟩ := t.out
  exact g10.s.rise
end
theorem new2 {a T : Nat} {D : Nat → Prop} {W : World} {A : Ar} {i : Nat} (t : TS a T D W A 0 i [] [i] 0) (hq : A.quota = 4000) (hu : A.used = 1) (hD : ∀ k, D k → k < W.heap.size) : Calls Try.prog 9 #[.pointer (some ⟨a, 0, none⟩)] W fun e W' => e = .returned (.tuple #[.pointer (some ⟨W.heap.size, 0, none⟩), .int .i64 0]) ∧ TT2 a T W.heap.size D W' [] [] ∧ Kps (fun b => ¬ D b) W W' := by
  obtain ⟨ok, h1, h2, h3, h4⟩ := t.out
  have hl : 0 < A.left := by unfold Ar.left; omega
  obtain ⟨j, hj⟩ := new_page t.aok hl h1.np
  have hT := t.t.lt
  refine (newTree a A W h1 t.aok hl h2 j hj).mono ?_
  rintro e W' ⟨rfl, g1, g2, g3⟩
  have hu2 : inUse A.alloc j := ⟨_, hj.at'⟩
  have hTl := g2.lt
  have hsz := g3.size
  have hiu : inUse A i := t.s.use i (List.mem_singleton.2 rfl)
  have hij : i ≠ j := fun e => hj.fresh (e ▸ hiu)
  refine ⟨rfl, ⟨⟨nar (nar ok W.heap.size (W.heap.size + 1 + 1 + 1)) W'.heap.size W'.heap.size, A.alloc.put j (enc nil0), 0, i, 0, j, [i], [j], g1.bnd.mono fun k hk => .inl hk, fun k hk => .inr hk, ⟨fun h => ?_, fun h => ?_, by omega⟩, fun k hk h => ?_, put_ok hj.ok hu2 _, (g3.block T hT h3).trans t.t, g2, ⟨(t.s.frame fun p hp => ?_).lower fun l _ => ?_, fun _ => ⟨rfl, rfl⟩⟩, ⟨⟨nil0, put_same hu2 _, ⟨nil0_ok, Nat.zero_le _⟩, rfl, by simp [nil0], rfl, rfl⟩, fun _ => ⟨rfl, rfl⟩⟩, fun p hp hp2 => ?_, ?_, hj.q.trans hq⟩, ⟨t.dt, fun h => by have := hD _ h; omega⟩⟩, g3.mono fun k hk hk2 => h4 k hk2 hk⟩
  · rcases h with ⟨h | h, _⟩ | h
    · exact h3 h.1
    · omega
    · omega
  · rcases h with ⟨h | h, _⟩ | h <;> omega
  · have hkD := hD k hk
    rcases h with ⟨h | h, _⟩ | h
    · exact h4 k hk h.1
    · omega
    · omega
  · rw [List.mem_singleton.1 hp, put_other hij, hj.other i hij hiu]
  · exact Nat.le_refl 0
  · rw [List.mem_singleton.1 hp] at hp2
    exact hij (List.mem_singleton.1 hp2)
  · rw [put_used, hj.used, hu]; rfl
end Go.Proofs.Ytcpahknlabnnbaa.T
namespace Go.Proofs.Ytcpahknlabnnbaa.T
open Go Go.RowKit Go.Sort Go.Proofs.Ytcpahknlabnnbaa.Mem

set_option maxRecDepth 100000 in
theorem pushCut {ops : Array Oper} {o : Oper} {a : Act} {w : World} {K : Act → World → Prop} {Q : Exit → Act → World → Prop} {E : Prop} (hgd : o.guard = Option.none) (s x : Operand)
    (ho : o.op = .call { callee := .builtin .append, args := #[s, x], argTypes := #[33, 33] })
    {g n c base k : Nat} {xs : List ByteArray} (hs : a.eval s = .slice (some ⟨g, 0, none⟩) k c) (hx : a.eval x = .slice (if c = k + 1 then some ⟨g, 0, none⟩ else some ⟨g, k + 1, none⟩) (n - (k + 1)) (c - (k + 1)))
    (HO : Own tStr 9 no w base (.slice (some ⟨g, 0, none⟩) n c) xs) (hn : n = xs.length) (hk : k < n) (hn2 : n ≤ 1000) (hbase : base ≤ w.heap.size)
    (h : ∀ g' c' w', Own tStr 9 no w' base (.slice (some ⟨g', 0, none⟩) (n - 1) c') (xs.take k ++ xs.drop (k + 1)) → w.grownBy w' (some g) → (g' = g ∨ w.heap.size ≤ g') → K (a.put o.dst (.slice (some ⟨g', 0, none⟩) (n - 1) c')) w') :
    if Region.wanted o (yielded ops a.tmps) = true then Oper.wp Try.prog o a w K Q else E := by
  have hcut : Own tStr 9 no w base (.slice (some ⟨g, 0, none⟩) k c) (xs.take k) := own_cut HO hn (Nat.le_of_lt hk)
  have hl1 : (xs.take k).length = k := by rw [List.length_take]; omega
  have hl2 : (xs.drop (k + 1)).length = n - (k + 1) := by rw [List.length_drop, hn]
  have hlen : (xs.take k ++ xs.drop (k + 1)).length = n - 1 := by rw [List.length_append, hl1, hl2]; omega
  rcases Nat.eq_zero_or_pos (n - (k + 1)) with hm | hm
  · have hnil : xs.drop (k + 1) = [] := List.eq_nil_of_length_eq_zero (by rw [hl2, hm])
    rw [hm] at hx
    refine step_pushes tStr base hgd s x 33 9 _ 16 ho Try.underlying33 infoStr rfl (by decide) (by decide) _ _ (xs.take k) [] no no hs hx ?_ (fun k hk => hk.elim) hcut hbase (by rw [hl1]; simp only [List.length_nil]; omega) (fun v1 w1 h1 h2 h3 => ?_)
    · have hc : c - (k + 1) ≤ 9223372036854775807 := by
        obtain ⟨A5, c5, e5, _, h6⟩ := HO.form
        injection e5 with _ _ e5
        omega
      refine ⟨_, _, rfl, Nat.zero_le _, hc, by simp, fun e => ?_, fun h => absurd rfl h⟩
      split at e <;> cases e
    · rw [hnil] at h hlen
      have h1' := h1
      obtain ⟨A1, c1, e1, _, _⟩ := h1.form
      rcases h3 with h3 | ⟨b, h3, hb3⟩
      · have h3' := h3
        rw [e1] at h3
        cases A1 with
        | none => simp [Value.ownBlock] at h3
        | some ad =>
          rw [hlen] at e1
          rcases own_case ((own_enc Value.string strD rfl).1 h1') with ⟨e2, _, _⟩ | ⟨g2, cap, cur, e2, _, _, _, _, _, _, _, _⟩
          · rw [e2] at e1; cases e1
          · rw [hlen] at e2
            subst e2
            rw [show (Value.slice (some ⟨g, 0, none⟩) k c).ownBlock = some g from rfl] at h2
            exact h _ _ _ h1 h2 (.inl (by simpa [Value.ownBlock] using h3'))
      · rcases own_case ((own_enc Value.string strD rfl).1 h1') with ⟨e2, _, _⟩ | ⟨g2, cap, cur, e2, _, _, _, _, _, _, _, _⟩
        · rw [e2] at h3; simp [Value.ownBlock] at h3
        · rw [hlen] at e2
          subst e2
          have hgb : g2 = b := by simpa [Value.ownBlock] using h3
          exact h _ _ _ h1 h2 (.inr (by omega))
  · obtain ⟨ii, hi1, hi2⟩ : ∃ i, Try.prog.info? 9 = some i ∧ (i.zero, i.size, i.bytes) = (some (Value.string ⟨#[]⟩), 1, 16) := by
      have := infoStr
      cases hii : Try.prog.info? 9 with
      | none => rw [hii] at this; simp at this
      | some i => rw [hii] at this; exact ⟨i, rfl, by simpa using this⟩
    simp only [Prod.mk.injEq] at hi2
    have hcap : n ≤ c := by
      obtain ⟨A5, c5, e5, h5, h6⟩ := HO.form
      injection e5 with _ e6 e5
      omega
    rw [if_neg (by omega), show (⟨g, k + 1, none⟩ : Addr) = ⟨g, 0 + (k + 1), none⟩ by rw [Nat.zero_add]] at hx
    refine step_append_lies w hgd s x 33 ho base 9 ii (.string ⟨#[]⟩) 1 16 Try.underlying33 hi1 hi2.1 hi2.2.1 hi2.2.2 rfl (by decide) (.slice (some ⟨g, 0, none⟩) k c) k ((xs.take k).map Value.string) hs (by have := (own_enc Value.string strD rfl).1 hcut; rwa [hl1] at this) ⟨g, 0 + (k + 1), none⟩ (n - (k + 1)) (c - (k + 1)) ((xs.drop (k + 1)).map Value.string) hx (by rw [List.length_map, hl2, Nat.mul_one]) (fun j u hu => ?_) (fun u hu => ?_) hm (by unfold maxLen; omega) (by omega) hbase _ rfl (fun g' c' w' h1 h2 h3 h4 => ?_)
    · rw [List.getElem?_map] at hu
      obtain ⟨y, hy, rfl⟩ := Option.map_eq_some_iff.1 hu
      rw [List.getElem?_drop] at hy
      obtain ⟨g2, o2, e2, _, hc2⟩ := (own_rd strD rfl HO).get hy
      injection e2 with e2
      injection e2 with e2 e3
      subst e2 e3
      have hadd : (⟨g, 0 + (k + 1), none⟩ : Addr).add j = ⟨g, 0 + (k + 1 + j), none⟩ := by
        rcases Nat.eq_zero_or_pos j with rfl | hj
        · rw [add_zero]
        · rw [add_pos _ j hj, Nat.add_assoc]
      rw [hadd]
      exact hc2
    · obtain ⟨y, _, rfl⟩ := List.mem_map.1 hu
      rfl
    · rw [← List.map_append, show k + (n - (k + 1)) = n - 1 by omega] at h1
      rw [show k + (n - (k + 1)) = n - 1 by omega]
      refine h g' c' w' ?_ h2 (by
        rcases h3 with h3 | h3
        · exact .inl (by simpa [Value.ownBlock] using h3.symm)
        · exact .inr (by omega))
      refine (own_enc Value.string strD rfl).2 ?_
      rw [hlen]
      exact h1
theorem strs_get {ok : Nat → Prop} {w : World} {A : Option Addr} {xs : List ByteArray} (h : Row tStr ok w A xs) (i : Nat) (hi : i < xs.length) : ∃ ad x, A = some ad ∧ xs[i]? = some x ∧ w.cell? (ad.add i) = some (.string x) := by
  obtain ⟨ad, cs, rfl, _, _, hr, ha⟩ := h.get i hi
  have hr : cs = [.string xs[i]] := hr
  subst hr
  have := T.At.c0 ha rfl
  rw [show i * tStr.sz = i from Nat.mul_one i] at this
  exact ⟨ad, xs[i], rfl, List.getElem?_eq_getElem hi, this⟩
theorem ints_get {ok : Nat → Prop} {w : World} {A : Option Addr} {xs : List Int} (h : Row (tInt .i64) ok w A xs) (i : Nat) (hi : i < xs.length) : ∃ ad x, A = some ad ∧ xs[i]? = some x ∧ w.cell? (ad.add i) = some (.int .i64 x) := by
  obtain ⟨ad, cs, rfl, _, _, hr, ha⟩ := h.get i hi
  have hr : cs = [.int .i64 xs[i]] := hr
  subst hr
  have := T.At.c0 ha rfl
  rw [show i * (tInt .i64).sz = i from Nat.mul_one i] at this
  exact ⟨ad, xs[i], rfl, List.getElem?_eq_getElem hi, this⟩
end Go.Proofs.Ytcpahknlabnnbaa.T
namespace Go.Proofs.Ytcpahknlabnnbaa.T
open Go Go.RowKit Go.Sort Go.Proofs.Ytcpahknlabnnbaa.Mem

/-- The first loop: i texts are put in. -/
structure OL1 (B : Nat) (W0 : World) (a T U : Nat) (l : List ByteArray) (i : Nat) (wr : World) (es : List ByteArray) : Prop where
  t : TT2 a T U (fun k => k < B) wr es []
  mem : ∀ x, x ∈ es ↔ x ∈ l.take i ∧ okTxt x
  len : es.length ≤ i
  k : Kps (fun b => ¬ b < B) W0 wr
/-- The second loop: lf is left. -/
structure OL2 (B : Nat) (W0 : World) (a T U : Nat) (l : List ByteArray) (es1 : List ByteArray) (i : Nat) (wr : World) (v : Value) (lf es : List ByteArray) : Prop where
  t : TT2 a T U (fun k => k < B ∨ v.ownBlock = some k) wr es1 es
  o : Own tStr 9 no wr B v lf
  bw : B ≤ wr.heap.size
  a1 : ∀ x ∈ lf, x ∈ l
  a2 : ∀ x ∈ es, x ∈ l ∧ okTxt x
  a3 : ∀ x ∈ l, okTxt x → x ∈ lf ∨ x ∈ es
  len : es.length ≤ i
  sum : lf.length + i = l.length
  k : Kps (fun b => ¬ b < B) W0 wr
theorem mem_cut {l : List ByteArray} {k : Nat} {y : ByteArray} (h : l[k]? = some y) (x : ByteArray) : x ∈ l ↔ x = y ∨ x ∈ l.take k ++ l.drop (k + 1) := by
  conv => lhs; rw [split_at h]
  simp only [List.mem_append, List.mem_cons]
  constructor
  · rintro (h | h | h)
    · exact .inr (.inl h)
    · exact .inl h
    · exact .inr (.inr h)
  · rintro (h | h | h)
    · exact .inr (.inl h)
    · exact .inl h
    · exact .inr (.inr h)
theorem grownBy_kps {w w' : World} {g : Nat} (h : w.drew.grownBy w' (some g)) : Kps (fun k => k = g) w w' := ⟨h.os, h.tape, h.output, h.size, fun k hk hn => h.block k hk (fun e => hn (Option.some.inj e))⟩
/-- One turn of the second loop. -/
theorem OL2.turn {B : Nat} {W0 wr w10 w11 : World} {a T U : Nat} {l es lf es2 es3 : List ByteArray} {q g m c9 g' c' j n : Nat} {y : ByteArray} (Q : OL2 B W0 a T U l es q wr (.slice (some ⟨g, 0, none⟩) m c9) lf es2) (hj : j < lf.length) (hy : lf[j]? = some y)
    (g3 : TT2 a U T (fun k => k < B ∨ (Value.slice (some ⟨g, 0, none⟩) m c9).ownBlock = some k) w10 es3 es) (g4 : ∀ x, x ∈ es3 ↔ x ∈ es2 ∨ x = y ∧ okTxt y) (g5 : es3.length ≤ es2.length + 1)
    (g6 : Kps (fun b => ¬ (b < B ∨ (Value.slice (some ⟨g, 0, none⟩) m c9).ownBlock = some b)) wr w10)
    (ho : Own tStr 9 no w11 B (.slice (some ⟨g', 0, none⟩) n c') (lf.take j ++ lf.drop (j + 1))) (hg : w10.drew.grownBy w11 (some g)) (hgg : g' = g ∨ w10.drew.heap.size ≤ g') :
    OL2 B W0 a T U l es (q + 1) w11 (.slice (some ⟨g', 0, none⟩) n c') (lf.take j ++ lf.drop (j + 1)) es3 := by
  have hk := grownBy_kps hg
  have hgB := Q.o.lt g rfl
  have hgn := ho.lt g' rfl
  refine ⟨(g3.swap).step (hk.mono fun b hb => .inr (by subst hb; rfl)) (fun b hb => ?_), ho, Nat.le_trans (Nat.le_trans Q.bw g6.size) hk.size, fun x hx => Q.a1 x ((mem_cut hy x).2 (.inr hx)), fun x hx => ?_, fun x hx hx2 => ?_, by have := Q.len; omega, ?_, Q.k.trans ((g6.mono fun b hb h => hb (.inl h)).trans (hk.mono fun b hb h => by have hb : b = g := hb; omega))⟩
  · rcases hb with hb | hb
    · exact .inl (.inl hb)
    · have hb : some g' = some b := hb
      injection hb with hb
      subst hb
      rcases hgg with rfl | h
      · exact .inl (.inr rfl)
      · exact .inr ⟨h, hgn.2⟩
  · rcases (g4 x).1 hx with h | ⟨rfl, h⟩
    · exact Q.a2 x h
    · exact ⟨Q.a1 x ((mem_cut hy x).2 (.inl rfl)), h⟩
  · rcases Q.a3 x hx hx2 with h | h
    · rcases (mem_cut hy x).1 h with rfl | h
      · exact .inr ((g4 x).2 (.inr ⟨rfl, hx2⟩))
      · exact .inl h
    · exact .inr ((g4 x).2 (.inl h))
  · have := Q.sum
    rw [List.length_append, List.length_take, List.length_drop]
    omega
set_option maxHeartbeats 4000000 in
set_option maxRecDepth 100000 in
theorem ordersCalls (ok1 ok2 : Nat → Prop) (v1 v2 : Value) (l : List ByteArray) (tn : List Int) (W : World) (h1 : Sl tStr ok1 W v1 l) (h2 : Sl (tInt .i64) ok2 W v2 tn) :
    Calls Try.prog 5 #[v1, v2] W fun e W' => e = .returned (.bool true) ∧ Below W.heap.size W W' := by
  obtain ⟨A1, c1, rfl, p1, p2, p3⟩ := h1.shape
  obtain ⟨A2, c2', rfl, p4, p5, p6⟩ := h2.shape
  have H1 := put h1
  have H2 := put h2
  obtain ⟨n, hn⟩ : ∃ n, n = l.length := ⟨_, rfl⟩
  obtain ⟨tl, htl⟩ : ∃ tl, tl = tn.length := ⟨_, rfl⟩
  rw [← hn] at p1 p3 H1 ⊢
  rw [← htl] at p4 p6 H2 ⊢
  have HN := put hn
  have HTL := put htl
  clear h1 h2 hn htl
  go_enter Try.func5, Try.ntmps5
  go_wp2_with fail
  refine (awakeCalls W).mono ?_
  rintro e w3 ⟨rfl, hb3⟩
  have B3 := put hb3
  clear hb3
  by_cases hl : (n : Int) > 120
  · go_wp2_with fail
    go_ret
    exact ⟨rfl, B3.out⟩
  have hn120 : n ≤ 120 := by omega
  go_wp2_with fail
  refine (newArena (D := fun k => k < w3.heap.size) 4000 w3 (by omega) (fun _ h => h)).mono ?_
  rintro e w4 ⟨rfl, as1, b1⟩
  have AS4 := put as1
  have B34 := put b1
  clear as1 b1
  go_wp2_with fail
  refine (newTS AS4.out (ar_ok 4000 (by omega)) (ar_left 4000 (by omega)) (fun k hk => Nat.lt_of_lt_of_le hk B34.out.size)).mono ?_
  rintro e w5 ⟨rfl, A5, i5, t5, k5, q5, u5, _, _⟩
  have T5 := put t5
  have K5 := put k5
  have Q5 : Kp (A5.quota = 4000 ∧ A5.used = 1) := put ⟨q5, by rw [u5]; rfl⟩
  clear t5 k5 q5 u5
  go_wp2_with fail
  refine (new2 T5.out Q5.out.1 Q5.out.2 (fun k hk => Nat.lt_of_lt_of_le hk (Nat.le_trans B34.out.size K5.out.size))).mono ?_
  rintro e w6 ⟨rfl, t6, k6⟩
  have P0 : Kp (OL1 w3.heap.size w3 w3.heap.size w4.heap.size w5.heap.size l 0 w6 []) := put ⟨t6, fun x => by simp, Nat.le_refl _, ((below_kps B34.out _).trans K5.out).trans k6⟩
  clear t6 k6
  obtain ⟨B, hB⟩ : ∃ B, B = w3.heap.size := ⟨_, rfl⟩
  obtain ⟨T, hT⟩ : ∃ T, T = w4.heap.size := ⟨_, rfl⟩
  obtain ⟨U, hU⟩ : ∃ U, U = w5.heap.size := ⟨_, rfl⟩
  obtain ⟨a, ha⟩ : ∃ a, a = w3.heap.size := ⟨_, rfl⟩
  have P1 : Kp (OL1 B w3 a T U l 0 w6 []) := put (by rw [hB, ha, hT, hU]; exact P0.out)
  have HB := put hB
  rw [← hT, ← hU, ← ha]
  clear P0 hT hU ha hB
  go_wp2_with fail
  go_loopg [43] n (fun kx s43 wr => ∃ (i : Nat) (es : List ByteArray), s43 = .int .i64 i ∧ i ≤ n ∧ n - i ≤ kx ∧ Kp (OL1 B w3 a T U l i wr es))
  case atStart => exact ⟨0, [], rfl, Nat.zero_le _, Nat.le_refl _, P1⟩
  case round =>
    obtain ⟨i, es, rfl, hi, hkx, PP⟩ := hrel
    have BW3 : Kp (Below w3.heap.size w3 wr) := put (PP.out.k.below (fun k hk => by have := HB.out; omega) (Nat.le_refl _))
    have BW : Kp (Below W.heap.size W wr) := put (bt B3.out BW3.out)
    by_cases hlt : i < n
    · have hlz : (i : Int) < (n : Int) := by omega
      have i0 : (0 : Int) ≤ (i : Int) := by omega
      have hwr : IntKind.i64.wrap ((i : Int) + 1) = (i : Int) + 1 := IntWalk.i64_in _ (by omega)
      obtain ⟨ad, x, rfl, hx, x0⟩ := strs_get (H1.out.below BW.out).row.1 i (by rw [← HN.out]; exact hlt)
      have HX := put hx
      have IC := put (ins2 PP.out.t x (by have := PP.out.len; omega) (by simp))
      clear hx
      go_wp2_with fail
      refine IC.out.mono ?_
      rintro e w7 ⟨c, es', rfl, g1, g2, g3, g4⟩
      have PN : Kp (OL1 B w3 a T U l (i + 1) w7 es') := put ⟨g1, fun y => by
        rw [g2 y, PP.out.mem y, take1 HX.out, List.mem_append, List.mem_singleton]
        constructor
        · rintro (⟨h1, h2⟩ | ⟨rfl, h2⟩)
          · exact ⟨.inl h1, h2⟩
          · exact ⟨.inr rfl, h2⟩
        · rintro ⟨h1 | h1, h2⟩
          · exact .inl ⟨h1, h2⟩
          · exact .inr ⟨h1, h1 ▸ h2⟩, by have := PP.out.len; omega, PP.out.k.trans g4⟩
      clear g1 g2 g3 g4
      go_wp2_with fail
      go_roundg (n - (i + 1))
      case measure => omega
      case rel => exact ⟨i + 1, es', rfl, by omega, Nat.le_refl _, PN⟩
    · have hlz : ¬ (i : Int) < (n : Int) := by omega
      obtain rfl : i = n := by omega
      have HM1 : Kp (∀ x, x ∈ es ↔ x ∈ l ∧ okTxt x) := put fun x => by
        have := PP.out.mem x
        rwa [HN.out, List.take_length] at this
      have HSL := put (H1.out.below BW.out)
      have hwB : B ≤ wr.heap.size := by have := HB.out; have := BW3.out.size; omega
      have hlit : Below wr.heap.size wr (wr.alloc (.cells #[] 9)) := balloc (Below.refl _ _) _
      have OW0 : Kp (Own tStr 9 no (wr.alloc (.cells #[] 9)) wr.heap.size (.slice (some ⟨wr.heap.size, 0, none⟩) 0 0) []) := put (Own.lit' _ (heap_alloc_new _ _) (Nat.le_refl _))
      have HLIT := put hlit
      go_wp2_with (at_builtin; go_loud (refine wpList_pushes tStr wr.heap.size rfl _ _ 33 9 _ 16 rfl Try.underlying33 infoStr rfl (by decide) (by decide) (.slice (some ⟨wr.heap.size, 0, none⟩) 0 0) (.slice A1 i c1) [] l (fun k => k < wr.heap.size) (fun k => ok1 k ∧ k < wr.heap.size) rfl rfl ((HSL.out.bnd).below HLIT.out) (fun k hk => ⟨hk.2, ne_new hk.2 (Nat.le_refl _)⟩) (own_strs OW0.out _) HLIT.out.size (by have := HN.out; simp only [List.length_nil]; omega) ?_; intro v1 w8 ho hg hat; have hb8 : Below wr.heap.size wr w8 := Below.grown HLIT.out hg HLIT.out.size (lit_block (Nat.le_refl _)); rw [List.nil_append] at ho; obtain ⟨A8, c8, e8, _, _⟩ := ho.form; rw [← HN.out] at e8; subst e8; have OW8 := put (own_strs ho no); have B8 := put hb8; clear ho hg hat hb8))
      have P2 : Kp (OL2 B w3 a T U l es 0 w8 (.slice A8 i c8) l []) := put ⟨PP.out.t.step (below_kps B8.out _) (fun b hb => hb.imp id (fun h => OW8.out.lt b h)), OW8.out.lower hwB, Nat.le_trans hwB B8.out.size, fun _ h => h, by simp, fun x hx _ => .inl hx, Nat.le_refl _, rfl, PP.out.k.trans (below_kps B8.out _)⟩
      have HES := put PP.out.len
      have hes : es.length ≤ 120 := by have := PP.out.len; omega
      clear hlit OW0 HLIT HSL
      go_loopg [13, 14] i (fun kx s13 s14 wq => ∃ (q : Nat) (lf es2 : List ByteArray), s14 = .int .i64 q ∧ lf.length ≤ kx ∧ Kp (OL2 B w3 a T U l es q wq s13 lf es2))
      case atStart => exact ⟨0, l, [], rfl, Nat.le_of_eq HN.out.symm, P2⟩
      case round =>
        obtain ⟨q, lf, es2, rfl, hkx2, QQ⟩ := hrel
        have hsum := QQ.out.sum
        have hqn : q + lf.length = i := by rw [HN.out]; omega
        have BQ3 : Kp (Below w3.heap.size w3 wr) := put (QQ.out.k.below (fun k hk => by have := HB.out; omega) (Nat.le_refl _))
        have BQ : Kp (Below W.heap.size W wr) := put (bt B3.out BQ3.out)
        obtain ⟨A9, c9, e9, r1, r2⟩ := QQ.out.o.form
        subst e9
        obtain ⟨m, hm⟩ : ∃ m, m = lf.length := ⟨_, rfl⟩
        rw [← hm] at QQ hkx2 hqn r1 ⊢
        have HM := put hm
        clear hm hsum
        by_cases h0 : m = 0
        · have h0z : ¬ (m : Int) > 0 := by omega
          have hlf : lf = [] := List.length_eq_zero_iff.1 (by rw [← HM.out]; exact h0)
          have hee : es2 = es := rise_ext QQ.out.t.swap.rise QQ.out.t.rise (fun x => by
            rw [HM1.out x]
            constructor
            · exact QQ.out.a2 x
            · rintro ⟨h1, h2⟩
              rcases QQ.out.a3 x h1 h2 with h3 | h3
              · rw [hlf] at h3; simp at h3
              · exact h3)
          have HEE := put hee
          have TA := put QQ.out.t
          clear hlf hee
          go_wp2_with fail
          refine (all2 TA.out (by omega)).mono ?_
          rintro e w10 ⟨va, rfl, hra, hba⟩
          have TB := put (TA.out.below hba)
          have RA := put hra
          have B10 := put (bt BQ.out hba)
          clear hra hba
          go_wp2_with fail
          refine (all2 TB.out.swap (by have := HEE.out; rw [this]; omega)).mono ?_
          rintro e w11 ⟨vb, rfl, hrb, hbb⟩
          rw [HEE.out] at hrb
          have TC := put (TB.out.below hbb)
          have SM := put (sameTrue _ _ va vb es w11 (RA.out.below hbb) hrb (by omega))
          have B11 := put (bt B10.out hbb)
          clear hrb hbb
          go_wp2_with fail
          refine SM.out.mono ?_
          rintro e w12 ⟨rfl, hb12⟩
          have TD := put (TC.out.below hb12)
          have B12 := put (bt B11.out hb12)
          clear hb12
          go_wp2_with fail
          refine (len2 TD.out).mono ?_
          rintro e w13 ⟨rfl, rfl⟩
          go_wp2_with fail
          refine (len2 TD.out.swap).mono ?_
          rintro e w14 ⟨rfl, rfl⟩
          rw [HEE.out]
          go_wp2_with fail
          go_ret
          exact ⟨rfl, B12.out⟩
        · have hmp : 0 < m := by omega
          have h0z : (m : Int) > 0 := by omega
          obtain ⟨g, e10, hgB, hgl⟩ : ∃ g, A9 = some ⟨g, 0, none⟩ ∧ B ≤ g ∧ g < wr.heap.size := by
            rcases own_case ((own_enc Value.string strD rfl).1 QQ.out.o) with ⟨e, _, _⟩ | ⟨g, cap, cur, e, h1, h2, _⟩
            · injection e with _ e _
              omega
            · injection e with e _ _
              exact ⟨g, e, h1, h2⟩
          subst e10
          by_cases hq : (q : Int) < (tl : Int)
          · obtain ⟨ad2, x, e11, _, x0⟩ := ints_get (H2.out.below BQ.out).row.1 q (by rw [← HTL.out]; omega)
            subst e11
            obtain ⟨p, hp⟩ : ∃ p : Int, p = x.tmod (m : Int) := ⟨_, rfl⟩
            have hp1 : p < (m : Int) := by rw [hp]; exact Int.tmod_lt_of_pos _ (by omega)
            have hp2 : -(m : Int) < p := by rw [hp]; exact Int.lt_tmod_of_pos _ (by omega)
            obtain ⟨u, hu⟩ : ∃ u : Nat, (u : Int) = p + (m : Int) := ⟨(p + (m : Int)).toNat, by omega⟩
            have e1 : x.tmod (m : Int) = p := hp.symm
            have e2 : IntKind.i64.wrap p = p := IntWalk.i64_in _ (by omega)
            have e3 : IntKind.i64.wrap (p + (m : Int)) = (u : Int) := by rw [hu]; exact IntWalk.i64_in _ (by omega)
            have e4 : (u : Int).tmod (m : Int) = ((u % m : Nat) : Int) := (Int.ofNat_tmod u m).symm
            have hj : u % m < m := Nat.mod_lt _ hmp
            obtain ⟨j, hj'⟩ : ∃ j, j = u % m := ⟨_, rfl⟩
            rw [← hj'] at e4 hj
            have e5 : IntKind.i64.wrap (j : Int) = (j : Int) := IntWalk.i64_in _ (by omega)
            have q0 : (0 : Int) ≤ (q : Int) := by omega
            have hm0 : ¬ (m : Int) = 0 := by omega
            clear hp hu hj'
            obtain ⟨y, g2, o2, hy, hA, hg2, hcell⟩ := (own_rd strD rfl QQ.out.o).at' (i := j) (by rw [← HM.out]; exact hj)
            injection hA with hA
            injection hA with hA hA2
            subst hA hA2
            have HY := put hy
            have i1 : (0 : Int) ≤ (j : Int) := by omega
            have i2 : (j : Int) < (m : Int) := by omega
            have i3 : IntKind.i64.wrap ((j : Int) + 1) = (j : Int) + 1 := IntWalk.i64_in _ (by omega)
            have i4 : IntKind.i64.wrap ((q : Int) + 1) = (q : Int) + 1 := IntWalk.i64_in _ (by omega)
            have i5 : (j : Int) ≤ (m : Int) := by omega
            have i6 : (j : Int) + 1 ≤ (m : Int) := by omega
            have i7 : (0 : Int) ≤ (j : Int) + 1 := by omega
            have i8 : ((j : Int) + 1).toNat = j + 1 := by omega
            have i9 : (j : Int) ≤ (c9 : Int) := by omega
            have i10 : (j : Int) + 1 ≤ (c9 : Int) := by omega
            have IC := put (ins2 QQ.out.t.swap y (by have := QQ.out.len; omega) hes)
            have hcell' : wr.cell? ⟨g, j, none⟩ = some (.string y) := by simpa using hcell
            clear hy
            go_wp2_with fail
            refine IC.out.mono ?_
            rintro e w10 ⟨c, es3, rfl, g3, g4, g5, g6⟩
            have G3 := put g3
            have G4 := put g4
            have G5 := put g5
            have G6 := put g6
            have OW10 : Kp (Own tStr 9 no w10 B (.slice (some ⟨g, 0, none⟩) m c9) lf) := put (QQ.out.o.move (fun b hb => g6.block b (QQ.out.o.lt b hb).2 (fun h => h (.inr hb))) (fun _ hb => hb.elim))
            have hs10 : B ≤ w10.heap.size := Nat.le_trans QQ.out.bw g6.size
            clear g3 g4 g5 g6 hcell hcell'
            go_wp2_with fail
            go_region_held3 (fun _ => True) (exact trivial) (first | (refine pushCut rfl _ _ rfl rfl rfl OW10.out.drew HM.out hj (by omega) hs10 ?_; intro g' c' w11 ho hg hgg; have OW11 := put ho; have GR11 := put hg; have GE11 := put hgg; clear ho hg hgg))
            go_wp2_with fail
            all_goals
              have PN := put (QQ.out.turn (by rw [← HM.out]; exact hj) HY.out G3.out G4.out G5.out G6.out OW11.out GR11.out GE11.out)
              go_roundg (m - 1)
              case measure => omega
              case rel => exact ⟨q + 1, lf.take j ++ lf.drop (j + 1), es3, rfl, by have := HM.out; rw [List.length_append, List.length_take, List.length_drop]; omega, PN⟩
          · have hj : 0 < m := hmp
            obtain ⟨y, g2, o2, hy, hA, hg2, hcell⟩ := (own_rd strD rfl QQ.out.o).at' (i := 0) (by rw [← HM.out]; exact hj)
            injection hA with hA
            injection hA with hA hA2
            subst hA hA2
            have HY := put hy
            have i1 : (0 : Int) ≤ (0 : Int) := by omega
            have i2 : (0 : Int) < (m : Int) := by omega
            have i3 : IntKind.i64.wrap ((1 : Int)) = (1 : Int) := IntWalk.i64_in _ (by omega)
            have i4 : IntKind.i64.wrap ((q : Int) + 1) = (q : Int) + 1 := IntWalk.i64_in _ (by omega)
            have i5 : (0 : Int) ≤ (m : Int) := by omega
            have i6 : (1 : Int) ≤ (m : Int) := by omega
            have i7 : (0 : Int) ≤ (1 : Int) := by omega
            have i8 : (1 : Int).toNat = 1 := by omega
            have i9 : (0 : Int) ≤ (c9 : Int) := by omega
            have i10 : (1 : Int) ≤ (c9 : Int) := by omega
            have IC := put (ins2 QQ.out.t.swap y (by have := QQ.out.len; omega) hes)
            have hcell' : wr.cell? ⟨g, 0, none⟩ = some (.string y) := by simpa using hcell
            clear hy
            go_wp2_with fail
            refine IC.out.mono ?_
            rintro e w10 ⟨c, es3, rfl, g3, g4, g5, g6⟩
            have G3 := put g3
            have G4 := put g4
            have G5 := put g5
            have G6 := put g6
            have OW10 : Kp (Own tStr 9 no w10 B (.slice (some ⟨g, 0, none⟩) m c9) lf) := put (QQ.out.o.move (fun b hb => g6.block b (QQ.out.o.lt b hb).2 (fun h => h (.inr hb))) (fun _ hb => hb.elim))
            have hs10 : B ≤ w10.heap.size := Nat.le_trans QQ.out.bw g6.size
            clear g3 g4 g5 g6 hcell hcell'
            go_wp2_with fail
            go_region_held3 (fun _ => True) (exact trivial) (first | (refine pushCut rfl _ _ rfl rfl rfl OW10.out.drew HM.out hj (by omega) hs10 ?_; intro g' c' w11 ho hg hgg; have OW11 := put ho; have GR11 := put hg; have GE11 := put hgg; clear ho hg hgg))
            go_wp2_with fail
            all_goals
              have PN := put (QQ.out.turn (by rw [← HM.out]; exact hj) HY.out G3.out G4.out G5.out G6.out OW11.out GR11.out GE11.out)
              go_roundg (m - 1)
              case measure => omega
              case rel => exact ⟨q + 1, lf.take 0 ++ lf.drop ((0 + 1)), es3, rfl, by have := HM.out; rw [List.length_append, List.length_take, List.length_drop]; omega, PN⟩
end Go.Proofs.Ytcpahknlabnnbaa.T
