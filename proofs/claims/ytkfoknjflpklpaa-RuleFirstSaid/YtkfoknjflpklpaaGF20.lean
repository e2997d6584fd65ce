/- Rules as a row of the laws hands them in. -/
import Derived.Test.YtkfoknjflpklpaaGF19
import Derived.Test.YtkfoknjflpklpaaGF5
import Derived.ChangeArms

namespace Go.Proofs.Ytkfoknjflpklpaa.D
open Go Go.RowKit Go.Proofs.Ytkfoknjflpklpaa.Mem

/-- What is handed in at type t, at this fuel, reads as d says. -/
def OpnF {H α : Type} (enc : TypeId × Value → H) (d : Ty α) (t : TypeId) (W : World) (fuel : Nat) : Prop :=
  ∀ (cs : List Value) (x : DataW H × List MemPlace), DataW.trod enc Try.prog W 0 (fun _ => true) true fuel t cs = some x → Light Try.prog t x.1 → ∃ a, d.R (fun _ => True) W a cs

section
variable {H : Type} {enc : TypeId × Value → H} {W : World}

theorem Opn.f {α : Type} {d : Ty α} {t : TypeId} (h : Opn enc d t W) (fuel : Nat) : OpnF enc d t W fuel := h fuel

/-- A slice, and how many bytes it has. -/
theorem opnF_slice {α : Type} [Inhabited α] {d : Ty α} {t e : TypeId} {sz B fuel : Nat} (hsz : d.sz = sz) (ht : Try.prog.underlying t = some (.slice e)) (hc : Try.prog.cellsOf e = sz) (hb : Try.prog.bytesOf e = B) (hB : 0 < B) (hz : 0 < sz) (ho : ∀ f, f < fuel → OpnF enc d e W f)
    (cs : List Value) (x : DataW H × List MemPlace) (h : DataW.trod enc Try.prog W 0 (fun _ => true) true fuel t cs = some x) (hl : Light Try.prog t x.1) : ∃ v a, cs = [v] ∧ SlB d B (fun _ => True) W v a := by
  subst hsz
  rcases DataW.trod_slice ht h with ⟨rfl, rfl⟩ | ⟨a, len, cap, elems, rest, n, rfl, rfl, rfl, _, hlc, hcm, hlen, hel, _, _⟩
  · exact ⟨_, [], rfl, Sl.nil _ _ _, by simp⟩
  · have hw : ∀ n ∈ DataW.weights Try.prog t (.slice (elems.map (·.1)) (rest.map (·.1))), n ≤ reachBytes := hl
    simp only [DataW.weights, ht, List.mem_cons, List.mem_append] at hw
    have h0 := hw _ (.inl rfl)
    have hall := light_all (fun n hn => hw n (.inr (.inl hn)))
    rw [hb, List.length_map, List.length_map, hlen] at h0
    have hlB : len * B ≤ 140737488355328 := by
      have h1 : len * B ≤ (len + rest.length) * B := Nat.mul_le_mul_right _ (by omega)
      have h3 := reachBytes_lt
      omega
    have hl9 : len ≤ 140737488355328 := Nat.le_trans (Nat.le_mul_of_pos_right _ hB) hlB
    obtain ⟨f, hf⟩ := Deep.choose_lt (n := len) (p := fun i b => ∃ cs, W.cells? 0 (a.add (i * d.sz)) d.sz = some cs ∧ d.R (fun _ => True) W b cs) (fun i hi => by
      have h1 := hel i hi
      rw [List.getElem?_eq_getElem (by omega), hc] at h1
      cases hcs : W.cells? 0 (a.add (i * d.sz)) d.sz with
      | none => rw [hcs] at h1; cases h1
      | some cs' =>
        rw [hcs] at h1
        obtain ⟨b, hb'⟩ := ho n (by omega) cs' _ h1 (hall _ (List.mem_map.2 ⟨_, List.getElem_mem (by omega), rfl⟩))
        exact ⟨b, cs', rfl, hb'⟩)
    refine ⟨_, (List.range len).map f, rfl, ⟨some a, cap, by simp, by simpa using hlc, by simpa [maxLen] using hcm, by simpa using hl9, (fun e => by cases e), fun hne => ?_⟩, by simpa using hlB⟩
    have hpos : 0 < len := by
      rcases Nat.eq_zero_or_pos len with h | h
      · subst h; simp at hne
      · exact h
    refine ⟨a, rfl, trivial, ?_, fun i x hx => ?_⟩
    · obtain ⟨cs', h1, hr⟩ := hf 0 hpos
      obtain ⟨_, hcl, hcg⟩ := World.cells?_some h1
      have h2 := hcg 0 hz
      rw [List.getElem?_eq_getElem (by omega), Nat.zero_mul, add_zero, add_zero] at h2
      unfold World.cell? at h2
      cases hh : W.heap[a.block]? with
      | none => rw [hh] at h2; simp at h2
      | some o => exact (Array.getElem?_eq_some_iff.1 hh).1
    · rw [List.getElem?_map] at hx
      cases hr : (List.range len)[i]? with
      | none => rw [hr] at hx; cases hx
      | some j =>
        rw [hr] at hx
        obtain ⟨hi, hj⟩ := List.getElem?_eq_some_iff.1 hr
        rw [List.getElem_range] at hj
        subst hj
        simp only [Option.map_some, Option.some.injEq] at hx
        subst hx
        obtain ⟨cs', h1, hr'⟩ := hf i (by simpa using hi)
        obtain ⟨_, hcl, hcg⟩ := World.cells?_some h1
        refine ⟨cs', hr', fun j u hu => ?_⟩
        have hjl := (List.getElem?_eq_some_iff.1 hu).1
        have := hcg j (by omega)
        rw [add_add] at this
        rw [this, hu]

/-- A struct's fields. -/
theorem opnF_fields {t : TypeId} {fs : Array Field} {fuel : Nat} {cs : List Value} {x : DataW H × List MemPlace} (ht : Try.prog.underlying t = some (.struct fs)) (h : DataW.trod enc Try.prog W 0 (fun _ => true) true fuel t cs = some x) (hl : Light Try.prog t x.1) :
    ∃ n, fuel = n + 1 ∧ cs.length = Try.prog.cellsOf t ∧ ∀ (i ty off sz : Nat), (fs[i]?).map (fun f => (f.type, f.offset)) = some (ty, off) → Try.prog.cellsOf ty = sz → ∃ y, DataW.trod enc Try.prog W 0 (fun _ => true) true n ty ((cs.drop off).take sz) = some y ∧ Light Try.prog ty y.1 := by
  obtain ⟨xs, n, rfl, rfl, hlc, hn, hf⟩ := DataW.trod_struct ht h
  refine ⟨n, rfl, hlc, fun i ty off sz hfi hsz => ?_⟩
  obtain ⟨f, hi, hff⟩ := Option.map_eq_some_iff.1 hfi
  simp only [Prod.mk.injEq] at hff
  obtain ⟨rfl, rfl⟩ := hff
  subst hsz
  have h1 := hf i f hi
  have hlt : i < xs.length := by rw [hn]; exact (Array.getElem?_eq_some_iff.1 hi).1
  rw [List.getElem?_eq_getElem hlt] at h1
  refine ⟨_, h1, ?_⟩
  have hw : ∀ n ∈ DataW.weights Try.prog t (.agg (xs.map (·.1))), n ≤ reachBytes := hl
  simp only [DataW.weights, ht] at hw
  exact light_each hw (j := i) (by rw [List.getElem?_map, Array.getElem?_toList, hi]; rfl) (by rw [List.getElem?_map, List.getElem?_eq_getElem hlt]; rfl)

theorem opn_str1 {n : Nat} {v : Value} {y : DataW H × List MemPlace} (h : DataW.trod enc Try.prog W 0 (fun _ => true) true n 9 [v] = some y) : ∃ s, v = .string s := by
  obtain ⟨s, e, _, _⟩ := DataW.trod_string Try.underlying9 h
  simp only [List.cons.injEq, and_true] at e
  exact ⟨s, e⟩
theorem opn_str2 {n : Nat} {v : Value} {y : DataW H × List MemPlace} (h : DataW.trod enc Try.prog W 0 (fun _ => true) true n 9 [v] = some y) : ∃ s, v = .string s ∧ s.size ≤ 9223372036854775807 := by
  obtain ⟨s, e, _, hs⟩ := DataW.trod_string Try.underlying9 h
  simp only [List.cons.injEq, and_true] at e
  exact ⟨s, e, hs⟩
theorem opn_int1 {n : Nat} {v : Value} {y : DataW H × List MemPlace} (h : DataW.trod enc Try.prog W 0 (fun _ => true) true n 3 [v] = some y) : ∃ s, v = .int .i64 s := by
  obtain ⟨s, e, _, _⟩ := DataW.trod_int Try.underlying3 h
  simp only [List.cons.injEq, and_true] at e
  exact ⟨s, e⟩
theorem opn_bool1 {n : Nat} {v : Value} {y : DataW H × List MemPlace} (h : DataW.trod enc Try.prog W 0 (fun _ => true) true n 4 [v] = some y) : ∃ s, v = .bool s := by
  obtain ⟨s, e, _⟩ := DataW.trod_bool Try.underlying4 h
  simp only [List.cons.injEq, and_true] at e
  exact ⟨s, e⟩

theorem cells_bool : Try.prog.cellsOf 4 = 1 := by kernel_rfl
theorem cells_exs : Try.prog.cellsOf 63 = 1 := by kernel_rfl
theorem cells_val : Try.prog.cellsOf 55 = 3 := by kernel_rfl
theorem cells_ex : Try.prog.cellsOf 164 = 7 := by kernel_rfl

theorem opn_ex (F : Nat) : ∀ (f : Nat), f ≤ F → OpnF enc (tEx F) 164 W f := by
  induction F with
  | zero =>
    intro f hf cs x h hl
    obtain rfl : f = 0 := by omega
    simp [DataW.trod] at h
  | succ F ih =>
    intro f hf cs x h hl
    obtain ⟨n, hn, hlc, hx⟩ := opnF_fields Try.underlying164 h hl
    obtain rfl : f = n + 1 := by omega
    rw [cells_ex] at hlc
    obtain ⟨y0, h0, _⟩ := hx 0 9 0 _ rfl cells_str
    obtain ⟨y1, h1, l1⟩ := hx 1 55 1 _ rfl cells_val
    obtain ⟨y2, h2, _⟩ := hx 2 9 4 _ rfl cells_str
    obtain ⟨y3, h3, _⟩ := hx 3 9 5 _ rfl cells_str
    obtain ⟨y4, h4, l4⟩ := hx 4 63 6 _ rfl cells_exs
    clear hx
    clear h hl
    match cs, hlc with
    | [c0, c1, c2, c3, c4, c5, c6], _ =>
      simp only [List.drop_zero, List.drop_succ_cons, List.take_succ_cons, List.take_zero] at h0 h1 h2 h3 h4
      obtain ⟨s0, rfl⟩ := opn_str1 h0
      obtain ⟨⟨b, c, d⟩, e1⟩ := opn_val n _ _ h1 l1
      obtain ⟨s2, rfl⟩ := opn_str1 h2
      obtain ⟨s3, rfl⟩ := opn_str1 h3
      obtain ⟨v, zs, e4, hs⟩ := opnF_slice (tEx_sz F) Try.underlying63 cells_ex (B := 104) (by kernel_rfl) (by decide) (by decide) (fun g hg => ih g (by omega)) _ _ h4 l4
      simp only [List.cons.injEq, and_true] at e4
      subst e4
      have e1' : [c1, c2, c3] = [.int .i64 b, .int .i64 c, .string d] := e1
      simp only [List.cons.injEq, and_true] at e1'
      obtain ⟨rfl, rfl, rfl⟩ := e1'
      exact ⟨(), _, _, _, _, _, _, _, zs, rfl, hs⟩

theorem cells_set : Try.prog.cellsOf 167 = 8 := by kernel_rfl
theorem opn_set (F f : Nat) (hf : f ≤ F + 1) : OpnF enc (tSet F) 167 W f := by
  intro cs x h hl
  obtain ⟨n, rfl, hlc, hx⟩ := opnF_fields Try.underlying167 h hl
  rw [cells_set] at hlc
  obtain ⟨y0, h0, _⟩ := hx 0 9 0 _ rfl cells_str
  obtain ⟨y1, h1, l1⟩ := hx 1 164 1 _ rfl cells_ex
  clear hx
  clear h hl
  match cs, hlc with
  | [c0, c1, c2, c3, c4, c5, c6, c7], _ =>
    simp only [List.drop_zero, List.drop_succ_cons, List.take_succ_cons, List.take_zero] at h0 h1
    obtain ⟨s0, rfl⟩ := opn_str1 h0
    obtain ⟨_, hr⟩ := opn_ex F n (by omega) _ _ h1 l1
    exact ⟨(), s0, _, rfl, hr, rfl⟩

theorem cells_src : Try.prog.cellsOf 177 = 3 := by kernel_rfl
theorem opn_src (f : Nat) : OpnF enc tSrc 177 W f := by
  intro cs x h hl
  obtain ⟨n, rfl, hlc, hx⟩ := opnF_fields Try.underlying177 h hl
  rw [cells_src] at hlc
  obtain ⟨y0, h0, _⟩ := hx 0 3 0 _ rfl cells_int
  obtain ⟨y1, h1, _⟩ := hx 1 9 1 _ rfl cells_str
  obtain ⟨y2, h2, _⟩ := hx 2 9 2 _ rfl cells_str
  clear hx
  clear h hl
  match cs, hlc with
  | [c0, c1, c2], _ =>
    simp only [List.drop_zero, List.drop_succ_cons, List.take_succ_cons, List.take_zero] at h0 h1 h2
    obtain ⟨s0, rfl⟩ := opn_int1 h0
    obtain ⟨s1, rfl⟩ := opn_str1 h1
    obtain ⟨s2, rfl⟩ := opn_str1 h2
    exact ⟨(), _, _, _, rfl⟩

instance : Inhabited Rl := ⟨⟨⟨#[]⟩, ⟨#[]⟩, 0, 0, false⟩⟩
theorem cells_cols : Try.prog.cellsOf 62 = 1 := by kernel_rfl
theorem cells_sets : Try.prog.cellsOf 64 = 1 := by kernel_rfl
theorem cells_srcs : Try.prog.cellsOf 65 = 1 := by kernel_rfl
theorem cells_sts : Try.prog.cellsOf 60 = 1 := by kernel_rfl
theorem cells_st : Try.prog.cellsOf 67 = 15 := by kernel_rfl

/-- A slice's form alone. -/
theorem opn_shp {t e : TypeId} {fuel : Nat} {v : Value} {x : DataW H × List MemPlace} (ht : Try.prog.underlying t = some (.slice e)) (hb : 0 < Try.prog.bytesOf e) (h : DataW.trod enc Try.prog W 0 (fun _ => true) true fuel t [v] = some x) (hl : Light Try.prog t x.1) : Shp v := by
  rcases DataW.trod_slice ht h with ⟨e, _⟩ | ⟨a, len, cap, elems, rest, n, rfl, e, rfl, _, hlc, hcm, hlen, hel, _, _⟩
  · simp only [List.cons.injEq, and_true] at e
    exact ⟨none, 0, 0, e, by omega, by omega, by omega⟩
  · have hw : ∀ n ∈ DataW.weights Try.prog t (.slice (elems.map (·.1)) (rest.map (·.1))), n ≤ reachBytes := hl
    simp only [DataW.weights, ht, List.mem_cons, List.mem_append] at hw
    have h0 := hw _ (.inl rfl)
    rw [List.length_map, List.length_map, hlen] at h0
    have h1 : len ≤ (len + rest.length) * Try.prog.bytesOf _ := Nat.le_trans (by omega : len ≤ len + rest.length) (Nat.le_mul_of_pos_right _ hb)
    have h3 := reachBytes_lt
    simp only [List.cons.injEq, and_true] at e
    exact ⟨some a, len, cap, e, hlc, by simpa [maxLen] using hcm, by omega⟩

theorem opn_st (F : Nat) : ∀ (f : Nat), f ≤ F → OpnF enc (tSt F) 67 W f := by
  induction F with
  | zero =>
    intro f hf cs x h hl
    obtain rfl : f = 0 := by omega
    simp [DataW.trod] at h
  | succ F ih =>
    intro f hf cs x h hl
    obtain ⟨n, hn, hlc, hx⟩ := opnF_fields Try.underlying67 h hl
    obtain rfl : f = n + 1 := by omega
    rw [cells_st] at hlc
    obtain ⟨y0, h0, _⟩ := hx 0 3 0 _ rfl cells_int
    obtain ⟨y1, h1, _⟩ := hx 1 9 1 _ rfl cells_str
    obtain ⟨y2, h2, _⟩ := hx 2 9 2 _ rfl cells_str
    obtain ⟨y3, h3, _⟩ := hx 3 9 3 _ rfl cells_str
    obtain ⟨y4, h4, l4⟩ := hx 4 62 4 _ rfl cells_cols
    obtain ⟨y5, h5, l5⟩ := hx 5 63 5 _ rfl cells_exs
    obtain ⟨y6, h6, l6⟩ := hx 6 63 6 _ rfl cells_exs
    obtain ⟨y7, h7, l7⟩ := hx 7 63 7 _ rfl cells_exs
    obtain ⟨y8, h8, l8⟩ := hx 8 64 8 _ rfl cells_sets
    obtain ⟨y9, h9, l9⟩ := hx 9 65 9 _ rfl cells_srcs
    obtain ⟨y10, h10, _⟩ := hx 10 3 10 _ rfl cells_int
    obtain ⟨y11, h11, _⟩ := hx 11 3 11 _ rfl cells_int
    obtain ⟨y12, h12, _⟩ := hx 12 4 12 _ rfl cells_bool
    obtain ⟨y13, h13, _⟩ := hx 13 4 13 _ rfl cells_bool
    obtain ⟨y14, h14, l14⟩ := hx 14 60 14 _ rfl cells_sts
    clear hx
    clear h hl
    match cs, hlc with
    | [c0, c1, c2, c3, c4, c5, c6, c7, c8, c9, c10, c11, c12, c13, c14], _ =>
      simp only [List.drop_zero, List.drop_succ_cons, List.take_succ_cons, List.take_zero] at h0 h1 h2 h3 h4 h5 h6 h7 h8 h9 h10 h11 h12 h13 h14
      obtain ⟨s0, rfl⟩ := opn_int1 h0
      obtain ⟨s1, rfl, hs1⟩ := opn_str2 h1
      obtain ⟨s2, rfl⟩ := opn_str1 h2
      obtain ⟨s3, rfl⟩ := opn_str1 h3
      obtain ⟨s10, rfl⟩ := opn_int1 h10
      obtain ⟨s11, rfl⟩ := opn_int1 h11
      obtain ⟨s12, rfl⟩ := opn_bool1 h12
      obtain ⟨s13, rfl⟩ := opn_bool1 h13
      have k4 := opn_shp Try.underlying62 (of_decide_eq_true (by kernel_rfl)) h4 l4
      obtain ⟨v5, z5, e5, k5⟩ := opnF_slice (tEx_sz F) Try.underlying63 cells_ex (B := 104) (by kernel_rfl) (by decide) (by decide) (fun g hg => opn_ex F g (by omega)) _ _ h5 l5
      obtain ⟨v6, z6, e6, k6⟩ := opnF_slice (tEx_sz F) Try.underlying63 cells_ex (B := 104) (by kernel_rfl) (by decide) (by decide) (fun g hg => opn_ex F g (by omega)) _ _ h6 l6
      obtain ⟨v7, z7, e7, k7⟩ := opnF_slice (tEx_sz F) Try.underlying63 cells_ex (B := 104) (by kernel_rfl) (by decide) (by decide) (fun g hg => opn_ex F g (by omega)) _ _ h7 l7
      obtain ⟨v8, z8, e8, k8⟩ := opnF_slice (d := tSet F) (sz := 8) rfl Try.underlying64 cells_set (B := 120) (by kernel_rfl) (by decide) (by decide) (fun g hg => opn_set F g (by omega)) _ _ h8 l8
      obtain ⟨v9, z9, e9, k9⟩ := opnF_slice (d := tSrc) rfl Try.underlying65 cells_src (B := 40) (by kernel_rfl) (by decide) (by decide) (fun g hg => opn_src g) _ _ h9 l9
      obtain ⟨v14, z14, e14, k14⟩ := opnF_slice (tSt_sz F) Try.underlying60 cells_st (B := 248) (by kernel_rfl) (by decide) (by decide) (fun g hg => ih g (by omega)) _ _ h14 l14
      simp only [List.cons.injEq, and_true] at e5 e6 e7 e8 e9 e14
      subst e5; subst e6; subst e7; subst e8; subst e9; subst e14
      exact ⟨⟨s1, s2, s10, s11, s12⟩, _, _, _, _, _, _, _, _, _, _, z5, z6, z7, z8, z9, z14, rfl, hs1, k4, k5, k6, k7, k8, k9, k14⟩

/-- Rules, as they are handed in. -/
theorem opn_sts {fuel : Nat} {cs : List Value} {x : DataW H × List MemPlace} (h : DataW.trod enc Try.prog W 0 (fun _ => true) true fuel 60 cs = some x) (hl : Light Try.prog 60 x.1) : ∃ v a, cs = [v] ∧ SlB (tSt fuel) 248 (fun _ => True) W v a :=
  opnF_slice (tSt_sz fuel) Try.underlying60 cells_st (by kernel_rfl) (by decide) (by decide) (fun g hg => opn_st fuel g (by omega)) _ _ h hl
theorem opn_ints {fuel : Nat} {cs : List Value} {x : DataW H × List MemPlace} (h : DataW.trod enc Try.prog W 0 (fun _ => true) true fuel 61 cs = some x) (hl : Light Try.prog 61 x.1) : ∃ v a, cs = [v] ∧ SlB (tInt .i64) 8 (fun _ => True) W v a :=
  opnF_slice (d := tInt .i64) rfl Try.underlying61 cells_int (by kernel_rfl) (by decide) (by decide) (fun g _ cs x h _ => by
    obtain ⟨s, e, _, _⟩ := DataW.trod_int Try.underlying3 h
    exact ⟨s, e⟩) _ _ h hl
end
end Go.Proofs.Ytkfoknjflpklpaa.D
