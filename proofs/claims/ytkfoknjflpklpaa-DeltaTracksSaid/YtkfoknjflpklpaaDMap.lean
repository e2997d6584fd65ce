/- Ops, and rows by table and id in a map. -/
import Derived.Test.YtkfoknjflpklpaaDGreat
import Derived.Test.YtkfoknjflpklpaaDSnap
import Derived.Test.YtkfoknjflpklpaaOpen
import Derived.Maps.OwnOps
import Derived.Maps.RangeWalk
import Derived.Maps.Ext
import Derived.DeepKeys4
namespace Go.Proofs.Ytkfoknjflpklpaa.D
open Go Go.RowKit Go.Proofs.Ytkfoknjflpklpaa.Mem

def tOpe : Ty Ope where
  sz := 3
  R := fun ok w x cs => (∃ v, cs = [.int .u8 (x.t : Int), .int .u8 (x.i : Int), v] ∧ Sl tVal ok w v x.row) ∧ x.t < 256 ∧ x.i < 256
  len := fun ⟨⟨_, h, _⟩, _⟩ => by rw [h]; rfl
  one := fun ⟨⟨v, h, h2⟩, _⟩ u hu => by
    rw [h] at hu
    simp only [List.mem_cons, List.not_mem_nil, or_false] at hu
    rcases hu with rfl | rfl | rfl
    · rfl
    · rfl
    · exact h2.oneCell
  mono := fun hok ⟨⟨v, h, h2⟩, hb⟩ => ⟨⟨v, h, h2.mono hok⟩, hb⟩
  move := fun hm ⟨⟨v, h, h2⟩, hb⟩ => ⟨⟨v, h, h2.move hm⟩, hb⟩
  bnd := fun ⟨⟨v, h, h2⟩, hb⟩ => ⟨⟨v, h, h2.bnd⟩, hb⟩

theorem opes_at {ok : Nat → Prop} {w : World} {A : Option Addr} {xs : List Ope} (h : Row tOpe ok w A xs) (i : Nat) (hi : i < xs.length) :
    ∃ ad x A2 k2, A = some ad ∧ xs[i]? = some x ∧ w.cell? (ad.add (i * 3)) = some (.int .u8 (x.t : Int)) ∧ w.cell? ⟨(ad.add (i * 3)).block, (ad.add (i * 3)).off + 1, none⟩ = some (.int .u8 (x.i : Int)) ∧ w.cell? ⟨(ad.add (i * 3)).block, (ad.add (i * 3)).off + 2, none⟩ = some (.slice A2 x.row.length k2) ∧ Kp (Sl tVal ok w (.slice A2 x.row.length k2) x.row) ∧ x.t < 256 ∧ x.i < 256 := by
  obtain ⟨ad, cs, rfl, hok, hlt, ⟨⟨v2, rfl, s2⟩, hb1, hb2⟩, ha⟩ := h.get i hi
  obtain ⟨A2, k2, rfl, _⟩ := s2.shape
  exact ⟨ad, xs[i], A2, k2, rfl, List.getElem?_eq_getElem hi, At.c0 ha rfl, At.cj ha 1 (by omega) rfl, At.cj ha 2 (by omega) rfl, put s2, hb1, hb2⟩

section
variable {H : Type} {enc : TypeId × Value → H} {W : World}
theorem cells_u8 : Try.prog.cellsOf 5 = 1 := by kernel_rfl
instance : Inhabited Ope := ⟨⟨0, 0, []⟩⟩
theorem u8_nat {n : Int} (h : (Lit.int .u8 n).wf = true) : ∃ m : Nat, n = m ∧ m < 256 := by
  have h2 : 0 ≤ n ∧ n < 256 := by
    simp only [Lit.wf, Bool.and_eq_true, decide_eq_true_eq] at h
    exact ⟨h.1, Int.lt_of_le_of_lt h.2 (by decide)⟩
  exact ⟨n.toNat, by omega, by omega⟩
theorem opn_ope : Opn enc tOpe 109 W := by
  intro fuel cs x h hw
  obtain ⟨y0, y1, y2, n, rfl, hl, h0, h1, h2⟩ := Deep.trod_struct3 Try.underlying109 h
  rw [show Try.prog.cellsOf 109 = 3 from by kernel_rfl] at hl
  have hw' : ∀ n ∈ DataW.weights Try.prog 109 (.agg [y0.1, y1.1, y2.1]), n ≤ reachBytes := hw
  simp only [DataW.weights, Try.underlying109] at hw'
  have w2 := light_each hw' (j := 2) rfl rfl
  dsimp only at h0 h1 h2 w2
  rw [cells_u8] at h0 h1
  rw [cells_vals] at h2
  match cs, hl with
  | [c0, c1, c2], _ =>
    simp only [List.drop_zero, List.drop_succ_cons, List.take_succ_cons, List.take_zero] at h0 h1 h2
    obtain ⟨n0, e0, _, g0'⟩ := DataW.trod_int Try.underlying5 h0
    obtain ⟨n1, e1, _, g1'⟩ := DataW.trod_int Try.underlying5 h1
    obtain ⟨row, r2⟩ := opn_vals n _ _ h2 w2
    obtain ⟨m0, rfl, g0⟩ := u8_nat g0'
    obtain ⟨m1, rfl, g1⟩ := u8_nat g1'
    simp only [List.cons.injEq, and_true] at e0 e1
    obtain ⟨v2, e2, r2⟩ : ∃ v, [c2] = [v] ∧ Sl tVal (fun _ => True) W v row := r2
    simp only [List.cons.injEq, and_true] at e2
    subst e0; subst e1; subst e2
    exact ⟨⟨m0, m1, row⟩, ⟨_, rfl, r2⟩, g0, g1⟩
theorem opn_opes : Opn enc (tSl tOpe) 22 W := opn_slice Try.underlying22 (by kernel_rfl) (of_decide_eq_true (by kernel_rfl)) (by decide) opn_ope
end

/-! ### The map -/
theorem laidOut : laidOutB Try.prog = true := by kernel_rfl
theorem keyRow : (29 : TypeId) < Try.prog.types.size := of_decide_eq_true (by kernel_rfl)
theorem pos_succ {m : Nat} (h : 0 < m) : ∃ n, m = n + 1 := ⟨m - 1, by omega⟩
theorem sizePos : 0 < Try.prog.types.size := of_decide_eq_true (by kernel_rfl)
set_option maxRecDepth 100000 in
theorem keyLaw : Maps.Keyed Try.prog 29 := Maps.Keyed.of_law (deep_law_laid laidOut (m := 2) (by omega) keyRow (by kernel_rfl) (by rw [Try.underlying29]))

def vR (v : Value) : Option (DataW Value × List MemPlace) := some (.held v, [])
def kv (t i : Nat) : Value := .agg #[.int .u8 (t : Int), .int .u8 (i : Int)]
def kl (t i : Nat) : Lit := .string (keyBytes [.int .u8 (t : Int), .int .u8 (i : Int)])
theorem u8_wf {n : Nat} (h : n < 256) : (Lit.int .u8 (n : Int)).wf = true := by
  simp only [Lit.wf, Bool.and_eq_true, decide_eq_true_eq]
  exact ⟨Int.natCast_nonneg n, Int.le_of_lt_add_one (Int.lt_of_lt_of_le (Int.ofNat_lt.2 h) (by decide))⟩
theorem cells_key : Try.prog.cellsOf 29 = 2 := by kernel_rfl
theorem keyOf_agg {c0 c1 : Value} {t i : Nat} (e0 : c0 = .int .u8 (t : Int)) (e1 : c1 = .int .u8 (i : Int)) (ht : t < 256) (hi : i < 256) : keyOf Try.prog 29 (.agg #[c0, c1]) = some (kl t i) := by
  subst e0; subst e1
  obtain ⟨n, hn⟩ : ∃ n, Try.prog.types.size = n + 1 := pos_succ sizePos
  have h1 : ∀ (m : Nat), m < 256 → Try.prog.keyLits (n + 1) 5 [.int .u8 (m : Int)] = some [.int .u8 (m : Int)] := fun m hm => by
    unfold Program.keyLits
    simp [Try.underlying5, u8_wf hm]
  have h2 : Try.prog.keyLits (Try.prog.types.size + 1) 29 [.int .u8 (t : Int), .int .u8 (i : Int)] = some [.int .u8 (t : Int), .int .u8 (i : Int)] := by
    unfold Program.keyLits
    simp [Try.underlying29, cells_key, cells_u8, List.range_succ, hn, h1 t ht, h1 i hi]
  unfold keyOf
  rw [Try.underlying29]
  simp only
  rw [if_pos (by simp [Value.formed, Try.underlying29, cells_key, show Try.prog.keyType 29 = true from by kernel_rfl])]
  rw [show (Value.agg #[.int .u8 (t : Int), .int .u8 (i : Int)]).cells.toList = [.int .u8 (t : Int), .int .u8 (i : Int)] from rfl, h2]
  rfl
theorem keyOf_kv {t i : Nat} (ht : t < 256) (hi : i < 256) : keyOf Try.prog 29 (kv t i) = some (kl t i) := keyOf_agg rfl rfl ht hi
theorem kl_inj {t i a b : Nat} (h1 : t < 256) (h2 : i < 256) (h3 : a < 256) (h4 : b < 256) (h : kl t i = kl a b) : t = a ∧ i = b := by
  have h5 := keyLaw.inj (keyOf_kv h1 h2) (h ▸ keyOf_kv h3 h4)
  simp only [kv, Value.agg.injEq, Array.mk.injEq, List.cons.injEq, Value.int.injEq, true_and, and_true] at h5
  omega
theorem kl_key (t i : Nat) : Go.WideAt.IsKeyLit (kl t i) := trivial
set_option maxRecDepth 100000 in
/-- A key's two cells. -/
theorem keyOf_inv {v : Value} {l : Lit} (h : keyOf Try.prog 29 v = some l) : ∃ x : Value × Value, v = .agg #[x.1, x.2] := by
  unfold keyOf at h
  rw [Try.underlying29] at h
  simp only at h
  split at h
  · next hc =>
    simp only [Bool.and_eq_true] at hc
    cases v <;> simp only [Value.formed, Try.underlying29, cells_key, Bool.false_eq_true, and_false, beq_iff_eq] at hc
    next cs =>
      obtain ⟨l⟩ := cs
      match l, hc.2 with
      | [c0, c1], _ => exact ⟨(c0, c1), rfl⟩
  · cases h

/-- What the map reads as: at each key its row. -/
def Reads (ok : Nat → Prop) (w : World) (D : DataW Value) (f : Rs) : Prop := ∀ t i, t < 3 → i < 6 → ∃ v, D.atKey (kl t i) (.held (.slice none 0 0)) = .held v ∧ Sl tVal ok w v (f t i)
def MapIs (ok : Nat → Prop) (w : World) (b n : Nat) (f : Rs) : Prop := ∃ D, w.ownsMap Try.prog 29 vR b n D ∧ Reads ok w D f

theorem MapIs.lt {ok : Nat → Prop} {w : World} {b n : Nat} {f : Rs} (h : MapIs ok w b n f) : b < w.heap.size := by
  obtain ⟨D, h, _⟩ := h
  exact h.lt
theorem MapIs.made (ok : Nat → Prop) (w : World) : MapIs ok (w.alloc (.map #[] 0)) w.heap.size 0 (fun _ _ => []) :=
  ⟨_, World.ownsMap_made w _ _ _, fun _ _ _ _ => ⟨.slice none 0 0, rfl, Sl.nil _ _ _⟩⟩
theorem MapIs.kept {ok : Nat → Prop} {w w' : World} {b n : Nat} {f : Rs} (h : MapIs ok w b n f) (hm : ∀ k, (ok k ∨ k = b) → k < w.heap.size → w'.heap[k]? = w.heap[k]?) : MapIs ok w' b n f := by
  have hlt := h.lt
  obtain ⟨D, ⟨es, clock, hb, F, hs, hD⟩, hr⟩ := h
  refine ⟨D, ⟨es, clock, (hm b (.inr rfl) hlt).trans hb, F, hs, hD⟩, fun t i ht hi => ?_⟩
  obtain ⟨v, h1, h2⟩ := hr t i ht hi
  exact ⟨v, h1, h2.move (fun k hk hlt => hm k (.inl hk) hlt)⟩
theorem MapIs.below {ok : Nat → Prop} {w w' : World} {b n : Nat} {f : Rs} (h : MapIs ok w b n f) (hb : Below w.heap.size w w') : MapIs ok w' b n f := h.kept (fun k _ hk => hb.block k hk)
theorem MapIs.mono {ok : Nat → Prop} {w : World} {b n m : Nat} {f : Rs} (h : MapIs ok w b n f) (hn : n ≤ m) : MapIs ok w b m f := by
  obtain ⟨D, h1, h2⟩ := h
  exact ⟨D, h1.mono hn, h2⟩

theorem zero_vals (w : World) : (zeroValue 30).run Try.prog w = .ok (.slice none 0 0) w := by kernel_rfl

theorem MapIs.look {ok : Nat → Prop} {w : World} {b n : Nat} {f : Rs} (h : MapIs ok w b n f) {key : Value} (t i : Nat) (ht : t < 3) (hi : i < 6) (hk : key = kv t i) :
    ∃ v, (Instr.lookup 26 (.map (some b)) key false).run Try.prog w = .ok v w ∧ Sl tVal ok w v (f t i) := by
  subst hk
  obtain ⟨D, h1, h2⟩ := h
  obtain ⟨v, ps, hrun, hv⟩ := h1.lookup keyLaw Try.underlying26 (zero_vals w) (zd := .held (.slice none 0 0)) (zp := []) rfl (keyOf_kv (t := t) (i := i) (by omega) (by omega))
  obtain ⟨v', h3, h4⟩ := h2 t i ht hi
  rw [h3] at hv
  simp only [vR, Option.some.injEq, Prod.mk.injEq, DataW.held.injEq] at hv
  exact ⟨v, hrun, hv.1 ▸ h4⟩

theorem MapIs.store {ok : Nat → Prop} {w : World} {b n : Nat} {f : Rs} (h : MapIs ok w b n f) (hok : ∀ k, ok k → k ≠ b) (hn : n < maxLen) {key val : Value} (t i : Nat) (ht : t < 3) (hi : i < 6) (hk : key = kv t i) {r : List Val} (hv : Sl tVal ok w val r) :
    ∃ w', (Instr.mapUpdate 26 (.map (some b)) key val).run Try.prog w = .ok () w' ∧ MapIs ok w' b (n + 1) (fun x y => if x = t ∧ y = i then r else f x y) ∧ w.grownBy w' (some b) := by
  subst hk
  obtain ⟨D, h1, h2⟩ := h
  obtain ⟨w', hrun, h3, h4⟩ := h1.update keyLaw Try.underlying26 hn (keyOf_kv (t := t) (i := i) (by omega) (by omega)) (val := val) (d := .held val) (ps := []) rfl
  refine ⟨w', hrun, ⟨_, h3, fun x y hx hy => ?_⟩, h4⟩
  have hM : Maps.IsMap D := by obtain ⟨es, _, _, _, _, e⟩ := h1; exact ⟨_, e⟩
  have hmv : ∀ {v : Value} {l : List Val}, Sl tVal ok w v l → Sl tVal ok w' v l := fun hs => hs.grown h4 (fun k hk e => hok k hk (by simpa using e))
  by_cases he : x = t ∧ y = i
  · obtain ⟨rfl, rfl⟩ := he
    refine ⟨val, Maps.atKey_put_same hM (kl_key _ _) _ _, ?_⟩
    simp only [and_self, if_true]
    exact hmv hv
  · obtain ⟨v, h5, h6⟩ := h2 x y hx hy
    refine ⟨v, ?_, ?_⟩
    · rw [Maps.atKey_put_other (fun e => he (kl_inj (by omega) (by omega) (by omega) (by omega) e))]
      exact h5
    · simp only [he, if_false]
      exact hmv h6

/-- m[key] = v in a plain region. -/
theorem wpList_store {ops : Array Oper} {rest : List Oper} {o : Oper} {a : Act} {Q : Exit → Act → World → Prop} {w : World} (hg : o.guard = none) (m x v : Operand) (hop : o.op = Op.mapUpdate 26 m x v)
    {ok : Nat → Prop} {b n : Nat} {f : Rs} (hm : a.eval m = .map (some b)) (h : MapIs ok w b n f) (hok : ∀ k, ok k → k ≠ b) (hn : n < maxLen) {key val : Value} (hx : a.eval x = key) (hvv : a.eval v = val) (t i : Nat) (ht : t < 3) (hi : i < 6) (hk : key = kv t i) {r : List Val} (hv : Sl tVal ok w val r)
    (hK : ∀ w', MapIs ok w' b (n + 1) (fun x y => if x = t ∧ y = i then r else f x y) → w.grownBy w' (some b) → wpList Try.prog ops Q rest (a.put o.dst undef) w') : wpList Try.prog ops Q (o :: rest) a w := by
  refine wpList_plain hg fun K' hK' => ?_
  obtain ⟨w', hrun, r1, r2⟩ := h.store hok hn t i ht hi hk hv
  unfold Oper.wp
  simp [execOp, hop, hm, hx, hvv, hrun, Result.andThen]
  exact hK' _ _ (hK w' r1 r2)

/-- m[key] in a drawn region. -/
theorem step_look {ops : Array Oper} {o : Oper} {a : Act} {K : Act → World → Prop} {Q : Exit → Act → World → Prop} {E : Prop} {W : World} (hgd : o.guard = none) (m x : Operand) (ho : o.op = Op.lookup 26 m x false)
    {ok : Nat → Prop} {b n : Nat} {f : Rs} (hm : a.eval m = .map (some b)) (hM : MapIs ok W b n f) {key : Value} (hx : a.eval x = key) (t i : Nat) (ht : t < 3) (hi : i < 6) (hk : key = kv t i)
    (h : ∀ v, Sl tVal ok W v (f t i) → K (a.put o.dst v) W) : if Region.wanted o (yielded ops a.tmps) = true then Oper.wp Try.prog o a W K Q else E := by
  have hw : Region.wanted o (yielded ops a.tmps) = true := by simp [Region.wanted, hgd]
  rw [if_pos hw]
  obtain ⟨v, hrun, hs⟩ := hM.look t i ht hi hk
  unfold Oper.wp
  simp [execOp, ho, hm, hx, hrun, Result.andThen]
  exact h v hs

/-- m[key], in whatever world in which the map stands. -/
theorem MapIs.look2 {ok : Nat → Prop} {w : World} {b n : Nat} {f : Rs} (h : MapIs ok w b n f) (t i : Nat) (ht : t < 3) (hi : i < 6) :
    ∃ v, Sl tVal ok w v (f t i) ∧ ∀ W key, W.heap[b]? = w.heap[b]? → key = kv t i → (Instr.lookup 26 (.map (some b)) key false).run Try.prog W = .ok v W := by
  obtain ⟨D, h1, h2⟩ := h
  obtain ⟨v, h3, h4⟩ := h2 t i ht hi
  refine ⟨v, h4, fun W key hW hk => ?_⟩
  subst hk
  have h1' : W.ownsMap Try.prog 29 vR b n D := by
    obtain ⟨es, clock, hb, F, hs, hD⟩ := h1
    exact ⟨es, clock, hW.trans hb, F, hs, hD⟩
  obtain ⟨u, ps, hrun, hv⟩ := h1'.lookup keyLaw Try.underlying26 (zero_vals W) (zd := .held (.slice none 0 0)) (zp := []) rfl (keyOf_kv (t := t) (i := i) (by omega) (by omega))
  rw [h3] at hv
  simp only [vR, Option.some.injEq, Prod.mk.injEq, DataW.held.injEq] at hv
  rw [hrun, hv.1]

theorem step_look2 {ops : Array Oper} {o : Oper} {a : Act} {K : Act → World → Prop} {Q : Exit → Act → World → Prop} {E : Prop} {W : World} (hgd : o.guard = none) (m x : Operand) (ho : o.op = Op.lookup 26 m x false)
    {b : Nat} (hm : a.eval m = .map (some b)) {key v : Value} (hx : a.eval x = key) (hr : (Instr.lookup 26 (.map (some b)) key false).run Try.prog W = .ok v W)
    (h : K (a.put o.dst v) W) : if Region.wanted o (yielded ops a.tmps) = true then Oper.wp Try.prog o a W K Q else E := by
  have hw : Region.wanted o (yielded ops a.tmps) = true := by simp [Region.wanted, hgd]
  rw [if_pos hw]
  unfold Oper.wp
  simp [execOp, ho, hm, hx, hr, Result.andThen]
  exact h
end Go.Proofs.Ytkfoknjflpklpaa.D
