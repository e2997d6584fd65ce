/- The method Next of rule.Agenda: one rule looked at. -/
import Derived.Test.YtkfoknjflpklpaaGF6
import Derived.Test.YtkfoknjflpklpaaGF11
import Derived.Test.YtkfoknjflpklpaaGF12
import Derived.Test.YtkfoknjflpklpaaGF9

namespace Go.Proofs.Ytkfoknjflpklpaa.D
open Go Go.RowKit Go.Proofs.Ytkfoknjflpklpaa.Mem Go.Sort Go.Proofs.Ytkfoknjflpklpaa.Stab

theorem wpList_store_gen {P : Program} {ops : Array Oper} {rest : List Oper} {op : Oper} {a : Act} {w : World} {Q : Exit → Act → World → Prop} (hgd : op.guard = none) (ty : TypeId) (x y : Operand) (ho : op.op = .store ty x y)
    (b : Nat) (cur : Array Value) (t : TypeId) (cs : List Value) (hx : a.eval x = .pointer (some ⟨b, 0, none⟩)) (hy : a.eval y = .agg cs.toArray)
    (hh : w.heap[b]? = some (.cells cur t (0, 0))) (hsz : cur.size = cs.length) (hi : (P.info? ty).map (·.size) = some cs.length) (h1 : ∀ v ∈ cs, v.oneCell' = true)
    (h : ∀ w8, w8 = w.setCells b 0 cs → w8.heap[b]? = some (.cells cs.toArray t (0, 0)) → wpList P ops Q rest (a.put op.dst undef) w8) : wpList P ops Q (op :: rest) a w :=
  wpList_store_mid hgd ty x y ho b 0 cs.toArray hx hy (fun j hj => by
    have hj' : j < cur.size := by rw [hsz]; simpa using hj
    constructor
    · simp only [World.cell?, hh, Nat.zero_add]
      simp [hj']
    · simp [World.frozen?, hh]) (by simpa using hi) (all_oneCell_toArray h1) (h _ (by simp) (by
    obtain ⟨cur', h2, h3, h4⟩ := setCells_heap b t cs 0 w cur hh (by omega)
    have : cur'.toList = cs := by rw [h4, Nat.zero_add, List.drop_of_length_le (by simp; omega)]; simp
    rw [h2]
    congr 2
    exact Array.toList_inj.1 (by simpa using this)))
theorem below_sets {N : Nat} {w0 w8 w : World} {b : Nat} {cs : List Value} (h : Below N w0 w) (hb : N ≤ b) (e : w8 = w.setCells b 0 cs) : Below N w0 w8 := by
  subst e
  have hs := (World.keptBut_setCells b (may := fun _ => True) cs 0 w (fun _ _ => trivial))
  have hz : ∀ (vs : List Value) (o : Nat) (w : World), (w.setCells b o vs).heap.size = w.heap.size ∧ (w.setCells b o vs).os = w.os ∧ (w.setCells b o vs).tape = w.tape ∧ (w.setCells b o vs).output = w.output := by
    intro vs
    induction vs with
    | nil => intro o w; exact ⟨rfl, rfl, rfl, rfl⟩
    | cons v r ih =>
      intro o w
      obtain ⟨h1, h2, h3, h4⟩ := ih (o + 1) (w.setCell ⟨b, o, none⟩ v)
      exact ⟨by rw [World.setCells, h1]; simp [World.setCell], h2, h3, h4⟩
  clear hs
  obtain ⟨h1, h2, h3, h4⟩ := hz cs 0 w
  refine ⟨h2.trans h.os, h3.trans h.tape, h4.trans h.output, by rw [h1]; exact h.size, fun k hk => ?_⟩
  by_cases hkw : k < w.heap.size
  · exact (World.heap_setCells_other w b 0 cs hkw (by omega)).trans (h.block k hk)
  · have e1 : w.heap[k]? = none := Array.getElem?_eq_none (by omega)
    rw [← h.block k hk, e1]
    exact Array.getElem?_eq_none (by rw [h1]; omega)

theorem zeros_one : ∀ v ∈ ([.int .i64 0, .string { data := #[] }, .string { data := #[] }, .string { data := #[] }, .slice none 0 0, .slice none 0 0, .slice none 0 0, .slice none 0 0, .slice none 0 0, .slice none 0 0, .int .i64 0, .int .i64 0, .bool false, .bool false, .slice none 0 0] : List Value), v.oneCell' = true := by
  intro v hv
  simp only [List.mem_cons, List.not_mem_nil, or_false] at hv
  rcases hv with rfl | rfl | rfl | rfl | rfl | rfl | rfl | rfl | rfl | rfl | rfl | rfl | rfl | rfl | rfl <;> rfl

/-- What Next answers. -/
def NextSaid (d : Nat) (ok : Nat → Prop) (N : Nat) (w' : World) (mk : ByteArray → Int) (log : List Chg) (res : Option Rl) (e : Ending) : Prop :=
  match res with
  | some r => ∃ cs vn, e = .returned (.tuple #[.agg cs.toArray, vn, .bool true]) ∧ (tSt d).R ok w' r cs ∧ Own tChg 40 (fun k => N < k) w' N vn (seen mk log r)
  | none => e = .returned (.tuple #[.agg #[.int .i64 0, .string { data := #[] }, .string { data := #[] }, .string { data := #[] }, .slice none 0 0, .slice none 0 0, .slice none 0 0, .slice none 0 0, .slice none 0 0, .slice none 0 0, .int .i64 0, .int .i64 0, .bool false, .bool false, .slice none 0 0], .slice none 0 0, .bool false])

theorem rscan_le : ∀ (n : Nat) (l : List Chg), l.length = n → (netScan l).length ≤ n := by
  intro n
  induction n using Nat.strongRecOn with
  | _ n ih =>
    intro l hn
    cases l with
    | nil => rw [netScan]; simp
    | cons x l =>
      have hsub := (List.dropWhile_sublist (l := l) x.same).length_le
      simp only [List.length_cons] at hn
      have := ih (l.dropWhile x.same).length (by omega) _ rfl
      rw [netScan]
      simp only [List.length_append]
      split <;> simp <;> omega
theorem rnet_le (l : List Chg) : (net l).length ≤ l.length := by
  have := rscan_le _ _ (rfl : (isort (ltOf chgCmp) l).length = _)
  rw [(isort_perm l).length_eq] at this
  exact this
theorem net_bound {l : List Chg} (h : ∀ c ∈ l, c.old.length ≤ 1000 ∧ c.new.length ≤ 1000) : ∀ c ∈ net l, c.old.length ≤ 1000 ∧ c.new.length ≤ 1000 := by
  intro c hc
  obtain ⟨_, h1, h2⟩ := (mem_net l c).1 hc
  obtain ⟨x, hx, e1⟩ := Option.map_eq_some_iff.1 h1
  obtain ⟨y, hy, e2⟩ := Option.map_eq_some_iff.1 h2
  have m1 := (List.mem_filter.1 (List.mem_of_mem_head? hx)).1
  have m2 := (List.mem_filter.1 (List.mem_of_getLast? hy)).1
  rw [← e1, ← e2]
  exact ⟨(h x m1).1, (h y m2).2⟩
theorem firstOf_step {mk : ByteArray → Int} {log : List Chg} {dfr : Bool} {rs : List Rl} {i : Nat} {x : Rl} (h : firstOf mk log dfr (rs.take i) = none) (hx : rs[i]? = some x) (hn : ((dfr || !x.deferred) && trig mk log x) = false) : firstOf mk log dfr (rs.take (i + 1)) = none := by
  unfold firstOf at *
  rw [take_one_more hx, List.find?_append, h]
  simp only [List.find?_cons, hn, Option.none_or, List.find?_nil]
theorem firstOf_hit {mk : ByteArray → Int} {log : List Chg} {dfr : Bool} {rs : List Rl} {i : Nat} {x : Rl} (h : firstOf mk log dfr (rs.take i) = none) (hx : rs[i]? = some x) (hn : ((dfr || !x.deferred) && trig mk log x) = true) : firstOf mk log dfr rs = some x := by
  unfold firstOf at *
  rw [← List.take_append_drop (i + 1) rs, take_one_more hx, List.append_assoc, List.find?_append, h]
  simp only [List.singleton_append, List.find?_cons, hn, Option.none_or]


def restAt (id : Nat) : Code → Option Code
  | .seq (.region i _ _) r => if i = id then some r else restAt id r
  | .seq a b => (restAt id a).or (restAt id b)
  | .cond _ a b => (restAt id a).or (restAt id b)
  | .block _ c => restAt id c
  | .loop c => restAt id c
  | _ => none

set_option maxHeartbeats 16000000 in
set_option maxRecDepth 100000 in
theorem nextRound (s2 s3 s4 s5 s7 s8 s9 s11 s12 s13 s14 s15 s16 s17 s18 s19 s20 s21 s22 s23 s24 s25 s26 s27 s28 s29 s30 s31 s32 s33 s34 s35 s36 s37 s38 s39 s40 s41 s42 s43 s44 s45 v0 : Value) (d : Nat) (okr okl : Nat → Prop) (a mb T R K k nT cT : Nat) (AT : Option Addr) (b : Bool) (x : Rl) (f : ByteArray → Option Int) (log : List Chg) (kd' : Int) (col' : ByteArray) (rl' : Bool) (Ac' A1' A2' A3' A4' A5' A6' : Option Addr) (nc' cc' n1' c1' n2' c2' n3' c3' n4' c4' n5' c5' n6' c6' : Nat) (wk : World) (Q : Exit → Act → World → Prop)
    (hA : AgAt wk a v0 mb) (hM : Marks wk mb k f) (hT : wk.cell? ⟨T, 0, none⟩ = some (.slice AT nT cT)) (hL : Sl tChg okl wk (.slice AT nT cT) log) (hl : log.length ≤ 1000) (hlb : ∀ x ∈ log, x.old.length ≤ 1000 ∧ x.new.length ≤ 1000)
    (hK : wk.heap[K]? = some (.cells #[.int .i64 kd', .string x.name, .string x.table, .string col', .slice Ac' nc' cc', .slice A1' n1' c1', .slice A2' n2' c2', .slice A3' n3' c3', .slice A4' n4' c4', .slice A5' n5' c5', .int .i64 x.prio, .int .i64 x.event, .bool b, .bool rl', .slice A6' n6' c6'] 67 (0, 0))) (hR : wk.heap[R]? = some (.cells #[.int .i64 0, .string { data := #[] }, .string { data := #[] }, .string { data := #[] }, .slice none 0 0, .slice none 0 0, .slice none 0 0, .slice none 0 0, .slice none 0 0, .slice none 0 0, .int .i64 0, .int .i64 0, .bool false, .bool false, .slice none 0 0] 67 (0, 0))) (hr : (tSt d).R okr wk x [.int .i64 kd', .string x.name, .string x.table, .string col', .slice Ac' nc' cc', .slice A1' n1' c1', .slice A2' n2' c2', .slice A3' n3' c3', .slice A4' n4' c4', .slice A5' n5' c5', .int .i64 x.prio, .int .i64 x.event, .bool b, .bool rl', .slice A6' n6' c6']) (hsz : x.name.size ≤ 9223372036854775807)
    (hno : ∀ (r11 r30 r31 r32 r33 r34 r35 r36 r37 r38 r39 r40 r41 : Value) (w6 : World), trig (fun s => (f s).getD 0) log x = false → Below wk.heap.size wk w6 → Q .normal { tmps := #[.pointer (some ⟨a, 0, none⟩), .pointer (some ⟨T, 0, none⟩), s2, s3, s4, s5, .pointer (some ⟨R, 0, none⟩), s7, s8, s9, .pointer (some ⟨K, 0, none⟩), r11, s12, s13, s14, s15, s16, s17, s18, s19, s20, s21, s22, s23, s24, s25, s26, s27, s28, s29, r30, r31, r32, r33, r34, r35, r36, r37, r38, r39, r40, r41, s42, s43, s44, s45], defers := [] } w6)
    (hhit : ∀ (r11 r30 r31 r32 r33 r34 r35 r36 r37 r38 r39 r40 r41 r42 r43 : Value) (vo : Value) (w6 w8 : World), trig (fun s => (f s).getD 0) log x = true → w8.heap[R]? = some (.cells #[.int .i64 kd', .string x.name, .string x.table, .string col', .slice Ac' nc' cc', .slice A1' n1' c1', .slice A2' n2' c2', .slice A3' n3' c3', .slice A4' n4' c4', .slice A5' n5' c5', .int .i64 x.prio, .int .i64 x.event, .bool b, .bool rl', .slice A6' n6' c6'] 67 (0, 0)) → Below wk.heap.size wk w6 → w8 = w6.setCells R 0 [.int .i64 kd', .string x.name, .string x.table, .string col', .slice Ac' nc' cc', .slice A1' n1' c1', .slice A2' n2' c2', .slice A3' n3' c3', .slice A4' n4' c4', .slice A5' n5' c5', .int .i64 x.prio, .int .i64 x.event, .bool b, .bool rl', .slice A6' n6' c6'] → Own tChg 40 (fun q => wk.heap.size ≤ q) w8 wk.heap.size vo (net (log.drop (markOf ((f x.name).getD 0) nT))) → Q .ret { tmps := #[.pointer (some ⟨a, 0, none⟩), .pointer (some ⟨T, 0, none⟩), s2, s3, s4, s5, .pointer (some ⟨R, 0, none⟩), vo, .bool true, s9, .pointer (some ⟨K, 0, none⟩), r11, s12, s13, s14, s15, s16, s17, s18, s19, s20, s21, s22, s23, s24, s25, s26, s27, s28, s29, r30, r31, r32, r33, r34, r35, r36, r37, r38, r39, r40, r41, r42, r43, s44, s45], defers := [] } w8) :
    ∀ code rest, (Try.f37.body.bind (regionAt 7)) = some code → (Try.f37.body.bind (restAt 7)) = some rest → ∀ KJ : Act → World → Prop, (∀ a w, Code.wp Try.prog rest Q a w → KJ a w) → Code.wp Try.prog code (Exit.then KJ Q) { tmps := #[.pointer (some ⟨a, 0, none⟩), .pointer (some ⟨T, 0, none⟩), s2, s3, s4, s5, .pointer (some ⟨R, 0, none⟩), s7, s8, s9, .pointer (some ⟨K, 0, none⟩), s11, s12, s13, s14, s15, s16, s17, s18, s19, s20, s21, s22, s23, s24, s25, s26, s27, s28, s29, s30, s31, s32, s33, s34, s35, s36, s37, s38, s39, s40, s41, s42, s43, s44, s45], defers := [] } wk := by
  intro code rest hcode hrest KJ hKJ
  have h : (Try.f37.body.bind (regionAt 7)) = some (Code.region 7 _ true) := rfl
  rw [h] at hcode
  injection hcode with hcode
  subst hcode
  clear h
  have h : (Try.f37.body.bind (restAt 7)) = some _ := rfl
  rw [h] at hrest
  injection hrest with hrest
  subst hrest
  clear h
  have HH := put hhit
  have HNO := put hno
  have HT := put hT
  have HNT : Kp (nT = log.length) := put hL.row.2.1
  have HL := put (And.intro hL (And.intro hl hlb))
  have HK := put hK
  have KR := put hr
  have HRB := put hR
  have HRW : Kp (R < wk.heap.size) := put (Array.getElem?_eq_some_iff.1 hR).1
  have HSZ := put hsz
  have k1 := st_c1 hK
  have ca := hA.c1
  have hKs := (Array.getElem?_eq_some_iff.1 hK).1
  have has := hA.lt
  have hl2 : (Instr.lookup 129 (.map (some mb)) (.string x.name) false).run Try.prog wk.drew = .ok (.int .i64 ((f x.name).getD 0)) wk.drew := (hM.below (Below.refl _ _).drew).look HSZ.out
  clear hhit hno hT hL hl hlb hK hR hr hsz hA hM
  have SC : Kp (∀ W, Below wk.heap.size wk W → Calls Try.prog 29 #[.pointer (some ⟨T, 0, none⟩), .int .i64 ((f x.name).getD 0)] W fun e w' => ∃ vo, e = .returned vo ∧ Own tChgU 40 (fun k => W.heap.size ≤ k) w' W.heap.size vo (net (log.drop (markOf ((f x.name).getD 0) nT))) ∧ Below W.heap.size W w') := put (fun W hb => sinceCalls okl W T nT cT AT _ log (hb.cell (p := ⟨T, 0, none⟩) (cell_lt HT.out) |>.trans HT.out) (HL.out.1.below hb) HL.out.2.1 HL.out.2.2)
  go_region_held3 (fun w' => w'.cell? ⟨a, 1, none⟩ = some (.map (some mb)) ∧ w'.cell? ⟨K, 1, none⟩ = some (.string x.name)) (first | go_keep | exact ⟨(hb.cell (p := ⟨a, 1, none⟩) has).trans ca, (hb.cell (p := ⟨K, 1, none⟩) hKs).trans k1⟩)
    (first | (go_at_call 29; refine (SC.out _ (Below.refl _ _).drew).mono ?_; rintro e w5 ⟨vo, rfl, ho, hb5⟩; have hb : Below wk.heap.size wk w5 := Below.trans (Below.refl _ _).drew hb5; have HO5 := put ho; have HB5 := put hb; clear ho hb5))
  all_goals
    have hK5 := (HB5.out.block K (Array.getElem?_eq_some_iff.1 HK.out).1).trans HK.out
    obtain ⟨g0, g1, g2, g3, g4, g5, g6, g7, g8, g9, g10, g11, g12, g13, g14⟩ := st_all hK5
    have HSN : Kp (net (log.drop (markOf ((f x.name).getD 0) nT)) = seen (fun s => (f s).getD 0) log x) := put (by unfold seen; rw [HNT.out])
    obtain ⟨V5, c5, e5, _, _⟩ := HO5.out.form
    have hln : (net (log.drop (markOf ((f x.name).getD 0) nT))).length ≤ 1000 := by
      have h1 := rnet_le (log.drop (markOf ((f x.name).getD 0) nT))
      rw [List.length_drop] at h1
      have := HL.out.2.1
      omega
    have HSL : Kp (Sl tChg (fun _ => True) w5 vo (net (log.drop (markOf ((f x.name).getD 0) nT)))) := put ((Own.plainer HO5.out).sl (fun _ _ => trivial) (fun _ _ => trivial) (by omega))
    have HLN : Kp ((net (log.drop (markOf ((f x.name).getD 0) nT))).length ≤ 1000 ∧ ∀ c ∈ net (log.drop (markOf ((f x.name).getD 0) nT)), c.old.length ≤ 1000 ∧ c.new.length ≤ 1000) := put ⟨hln, net_bound (fun c hc => HL.out.2.2 c (List.mem_of_mem_drop hc))⟩
    have HE5 := put e5
    clear hK5 e5 hln hb hl2 ca k1 hKs has
    go_wp2_with fail
    refine (trigCalls d _ _ x _ _ _ _ (Ty.below KR.out HB5.out) HSL.out HLN.out.1 HLN.out.2).mono ?_
    rintro e w6 ⟨rfl, hb6⟩
    have htrg : (decide (0 < x.event) && decide (0 < ((net (log.drop (markOf ((f x.name).getD 0) nT))).filter (Chg.isOf x.table x.event)).length)) = trig (fun s => (f s).getD 0) log x := by unfold trig; rw [HNT.out]
    rw [htrg]
    have HB6 := put hb6
    have HR6 := put ((hb6.block R (Nat.lt_of_lt_of_le HRW.out HB5.out.size)).trans ((HB5.out.block R HRW.out).trans HRB.out))
    have HK6 := put ((hb6.block K (by have := (Array.getElem?_eq_some_iff.1 HK.out).1; have h3 := HB5.out.size; omega)).trans ((HB5.out.block K (Array.getElem?_eq_some_iff.1 HK.out).1).trans HK.out))
    clear htrg hb6 g0 g1 g2 g3 g4 g5 g6 g7 g8 g9 g10 g11 g12 g13 g14
    cases htr : trig (fun s => (f s).getD 0) log x with
    | true =>
      have htr' := htr
      clear htr
      obtain ⟨g0, g1, g2, g3, g4, g5, g6, g7, g8, g9, g10, g11, g12, g13, g14⟩ := st_all HK6.out
      go_wp2_with (refine wpList_store_gen rfl _ _ _ rfl R _ _ [.int .i64 kd', .string x.name, .string x.table, .string col', .slice Ac' nc' cc', .slice A1' n1' c1', .slice A2' n2' c2', .slice A3' n3' c3', .slice A4' n4' c4', .slice A5' n5' c5', .int .i64 x.prio, .int .i64 x.event, .bool b, .bool rl', .slice A6' n6' c6'] rfl rfl HR6.out rfl (by kernel_rfl) ((tSt d).one KR.out) ?_; intro w8 hw8 hR8; have HW8 := put hw8; have HR8 := put hR8; clear hw8 hR8)
      have hmv : ∀ q, q < w6.heap.size → q ≠ R → w8.heap[q]? = w6.heap[q]? := fun q hq hne => by rw [HW8.out]; exact World.heap_setCells_other w6 R 0 _ hq hne
      have hRw : R < wk.heap.size := HRW.out
      have ho8 : Own tChg 40 (fun q => wk.heap.size ≤ q) w8 wk.heap.size vo (net (log.drop (markOf ((f x.name).getD 0) nT))) := (((Own.plainer HO5.out).below HB6.out).move (fun q hq => hmv q (Nat.lt_of_lt_of_le (HO5.out.lt q hq).2 HB6.out.size) (fun e => by have h1 := (HO5.out.lt q hq).1; simp at h1; omega)) (fun q hq _ hlt => hmv q hlt (fun e => by simp at hq; omega)))
      exact HH.out _ _ _ _ _ _ _ _ _ _ _ _ _ _ _ vo w6 w8 htr' HR8.out (HB5.out.trans (HB6.out.mono HB5.out.size)) HW8.out ho8
    | false =>
      have htr' := put htr
      clear htr
      go_wp2_with fail
      exact HNO.out _ _ _ _ _ _ _ _ _ _ _ _ _ w6 htr'.out (HB5.out.trans (HB6.out.mono HB5.out.size))

end Go.Proofs.Ytkfoknjflpklpaa.D
