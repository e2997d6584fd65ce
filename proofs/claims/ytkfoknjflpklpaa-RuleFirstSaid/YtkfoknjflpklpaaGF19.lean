/- The law RuleFirst. An argument as a row of the laws hands it in: it reads as my kinds of values do. -/
import Derived.Test.YtkfoknjflpklpaaGF17
import Derived.Test.YtkfoknjflpklpaaGF5
import Derived.Test.YtkfoknjflpklpaaGF18
import Derived.Test.YtkfoknjflpklpaaGF1
import Derived.Deep.Slices
import Derived.Deep.Strs
import Derived.Lib.SmallJoins
import Derived.SizedLaws

namespace Go.Proofs.Ytkfoknjflpklpaa.D
open Go Go.RowKit Go.Sort Go.Proofs.Ytkfoknjflpklpaa.Mem Go.Proofs.Ytkfoknjflpklpaa.Stab

/-- What the loop over the rules has seen of the first i. -/
def NamesApart (rs : List Rl) (i : Nat) : Prop := ∀ (p q : Nat) (x y : Rl), p < q → q < i → rs[p]? = some x → rs[q]? = some y → x.name ≠ y.name
theorem NamesApart.pairwise {rs : List Rl} (h : NamesApart rs rs.length) : rs.Pairwise (fun x y => x.name ≠ y.name) :=
  List.pairwise_iff_getElem.2 fun p q hp hq hpq => h p q _ _ hpq hq (List.getElem?_eq_getElem hp) (List.getElem?_eq_getElem hq)

theorem ne_map {α : Type} {d : Ty α} {E base m2 n : Nat} {ok : Nat → Prop} {w : World} {v : Value} {xs : List α} {f : ByteArray → Option Int} (h : Own d E ok w base v xs) (hM : Marks w m2 n f) : v.ownBlock ≠ some m2 := fun e => by
  obtain ⟨cells, _, ho, _⟩ := h
  obtain ⟨D, ⟨es, clock, hb, _⟩, _⟩ := hM
  rcases ho.2 with ⟨rfl, _⟩ | ⟨g, cap, cur, rfl, hg, hh, _⟩
  · simp [Value.ownBlock] at e
  · simp only [Value.ownBlock, Option.some.injEq] at e
    subst e
    rw [hh] at hb
    cases hb

theorem Sl9 {N : Nat} {w : World} {vn : Value} {mk : ByteArray → Int} {l : List Chg} {r : Rl} (h : Own tChg 40 (fun k => N < k) w N vn (seen mk l r)) (hl : l.length ≤ 1000) : Sl tChg (fun q => q < w.heap.size) w vn (seen mk l r) :=
  (Own.bnd h).sl (ok' := fun q => q < w.heap.size) (fun q hq => (h.lt q hq).2) (fun q hq => hq.2) (by have := seen_le mk l r; omega)

set_option maxHeartbeats 16000000 in
set_option maxRecDepth 1000000 in
theorem ruleFirstCalls (d : Nat) (ok1 ok2 ok3 : Nat → Prop) (v1 v2 v3 : Value) (rs : List Rl) (l : List Chg) (ms : List Int) (w : World) (h1 : Sl (tSt d) ok1 w v1 rs) (h2 : Sl tChg ok2 w v2 l) (h3 : Sl (tInt .i64) ok3 w v3 ms) :
    Calls Try.prog 8 #[v1, v2, v3] w fun e w' => e = .returned (.bool true) ∧ Below w.heap.size w w' := by
  obtain ⟨A1, c1, rfl, n1, m1, q1⟩ := h1.shape
  obtain ⟨A2, c2, rfl, n2, m2, q2⟩ := h2.shape
  obtain ⟨A3, c3, rfl, n3, m3, q3⟩ := h3.shape
  have HR := put h1
  have HL := put h2
  have HM := put h3
  obtain ⟨m, hm⟩ : ∃ m, m = rs.length := ⟨_, rfl⟩
  obtain ⟨k, hk⟩ : ∃ k, k = l.length := ⟨_, rfl⟩
  obtain ⟨g, hg⟩ : ∃ g, g = ms.length := ⟨_, rfl⟩
  rw [← hm] at n1 q1 HR ⊢
  rw [← hk] at n2 q2 HL ⊢
  rw [← hg] at n3 q3 HM ⊢
  have HE := put (And.intro hm (And.intro hk hg))
  clear h1 h2 h3 hm hk hg
  go_enter Try.func8, Try.ntmps8
  go_wp2_with fail
  refine (awakeCalls23 _).mono ?_
  rintro e w1 ⟨rfl, hb1⟩
  have HB1 := put hb1
  clear hb1
  go_wp2_with fail
  refine (greatCalls23 ok2 _ l _ (HL.out.below HB1.out)).mono ?_
  rintro e w2 ⟨⟨b, rfl, hgr⟩, hb2⟩
  have HB2 := put (HB1.out.trans (hb2.mono HB1.out.size))
  have HGR := put hgr
  clear hb2 hgr
  cases b with
  | true =>
    go_wp2_with fail
    go_ret
    exact ⟨rfl, HB2.out⟩
  | false =>
    have HG := put (HGR.out rfl)
    by_cases hm10 : (m : Int) > 10
    · go_wp2_with fail
      go_ret
      exact ⟨rfl, HB2.out⟩
    have HM10 : Kp (m ≤ 10) := put (by omega)
    go_wp2_with fail
    go_loopg [34] m (fun kx s34 wr => ∃ (i : Nat), s34 = .int .i64 i ∧ i ≤ m ∧ m - i ≤ kx ∧ Kp (NamesApart rs i) ∧ Kp (Below w.heap.size w wr))
    case atStart => exact ⟨0, rfl, Nat.zero_le _, Nat.le_refl _, put (fun p q x y _ hq => by omega), HB2⟩
    case round =>
      rename World => wa
      obtain ⟨i, rfl, hi, hkx, HNA, KB⟩ := hrel
      by_cases hlt : i < m
      · have hlz : (i : Int) < (m : Int) := by omega
        have i0 : (0 : Int) ≤ (i : Int) := by omega
        obtain ⟨ad, kd', x, col', rl', Ac', nc', cc', A1', n1', c1', A2', n2', c2', A3', n3', c3', A4', n4', c4', A5', n5', c5', A6', n6', c6', rfl, hx, u0, u1, u2, u3, u4, u5, u6, u7, u8, u9, u10, u11, u12, u13, u14, hr⟩ := sts_at (HR.out.below KB.out).row.1 i (by rw [← HE.out.1]; exact hlt)
        have KR := put hr
        have KX := put hx
        clear hr hx
        go_wp2_with fail
        obtain ⟨wk, hwk⟩ : ∃ wk, wk = wa.alloc (.cells #[.int .i64 kd', .string x.name, .string x.table, .string col', .slice Ac' nc' cc', .slice A1' n1' c1', .slice A2' n2' c2', .slice A3' n3' c3', .slice A4' n4' c4', .slice A5' n5' c5', .int .i64 x.prio, .int .i64 x.event, .bool x.deferred, .bool rl', .slice A6' n6' c6'] 67) := ⟨_, rfl⟩
        have hK : wk.heap[wa.heap.size]? = some (.cells #[.int .i64 kd', .string x.name, .string x.table, .string col', .slice Ac' nc' cc', .slice A1' n1' c1', .slice A2' n2' c2', .slice A3' n3' c3', .slice A4' n4' c4', .slice A5' n5' c5', .int .i64 x.prio, .int .i64 x.event, .bool x.deferred, .bool rl', .slice A6' n6' c6'] 67 (0, 0)) := by rw [hwk]; exact heap_alloc_new _ _
        have hbk : Below wa.heap.size wa wk := by rw [hwk]; exact balloc (Below.refl _ _) _
        rw [← hwk]
        have HBK := put hbk
        have HK := put hK
        clear hwk hK hbk u0 u1 u2 u3 u4 u5 u6 u7 u8 u9 u10 u11 u12 u13 u14
        refine (greatStCalls d _ x _ _ (Ty.below KR.out HBK.out)).mono ?_
        rintro e w5 ⟨⟨bg, rfl, _⟩, hb5⟩
        have HB5 := put hb5
        have KB5 := put (KB.out.trans ((HBK.out.trans (hb5.mono HBK.out.size)).mono KB.out.size))
        have HK5 := put ((hb5.block _ (Array.getElem?_eq_some_iff.1 HK.out).1).trans HK.out)
        clear hb5
        cases bg with
        | true =>
          go_wp2_with fail
          go_ret
          exact ⟨rfl, KB5.out⟩
        | false =>
          obtain ⟨B8, hB8⟩ : ∃ B8, B8 = wa.heap.size := ⟨_, rfl⟩
          rw [← hB8] at HK5 ⊢
          have HB8s : Kp (B8 < w5.heap.size) := put (Array.getElem?_eq_some_iff.1 HK5.out).1
          clear hB8
          have hic : (i : Int) ≤ (c1 : Int) := by omega
          go_wp2_with fail
          go_loopg [45] i (fun kx s45 wr => ∃ (j : Nat), s45 = .int .i64 j ∧ j ≤ i ∧ i - j ≤ kx ∧ Kp (∀ (p : Nat) (y : Rl), p < j → rs[p]? = some y → y.name ≠ x.name) ∧ Kp (Below w5.heap.size w5 wr))
          case atStart => exact ⟨0, rfl, Nat.zero_le _, Nat.le_refl _, put (fun p y hp => by omega), put (Below.refl _ _)⟩
          case round =>
            rename World => wb
            obtain ⟨j, rfl, hj, hkx2, HNJ, KBJ⟩ := hrel
            have KBW : Kp (Below w.heap.size w wb) := put (KB5.out.trans (KBJ.out.mono KB5.out.size))
            by_cases hlt2 : j < i
            · have hlz2 : (j : Int) < (i : Int) := by omega
              have j0 : (0 : Int) ≤ (j : Int) := by omega
              obtain ⟨ad2, kd2, y, col2, rl2, Ac2, nc2, cc2, A12, n12, c12, A22, n22, c22, A32, n32, c32, A42, n42, c42, A52, n52, c52, A62, n62, c62, e2, hy, u0, u1, u2, u3, u4, u5, u6, u7, u8, u9, u10, u11, u12, u13, u14, _⟩ := sts_at (HR.out.below KBW.out).row.1 j (by rw [← HE.out.1]; omega)
              obtain rfl : ad = ad2 := by injection e2
              have KY := put hy
              have x8 : ∀ o, (wb.alloc o).cell? ⟨B8, 1, none⟩ = some (.string x.name) := fun o => st_c1 (((KBJ.out.block B8 HB8s.out).trans HK5.out) |> fun h => keepA h o)
              clear hy e2
              by_cases he : y.name = x.name
              · have z1 : (y.name.toList == x.name.toList) = true := by rw [bytes_eq]; exact decide_eq_true he
                clear he
                go_wp2_with fail
                go_ret
                exact ⟨rfl, balloc KBW.out _⟩
              · have z1 : (y.name.toList == x.name.toList) = false := by rw [bytes_eq]; exact decide_eq_false he
                have HNE := put he
                clear he
                go_wp2_with fail
                go_roundg (i - (j + 1))
                case measure => omega
                case rel => exact ⟨j + 1, by go_num, by omega, Nat.le_refl _, put (fun p z hp hz => by
                  rcases Nat.lt_or_ge p j with h | h
                  · exact HNJ.out p z h hz
                  · obtain rfl : j = p := by omega
                    rw [KY.out] at hz
                    obtain rfl := Option.some.inj hz
                    exact HNE.out), put (balloc KBJ.out _)⟩
            · have hlz2 : ¬ (j : Int) < (i : Int) := by omega
              obtain rfl : i = j := by omega
              go_wp2_with fail
              go_roundg (m - (i + 1))
              case measure => omega
              case rel => exact ⟨i + 1, by go_num, by omega, Nat.le_refl _, put (fun p q z1 z2 hpq hq hz1 hz2 => by
                rcases Nat.lt_or_ge q i with h | h
                · exact HNA.out p q z1 z2 hpq h hz1 hz2
                · obtain rfl : i = q := by omega
                  rw [KX.out] at hz2
                  obtain rfl := Option.some.inj hz2
                  exact HNJ.out p z1 hpq hz1), KBW⟩
      · have hlz : ¬ (i : Int) < (m : Int) := by omega
        obtain rfl : m = i := by omega
        have HPW : Kp (rs.Pairwise (fun x y => x.name ≠ y.name)) := put (NamesApart.pairwise (by rw [← HE.out.1]; exact HNA.out))
        clear hi hkx hlt
        go_wp2_with (first | (go_at_call 34; refine (agNewCalls _).mono ?_; rintro e w1 ⟨rfl, hw1⟩) | (go_at_call 26; refine (newCalls _).mono ?_; rintro e w2 ⟨rfl, hw2⟩))
        clear hw1
        have hA2 : AgAt w2 (wa.heap.size + 1) (.slice none 0 0) wa.heap.size := by
          rw [hw2]
          exact AgAt.below (show AgAt ((wa.alloc (.map #[] 0)).alloc (.cells #[.slice none 0 0, .map (some wa.heap.size)] 131)) (wa.heap.size + 1) _ _ from top_get (by simp)) (balloc (Below.refl _ _) _)
        have hM2 : Marks w2 wa.heap.size 0 (fun _ => none) := by
          rw [hw2]
          exact ((Marks.made wa).below (balloc (Below.refl _ _) _)).below (balloc (Below.refl _ _) _)
        have hT2 : w2.heap[wa.heap.size + 1 + 1]? = some (.cells #[.slice none 0 0] 116 (0, 0)) := by rw [hw2]; exact top_get (by simp)
        have hB2 : Below wa.heap.size wa w2 := by rw [hw2]; exact balloc (balloc (balloc (Below.refl _ _) _) _) _
        have hs2 : w2.heap.size = wa.heap.size + 3 := by rw [hw2]; simp
        rw [← hw2]
        obtain ⟨a, ha⟩ : ∃ a, a = wa.heap.size + 1 := ⟨_, rfl⟩
        rw [← ha] at hA2 hT2 ⊢
        obtain ⟨T, hT⟩ : ∃ T, T = a + 1 := ⟨_, rfl⟩
        rw [← hT] at hT2 ⊢
        have HA2 := put hA2
        have HM2 := put hM2
        have HT2 := put hT2
        have HBW2 : Kp (Below w.heap.size w w2) := put (KB.out.trans (hB2.mono KB.out.size))
        have HSZ : Kp (a = wa.heap.size + 1 ∧ T = wa.heap.size + 2 ∧ w2.heap.size = wa.heap.size + 3 ∧ w.heap.size ≤ wa.heap.size) := put ⟨ha, by omega, by omega, KB.out.size⟩
        clear hw2 ha hs2 hA2 hM2 hT2 hB2 hT
        refine (rulesCalls d (fun q => ok1 q ∧ q < w.heap.size) w2 a wa.heap.size _ _ rs 0 HA2.out HM2.out ((Sl.bnd HR.out).below' (B := w.heap.size) HBW2.out (fun q hq => hq.2)) (by have := HM10.out; have := HE.out; omega) HPW.out (fun q hq => by have := HSZ.out; omega) (by have := HSZ.out; omega)).mono ?_
        rintro e w4 ⟨⟨r4, rfl⟩, A4, c4, m2, hA4, hm2, hO4, hM4, hB4⟩
        rw [← HE.out.1] at hA4 hO4
        obtain ⟨ss, hss⟩ : ∃ ss, ss = isort (ltOf rlCmp) rs := ⟨_, rfl⟩
        rw [← hss] at hO4
        have HSS := put hss
        have hsl : ss.length = m := by rw [hss, (isort_perm rs).length_eq, HE.out.1]
        have HA4 := put hA4
        have HM4 := put hM4
        have HM2l : Kp (m2 < w4.heap.size ∧ w2.heap.size ≤ m2) := put ⟨hM4.lt, hm2⟩
        have HT4 := put ((hB4.block T (Array.getElem?_eq_some_iff.1 HT2.out).1 (fun e => by have := HSZ.out; omega)).trans HT2.out)
        have HW4 : Kp (Below w.heap.size w w4) := put (HBW2.out.trans (hB4.below HBW2.out.size (fun q hq => by have := HSZ.out; omega)))
        have HS4 : Kp (Sl (tSt d) (fun q => q < w4.heap.size ∧ q ≠ T ∧ q ≠ m2) w4 (.slice A4 m c4) ss) := put ((Own.bnd hO4).sl (ok' := fun q => q < w4.heap.size ∧ q ≠ T ∧ q ≠ m2) (fun q hq => ⟨(hO4.lt q hq).2, fun e => by have h1 := (hO4.lt q hq).1; have h2 := HSZ.out; omega, fun e => ne_map hO4 hM4 (hq.trans (congrArg some e))⟩) (fun q hq => ⟨hq.2, fun e => by have h1 := hq.1.1.2; have h2 := HSZ.out; omega, fun e => by have h1 := hq.1.1.2; have h2 := HSZ.out; omega⟩) (by have := HM10.out; omega))
        have HSZ4 : Kp (T < w4.heap.size ∧ w.heap.size ≤ T ∧ a ≠ T) := put ⟨(Array.getElem?_eq_some_iff.1 HT4.out).1, by have := HSZ.out; omega, by have := HSZ.out; omega⟩
        clear hss hsl hA4 hM4 hO4 hB4 hm2
        go_wp2_with fail
        go_loopg [63] k (fun kx s63 wr => ∃ (i : Nat) (AT : Option Addr) (cT : Nat), s63 = .int .i64 i ∧ i ≤ k ∧ k - i ≤ kx ∧ Kp (wr.heap[T]? = some (.cells #[.slice AT i cT] 116 (0, 0))) ∧ Kp (Own tChg 40 (fun q => w4.heap.size ≤ q) wr w4.heap.size (.slice AT i cT) (l.take i)) ∧ Kp (But (fun q => q = T) w4 wr))
        case atStart => exact ⟨0, none, 0, rfl, Nat.zero_le _, Nat.le_refl _, HT4, put (Own.nil _ _ _ _ _), put (But.refl _ _)⟩
        case round =>
          rename World => wc
          obtain ⟨i, AT, cT, rfl, hi, hkx, HTC, KOC, KBC⟩ := hrel
          have HWC : Kp (Below w.heap.size w wc) := put (HW4.out.trans (KBC.out.below HW4.out.size (fun q hq => by have := HSZ4.out; omega)))
          by_cases hlt : i < k
          · have hlz : (i : Int) < (k : Int) := by omega
            have i0 : (0 : Int) ≤ (i : Int) := by omega
            obtain ⟨ad, x, B2, k2, B3, k3, rfl, hx, x0, x1, x2, x3, KRC, _⟩ := chgs_at (HL.out.below HWC.out).row.1 i (by rw [← HE.out.2.1]; exact hlt)
            have KXC := put hx
            have BX : Kp (x.old.length ≤ 20 ∧ x.new.length ≤ 20) := put (HG.out.2 x (List.mem_of_getElem? hx))
            have HLI : Kp (i < l.length ∧ l.length ≤ 60) := put ⟨by rw [← HE.out.2.1]; exact hlt, HG.out.1⟩
            clear hx
            go_wp2_with fail
            refine (noteCalls (fun q => w4.heap.size ≤ q) _ _ T i cT w4.heap.size AT B2 B3 k2 k3 (l.take i) x (keepA HTC.out _) (KOC.out.below (balloc (Below.refl _ _) _)) (Ty.below KRC.out (balloc (Below.refl _ _) _)) (by have := BX.out; omega) (by have := BX.out; omega) (by rw [List.length_take]; have := HLI.out; omega) (by rw [List.length_take]; have := HLI.out; omega) (fun q hq e => by have := HSZ4.out; omega) (Nat.le_trans KBC.out.size (by simp))).mono ?_
            rintro e w7 ⟨⟨r7, rfl⟩, A7, c7, hT7, hO7, hB7⟩
            have HT7 := put hT7
            have HO7 : Kp (Own tChg 40 (fun q => w4.heap.size ≤ q) w7 w4.heap.size (.slice A7 (i + 1) c7) (l.take (i + 1))) := put (by rw [take_one_more KXC.out]; exact hO7.mono (fun q hq => hq.elim id (fun h => Nat.le_trans KBC.out.size (Nat.le_trans (by simp) h))))
            have HB7 : Kp (But (fun q => q = T) w4 w7) := put ⟨hB7.os.trans KBC.out.os, hB7.tape.trans KBC.out.tape, hB7.output.trans KBC.out.output, Nat.le_trans KBC.out.size (Nat.le_trans (by simp) hB7.size), fun q hq hne => (hB7.block q (Nat.lt_of_lt_of_le hq (Nat.le_trans KBC.out.size (by simp))) (fun e => e.elim hne (fun e => by have := (KOC.out.lt q e.symm).1; omega))).trans ((Below.heap_alloc _ _ _ (Nat.lt_of_lt_of_le hq KBC.out.size)).trans (KBC.out.block q hq hne))⟩
            clear hT7 hO7 hB7 x0 x1 x2 x3
            go_wp2_with fail
            go_roundg (k - (i + 1))
            case measure => omega
            case rel => exact ⟨i + 1, A7, c7, by go_num, by omega, Nat.le_refl _, HT7, HO7, HB7⟩
          · have hlz : ¬ (i : Int) < (k : Int) := by omega
            obtain rfl : k = i := by omega
            have ko := KOC.out
            rw [List.take_of_length_le (by rw [HE.out.2.1]; exact Nat.le_refl _)] at ko
            have hkc : ∀ q, q < w4.heap.size → q ≠ T → wc.heap[q]? = w4.heap[q]? := KBC.out.block
            have HAC : Kp (AgAt wc a (.slice A4 m c4) m2) := put (HA4.out.kept (hkc a HA4.out.lt HSZ4.out.2.2))
            have HMC : Kp (Marks wc m2 11 (marksOf rs 0)) := put (HM4.out.kept (hkc m2 HM2l.out.1 (by have h1 := HM2l.out.2; have h2 := HSZ.out; omega)))
            have HSC : Kp (Sl (tSt d) (fun q => q < w4.heap.size ∧ q ≠ T ∧ q ≠ m2) wc (.slice A4 m c4) ss) := put (HS4.out.move (fun q hq hlt => hkc q hlt hq.2.1))
            have HOC := put ko
            have HMG : Kp (w.heap.size ≤ m2 ∧ m2 ≠ a ∧ m2 ≠ T ∧ m2 < wc.heap.size) := put ⟨by have h1 := HM2l.out.2; have h2 := HBW2.out.size; omega, by have h1 := HM2l.out.2; have h2 := HSZ.out; omega, by have h1 := HM2l.out.2; have h2 := HSZ.out; omega, HMC.out.lt⟩
            have HW4s : Kp (w4.heap.size ≤ wc.heap.size) := put KBC.out.size
            clear ko hkc hi hkx hlt
            go_wp2_with fail
            go_loopg [73] m (fun kx s73 wr => ∃ (i : Nat) (f : ByteArray → Option Int), s73 = .int .i64 i ∧ i ≤ m ∧ m - i ≤ kx ∧ Kp (Marks wr m2 (11 + i) f) ∧ Kp (But (fun q => q = m2) wc wr))
            case atStart => exact ⟨0, _, rfl, Nat.zero_le _, Nat.le_refl _, HMC, put (But.refl _ _)⟩
            case round =>
              rename World => wd
              obtain ⟨i, f, rfl, hi, hkx, KMD, KBD⟩ := hrel
              have HWD : Kp (Below w.heap.size w wd) := put (HWC.out.trans (KBD.out.below HWC.out.size (fun q hq => by have := HMG.out; omega)))
              by_cases hlt : i < m
              · have hlz : (i : Int) < (m : Int) := by omega
                have i0 : (0 : Int) ≤ (i : Int) := by omega
                obtain ⟨ad, kd', x, col', rl', Ac', nc', cc', A1', n1', c1', A2', n2', c2', A3', n3', c3', A4', n4', c4', A5', n5', c5', A6', n6', c6', rfl, hx, u0, u1, u2, u3, u4, u5, u6, u7, u8, u9, u10, u11, u12, u13, u14, hr⟩ := sts_at (HR.out.below HWD.out).row.1 i (by rw [← HE.out.1]; exact hlt)
                have HNS := put (st_name hr)
                clear hr hx
                by_cases hig : i < g
                · have hgz : (i : Int) < (g : Int) := by omega
                  go_wp2_with fail
                  obtain ⟨wk, hwk⟩ : ∃ wk, wk = wd.alloc (.cells #[.int .i64 kd', .string x.name, .string x.table, .string col', .slice Ac' nc' cc', .slice A1' n1' c1', .slice A2' n2' c2', .slice A3' n3' c3', .slice A4' n4' c4', .slice A5' n5' c5', .int .i64 x.prio, .int .i64 x.event, .bool x.deferred, .bool rl', .slice A6' n6' c6'] 67) := ⟨_, rfl⟩
                  have hK : wk.heap[wd.heap.size]? = some (.cells #[.int .i64 kd', .string x.name, .string x.table, .string col', .slice Ac' nc' cc', .slice A1' n1' c1', .slice A2' n2' c2', .slice A3' n3' c3', .slice A4' n4' c4', .slice A5' n5' c5', .int .i64 x.prio, .int .i64 x.event, .bool x.deferred, .bool rl', .slice A6' n6' c6'] 67 (0, 0)) := by rw [hwk]; exact heap_alloc_new _ _
                  have hbk : Below wd.heap.size wd wk := by rw [hwk]; exact balloc (Below.refl _ _) _
                  rw [← hwk]
                  obtain ⟨ad3, cs3, e3, ho3, hl3, hr3, ha3⟩ := ((HM.out.elder HWD.out).below hbk).row.1.get i (by rw [← HE.out.2.2]; exact hig)
                  obtain ⟨q3, hq3⟩ : ∃ q3, q3 = ms[i]'(by rw [← HE.out.2.2]; exact hig) := ⟨_, rfl⟩
                  rw [← hq3] at hr3
                  subst e3
                  obtain rfl : cs3 = [.int .i64 q3] := hr3
                  have k1 := st_c1 hK
                  have y3 : wk.cell? (ad3.add i) = some (.int .i64 q3) := by have h := At.c0 ha3 rfl; rwa [show i * (tInt IntKind.i64).sz = i by show i * 1 = i; omega] at h
                  have hAk : AgAt wk a (.slice A4 m c4) m2 := (HAC.out.kept (KBD.out.block a HAC.out.lt (fun e => HMG.out.2.1 e.symm))).below hbk
                  have HSAW : Kp (∀ W, Below wk.heap.size wk W → Calls Try.prog 36 #[.pointer (some ⟨a, 0, none⟩), .string x.name, .int .i64 q3] W fun e w' => (∃ r, e = .returned r) ∧ Marks w' m2 (11 + i + 1) (sawM f x.name q3) ∧ W.grownBy w' (some m2)) := put (fun W hb => agSawCalls W a m2 (11 + i) _ f x.name q3 (hAk.below hb) ((KMD.out.below hbk).below hb) HNS.out (by have := HM10.out; omega))
                  have HBK := put hbk
                  have hks : wd.heap.size < wk.heap.size := (Array.getElem?_eq_some_iff.1 hK).1
                  clear hwk hK hbk hq3 ha3 hAk u0 u1 u2 u3 u4 u5 u6 u7 u8 u9 u10 u11 u12 u13 u14
                  have hn1 : wd.heap.size ≠ m2 := by have h1 := HMG.out; have h2 := KBD.out.size; omega
                  have hn2 : ad3.block ≠ m2 := by have h1 := HMG.out; have h2 := ho3.2; omega
                  clear ho3
                  have hbl : (ad3.add i).block = ad3.block := add_block _ _
                  have HBL := put hbl
                  clear hbl
                  go_region_held3 (fun w' => w'.cell? ⟨wd.heap.size, 1, none⟩ = some (.string x.name) ∧ w'.cell? (ad3.add i) = some (.int .i64 q3)) (first | go_keep | exact ⟨p1, p2⟩)
                    (first | (go_at_call 36; refine (HSAW.out _ (Below.refl _ _).drew).mono ?_; rintro e w7 ⟨⟨r7, rfl⟩, hm7, hg7⟩; have p1 := (World.cell?_of_block (a := ⟨wd.heap.size, 1, none⟩) (hg7.block wd.heap.size hks (fun e => hn1 (Option.some.inj e)))).trans k1; have p2 := (World.cell?_of_block (a := ad3.add i) (hg7.block (ad3.add i).block (by rw [HBL.out]; exact hl3) (fun e => hn2 (HBL.out.symm.trans (Option.some.inj e))))).trans y3; have HM7 := put hm7; have HG7 := put hg7; clear hm7 hg7))
                  all_goals
                    clear p1 p2 k1 y3 hn1 hn2 hks hl3
                    go_wp2_with fail
                    go_roundg (m - (i + 1))
                    case measure => omega
                    case rel => exact ⟨i + 1, _, by go_num, by omega, Nat.le_refl _, HM7, put ⟨HG7.out.os.trans (HBK.out.os.trans KBD.out.os), HG7.out.tape.trans (HBK.out.tape.trans KBD.out.tape), HG7.out.output.trans (HBK.out.output.trans KBD.out.output), Nat.le_trans KBD.out.size (Nat.le_trans HBK.out.size HG7.out.size), fun q hq hne => (HG7.out.block q (Nat.lt_of_lt_of_le hq (Nat.le_trans KBD.out.size HBK.out.size)) (fun e => hne (Option.some.inj e))).trans ((HBK.out.block q (Nat.lt_of_lt_of_le hq KBD.out.size)).trans (KBD.out.block q hq hne))⟩⟩
                · have hgz : ¬ (i : Int) < (g : Int) := by omega
                  go_wp2_with fail
                  go_roundg (m - (i + 1))
                  case measure => omega
                  case rel => exact ⟨i + 1, f, by go_num, by omega, Nat.le_refl _, put ((KMD.out.below (balloc (Below.refl _ _) _)).mono (by omega)), put ⟨KBD.out.os, KBD.out.tape, KBD.out.output, Nat.le_trans KBD.out.size (by simp), fun q hq hne => (Below.heap_alloc _ _ _ (Nat.lt_of_lt_of_le hq KBD.out.size)).trans (KBD.out.block q hq hne)⟩⟩
              · have hlz : ¬ (i : Int) < (m : Int) := by omega
                obtain rfl : m = i := by omega
                have hkd : ∀ q, q < wc.heap.size → q ≠ m2 → wd.heap[q]? = wc.heap[q]? := KBD.out.block
                have HAD : Kp (AgAt wd a (.slice A4 m c4) m2) := put (HAC.out.kept (hkd a HAC.out.lt (fun e => HMG.out.2.1 e.symm)))
                have HSD : Kp (Sl (tSt d) (fun q => q < w4.heap.size ∧ q ≠ T ∧ q ≠ m2) wd (.slice A4 m c4) ss) := put (HSC.out.move (fun q hq hlt => hkd q hlt hq.2.2))
                have HTD := put ((hkd T (Array.getElem?_eq_some_iff.1 HTC.out).1 (fun e => HMG.out.2.2.1 e.symm)).trans HTC.out)
                have HLD : Kp (Sl tChg (fun q => w4.heap.size ≤ q) wd (.slice AT k cT) l) := put ((HOC.out.sl (ok' := fun q => w4.heap.size ≤ q) (fun q hq => (HOC.out.lt q hq).1) (fun q hq => hq) (by have := HG.out.1; omega)).move (fun q hq hlt => hkd q hlt (fun e => by have := HM2l.out.1; omega)))
                have HLB : Kp (l.length ≤ 1000 ∧ ∀ x ∈ l, x.old.length ≤ 1000 ∧ x.new.length ≤ 1000) := put ⟨by have := HG.out.1; omega, fun x hx => by have := HG.out.2 x hx; omega⟩
                clear hkd hi hkx hlt
                go_wp2_with fail
                refine (nextCalls d _ _ wd a m2 T (11 + m) m c4 k cT A4 AT ss f l true (fun r _ => by simp) HAD.out HSD.out KMD.out (cell_of_heap HTD.out) HLD.out HLB.out.1 HLB.out.2).mono ?_
                rintro e w9 ⟨hs, hb9⟩
                have HB9 := put hb9
                clear hb9
                cases hfo : firstOf (fun s => (f s).getD 0) l true ss with
                | none =>
                  rw [hfo] at hs
                  obtain rfl : e = _ := hs
                  have HFO := put hfo
                  clear hfo
                  dsimp only
                  go_wp2_with fail
                  obtain ⟨wk, hwk⟩ : ∃ wk, wk = w9.alloc (.cells #[.int .i64 0, .string { data := #[] }, .string { data := #[] }, .string { data := #[] }, .slice none 0 0, .slice none 0 0, .slice none 0 0, .slice none 0 0, .slice none 0 0, .slice none 0 0, .int .i64 0, .int .i64 0, .bool false, .bool false, .slice none 0 0] 67) := ⟨_, rfl⟩
                  have hK : wk.heap[w9.heap.size]? = some (.cells #[.int .i64 0, .string { data := #[] }, .string { data := #[] }, .string { data := #[] }, .slice none 0 0, .slice none 0 0, .slice none 0 0, .slice none 0 0, .slice none 0 0, .slice none 0 0, .int .i64 0, .int .i64 0, .bool false, .bool false, .slice none 0 0] 67 (0, 0)) := by rw [hwk]; exact heap_alloc_new _ _
                  have hbk : Below w9.heap.size w9 wk := by rw [hwk]; exact balloc (Below.refl _ _) _
                  rw [← hwk]
                  have HBK := put hbk
                  have HBD : Kp (Below wd.heap.size wd wk) := put (HB9.out.trans (hbk.mono HB9.out.size))
                  have HK := put hK
                  clear hwk hK hbk
                  refine firstTail _ _ _ _ _ _ _ _ _ _ _ _ _ _ _ _ _ _ _ _ _ _ _ _ _ _ _ _ _ _ _ _ _ _ _ _ _ _ _ _ _ _ _ _ _ _ _ _ _ _ _ _ _ _ _ _ _ _ _ _ _ _ _ _ _ _ _ _ _ _ _ _ _ _ _ _ _ _ _ _ _ _ _ _ _ _ _ _ _ _ _ _ _ _ _ _ _ _ _ _ _ _ _ _ _ _ _ _ _ _ _ _ _ _ _ _ _ _ _ _ _ _ _ _ _ _ _ _ _ _ _ _ _ _ _ _ _ _ _ _ _ _ _ _ _ _ _ _ _ _ _ _ _ _ (.slice A4 m c4) false d _ _ a m2 T _ (11 + m) k cT m c1 A1 AT rs f l _ _ _ _ _ _ _ _ _ _ _ _ _ _ _ wk _ (HAD.out.below HBD.out) (KMD.out.below HBD.out) ((HBD.out.cell (p := ⟨T, 0, none⟩) (cell_lt (cell_of_heap HTD.out))).trans (cell_of_heap HTD.out)) (HLD.out.below HBD.out) HLB.out.1 HLB.out.2 HK.out ((HR.out.below HWD.out).below HBD.out) ?_ ?_ ?_ _ _ _ rfl rfl rfl _ _ (by assumption) (by assumption)
                  · exact fun x hx _ => first_law hx (fun f hf => by rw [← HSS.out, HFO.out] at hf; cases hf)
                  · exact fun code hcode Q' h => firstNone _ _ _ _ _ _ _ _ _ _ _ _ _ _ _ _ _ _ _ _ _ _ _ _ _ _ _ _ _ _ _ _ _ _ _ _ _ _ _ _ _ _ _ _ _ _ _ _ _ _ _ _ _ _ _ _ _ _ _ _ _ _ _ _ _ _ _ _ _ _ _ _ _ _ _ _ _ _ _ _ _ _ _ _ _ _ _ _ _ _ _ _ _ _ _ _ _ _ _ _ _ _ _ _ _ _ _ _ _ _ _ _ _ _ _ _ _ _ _ _ _ _ _ _ _ _ _ _ _ _ _ _ _ _ _ _ _ _ _ _ _ _ _ _ _ _ _ _ _ _ _ _ _ _ _ a T _ wk Q' h code hcode
                  · intro t w' ht hb
                    exact bodyPost_ret (v := .bool true) (by simp [results, Try.results8, go_sem, ht]) rfl ⟨rfl, (HWD.out.trans (HBD.out.mono HWD.out.size)).trans (hb.mono (HWD.out.trans (HBD.out.mono HWD.out.size)).size)⟩
                | some r =>
                  rw [hfo] at hs
                  obtain ⟨cs9, vn, rfl, hr9, hn9⟩ := hs
                  obtain ⟨d9, kd9, col9, rl9, Ac9, nc9, cc9, A19, n19, c19, A29, n29, c29, A39, n39, c39, A49, n49, c49, A59, n59, c59, A69, n69, c69, hd9, hce, hp9⟩ := st_parts hr9
                  obtain rfl := hce.eq
                  have HFO := put hfo
                  have HR9 := put hr9
                  have HN9 := put hn9
                  clear hd9 hce hp9 hfo hr9 hn9
                  dsimp only
                  go_wp2_with fail
                  obtain ⟨wk, hwk⟩ : ∃ wk, wk = w9.alloc (.cells #[.int .i64 kd9, .string r.name, .string r.table, .string col9, .slice Ac9 nc9 cc9, .slice A19 n19 c19, .slice A29 n29 c29, .slice A39 n39 c39, .slice A49 n49 c49, .slice A59 n59 c59, .int .i64 r.prio, .int .i64 r.event, .bool r.deferred, .bool rl9, .slice A69 n69 c69] 67) := ⟨_, rfl⟩
                  have hK : wk.heap[w9.heap.size]? = some (.cells #[.int .i64 kd9, .string r.name, .string r.table, .string col9, .slice Ac9 nc9 cc9, .slice A19 n19 c19, .slice A29 n29 c29, .slice A39 n39 c39, .slice A49 n49 c49, .slice A59 n59 c59, .int .i64 r.prio, .int .i64 r.event, .bool r.deferred, .bool rl9, .slice A69 n69 c69] 67 (0, 0)) := by rw [hwk]; exact heap_alloc_new _ _
                  have hbk : Below w9.heap.size w9 wk := by rw [hwk]; exact balloc (Below.refl _ _) _
                  rw [← hwk]
                  have HBK := put hbk
                  have HBD : Kp (Below wd.heap.size wd wk) := put (HB9.out.trans (hbk.mono HB9.out.size))
                  have HK := put hK
                  clear hwk hK hbk
                  refine firstTail _ _ _ _ _ _ _ _ _ _ _ _ _ _ _ _ _ _ _ _ _ _ _ _ _ _ _ _ _ _ _ _ _ _ _ _ _ _ _ _ _ _ _ _ _ _ _ _ _ _ _ _ _ _ _ _ _ _ _ _ _ _ _ _ _ _ _ _ _ _ _ _ _ _ _ _ _ _ _ _ _ _ _ _ _ _ _ _ _ _ _ _ _ _ _ _ _ _ _ _ _ _ _ _ _ _ _ _ _ _ _ _ _ _ _ _ _ _ _ _ _ _ _ _ _ _ _ _ _ _ _ _ _ _ _ _ _ _ _ _ _ _ _ _ _ _ _ _ _ _ _ _ _ _ (.slice A4 m c4) true d _ _ a m2 T _ (11 + m) k cT m c1 A1 AT rs f l _ _ _ _ _ _ _ _ _ _ _ _ _ r.prio r.name wk _ (HAD.out.below HBD.out) (KMD.out.below HBD.out) ((HBD.out.cell (p := ⟨T, 0, none⟩) (cell_lt (cell_of_heap HTD.out))).trans (cell_of_heap HTD.out)) (HLD.out.below HBD.out) HLB.out.1 HLB.out.2 HK.out ((HR.out.below HWD.out).below HBD.out) ?_ ?_ ?_ _ _ _ rfl rfl rfl _ _ (by assumption) (by assumption)
                  · exact fun x hx ha => first_law hx (fun f hf => by
                      rw [← HSS.out, HFO.out] at hf
                      obtain rfl := Option.some.inj hf
                      exact ha rfl)
                  · exact fun code hcode Q' h => firstSame _ _ _ _ _ _ _ _ _ _ _ _ _ _ _ _ _ _ _ _ _ _ _ _ _ _ _ _ _ _ _ _ _ _ _ _ _ _ _ _ _ _ _ _ _ _ _ _ _ _ _ _ _ _ _ _ _ _ _ _ _ _ _ _ _ _ _ _ _ _ _ _ _ _ _ _ _ _ _ _ _ _ _ _ _ _ _ _ _ _ _ _ _ _ _ _ _ _ _ _ _ _ _ _ _ _ _ _ _ _ _ _ _ _ _ _ _ _ _ _ _ _ _ _ _ _ _ _ _ _ _ _ _ _ _ _ _ _ _ _ _ _ _ _ _ _ _ _ _ _ _ _ _ _ vn (.slice A4 m c4) d _ _ _ a m2 T _ (11 + m) k cT AT r f l _ _ _ _ _ _ _ _ _ _ _ _ _ _ _ _ _ _ _ _ _ _ _ _ wk Q' (HAD.out.below HBD.out) (KMD.out.below HBD.out) ((HBD.out.cell (p := ⟨T, 0, none⟩) (cell_lt (cell_of_heap HTD.out))).trans (cell_of_heap HTD.out)) (HLD.out.below HBD.out) HLB.out.1 HLB.out.2 HK.out (Ty.below HR9.out HBK.out) ((Sl9 HN9.out HLB.out.1).below HBK.out) (first_trig HFO.out).1 h code hcode
                  · intro t w' ht hb
                    exact bodyPost_ret (v := .bool true) (by simp [results, Try.results8, go_sem, ht]) rfl ⟨rfl, (HWD.out.trans (HBD.out.mono HWD.out.size)).trans (hb.mono (HWD.out.trans (HBD.out.mono HWD.out.size)).size)⟩
end Go.Proofs.Ytkfoknjflpklpaa.D

namespace Go.Proofs.Ytkfoknjflpklpaa.D
open Go Go.RowKit Go.Proofs.Ytkfoknjflpklpaa.Mem

def Light {H : Type} (P : Program) (t : TypeId) (d : DataW H) : Prop := ∀ n ∈ d.weights P t, n ≤ reachBytes

theorem light_all {H : Type} {P : Program} {e : TypeId} : ∀ {l : List (DataW H)}, (∀ n ∈ DataW.weightsAll P e l, n ≤ reachBytes) → ∀ d ∈ l, Light P e d
  | [], _, d, hd => by cases hd
  | x :: l, h, d, hd => by
    simp only [DataW.weightsAll, List.mem_append] at h
    rcases List.mem_cons.1 hd with rfl | hd
    · exact fun n hn => h n (.inl hn)
    · exact light_all (fun n hn => h n (.inr hn)) d hd

theorem light_each {H : Type} {P : Program} {ts : List TypeId} {ds : List (DataW H)} (h : ∀ n ∈ DataW.weightsEach P ts ds, n ≤ reachBytes) {j : Nat} {t : TypeId} {d : DataW H} (ht : ts[j]? = some t) (hd : ds[j]? = some d) : Light P t d :=
  fun n hn => h n (DataW.weights_mem_each ht hd n hn)

/-- What is handed in at type t reads as d says. -/
def Opn {H α : Type} (enc : TypeId × Value → H) (d : Ty α) (t : TypeId) (W : World) : Prop :=
  ∀ (fuel : Nat) (cs : List Value) (x : DataW H × List MemPlace), DataW.trod enc Try.prog W 0 (fun _ => true) true fuel t cs = some x → Light Try.prog t x.1 → ∃ a, d.R (fun _ => True) W a cs

section
variable {H : Type} {enc : TypeId × Value → H} {W : World}

theorem opn_slice {α : Type} [Inhabited α] {d : Ty α} {t e : TypeId} (ht : Try.prog.underlying t = some (.slice e)) (hc : Try.prog.cellsOf e = d.sz) (hb : 0 < Try.prog.bytesOf e) (hz : 0 < d.sz) (ho : Opn enc d e W) : Opn enc (tSl d) t W := by
  intro fuel cs x h hl
  rcases Deep.open_slice ht h with ⟨rfl, rfl⟩ | ⟨a, len, cap, m, n, D, Pl, rfl, _, hlc, hcm, hmm, rfl, hx⟩
  · exact ⟨[], _, rfl, Sl.nil _ _ _⟩
  · simp only [if_true] at hmm
    subst hmm
    have hw : ∀ n ∈ DataW.weights Try.prog t (.slice ((List.range len).map D) ((List.range (m - len)).map fun j => D (len + j))), n ≤ reachBytes := hl
    simp only [DataW.weights, ht, List.mem_cons, List.mem_append] at hw
    have h0 := hw _ (.inl rfl)
    have hall := light_all (fun n hn => hw n (.inr (.inl hn)))
    have hlen : len ≤ 140737488355328 := by
      simp only [List.length_map, List.length_range] at h0
      have h1 : len ≤ len + (m - len) := by omega
      have h2 : len * 1 ≤ (len + (m - len)) * Try.prog.bytesOf e := Nat.mul_le_mul h1 hb
      have h3 := reachBytes_lt
      omega
    obtain ⟨f, hf⟩ := Deep.choose_lt (n := len) (p := fun i b => ∃ cs, W.cells? 0 (a.add (i * d.sz)) d.sz = some cs ∧ d.R (fun _ => True) W b cs) (fun i hi => by
      obtain ⟨cs', h1, h2⟩ := hx i (by omega)
      rw [hc] at h1
      obtain ⟨b, hb'⟩ := ho n cs' _ h2 (hall (D i) (List.mem_map.2 ⟨i, List.mem_range.2 hi, rfl⟩))
      exact ⟨b, cs', h1, hb'⟩)
    refine ⟨(List.range len).map f, _, rfl, some a, m, by simp, by simpa using hlc, by simpa [maxLen] using hcm, by simpa using hlen, (fun e => by cases e), fun hne => ?_⟩
    have hpos : 0 < len := by
      rcases Nat.eq_zero_or_pos len with h | h
      · subst h; simp at hne
      · exact h
    refine ⟨a, rfl, trivial, ?_, fun i x hx => ?_⟩
    · obtain ⟨cs', h1, hr⟩ := hf 0 hpos
      have hsz : 0 < d.sz := hz
      obtain ⟨_, hcl, hcg⟩ := World.cells?_some h1
      have h2 := hcg 0 hsz
      rw [List.getElem?_eq_getElem (by omega), Nat.zero_mul, add_zero, add_zero] at h2
      unfold World.cell? at h2
      cases hh : W.heap[a.block]? with
      | none => rw [hh] at h2; simp at h2
      | some o => exact (Array.getElem?_eq_some_iff.1 hh).1
    · rw [List.getElem?_map] at hx
      cases hr : (List.range len)[i]? with
      | none => rw [hr] at hx; cases hx
      | some j =>
        rw [hr] at hx
        obtain ⟨hi, hj⟩ := List.getElem?_eq_some_iff.1 hr
        rw [List.getElem_range] at hj
        subst hj
        simp only [Option.map_some, Option.some.injEq] at hx
        subst hx
        obtain ⟨cs', h1, hr'⟩ := hf i (by simpa using hi)
        obtain ⟨_, hcl, hcg⟩ := World.cells?_some h1
        refine ⟨cs', hr', fun j u hu => ?_⟩
        have hjl := (List.getElem?_eq_some_iff.1 hu).1
        have := hcg j (by omega)
        rw [add_add] at this
        rw [this, hu]

theorem cells_int : Try.prog.cellsOf 3 = 1 := by kernel_rfl
theorem cells_str : Try.prog.cellsOf 9 = 1 := by kernel_rfl
theorem cells_vals : Try.prog.cellsOf 30 = 1 := by kernel_rfl

theorem opn_val : Opn enc tVal 55 W := by
  intro fuel cs x h _
  obtain ⟨y0, y1, y2, n, rfl, hl, h0, h1, h2⟩ := Deep.trod_struct3 Try.underlying55 h
  rw [show Try.prog.cellsOf 55 = 3 from by kernel_rfl] at hl
  dsimp only at h0 h1 h2
  rw [cells_int] at h0 h1
  rw [cells_str] at h2
  match cs, hl with
  | [c0, c1, c2], _ =>
    simp only [List.drop_zero, List.drop_succ_cons, List.take_succ_cons, List.take_zero] at h0 h1 h2
    obtain ⟨n0, e0, _, _⟩ := DataW.trod_int Try.underlying3 h0
    obtain ⟨n1, e1, _, _⟩ := DataW.trod_int Try.underlying3 h1
    obtain ⟨s2, e2, _, _⟩ := DataW.trod_string Try.underlying9 h2
    simp only [List.cons.injEq, and_true] at e0 e1 e2
    exact ⟨⟨n0, n1, s2⟩, by rw [e0, e1, e2]; rfl⟩

instance : Inhabited Val := ⟨⟨0, 0, ⟨#[]⟩⟩⟩
instance : Inhabited Chg := ⟨⟨⟨#[]⟩, 0, [], []⟩⟩

theorem opn_vals : Opn enc (tSl tVal) 30 W := opn_slice Try.underlying30 (by kernel_rfl) (of_decide_eq_true (by kernel_rfl)) (by decide) opn_val

theorem opn_chg : Opn enc tChg 40 W := by
  intro fuel cs x h hw
  obtain ⟨y0, y1, y2, y3, n, rfl, hl, h0, h1, h2, h3⟩ := Joins.trod_struct4 Try.underlying40 h
  rw [show Try.prog.cellsOf 40 = 4 from by kernel_rfl] at hl
  have hw' : ∀ n ∈ DataW.weights Try.prog 40 (.agg [y0.1, y1.1, y2.1, y3.1]), n ≤ reachBytes := hw
  simp only [DataW.weights, Try.underlying40] at hw'
  have w2 := light_each hw' (j := 2) rfl rfl
  have w3 := light_each hw' (j := 3) rfl rfl
  dsimp only at h0 h1 h2 h3 w2 w3
  rw [cells_str] at h0
  rw [cells_int] at h1
  rw [cells_vals] at h2 h3
  match cs, hl with
  | [c0, c1, c2, c3], _ =>
    simp only [List.drop_zero, List.drop_succ_cons, List.take_succ_cons, List.take_zero] at h0 h1 h2 h3
    obtain ⟨s0, e0, _, _⟩ := DataW.trod_string Try.underlying9 h0
    obtain ⟨n1, e1, _, _⟩ := DataW.trod_int Try.underlying3 h1
    obtain ⟨old, v2, e2, r2⟩ := opn_vals n _ _ h2 w2
    obtain ⟨new, v3, e3, r3⟩ := opn_vals n _ _ h3 w3
    simp only [List.cons.injEq, and_true] at e0 e1 e2 e3
    subst e0; subst e1; subst e2; subst e3
    exact ⟨⟨s0, n1, old, new⟩, _, _, rfl, r2, r3⟩

theorem opn_chgs : Opn enc (tSl tChg) 27 W := opn_slice Try.underlying27 (by kernel_rfl) (of_decide_eq_true (by kernel_rfl)) (by decide) opn_chg
end

end Go.Proofs.Ytkfoknjflpklpaa.D
