/- The method Next of rule.Agenda. The document's example. slices.swapRangeCmpFunc at tripwire/api.Row: it exchanges two ranges. slices.insertionSortCmpFunc at tripwire/api.Row. slices.rotateCmpFunc at tripwire/api.Row: it exchanges two neighbouring parts. -/
import Derived.Test.YtkfoknjflpklpaaGF13
import Derived.Test.YtkfoknjflpklpaaGF4
import Derived.Test.YtkfoknjflpklpaaGF5
import Derived.Test.YtkfoknjflpklpaaProg
import Derived.Test.YtkfoknjflpklpaaGF1
import Derived.Shelf.SlSortCmp.KitK
import Derived.Sort.WalkB2
import Derived.Sort.WalkB12
import Derived.Deep.LoopGhost

namespace Go.Proofs.Ytkfoknjflpklpaa.D
open Go Go.RowKit Go.Proofs.Ytkfoknjflpklpaa.Mem Go.Sort Go.Proofs.Ytkfoknjflpklpaa.Stab

set_option maxHeartbeats 16000000 in
set_option maxRecDepth 100000 in
theorem nextCalls (d : Nat) (ok okl : Nat → Prop) (w : World) (a mb T k n c nT cT : Nat) (A AT : Option Addr) (rs : List Rl) (f : ByteArray → Option Int) (log : List Chg) (dfr : Bool) (hdf : ∀ r ∈ rs, (r.deferred && !dfr) = false)
    (hA : AgAt w a (.slice A n c) mb) (hO : Sl (tSt d) ok w (.slice A n c) rs) (hM : Marks w mb k f) (hT : w.cell? ⟨T, 0, none⟩ = some (.slice AT nT cT)) (hL : Sl tChg okl w (.slice AT nT cT) log) (hl : log.length ≤ 1000) (hb : ∀ x ∈ log, x.old.length ≤ 1000 ∧ x.new.length ≤ 1000) :
    Calls Try.prog 37 #[.pointer (some ⟨a, 0, none⟩), .pointer (some ⟨T, 0, none⟩), .bool dfr] w fun e w' => NextSaid d (fun k => ok k ∧ k < w.heap.size) w.heap.size w' (fun s => (f s).getD 0) log (firstOf (fun s => (f s).getD 0) log dfr rs) e ∧ Below w.heap.size w w' := by
  obtain ⟨hrow, hn, hnc, hc9, _, _⟩ := hO.row
  have HA := put hA
  have HO := put (Sl.bnd hO)
  have HM := put hM
  have HT := put hT
  have HL := put (And.intro hL (And.intro hl hb))
  have HN := put hn
  have HDF := put hdf
  have hnT : nT = log.length := hL.row.2.1
  have HNT := put hnT
  have hkeep : ∀ o, (w.alloc o).cell? ⟨a, 0, none⟩ = some (.slice A n c) := fun o => (hA.below (balloc (Below.refl _ _) o)).c0
  clear hA hO hM hT hL hl hb hn hrow hnT hdf
  go_enter Try.func37, Try.ntmps37
  go_wp2_with fail
  obtain ⟨w1, hw1⟩ : ∃ w1, w1 = w.alloc (.cells #[.int .i64 0, .string { data := #[] }, .string { data := #[] }, .string { data := #[] }, .slice none 0 0, .slice none 0 0, .slice none 0 0, .slice none 0 0, .slice none 0 0, .slice none 0 0, .int .i64 0, .int .i64 0, .bool false, .bool false, .slice none 0 0] 67) := ⟨_, rfl⟩
  have hR1 : w1.heap[w.heap.size]? = some (.cells #[.int .i64 0, .string { data := #[] }, .string { data := #[] }, .string { data := #[] }, .slice none 0 0, .slice none 0 0, .slice none 0 0, .slice none 0 0, .slice none 0 0, .slice none 0 0, .int .i64 0, .int .i64 0, .bool false, .bool false, .slice none 0 0] 67 (0, 0)) := by rw [hw1]; exact heap_alloc_new _ _
  have hB1 : Below w.heap.size w w1 := by rw [hw1]; exact balloc (Below.refl _ _) _
  rw [← hw1]
  clear hw1 hkeep
  obtain ⟨R, hR⟩ : ∃ R, R = w.heap.size := ⟨_, rfl⟩
  rw [← hR] at hR1 ⊢
  have HR1 := put hR1
  have HB1 := put hB1
  have HRE := put hR
  clear hR1 hB1 hR
  go_loopg [20] n (fun kx s20 wr => ∃ (i : Nat), s20 = .int .i64 i ∧ i ≤ n ∧ n - i ≤ kx ∧ Kp (firstOf (fun s => (f s).getD 0) log dfr (rs.take i) = none) ∧ Kp (Below w1.heap.size w1 wr))
  case atStart => exact ⟨0, rfl, Nat.zero_le _, Nat.le_refl _, put (by simp [firstOf]), put (Below.refl _ _)⟩
  case round =>
    obtain ⟨i, rfl, hi, hkx, HF, KB⟩ := hrel
    have HBW : Kp (Below w.heap.size w wr) := put (HB1.out.trans (KB.out.mono HB1.out.size))
    have HR := put ((KB.out.block R (Array.getElem?_eq_some_iff.1 HR1.out).1).trans HR1.out)
    by_cases hlt : i < n
    · have hlz : (i : Int) < (n : Int) := by omega
      have i0 : (0 : Int) ≤ (i : Int) := by omega
      obtain ⟨ad, kd', x, col', rl', Ac', nc', cc', A1', n1', c1', A2', n2', c2', A3', n3', c3', A4', n4', c4', A5', n5', c5', A6', n6', c6', rfl, hx, u0, u1, u2, u3, u4, u5, u6, u7, u8, u9, u10, u11, u12, u13, u14, hr⟩ := sts_at (HO.out.below HBW.out).row.1 i (by rw [← HN.out]; exact hlt)
      have KR := put hr
      have KX := put hx
      have HSZ := put (st_name hr)
      clear hr hx
      cases hxd : x.deferred with
      | true =>
        obtain rfl : dfr = true := by have := HDF.out x (List.mem_of_getElem? KX.out); rw [hxd] at this; cases dfr <;> simp at this ⊢
        have HXD : Kp ((true || !x.deferred) = true) := put (by rw [hxd]; simp)
        rw [hxd] at u12
        rw [hxd] at KR
        clear hxd
        go_wp2_with fail
        obtain ⟨wk, hwk⟩ : ∃ wk, wk = wr.alloc (.cells #[.int .i64 kd', .string x.name, .string x.table, .string col', .slice Ac' nc' cc', .slice A1' n1' c1', .slice A2' n2' c2', .slice A3' n3' c3', .slice A4' n4' c4', .slice A5' n5' c5', .int .i64 x.prio, .int .i64 x.event, .bool true, .bool rl', .slice A6' n6' c6'] 67) := ⟨_, rfl⟩
        have hK : wk.heap[wr.heap.size]? = some (.cells #[.int .i64 kd', .string x.name, .string x.table, .string col', .slice Ac' nc' cc', .slice A1' n1' c1', .slice A2' n2' c2', .slice A3' n3' c3', .slice A4' n4' c4', .slice A5' n5' c5', .int .i64 x.prio, .int .i64 x.event, .bool true, .bool rl', .slice A6' n6' c6'] 67 (0, 0)) := by rw [hwk]; exact heap_alloc_new _ _
        have hbk : Below wr.heap.size wr wk := by rw [hwk]; exact balloc (Below.refl _ _) _
        have hksz : wk.heap.size = wr.heap.size + 1 := by rw [hwk]; simp
        rw [← hwk]
        obtain ⟨K, hKe⟩ : ∃ K, K = wr.heap.size := ⟨_, rfl⟩
        rw [← hKe] at hK ⊢
        have HWK : Kp (Below w.heap.size w wk) := put (HBW.out.trans (hbk.mono HBW.out.size))
        have HBK := put hbk
        have HSK := put hksz
        clear hwk hbk hKe hksz u0 u1 u2 u3 u4 u5 u6 u7 u8 u9 u10 u11 u12 u13 u14
        refine nextRound _ _ _ _ _ _ _ _ _ _ _ _ _ _ _ _ _ _ _ _ _ _ _ _ _ _ _ _ _ _ _ _ _ _ _ _ _ _ _ _ _ _ _ d _ okl a mb T R K k nT cT AT true x f log kd' col' rl' Ac' A1' A2' A3' A4' A5' A6' nc' cc' n1' c1' n2' c2' n3' c3' n4' c4' n5' c5' n6' c6' wk _ (HA.out.below HWK.out) (HM.out.below HWK.out) ((HWK.out.cell (p := ⟨T, 0, none⟩) (cell_lt HT.out)).trans HT.out) (HL.out.1.below HWK.out) HL.out.2.1 HL.out.2.2 hK ((HBK.out.block R (Array.getElem?_eq_some_iff.1 HR.out).1).trans HR.out) (Ty.below KR.out HBK.out) HSZ.out ?_ ?_ _ _ rfl rfl _ (by assumption)
        · intro r11 r30 r31 r32 r33 r34 r35 r36 r37 r38 r39 r40 r41 w6 htr hb6
          have HS := put (firstOf_step HF.out KX.out (by rw [htr, Bool.and_false]))
          have HB6 := put hb6
          clear htr hb6 hK
          go_wp2_with fail
          go_roundg (n - (i + 1))
          case measure => omega
          case rel => exact ⟨i + 1, by go_num, by omega, Nat.le_refl _, HS, put (KB.out.trans ((HBK.out.trans (HB6.out.mono HBK.out.size)).mono KB.out.size))⟩
        · intro r11 r30 r31 r32 r33 r34 r35 r36 r37 r38 r39 r40 r41 r42 r43 vo w6 w8 htr hR8 hb6 hw8 ho8
          have HIT := put (firstOf_hit HF.out KX.out (by rw [HXD.out, htr]; rfl))
          have HB6 := put hb6
          have HW8 := put hw8
          have HO8 := put ho8
          have HW6 : Kp (Below w.heap.size w w6) := put (HWK.out.trans (hb6.mono HWK.out.size))
          clear htr hb6 hw8 ho8 hK
          obtain ⟨z0, z1, z2, z3, z4, z5, z6, z7, z8, z9, z10, z11, z12, z13, z14⟩ := st_all hR8
          go_wp2_with fail
          have HRE2 := HRE.out
          refine bodyPost_ret (v := .tuple #[.agg #[.int .i64 kd', .string x.name, .string x.table, .string col', .slice Ac' nc' cc', .slice A1' n1' c1', .slice A2' n2' c2', .slice A3' n3' c3', .slice A4' n4' c4', .slice A5' n5' c5', .int .i64 x.prio, .int .i64 x.event, .bool true, .bool rl', .slice A6' n6' c6'], vo, .bool true]) (by simp [results, Try.results37, go_sem, z0, z1, z2, z3, z4, z5, z6, z7, z8, z9, z10, z11, z12, z13, z14]) rfl ⟨?_, below_sets HW6.out (Nat.le_of_eq HRE2.symm) HW8.out⟩
          rw [HIT.out]
          refine ⟨_, vo, rfl, ?_, ?_⟩
          · exact (tSt d).move (fun k hk hlt => by rw [HW8.out]; exact World.heap_setCells_other w6 R 0 _ hlt (fun e => by have := hk.2; omega)) (Ty.below KR.out (HBK.out.trans (HB6.out.mono HBK.out.size)))
          · have e1 : seen (fun s => (f s).getD 0) log x = net (log.drop (markOf ((f x.name).getD 0) nT)) := by unfold seen; rw [HNT.out]
            rw [e1]
            have h1 := HSK.out
            have h2 := HBW.out.size
            exact (HO8.out.lower (by omega)).mono (fun q hq => by omega)
      | false =>
        have HXD : Kp ((dfr || !x.deferred) = true) := put (by rw [hxd]; simp)
        rw [hxd] at u12
        rw [hxd] at KR
        clear hxd
        go_wp2_with fail
        obtain ⟨wk, hwk⟩ : ∃ wk, wk = wr.alloc (.cells #[.int .i64 kd', .string x.name, .string x.table, .string col', .slice Ac' nc' cc', .slice A1' n1' c1', .slice A2' n2' c2', .slice A3' n3' c3', .slice A4' n4' c4', .slice A5' n5' c5', .int .i64 x.prio, .int .i64 x.event, .bool false, .bool rl', .slice A6' n6' c6'] 67) := ⟨_, rfl⟩
        have hK : wk.heap[wr.heap.size]? = some (.cells #[.int .i64 kd', .string x.name, .string x.table, .string col', .slice Ac' nc' cc', .slice A1' n1' c1', .slice A2' n2' c2', .slice A3' n3' c3', .slice A4' n4' c4', .slice A5' n5' c5', .int .i64 x.prio, .int .i64 x.event, .bool false, .bool rl', .slice A6' n6' c6'] 67 (0, 0)) := by rw [hwk]; exact heap_alloc_new _ _
        have hbk : Below wr.heap.size wr wk := by rw [hwk]; exact balloc (Below.refl _ _) _
        have hksz : wk.heap.size = wr.heap.size + 1 := by rw [hwk]; simp
        rw [← hwk]
        obtain ⟨K, hKe⟩ : ∃ K, K = wr.heap.size := ⟨_, rfl⟩
        rw [← hKe] at hK ⊢
        have HWK : Kp (Below w.heap.size w wk) := put (HBW.out.trans (hbk.mono HBW.out.size))
        have HBK := put hbk
        have HSK := put hksz
        clear hwk hbk hKe hksz u0 u1 u2 u3 u4 u5 u6 u7 u8 u9 u10 u11 u12 u13 u14
        refine nextRound _ _ _ _ _ _ _ _ _ _ _ _ _ _ _ _ _ _ _ _ _ _ _ _ _ _ _ _ _ _ _ _ _ _ _ _ _ _ _ _ _ _ _ d _ okl a mb T R K k nT cT AT false x f log kd' col' rl' Ac' A1' A2' A3' A4' A5' A6' nc' cc' n1' c1' n2' c2' n3' c3' n4' c4' n5' c5' n6' c6' wk _ (HA.out.below HWK.out) (HM.out.below HWK.out) ((HWK.out.cell (p := ⟨T, 0, none⟩) (cell_lt HT.out)).trans HT.out) (HL.out.1.below HWK.out) HL.out.2.1 HL.out.2.2 hK ((HBK.out.block R (Array.getElem?_eq_some_iff.1 HR.out).1).trans HR.out) (Ty.below KR.out HBK.out) HSZ.out ?_ ?_ _ _ rfl rfl _ (by assumption)
        · intro r11 r30 r31 r32 r33 r34 r35 r36 r37 r38 r39 r40 r41 w6 htr hb6
          have HS := put (firstOf_step HF.out KX.out (by rw [htr, Bool.and_false]))
          have HB6 := put hb6
          clear htr hb6 hK
          go_wp2_with fail
          go_roundg (n - (i + 1))
          case measure => omega
          case rel => exact ⟨i + 1, by go_num, by omega, Nat.le_refl _, HS, put (KB.out.trans ((HBK.out.trans (HB6.out.mono HBK.out.size)).mono KB.out.size))⟩
        · intro r11 r30 r31 r32 r33 r34 r35 r36 r37 r38 r39 r40 r41 r42 r43 vo w6 w8 htr hR8 hb6 hw8 ho8
          have HIT := put (firstOf_hit HF.out KX.out (by rw [HXD.out, htr]; rfl))
          have HB6 := put hb6
          have HW8 := put hw8
          have HO8 := put ho8
          have HW6 : Kp (Below w.heap.size w w6) := put (HWK.out.trans (hb6.mono HWK.out.size))
          clear htr hb6 hw8 ho8 hK
          obtain ⟨z0, z1, z2, z3, z4, z5, z6, z7, z8, z9, z10, z11, z12, z13, z14⟩ := st_all hR8
          go_wp2_with fail
          have HRE2 := HRE.out
          refine bodyPost_ret (v := .tuple #[.agg #[.int .i64 kd', .string x.name, .string x.table, .string col', .slice Ac' nc' cc', .slice A1' n1' c1', .slice A2' n2' c2', .slice A3' n3' c3', .slice A4' n4' c4', .slice A5' n5' c5', .int .i64 x.prio, .int .i64 x.event, .bool false, .bool rl', .slice A6' n6' c6'], vo, .bool true]) (by simp [results, Try.results37, go_sem, z0, z1, z2, z3, z4, z5, z6, z7, z8, z9, z10, z11, z12, z13, z14]) rfl ⟨?_, below_sets HW6.out (Nat.le_of_eq HRE2.symm) HW8.out⟩
          rw [HIT.out]
          refine ⟨_, vo, rfl, ?_, ?_⟩
          · exact (tSt d).move (fun k hk hlt => by rw [HW8.out]; exact World.heap_setCells_other w6 R 0 _ hlt (fun e => by have := hk.2; omega)) (Ty.below KR.out (HBK.out.trans (HB6.out.mono HBK.out.size)))
          · have e1 : seen (fun s => (f s).getD 0) log x = net (log.drop (markOf ((f x.name).getD 0) nT)) := by unfold seen; rw [HNT.out]
            rw [e1]
            have h1 := HSK.out
            have h2 := HBW.out.size
            exact (HO8.out.lower (by omega)).mono (fun q hq => by omega)
    · have hlz : ¬ (i : Int) < (n : Int) := by omega
      obtain rfl : n = i := by omega
      have hf := HF.out
      rw [List.take_of_length_le (by rw [HN.out]; exact Nat.le_refl _)] at hf
      have HFN := put hf
      clear hf
      go_wp2_with (refine wpList_store_gen rfl _ _ _ rfl R _ _ [.int .i64 0, .string { data := #[] }, .string { data := #[] }, .string { data := #[] }, .slice none 0 0, .slice none 0 0, .slice none 0 0, .slice none 0 0, .slice none 0 0, .slice none 0 0, .int .i64 0, .int .i64 0, .bool false, .bool false, .slice none 0 0] rfl rfl HR.out rfl (by kernel_rfl) zeros_one ?_; intro w8 hw8 hR8; have HW8 := put hw8; have HR8 := put hR8; clear hw8 hR8)
      obtain ⟨z0, z1, z2, z3, z4, z5, z6, z7, z8, z9, z10, z11, z12, z13, z14⟩ := st_all HR8.out
      have HRE2 := HRE.out
      refine bodyPost_ret (v := .tuple #[.agg #[.int .i64 0, .string { data := #[] }, .string { data := #[] }, .string { data := #[] }, .slice none 0 0, .slice none 0 0, .slice none 0 0, .slice none 0 0, .slice none 0 0, .slice none 0 0, .int .i64 0, .int .i64 0, .bool false, .bool false, .slice none 0 0], .slice none 0 0, .bool false]) (by simp [results, Try.results37, go_sem, z0, z1, z2, z3, z4, z5, z6, z7, z8, z9, z10, z11, z12, z13, z14]) rfl ⟨?_, below_sets HBW.out (Nat.le_of_eq HRE2.symm) HW8.out⟩
      rw [HFN.out]
      rfl
end Go.Proofs.Ytkfoknjflpklpaa.D

namespace Go.Proofs.Ytkfoknjflpklpaa.D
open Go Go.RowKit Go.Sort Go.Proofs.Ytkfoknjflpklpaa.Mem Go.Proofs.Ytkfoknjflpklpaa.Stab

theorem net_two {x y : Chg} (h : x.same y = true) : net [x, y] = if Chg.kind { x with new := y.new } = 0 then [] else [{ x with new := y.new }] := by
  have h1 : ltOf chgCmp y x = false := by rw [ltOf_chg, Chg.same_not_lt (Chg.same_symm h)]
  have h2 : isort (ltOf chgCmp) [x, y] = [x, y] := by simp [isort, ins, h1]
  unfold net
  rw [h2, netScan]
  simp only [List.takeWhile_cons, List.dropWhile_cons, h, if_true, List.takeWhile_nil, List.dropWhile_nil, netScan, List.append_nil]
  rfl

def rowOf (n : Int) : List Val := [⟨2, n, ⟨#[]⟩⟩]
def chgOf (old new : List Val) : Chg := ⟨⟨#[116]⟩, 1, old, new⟩

set_option maxHeartbeats 4000000 in
theorem rowCalls (n : Int) (w : World) : Calls Try.prog 51 #[.int .i64 n] w fun e w' => e = .returned (.slice (some ⟨w.heap.size, 0, none⟩) 1 1) ∧ w.alloc (.cells #[.int .i64 2, .int .i64 n, .string ⟨#[]⟩] 55) = w' := by
  go_enter Try.func51, Try.ntmps51
  go_wp2
  go_ret
  exact ⟨rfl, rfl⟩

theorem vals_lit {ok : Nat → Prop} {w : World} {b : Nat} {n : Int} (h : w.heap[b]? = some (.cells #[.int .i64 2, .int .i64 n, .string ⟨#[]⟩] 55 (0, 0))) (hb : ok b) : Sl tVal ok w (.slice (some ⟨b, 0, none⟩) 1 1) (rowOf n) :=
  ⟨_, 1, rfl, Nat.le_refl _, by omega, by simp [rowOf], (fun e => by cases e), fun _ => ⟨_, rfl, hb, (Array.getElem?_eq_some_iff.1 h).1, fun i x hx => by
    rcases i with _ | i
    · simp only [rowOf, List.getElem?_cons_zero, Option.some.injEq] at hx
      subst hx
      refine ⟨_, rfl, fun j u hu => ?_⟩
      rw [Nat.zero_mul, Nat.zero_add]
      exact Go.World.news_of_block h j u (by simpa [Val.cells] using hu)
    · simp [rowOf] at hx⟩⟩

/-- Two changes of a literal. -/
theorem chgs_lit {ok : Nat → Prop} {w : World} {b : Nat} {x y : Chg} {v2 v3 u2 u3 : Value} (h : w.heap[b]? = some (.cells #[.string x.table, .int .i64 x.id, v2, v3, .string y.table, .int .i64 y.id, u2, u3] 40 (0, 0))) (hb : ok b) (h2 : Sl tVal ok w v2 x.old) (h3 : Sl tVal ok w v3 x.new) (k2 : Sl tVal ok w u2 y.old) (k3 : Sl tVal ok w u3 y.new) : Sl tChg ok w (.slice (some ⟨b, 0, none⟩) 2 2) [x, y] :=
  ⟨_, 2, rfl, Nat.le_refl _, by omega, by simp, (fun e => by cases e), fun _ => ⟨_, rfl, hb, (Array.getElem?_eq_some_iff.1 h).1, fun i z hz => by
    have hc := Go.World.news_of_block h
    rcases i with _ | _ | i
    · simp only [List.getElem?_cons_zero, Option.some.injEq] at hz
      subst hz
      refine ⟨_, ⟨v2, v3, rfl, h2, h3⟩, fun j u hu => ?_⟩
      rw [Nat.zero_mul, Nat.zero_add]
      refine hc j u ?_
      rcases j with _ | _ | _ | _ | j <;> simp at hu ⊢ <;> exact hu
    · simp only [List.getElem?_cons_succ, List.getElem?_cons_zero, Option.some.injEq] at hz
      subst hz
      refine ⟨_, ⟨u2, u3, rfl, k2, k3⟩, fun j u hu => ?_⟩
      refine hc _ u ?_
      show _[(0 + 1) * 4 + j]? = _
      rcases j with _ | _ | _ | _ | j <;> simp at hu ⊢ <;> exact hu
    · simp at hz⟩⟩


theorem top_get {w : World} {o : Obj} {k : Nat} (h : k = w.heap.size) : (w.alloc o).heap[k]? = some o := by rw [h]; exact heap_alloc_new _ _
theorem old_get {w : World} {o x : Obj} {k : Nat} (h : k < w.heap.size) (e : w.heap[k]? = some x) : (w.alloc o).heap[k]? = some x := (Below.heap_alloc _ _ _ h).trans e

theorem net_first : net [chgOf [] (rowOf 1), chgOf (rowOf 1) []] = [] := by
  rw [net_two (by decide)]
  decide
theorem net_second : net [chgOf [] (rowOf 1), chgOf (rowOf 1) (rowOf 2)] = [chgOf [] (rowOf 2)] := by
  rw [net_two (by decide)]
  decide

set_option maxHeartbeats 8000000 in
set_option maxRecDepth 100000 in
theorem awakeCalls (w : World) : Calls Try.prog 13 #[] w fun e w' => e = .returned (.bool true) ∧ Below w.heap.size w w' := by
  go_enter Try.func13, Try.ntmps13
  go_wp2_with (first | (go_at_call 51; refine (rowCalls _ _).mono ?_; rintro e w' ⟨rfl, rfl⟩))
  refine (netCalls (fun _ => True) _ [chgOf [] (rowOf 1), chgOf (rowOf 1) []] _ (chgs_lit (x := chgOf [] (rowOf 1)) (y := chgOf (rowOf 1) []) (v2 := .slice none 0 0) (v3 := .slice (some ⟨w.heap.size, 0, none⟩) 1 1) (u2 := .slice (some ⟨w.heap.size + 1, 0, none⟩) 1 1) (u3 := .slice none 0 0) (top_get (by simp)) trivial (Sl.nil _ _ _) (vals_lit (n := 1) (old_get (by simp <;> omega) (old_get (by simp <;> omega) (top_get rfl))) trivial) (vals_lit (n := 1) (old_get (by simp <;> omega) (top_get (by simp))) trivial) (Sl.nil _ _ _)) (by simp) (by decide)).mono ?_
  rintro e w5 ⟨vo, rfl, ho5, hb5⟩
  rw [net_first] at ho5
  obtain ⟨A5, c5, rfl, _, _⟩ := ho5.form
  have HB5 : Kp (Below w.heap.size w w5) := put ((balloc (balloc (balloc (Below.refl _ w) _) _) _).trans (hb5.mono (by simp; omega)))
  clear ho5 hb5
  go_wp2_with (first | (go_at_call 51; refine (rowCalls _ _).mono ?_; rintro e w' ⟨rfl, rfl⟩))
  refine (netCalls (fun _ => True) _ [chgOf [] (rowOf 1), chgOf (rowOf 1) (rowOf 2)] _ (chgs_lit (x := chgOf [] (rowOf 1)) (y := chgOf (rowOf 1) (rowOf 2)) (v2 := .slice none 0 0) (v3 := .slice (some ⟨w5.heap.size, 0, none⟩) 1 1) (u2 := .slice (some ⟨w5.heap.size + 1, 0, none⟩) 1 1) (u3 := .slice (some ⟨w5.heap.size + 1 + 1, 0, none⟩) 1 1) (top_get (by simp)) trivial (Sl.nil _ _ _) (vals_lit (n := 1) (old_get (by simp <;> omega) (old_get (by simp <;> omega) (old_get (by simp <;> omega) (top_get rfl)))) trivial) (vals_lit (n := 1) (old_get (by simp <;> omega) (old_get (by simp <;> omega) (top_get (by simp)))) trivial) (vals_lit (n := 2) (old_get (by simp <;> omega) (top_get (by simp))) trivial)) (by simp) (by decide)).mono ?_
  rintro e w6 ⟨vo, rfl, ho6, hb6⟩
  rw [net_second] at ho6
  obtain ⟨A6, c6, rfl, _, _⟩ := ho6.form
  have HB6 : Kp (Below w.heap.size w w6) := put (HB5.out.trans ((balloc (balloc (balloc (balloc (Below.refl _ w5) _) _) _) _).trans (hb6.mono (by simp; omega)) |>.mono HB5.out.size))
  have hs6 := ho6.sl (ok' := fun _ => True) (fun _ _ => trivial) (fun _ _ => trivial) (by simp)
  obtain ⟨ad, x, X2, k2, X3, k3, rfl, hx, x0, x1, x2, x3, KR, _⟩ := chgs_at hs6.row.1 0 (by simp)
  simp only [List.getElem?_cons_zero, Option.some.injEq] at hx
  subst hx
  obtain ⟨bd, rfl, n0, n1, n2⟩ := vals_get (R_parts KR.out).2.row.1 0 (by decide)
  have x3' : w6.cell? ⟨ad.block, ad.off + 3, none⟩ = some (.slice (some bd) 1 k3) := by simpa [chgOf, rowOf, add_zero] using x3
  have n1' : w6.cell? ⟨bd.block, bd.off + 1, none⟩ = some (.int .i64 2) := by simpa [chgOf, rowOf, add_zero] using n1
  simp only [Nat.zero_mul, add_zero] at x0 x1 x2
  have hb7 : ad.block < w6.heap.size := cell_lt x0
  have hb8 : bd.block < w6.heap.size := cell_lt (a := ⟨bd.block, bd.off + 1, none⟩) n1'
  have hkd : (chgOf [] (rowOf 2)).kind = 1 := by decide
  go_wp2_with (first | (go_at_call 20; refine (kindCalls _ (chgOf [] (rowOf 2)) _ w6 KR.out).mono ?_; rintro e w7 ⟨rfl, hb⟩; have y3 := (hb.cell (p := ⟨ad.block, ad.off + 3, none⟩) hb7).trans x3'; have m1 := (hb.cell (p := ⟨bd.block, bd.off + 1, none⟩) hb8).trans n1'; have HB7 := put (HB6.out.trans (hb.mono HB6.out.size)); clear hb))
  go_ret
  exact ⟨rfl, HB7.out⟩

end Go.Proofs.Ytkfoknjflpklpaa.D

namespace Go.Proofs.Ytkfoknjflpklpaa.StabRow
open Go.Shelf Go.RowKit Go.Lib Go.Sort Go.Proofs Go.Proofs.Ytkfoknjflpklpaa.Stab

/-- What the walks lean on of the program. -/
structure Lay (P : Program) (k : Nat) : Prop where
  mixed : P.follows .mixedOrders = true
  fswp : P.funcs[152]? = some Try.f152
  frot : P.funcs[146]? = some Try.f146
  fsym : P.funcs[137]? = some Try.f137
  fins : P.funcs[136]? = some Try.f136
  fsta : P.funcs[114]? = some Try.f114
  ftop : P.funcs[87]? = some Try.f87
  t0 : P.underlying 0 = some (.tuple #[])
  a0 : ∀ w, (isAgg 0).run P w = .ok false w
  z0 : ∀ w, (Go.sizeOf 0).run P w = .ok 1 w
  v0 : ∀ w, (zeroValue 0).run P w = .ok (.tuple #[]) w
  t3 : P.underlying 3 = some (.int .i64)
  a3 : ∀ w, (isAgg 3).run P w = .ok false w
  z3 : ∀ w, (Go.sizeOf 3).run P w = .ok 1 w
  v3 : ∀ w, (zeroValue 3).run P w = .ok (.int .i64 0) w
  t4 : P.underlying 4 = some .bool
  a4 : ∀ w, (isAgg 4).run P w = .ok false w
  z4 : ∀ w, (Go.sizeOf 4).run P w = .ok 1 w
  v4 : ∀ w, (zeroValue 4).run P w = .ok (.bool false) w
  tu : P.underlying 209 = some (.int .u64)
  au : ∀ w, (isAgg 209).run P w = .ok false w
  zu : ∀ w, (Go.sizeOf 209).run P w = .ok 1 w
  vu : ∀ w, (zeroValue 209).run P w = .ok (.int .u64 0) w
  ts : P.underlying 118 = some (.slice 159)
  aS : ∀ w, (isAgg 118).run P w = .ok false w
  zs : ∀ w, (Go.sizeOf 118).run P w = .ok 1 w
  vs : ∀ w, (zeroValue 118).run P w = .ok (.slice none 0 0) w
  tf : P.underlying 161 = some (.func #[159, 159] #[3] false)
  af : ∀ w, (isAgg 161).run P w = .ok false w
  zf : ∀ w, (Go.sizeOf 161).run P w = .ok 1 w
  vf : ∀ w, (zeroValue 161).run P w = .ok .nilFunc w
  aE : ∀ w, (isAgg 159).run P w = .ok true w
  zE : ∀ w, (Go.sizeOf 159).run P w = .ok k w

theorem laid : Lay Try.prog 2 := {
  mixed := by kernel_rfl,
  fswp := Try.func152,
  frot := Try.func146,
  fsym := Try.func137,
  fins := Try.func136,
  fsta := Try.func114,
  ftop := Try.func87,
  t0 := Try.underlying0,
  a0 := fun _ => by kernel_rfl,
  z0 := fun _ => by kernel_rfl,
  v0 := fun _ => by kernel_rfl,
  t3 := Try.underlying3,
  a3 := fun _ => by kernel_rfl,
  z3 := fun _ => by kernel_rfl,
  v3 := fun _ => by kernel_rfl,
  t4 := Try.underlying4,
  a4 := fun _ => by kernel_rfl,
  z4 := fun _ => by kernel_rfl,
  v4 := fun _ => by kernel_rfl,
  tu := Try.underlying209,
  au := fun _ => by kernel_rfl,
  zu := fun _ => by kernel_rfl,
  vu := fun _ => by kernel_rfl,
  ts := Try.underlying118,
  aS := fun _ => by kernel_rfl,
  zs := fun _ => by kernel_rfl,
  vs := fun _ => by kernel_rfl,
  tf := Try.underlying161,
  af := fun _ => by kernel_rfl,
  zf := fun _ => by kernel_rfl,
  vf := fun _ => by kernel_rfl,
  aE := fun _ => by kernel_rfl,
  zE := fun _ => by kernel_rfl }

variable {P : Program} {α : Type} [Inhabited α]

set_option maxHeartbeats 4000000 in
set_option maxRecDepth 1000000 in
theorem swapRange {k : Nat} (L : Lay P k) (enc : α → List Value) (g : Nat) (cb : Array Value) (blk off cap a b n : Nat) (d0 d : Array α) (w0 w : World)
    (R : RowK enc k w0 blk off d0) (hs : d0.size = d.size) (S : SWK enc k w0 blk off d w) (hab : a + n ≤ d.size) (hb : b + n ≤ d.size) (hsz : d.size < 4611686018427387904) :
    Calls P 152 #[.slice (some ⟨blk, off, none⟩) d.size cap, .int .i64 a, .int .i64 b, .int .i64 n, .func (.func g) #[] cb] w fun e w' => e = .returned (.tuple #[]) ∧ SWK enc k w0 blk off (swapFrom a b n 0 d) w' := by
  have mixed := L.mixed; have t0 := L.t0; have a0 := L.a0; have z0 := L.z0; have v0 := L.v0; have t3 := L.t3; have a3 := L.a3; have z3 := L.z3; have v3 := L.v3; have t4 := L.t4; have a4 := L.a4; have z4 := L.z4; have v4 := L.v4; have ts := L.ts; have as' := L.aS; have zs := L.zs; have vs := L.vs; have tf := L.tf; have af := L.af; have zf := L.zf; have vf := L.vf; have aE := L.aE; have zE := L.zE
  have FG := L.fswp
  have S0 : Aside (SWK enc k w0 blk off d w) := S
  clear S L
  go_enter FG, Try.ntmps152
  go_wp2
  go_loopg [10] n (fun kx s10 wr => ∃ (i : Nat) (dk : Array α), s10 = .int .i64 i ∧ i ≤ n ∧ n - i ≤ kx ∧ dk.size = d.size ∧ Aside (SWK enc k w0 blk off dk wr) ∧ Hid (swapFrom a b n i dk = swapFrom a b n 0 d))
  case atStart => exact ⟨0, d, rfl, by omega, by omega, rfl, S0, rfl⟩
  case round =>
    clear S0
    obtain ⟨i, dk, rfl, hin, hkx, hds, S1, heq⟩ := hrel
    by_cases hlt : i < n
    · have hltz : (i : Int) < (n : Int) := by omega
      go_wp2_with fail
      have ea : ((a : Int) + (i : Int)).toNat = a + i := by omega
      have pa : (0 : Int) ≤ (a : Int) + (i : Int) := by omega
      have ba : (a : Int) + (i : Int) < (d.size : Int) := by omega
      have ra : IntKind.i64.wrap ((a : Int) + (i : Int)) = (a : Int) + (i : Int) := by rw [IntKind.wrap_i64]; omega
      have eb : ((b : Int) + (i : Int)).toNat = b + i := by omega
      have pb : (0 : Int) ≤ (b : Int) + (i : Int) := by omega
      have bb : (b : Int) + (i : Int) < (d.size : Int) := by omega
      have rb : IntKind.i64.wrap ((b : Int) + (i : Int)) = (b : Int) + (i : Int) := by rw [IntKind.wrap_i64]; omega
      have S2 : Aside (SWK enc k w0 blk off (swp dk (a + i) (b + i)) ((wr.drew.setCells blk (off + (a + i) * k) (enc dk[b + i]!)).setCells blk (off + (b + i) * k) (enc dk[a + i]!))) := S1.out.swapped R (a + i) (b + i) (by omega) (by omega)
      have l44a := S1.out.ld1 R (by omega) P (a + i) (by omega)
      have l44b := S1.out.ld1 R (by omega) P (b + i) (by omega)
      have s44a := S1.out.st1 R (by omega) P (a + i) (by omega) dk[b + i]!
      have s44b := S1.out.st2 R (by omega) P (a + i) (b + i) (by omega) (by omega) dk[b + i]! dk[a + i]!
      have n44a : (enc dk[a + i]!).length = k := R.hk _
      have n44b : (enc dk[b + i]!).length = k := R.hk _
      generalize enc dk[a + i]! = cI44 at S2 l44a s44b n44a
      generalize enc dk[b + i]! = cJ44 at S2 l44b s44a s44b n44b
      clear S1
      go_wp2_with fail
      go_big_region_o
      clear l44a l44b s44a s44b
      generalize (wr.drew.setCells blk (off + (a + i) * k) cJ44).setCells blk (off + (b + i) * k) cI44 = w2 at S2 ⊢
      go_wp2
      go_roundg (n - (i + 1))
      case measure => omega
      case rel => exact ⟨i + 1, swp dk (a + i) (b + i), by go_num, by omega, Nat.le_refl _, by rw [size_swp]; exact hds, S2, by
        show _ = _
        rw [← heq.out, swapFrom.eq_def a b n i dk, if_pos hlt]⟩
    · have hltz : ¬ (i : Int) < (n : Int) := by omega
      go_wp2
      go_end0
      refine ⟨rfl, ?_⟩
      rw [← heq.out, swapFrom, if_neg hlt]
      exact S1.out

end Go.Proofs.Ytkfoknjflpklpaa.StabRow

namespace Go.Proofs.Ytkfoknjflpklpaa.StabRow
open Go.Shelf Go.RowKit Go.Lib Go.Sort Go.Proofs Go.Proofs.Ytkfoknjflpklpaa.Stab
variable {P : Program} {α : Type} [Inhabited α]

omit [Inhabited α] in
theorem Inner.go [Inhabited α] (lt : α → α → Bool) (a p : Nat) (d : Array α) (h : a < p + 1) (hl : lt d[p + 1]! d[p]! = true) : insInner lt a (p + 1) d = insInner lt a p (swp d (p + 1) p) := by
  rw [insInner]; simp [hl, h]

theorem Inner.stop (lt : α → α → Bool) (a j : Nat) (d : Array α) (h : j ≤ a ∨ lt d[j]! d[j - 1]! = false) : insInner lt a j d = d := by
  cases j with
  | zero => rw [insInner]
  | succ j =>
    rw [insInner, if_neg]
    rcases h with h | h
    · simp; intro h2; omega
    · rw [show j + 1 - 1 = j from rfl] at h; simp [h]

set_option maxHeartbeats 16000000 in
set_option maxRecDepth 1000000 in
theorem insCalls {k : Nat} (L : Lay P k) (enc : α → List Value) (cf : α → α → Int) (g : Nat) (cb : Array Value) (blk off cap a b : Nat) (d0 d : Array α) (w0 w : World)
    (eg : ∀ args w, (callFunc g args).run P w = .ok (.enter g args) w) (hcmp : CmpLays P g cb enc k cf blk off d0.size w0) (R : RowK enc k w0 blk off d0) (hs : d0.size = d.size) (S : SWK enc k w0 blk off d w) (hab : a ≤ b) (hb : b ≤ d.size) (hsz : d.size < 4611686018427387904) :
    Calls P 136 #[.slice (some ⟨blk, off, none⟩) d.size cap, .int .i64 a, .int .i64 b, .func (.func g) #[] cb] w fun e w' => e = .returned (.tuple #[]) ∧ SWK enc k w0 blk off (insertionSort (ltOf cf) d a b) w' := by
  have mixed := L.mixed; have t0 := L.t0; have a0 := L.a0; have z0 := L.z0; have v0 := L.v0; have t3 := L.t3; have a3 := L.a3; have z3 := L.z3; have v3 := L.v3; have t4 := L.t4; have a4 := L.a4; have z4 := L.z4; have v4 := L.v4; have ts := L.ts; have as' := L.aS; have zs := L.zs; have vs := L.vs; have tf := L.tf; have af := L.af; have zf := L.zf; have vf := L.vf; have aE := L.aE; have zE := L.zE
  have FG := L.fins
  have HC : Aside _ := hcmp
  have S0 : Aside (SWK enc k w0 blk off d w) := S
  clear S hcmp L
  go_enter FG, Try.ntmps136
  go_wp2
  go_loopg [8] (b - a) (fun kx s8 wr => ∃ (i : Nat) (dk : Array α), s8 = .int .i64 i ∧ a < i ∧ i ≤ b + 1 ∧ b + 1 - i ≤ kx + 1 ∧ dk.size = d.size ∧ Aside (SWK enc k w0 blk off dk wr) ∧ Hid (insOuter (ltOf cf) a b i dk = insOuter (ltOf cf) a b (a + 1) d))
  case atStart => exact ⟨a + 1, d, by go_num, by omega, by omega, by omega, rfl, S0, rfl⟩
  case round =>
    clear S0
    obtain ⟨i, dk, rfl, hai, hib, hkx, hds, S1, heq⟩ := hrel
    by_cases hlt : i < b
    · have hltz : (i : Int) < (b : Int) := by omega
      obtain ⟨wo, rfl⟩ : ∃ wo : World, wo = wr := ⟨_, rfl⟩
      go_wp2
      go_loopg [9] i (fun ky s9 wr2 => ∃ (j : Nat) (dj : Array α), s9 = .int .i64 j ∧ a ≤ j ∧ j ≤ i ∧ j ≤ ky ∧ dj.size = d.size ∧ Aside (SWK enc k w0 blk off dj wr2) ∧ Hid (insInner (ltOf cf) a j dj = insInner (ltOf cf) a i dk))
      case atStart => exact ⟨i, dk, rfl, by omega, Nat.le_refl _, Nat.le_refl _, hds, S1, rfl⟩
      case round =>
        clear S1
        obtain ⟨j, dj, rfl, haj, hji, hky, hdj, S1, hin⟩ := hrel
        have out : (j ≤ a ∨ ltOf cf dj[j]! dj[j - 1]! = false) → insOuter (ltOf cf) a b (i + 1) dj = insOuter (ltOf cf) a b (a + 1) d := fun hstop => by
          rw [← heq.out, insOuter.eq_def _ a b i dk, if_pos hlt, ← hin.out, Inner.stop _ _ _ _ hstop]
        have OUT : Aside _ := out
        clear out
        by_cases hja : a < j
        · obtain ⟨p, rfl⟩ : ∃ p, j = p + 1 := ⟨j - 1, by omega⟩
          have hjz : (a : Int) < (p : Int) + 1 := by omega
          have hjd : decide ((p : Int) + 1 > (a : Int)) = true := decide_eq_true (by omega)
          have ea : ((p : Int) + 1).toNat = p + 1 := by omega
          have pa : (0 : Int) ≤ (p : Int) + 1 := by omega
          have ba : (p : Int) + 1 < (d.size : Int) := by omega
          have ra : IntKind.i64.wrap ((p : Int) + 1) = (p : Int) + 1 := by rw [IntKind.wrap_i64]; omega
          have ec : ((p : Int)).toNat = p := by omega
          have pc : (0 : Int) ≤ (p : Int) := by omega
          have bc : (p : Int) < (d.size : Int) := by omega
          have rc : IntKind.i64.wrap ((p : Int)) = (p : Int) := by rw [IntKind.wrap_i64]; omega
          obtain ⟨x, hx⟩ : ∃ x, x = dj[p + 1]! := ⟨_, rfl⟩
          obtain ⟨y, hy⟩ : ∃ x, x = dj[p]! := ⟨_, rfl⟩
          have lx := S1.out.ld R (by omega) P (p + 1) (by omega)
          have ly := S1.out.ld R (by omega) P p (by omega)
          rw [← hx] at lx
          rw [← hy] at ly
          have hc := S1.out.cmp HC.out (by omega) x y
          have HX : Hid (x = dj[p + 1]! ∧ y = dj[p]!) := ⟨hx, hy⟩
          clear hx hy
          by_cases hv : cf x y < 0
          · have hd : decide (cf x y < 0) = true := decide_eq_true hv
            go_wp2_with fail
            go_quiet_grown (first | (go_at_fn g; refine Calls.grown_of (hc _ _)))
            have SV : Aside (SWK enc k w0 blk off dj (grow (wr.drewN nq) osq)) := S1.out.grown nq osq
            clear lx ly hc S1
            generalize grow (wr.drewN nq) osq = wv at SV ⊢
            clear nq osq
            go_wp2_with fail
            have S2 : Aside (SWK enc k w0 blk off (swp dj (p + 1) p) ((wv.drew.setCells blk (off + (p + 1) * k) (enc dj[p]!)).setCells blk (off + p * k) (enc dj[p + 1]!))) := SV.out.swapped R (p + 1) p (by omega) (by omega)
            have l44a := SV.out.ld1 R (by omega) P (p + 1) (by omega)
            have l44b := SV.out.ld1 R (by omega) P p (by omega)
            have s44a := SV.out.st1 R (by omega) P (p + 1) (by omega) dj[p]!
            have s44b := SV.out.st2 R (by omega) P (p + 1) p (by omega) (by omega) dj[p]! dj[p + 1]!
            have n44a : (enc dj[p + 1]!).length = k := R.hk _
            have n44b : (enc dj[p]!).length = k := R.hk _
            generalize enc dj[p + 1]! = cI44 at S2 l44a s44b n44a
            generalize enc dj[p]! = cJ44 at S2 l44b s44a s44b n44b
            clear SV
            go_wp2_with fail
            go_big_region_o
            clear l44a l44b s44a s44b
            generalize (wv.drew.setCells blk (off + (p + 1) * k) cJ44).setCells blk (off + p * k) cI44 = w2 at S2 ⊢
            go_wp2
            go_roundg p
            case measure => omega
            case rel => exact ⟨p, swp dj (p + 1) p, by first | rfl | go_num, by omega, by omega, Nat.le_refl _, by rw [size_swp]; exact hdj, S2, by
              show _ = _
              rw [← hin.out, Inner.go _ _ _ _ hja (by rw [← HX.out.1, ← HX.out.2]; exact decide_eq_true hv)]⟩
          · have hd : decide (cf x y < 0) = false := decide_eq_false hv
            go_wp2_with fail
            go_quiet_grown (first | (go_at_fn g; refine Calls.grown_of (hc _ _)))
            have SV : Aside (SWK enc k w0 blk off dj (grow (wr.drewN nq) osq)) := S1.out.grown nq osq
            clear lx ly hc S1
            generalize grow (wr.drewN nq) osq = wv at SV ⊢
            clear nq osq
            go_wp2
            go_roundg (b - (i + 1))
            case measure => omega
            case rel => exact ⟨i + 1, dj, by go_num, by omega, by omega, by omega, hdj, SV, OUT.out (Or.inr (by simp only [Nat.add_sub_cancel]; rw [← HX.out.1, ← HX.out.2]; exact decide_eq_false (by omega)))⟩
        · have hjaz : decide ((j : Int) > (a : Int)) = false := decide_eq_false (by omega)
          have hjaz' : ¬ (a : Int) < (j : Int) := by omega
          have SV : Aside (SWK enc k w0 blk off dj wr.drew) := S1.out.drew
          clear S1
          go_wp2_with fail
          go_big_region_o
          all_goals go_wp2
          go_roundg (b - (i + 1))
          case measure => omega
          case rel => exact ⟨i + 1, dj, by go_num, by omega, by omega, by omega, hdj, SV, OUT.out (Or.inl (by omega))⟩
    · have hltz : ¬ (i : Int) < (b : Int) := by omega
      go_wp2
      go_end0
      refine ⟨rfl, ?_⟩
      rw [insertionSort, ← heq.out, insOuter, if_neg hlt]
      exact S1.out

end Go.Proofs.Ytkfoknjflpklpaa.StabRow

namespace Go.Proofs.Ytkfoknjflpklpaa.StabRow
open Go.Shelf Go.RowKit Go.Lib Go.Sort Go.Proofs Go.Proofs.Ytkfoknjflpklpaa.Stab
variable {P : Program} {α : Type} [Inhabited α]

set_option maxHeartbeats 4000000 in
set_option maxRecDepth 1000000 in
theorem rotateCalls {k : Nat} (L : Lay P k) (enc : α → List Value) (g : Nat) (cb : Array Value) (blk off cap a m b : Nat) (d0 d : Array α) (w0 w : World)
    (R : RowK enc k w0 blk off d0) (hs : d0.size = d.size) (S : SWK enc k w0 blk off d w) (ham : a < m) (hmb : m < b) (hb : b ≤ d.size) (hsz : d.size < 4611686018427387904) :
    Calls P 146 #[.slice (some ⟨blk, off, none⟩) d.size cap, .int .i64 a, .int .i64 m, .int .i64 b, .func (.func g) #[] cb] w fun e w' => e = .returned (.tuple #[]) ∧ SWK enc k w0 blk off (rotate a m b d) w' := by
  have eswp : ∀ args w, (callFunc 152 args).run P w = .ok (.enter 152 args) w := enters_of L.fswp (by kernel_rfl) rfl
  have t0 := L.t0; have a0 := L.a0; have z0 := L.z0; have v0 := L.v0; have t3 := L.t3; have a3 := L.a3; have z3 := L.z3; have v3 := L.v3; have t4 := L.t4; have a4 := L.a4; have z4 := L.z4; have v4 := L.v4; have ts := L.ts; have as' := L.aS; have zs := L.zs; have vs := L.vs; have tf := L.tf; have af := L.af; have zf := L.zf; have vf := L.vf
  have FG := L.frot
  have S0 : Aside (SWK enc k w0 blk off d w) := S
  have LL : Aside (Lay P k) := L
  clear S L
  go_enter FG, Try.ntmps146
  go_wp2
  go_loopg [10, 11] (b - a) (fun kx s10 s11 wr => ∃ (i j : Nat) (dk : Array α), s10 = .int .i64 i ∧ s11 = .int .i64 j ∧ 0 < i ∧ 0 < j ∧ i ≤ m ∧ m + j ≤ d.size ∧ i + j ≤ kx ∧ dk.size = d.size ∧ Aside (SWK enc k w0 blk off dk wr) ∧ Hid (rotLoop m i j dk = rotLoop m (m - a) (b - m) d))
  case atStart => exact ⟨m - a, b - m, d, by congr 1; omega, by congr 1; omega, by omega, by omega, by omega, by omega, by omega, rfl, S0, rfl⟩
  case round =>
    clear S0
    obtain ⟨i, j, dk, rfl, rfl, hi, hj, him, hjs, hkx, hds, S1, heq⟩ := hrel
    by_cases e : i = j
    · subst e
      have e1 : ((i : Int) != (i : Int)) = false := by simp
      go_wp2_with fail
      rw [show ((m : Int) - (i : Int)) = ((m - i : Nat) : Int) by omega, ← hds]
      refine (swapRange LL.out enc g cb blk off cap (m - i) m i d0 dk w0 _ R (by omega) S1.out (by omega) (by omega) (by omega)).mono ?_
      rintro e w' ⟨rfl, S2⟩
      go_wp2
      go_end0
      refine ⟨rfl, ?_⟩
      rw [rotate, ← heq.out, rotLoop, if_neg (by omega), if_pos rfl]
      exact S2
    · have e1 : ((i : Int) != (j : Int)) = true := by rw [bne_iff_ne]; omega
      by_cases c : i > j
      · have c1 : (i : Int) > (j : Int) := by omega
        go_wp2_with fail
        rw [show ((m : Int) - (i : Int)) = ((m - i : Nat) : Int) by omega, ← hds]
        refine (swapRange LL.out enc g cb blk off cap (m - i) m j d0 dk w0 _ R (by omega) S1.out (by omega) (by omega) (by omega)).mono ?_
        rintro e w' ⟨rfl, S2⟩
        have S3 : Aside _ := S2
        clear S2
        rw [hds]
        go_wp2
        go_roundg (i - j + j)
        case measure => omega
        case rel => exact ⟨i - j, j, _, by congr 1; omega, rfl, by omega, hj, by omega, hjs, Nat.le_refl _, by rw [size_swapFrom _ _ _ _ _ _ rfl]; exact hds, S3, by
          show _ = _
          rw [← heq.out, rotLoop.eq_def m i j dk, if_neg (by omega), if_neg e, if_pos c]⟩
      · have c1 : ¬ (i : Int) > (j : Int) := by omega
        go_wp2_with fail
        rw [show ((m : Int) - (i : Int)) = ((m - i : Nat) : Int) by omega, show ((m : Int) + (j : Int) - (i : Int)) = ((m + j - i : Nat) : Int) by omega, ← hds]
        refine (swapRange LL.out enc g cb blk off cap (m - i) (m + j - i) i d0 dk w0 _ R (by omega) S1.out (by omega) (by omega) (by omega)).mono ?_
        rintro e w' ⟨rfl, S2⟩
        have S3 : Aside _ := S2
        clear S2
        rw [hds]
        go_wp2
        go_roundg (i + (j - i))
        case measure => omega
        case rel => exact ⟨i, j - i, _, rfl, by congr 1; omega, hi, by omega, him, by omega, Nat.le_refl _, by rw [size_swapFrom _ _ _ _ _ _ rfl]; exact hds, S3, by
          show _ = _
          rw [← heq.out, rotLoop.eq_def m i j dk, if_neg (by omega), if_neg e, if_neg c]⟩

end Go.Proofs.Ytkfoknjflpklpaa.StabRow
