/- delta.Net: what it answers may be written into. The document's net effect, as it is reckoned: it is the net effect. great: more than is played? The document's answer: are lists of changes alike? For the document's Net. delta.Tracker's methods. Statements and expressions: how they lie in memory (what RuleFirst reads of them). Rules: their order, and which one comes first. map[string]int: what it reads as, looked up and written. -/
import Derived.Test.YtkfoknjflpklpaaGF4
import Derived.Deep.RegionLaw
import Derived.Test.YtkfoknjflpklpaaGF1
import Derived.Test.YtkfoknjflpklpaaProg
import Derived.Maps.OwnSet
import Derived.Maps.Views

namespace Go.Proofs.Ytkfoknjflpklpaa.D
open Go Go.RowKit Go.Sort Go.Proofs.Ytkfoknjflpklpaa.Mem Go.Proofs.Ytkfoknjflpklpaa.Cmp Go.Proofs.Ytkfoknjflpklpaa.Stab

set_option maxHeartbeats 8000000 in
set_option maxRecDepth 100000 in
theorem netCallsU (ok : Nat → Prop) (v : Value) (xs : List Chg) (w : World) (h : Sl tChg ok w v xs) (hl : xs.length ≤ 1000) (hb : ∀ x ∈ xs, x.old.length ≤ 1000 ∧ x.new.length ≤ 1000) :
    Calls Try.prog 18 #[v] w fun e w' => ∃ vo, e = .returned vo ∧ Own tChgU 40 (fun k => w.heap.size ≤ k) w' w.heap.size vo (net xs) ∧ Below w.heap.size w w' := by
  obtain ⟨A, c, rfl, l1, l2, l3⟩ := h.shape
  have C1 := put (cloneChg ok _ xs w h (by omega))
  have C2 : Kp (∀ w1 v1, Own tChg 40 (fun k => ok k ∧ k < w.heap.size) w1 w.heap.size v1 xs → Calls Try.prog 54 #[v1, .func (.func 55) #[] #[]] w1 fun e w' => e = .returned (.tuple #[]) ∧ Own tChg 40 (fun k => ok k ∧ k < w.heap.size) w' w.heap.size v1 (isort (ltOf chgCmp) xs) ∧ w1.grownBy w' v1.ownBlock) := ⟨fun w1 v1 ho => by
    refine StabChg.sortOwn tChg rfl _ w1 _ v1 xs ho chgCmp swo_chg 55 #[] (fun args w => by rfl) (fun x y cx cy W hx hy => ?_) (by omega)
    obtain ⟨a2, a3, rfl, _, _⟩ := hx
    obtain ⟨b2, b3, rfl, _, _⟩ := hy
    exact beforeCalls _ _ _ _ _ _ _ _ W⟩
  have HN : Kp (netScan (isort (ltOf chgCmp) xs) = net xs) := ⟨rfl⟩
  have HL := put hl
  have HB : Kp (∀ x ∈ isort (ltOf chgCmp) xs, x.old.length ≤ 1000 ∧ x.new.length ≤ 1000) := ⟨fun x hx => hb x ((isort_perm xs).subset hx)⟩
  have HP : Kp ((isort (ltOf chgCmp) xs).length = xs.length) := ⟨(isort_perm xs).length_eq⟩
  clear hb h hl
  generalize isort (ltOf chgCmp) xs = ys at C2 HN HB HP
  go_enter Try.func18, Try.ntmps18
  go_wp2_with (first | (go_at_call 53; refine C1.out.mono ?_; rintro e w1 ⟨A1, c1, rfl, ho1, hb1⟩; have C2' := put (C2.out w1 _ ho1)) | (go_at_call 54; refine C2'.out.mono ?_; rintro e w2 ⟨rfl, ho2, hg2⟩))
  have hB : Below w.heap.size w w2 := hb1.grown hg2 hb1.size (fun k hk => (ho1.lt k hk).1)
  have hS : Sl tChg (fun k => k < w2.heap.size) w2 (.slice A1 xs.length c1) ys := ho2.sl (fun k hk => (ho2.lt k hk).2) (fun k hk => Nat.lt_of_lt_of_le hk.2 hB.size) (by have := HL.out; have := HP.out; omega)
  have HBW := put hB
  have HS := put hS
  rw [show xs.length = ys.length from HP.out.symm] at HS ⊢
  have hlen : ys.length ≤ 1000 := by rw [HP.out]; exact HL.out
  clear hS hB ho2 ho1 hb1 hg2 C2' C2 C1 HP
  obtain ⟨N, hN⟩ : ∃ N, N = w2.heap.size := ⟨_, rfl⟩
  rw [← hN] at HS
  have HNN := put hN
  clear hN
  go_loopg [3, 4] ys.length (fun kx s3 s4 wr => ∃ (A' : Option Addr) (m c' : Nat) (rest : List Chg) (Ao : Option Addr) (mo co : Nat) (out : List Chg), s3 = .slice A' m c' ∧ s4 = .slice Ao mo co ∧ m ≤ kx ∧ m = rest.length ∧ mo = out.length ∧ Kp (Sl tChg (fun k => k < N) wr (.slice A' m c') rest) ∧ Kp (Own tChgU 40 (fun k => N ≤ k) wr N (.slice Ao mo co) out) ∧ Kp (Below N w2 wr) ∧ Kp (out ++ netScan rest = net xs) ∧ Kp (∀ x ∈ rest, x.old.length ≤ 1000 ∧ x.new.length ≤ 1000) ∧ m + mo ≤ 1000)
  case atStart => exact ⟨_, _, _, ys, none, 0, 0, [], rfl, rfl, Nat.le_refl _, rfl, rfl, HS, put (Own.nil _ _ _ _ _), put (by rw [HNN.out]; exact Below.refl _ _), put (by simpa using HN.out), HB, by simpa using hlen⟩
  case round =>
    obtain ⟨A', m, c', rest, Ao, mo, co, out, rfl, rfl, hkx, hm, hmo, KS, KO, KB, KN, KE, hro⟩ := hrel
    clear HS HN HB
    cases rest with
    | nil =>
      obtain rfl : m = 0 := hm
      go_wp2
      go_ret
      have e : out = net xs := by have := KN.out; rw [netScan, List.append_nil] at this; exact this
      have hbw := HBW.out
      have hle : w.heap.size ≤ N := by rw [HNN.out]; exact hbw.size
      rw [← e]
      refine ⟨_, rfl, (KO.out.lower hle).mono (fun k hk => Nat.le_trans hle hk), hbw.trans (KB.out.mono hle)⟩
    | cons x l =>
      have hpos : 0 < m := by rw [hm]; simp
      have hpd : decide (0 < m) = true := by simp [hpos]
      have HM := put hm
      have HMO := put hmo
      clear hm hmo
      go_wp2
      obtain ⟨wo, rfl⟩ : ∃ wo : World, wo = wr := ⟨_, rfl⟩
      go_loopg [5] l.length (fun kx s5 wi => ∃ (p : Nat), s5 = .int .i64 p ∧ 0 < p ∧ p ≤ m ∧ m - p ≤ kx ∧ Kp (Below wo.heap.size wo wi) ∧ Kp (∀ y ∈ l.take (p - 1), x.same y = true))
      case atStart => exact ⟨1, rfl, by decide, by omega, by rw [HM.out]; simp, put (Below.refl _ _), put (by simp)⟩
      case round =>
        obtain ⟨p, rfl, hp, hpm, hkx2, hbi, hsm⟩ := hrel
        have KSi : Sl tChg (fun k => k < N) wr (.slice A' m c') (x :: l) := KS.out.below hbi.out
        by_cases hlt : p < m
        · have hlz : (p : Int) < (m : Int) := by omega
          have i0 : (0 : Int) ≤ (p : Int) := by omega
          have i1 : (0 : Int) < (m : Int) := by omega
          obtain ⟨ad, y2, y3, rfl, cy0, cy1, cy2, cy3, _, _, _⟩ := chgs_get KSi.row.1 p (by rw [← HM.out]; exact hlt)
          obtain ⟨ad', x2, x3, e, cx0, cx1, cx2, cx3, _, _, _⟩ := chgs_get KSi.row.1 0 (by simp)
          obtain rfl := Option.some.inj e
          simp only [Nat.zero_mul, add_zero, List.getElem_cons_zero] at cx0 cx1 cx2 cx3
          obtain ⟨y, hy⟩ : ∃ y, (x :: l)[p]? = some y := ⟨_, List.getElem?_eq_getElem (by rw [← HM.out]; exact hlt)⟩
          rw [(List.getElem?_eq_some_iff.1 hy).2] at cy0 cy1
          have HY := put hy
          clear hy e KSi
          by_cases hs : x.same y = true
          · have hc : (cmpRow y.table y.id x.table x.id == 0) = true := by rw [beq_iff_eq]; exact (chgCmp_eq y x).2 (Chg.same_symm hs)
            have HS := put hs
            clear hs
            go_wp2
            go_region_held3 (fun w' => w'.cell? ad = some (.string x.table) ∧ w'.cell? ⟨ad.block, ad.off + 1, none⟩ = some (.int .i64 x.id) ∧ w'.cell? ⟨ad.block, ad.off + 2, none⟩ = some x2 ∧ w'.cell? ⟨ad.block, ad.off + 3, none⟩ = some x3 ∧ w'.cell? (ad.add (p * 4)) = some (.string y.table) ∧ w'.cell? ⟨(ad.add (p * 4)).block, (ad.add (p * 4)).off + 1, none⟩ = some (.int .i64 y.id) ∧ w'.cell? ⟨(ad.add (p * 4)).block, (ad.add (p * 4)).off + 2, none⟩ = some y2 ∧ w'.cell? ⟨(ad.add (p * 4)).block, (ad.add (p * 4)).off + 3, none⟩ = some y3) (first | go_keep | exact ⟨grown_cell cx0, grown_cell cx1, grown_cell cx2, grown_cell cx3, grown_cell cy0, grown_cell cy1, grown_cell cy2, grown_cell cy3⟩)
              (first | (go_at_call 55; refine (beforeCalls _ _ _ _ _ _ _ _ _).mono ?_; rintro e w' ⟨rfl, q, os, rfl⟩))
            go_wp2
            go_roundg (m - (p + 1))
            case measure => omega
            case rel => exact ⟨p + 1, by go_num, by omega, by omega, Nat.le_refl _, put (Below.growd hbi.out hbi.out.size), put (take_same hp HY.out hsm.out HS.out)⟩
          · have hc : (cmpRow y.table y.id x.table x.id == 0) = false := by rw [beq_eq_false_iff_ne]; intro e; exact hs (Chg.same_symm ((chgCmp_eq y x).1 e))
            have HW : Kp (l.takeWhile x.same = l.take (p - 1) ∧ l.dropWhile x.same = l.drop (p - 1)) := ⟨while_of _ _ _ hsm.out (fun z hz => by
              have h1 := HY.out
              obtain ⟨q, rfl⟩ : ∃ q, p = q + 1 := ⟨p - 1, by omega⟩
              rw [List.getElem?_cons_succ] at h1
              rw [Nat.add_sub_cancel, h1] at hz
              injection hz with hz
              rw [← hz]
              simpa using hs)⟩
            clear hs
            go_wp2
            go_region_held3 (fun w' => w'.cell? ad = some (.string x.table) ∧ w'.cell? ⟨ad.block, ad.off + 1, none⟩ = some (.int .i64 x.id) ∧ w'.cell? ⟨ad.block, ad.off + 2, none⟩ = some x2 ∧ w'.cell? ⟨ad.block, ad.off + 3, none⟩ = some x3 ∧ w'.cell? (ad.add (p * 4)) = some (.string y.table) ∧ w'.cell? ⟨(ad.add (p * 4)).block, (ad.add (p * 4)).off + 1, none⟩ = some (.int .i64 y.id) ∧ w'.cell? ⟨(ad.add (p * 4)).block, (ad.add (p * 4)).off + 2, none⟩ = some y2 ∧ w'.cell? ⟨(ad.add (p * 4)).block, (ad.add (p * 4)).off + 3, none⟩ = some y3) (first | go_keep | exact ⟨grown_cell cx0, grown_cell cx1, grown_cell cx2, grown_cell cx3, grown_cell cy0, grown_cell cy1, grown_cell cy2, grown_cell cy3⟩)
              (first | (go_at_call 55; refine (beforeCalls _ _ _ _ _ _ _ _ _).mono ?_; rintro e w' ⟨rfl, q, os, rfl⟩))
            obtain ⟨w3, hw3⟩ : ∃ w3, w3 = grow (wr.drewN (1 + q)) os := ⟨_, rfl⟩
            rw [← hw3]
            have hb3 : Below wo.heap.size wo w3 := by rw [hw3]; exact Below.growd hbi.out hbi.out.size
            clear hw3 cx0 cx1 cx2 cx3 cy0 cy1 cy2 cy3
            have K3 : Sl tChg (fun k => k < N) w3 (.slice (some ad) m c') (x :: l) := KS.out.below hb3
            obtain ⟨q, hq⟩ : ∃ q, p = q + 1 := ⟨p - 1, by omega⟩
            have hq1 : (p : Int) - 1 = (q : Int) := by omega
            have q0 : (0 : Int) ≤ (q : Int) := by omega
            have q1 : (q : Int) < (m : Int) := by omega
            obtain ⟨ad1, x2, x3, e1, cx0, cx1, cx2, cx3, sx2, sx3, _⟩ := chgs_get K3.row.1 0 (by simp)
            obtain rfl := Option.some.inj e1
            simp only [Nat.zero_mul, add_zero, List.getElem_cons_zero] at cx0 cx1 cx2 cx3 sx2 sx3
            obtain ⟨ad2, z2, z3, e2, cz0, cz1, cz2, cz3, sz2, sz3, _⟩ := chgs_get K3.row.1 q (by rw [← HM.out]; omega)
            obtain rfl := Option.some.inj e2
            obtain ⟨z, hz⟩ : ∃ z, (x :: l)[q]? = some z := ⟨_, List.getElem?_eq_getElem (by rw [← HM.out]; omega)⟩
            rw [(List.getElem?_eq_some_iff.1 hz).2] at cz0 cz1 sz2 sz3
            have HNS := put (net_step hq hz HW.out)
            have bx := (KE.out x (by simp)).1
            have bz := (KE.out z (List.mem_of_getElem? hz)).2
            have HZ := put (And.intro hz hq)
            have BX := put (And.intro bx bz)
            obtain ⟨X2, k2, rfl, gx2, _, _⟩ := sx2.shape
            obtain ⟨X3, k3, rfl, gx3, _, _⟩ := sx3.shape
            obtain ⟨Z3, kz, rfl, gz3, _, _⟩ := sz3.shape
            have SX := put sx2
            have SZ := put sz3
            have HB3 := put hb3
            clear e1 e2 sx2 sx3 sz2 sz3 hz hq bx bz K3 hb3
            obtain ⟨cc, hcc⟩ : ∃ cc : Chg, cc = { x with new := z.new } := ⟨_, rfl⟩
            have HC := put hcc
            rw [← hcc] at HNS
            have hNo : N ≤ wo.heap.size := by rw [HNN.out]; exact KB.out.size
            have RC : Kp (∀ w', Below w3.heap.size w3 w' → tChg.R (fun k => k < N) w' cc [.string x.table, .int .i64 x.id, .slice X2 x.old.length k2, .slice Z3 z.new.length kz]) := ⟨fun w' hb => ⟨_, _, by rw [hcc], by rw [hcc]; exact SX.out.below hb, by rw [hcc]; exact SZ.out.below hb⟩⟩
            have cz : ∀ o, (w3.alloc o).cell? ⟨(ad.add (q * 4)).block, (ad.add (q * 4)).off + 3, none⟩ = some (.slice Z3 z.new.length kz) := fun o => (((Below.refl _ _).alloc (Nat.le_refl _) o).cell (p := ⟨(ad.add (q * 4)).block, (ad.add (q * 4)).off + 3, none⟩) (cell_lt cz3)).trans cz3
            clear hcc cz0 cz1 cz2 cz3
            by_cases hkd : cc.kind = 0
            · have hk2 : (cc.kind != 0) = false := by simp [hkd]
              have HK := put hkd
              clear hkd
              go_wp2_with (first | (go_at_call 20; refine (kindCalls (fun k => k < N) cc [.string x.table, .int .i64 x.id, .slice X2 x.old.length k2, .slice Z3 z.new.length kz] _ (RC.out _ ((Below.refl _ _).alloc (Nat.le_refl _) _))).mono ?_; rintro e w5 ⟨rfl, hb5⟩))
              all_goals
                have hb6 : Below wo.heap.size wo w5 := HB3.out.trans ((((Below.refl _ _).alloc (Nat.le_refl _) _).trans (hb5.mono (by simp))).mono HB3.out.size)
                go_roundg (m - p)
                case measure => omega
                case rel =>
                  have h := (KS.out.below hb6).drop (n := p) hpm
                  refine ⟨_, m - p, _, (x :: l).drop p, _, _, _, out, rfl, rfl, Nat.le_refl _, by rw [List.length_drop, ← HM.out], by first | exact HMO.out | simp [HMO.out], put ?_, put (KO.out.below hb6), put (KB.out.trans (hb6.mono hNo)), put ?_, put (fun z hz => KE.out z (List.mem_of_mem_drop hz)), by omega⟩
                  · first
                    | (have hcp : c' = p := by omega
                       subst hcp
                       rw [if_pos rfl, Nat.sub_self] at h
                       exact h)
                    | (have hcp : c' ≠ p := by omega
                       rw [if_neg hcp] at h
                       exact h)
                  · rw [← KN.out, HNS.out, if_pos HK.out]; simp
            · have hk2 : (cc.kind != 0) = true := by simp [hkd]
              have HK := put hkd
              clear hkd
              go_wp2_with (first | (go_at_call 20; refine (kindCalls (fun k => k < N) cc [.string x.table, .int .i64 x.id, .slice X2 x.old.length k2, .slice Z3 z.new.length kz] _ (RC.out _ ((Below.refl _ _).alloc (Nat.le_refl _) _))).mono ?_; rintro e w5 ⟨rfl, hb5⟩; have d0 := (hb5.cell (p := ⟨w3.heap.size, 0, none⟩) (by simp)); have d1 := (hb5.cell (p := ⟨w3.heap.size, 1, none⟩) (by simp)); have d2 := (hb5.cell (p := ⟨w3.heap.size, 2, none⟩) (by simp)); have d3 := (hb5.cell (p := ⟨w3.heap.size, 3, none⟩) (by simp)); simp at d0 d1 d2 d3; have HB5 := put hb5; clear hb5) | (go_at_call 56; have hbo : Below wo.heap.size wo w5 := HB3.out.trans ((((Below.refl _ _).alloc (Nat.le_refl _) _).trans (HB5.out.mono (by simp))).mono HB3.out.size); refine (cloneCalls (fun k => k < N) cc [.string x.table, .int .i64 x.id, .slice X2 x.old.length k2, .slice Z3 z.new.length kz] w5 (RC.out _ (((Below.refl _ _).alloc (Nat.le_refl _) _).trans (HB5.out.mono (by simp)))) (by rw [HC.out]; exact BX.out.1) (by rw [HC.out]; exact BX.out.2)).mono ?_; rintro e w6 ⟨v2, v3, rfl, ho2, ho3, _, hb6⟩; have HO2 := put ho2; have HO3 := put ho3; have HBO := put (hbo.trans (hb6.mono hbo.size)); have HB65 := put hb6; have HP : Kp (tChgU.R (fun k => N ≤ k ∧ some k ≠ (Value.slice Ao mo co).ownBlock) w6 cc [.string cc.table, .int .i64 cc.id, v2, v3]) := put (cloned_RU (BW := wo.heap.size) hNo hbo.size KO.out.lt ho2 ho3 (by rw [HC.out]; have := BX.out.1; simp only; omega) (by rw [HC.out]; have := BX.out.2; simp only; omega)); obtain ⟨V2, c22, e22, _, _⟩ := ho2.form; obtain ⟨V3, c33, e33, _, _⟩ := ho3.form; have HOW := put (KO.out.below HBO.out); subst e22; subst e33; clear ho2 ho3 hbo hb6 HO2 HO3) | (at_builtin; refine wpList_push tChgU N rfl _ _ 27 40 _ 72 rfl Try.underlying27 infoChg rfl (by decide) (by decide) (.slice Ao mo co) out cc [.string cc.table, .int .i64 cc.id, .slice V2 cc.old.length c22, .slice V3 cc.new.length c33] (fun k => N ≤ k) rfl rfl HP.out HOW.out (Nat.le_trans hNo HBO.out.size) (by rw [← HMO.out]; omega) ?_; intro v1 w7 hown hg hat; obtain ⟨A9, c9, e9, _, _⟩ := hown.form; rw [show (out ++ [cc]).length = mo + 1 by rw [HMO.out]; simp] at e9; subst e9; have hb7 : Below N wo w7 := (HBO.out.mono hNo).grown hg (Nat.le_trans hNo HBO.out.size) (fun k hk => (HOW.out.lt k hk).1); have HB7 := put hb7; have HOWN := put hown; clear hown hg hat hb7))
              all_goals
                have hb7 := HB7.out
                go_roundg (m - p)
                case measure => omega
                case rel =>
                  have h := (KS.out.below' hb7 (fun k hk => hk)).drop (n := p) hpm
                  refine ⟨_, m - p, _, (x :: l).drop p, _, _, _, out ++ [cc], rfl, by go_num, Nat.le_refl _, by rw [List.length_drop, ← HM.out], by first | exact HMO.out | simp [HMO.out], put ?_, put HOWN.out, put (KB.out.trans hb7), put ?_, put (fun z hz => KE.out z (List.mem_of_mem_drop hz)), by omega⟩
                  · first
                    | (have hcp : c' = p := by omega
                       subst hcp
                       rw [if_pos rfl, Nat.sub_self] at h
                       exact h)
                    | (have hcp : c' ≠ p := by omega
                       rw [if_neg hcp] at h
                       exact h)
                  · rw [← KN.out, HNS.out, if_neg HK.out]; simp
        · obtain ⟨ad, _, _, rfl, _⟩ := chgs_get KSi.row.1 0 (by simp)
          have hlz : ((p : Int) < (m : Int)) = False := by simp; omega
          have HW : Kp (l.takeWhile x.same = l.take (p - 1) ∧ l.dropWhile x.same = l.drop (p - 1)) := ⟨while_of _ _ _ hsm.out (fun z hz => by
            rw [List.getElem?_eq_none (by have := HM.out; simp only [List.length_cons] at this; omega)] at hz
            cases hz)⟩
          clear KSi
          go_wp2_with fail
          go_quiet (fail)
          obtain ⟨w3, hw3⟩ : ∃ w3, w3 = wr.drewN nq := ⟨_, rfl⟩
          rw [← hw3]
          have hb3 : Below wo.heap.size wo w3 := by rw [hw3]; exact hbi.out.trans ⟨rfl, rfl, rfl, by simp, fun k _ => by simp⟩
          clear hw3
          have K3 : Sl tChg (fun k => k < N) w3 (.slice (some ad) m c') (x :: l) := KS.out.below hb3
          obtain ⟨q, hq⟩ : ∃ q, p = q + 1 := ⟨p - 1, by omega⟩
          have hq1 : (p : Int) - 1 = (q : Int) := by omega
          have q0 : (0 : Int) ≤ (q : Int) := by omega
          have q1 : (q : Int) < (m : Int) := by omega
          obtain ⟨ad1, x2, x3, e1, cx0, cx1, cx2, cx3, sx2, sx3, _⟩ := chgs_get K3.row.1 0 (by simp)
          obtain rfl := Option.some.inj e1
          simp only [Nat.zero_mul, add_zero, List.getElem_cons_zero] at cx0 cx1 cx2 cx3 sx2 sx3
          obtain ⟨ad2, z2, z3, e2, cz0, cz1, cz2, cz3, sz2, sz3, _⟩ := chgs_get K3.row.1 q (by rw [← HM.out]; omega)
          obtain rfl := Option.some.inj e2
          obtain ⟨z, hz⟩ : ∃ z, (x :: l)[q]? = some z := ⟨_, List.getElem?_eq_getElem (by rw [← HM.out]; omega)⟩
          rw [(List.getElem?_eq_some_iff.1 hz).2] at cz0 cz1 sz2 sz3
          have HNS := put (net_step hq hz HW.out)
          have bx := (KE.out x (by simp)).1
          have bz := (KE.out z (List.mem_of_getElem? hz)).2
          have HZ := put (And.intro hz hq)
          have BX := put (And.intro bx bz)
          obtain ⟨X2, k2, rfl, gx2, _, _⟩ := sx2.shape
          obtain ⟨X3, k3, rfl, gx3, _, _⟩ := sx3.shape
          obtain ⟨Z3, kz, rfl, gz3, _, _⟩ := sz3.shape
          have SX := put sx2
          have SZ := put sz3
          have HB3 := put hb3
          clear e1 e2 sx2 sx3 sz2 sz3 hz hq bx bz K3 hb3
          obtain ⟨cc, hcc⟩ : ∃ cc : Chg, cc = { x with new := z.new } := ⟨_, rfl⟩
          have HC := put hcc
          rw [← hcc] at HNS
          have hNo : N ≤ wo.heap.size := by rw [HNN.out]; exact KB.out.size
          have RC : Kp (∀ w', Below w3.heap.size w3 w' → tChg.R (fun k => k < N) w' cc [.string x.table, .int .i64 x.id, .slice X2 x.old.length k2, .slice Z3 z.new.length kz]) := ⟨fun w' hb => ⟨_, _, by rw [hcc], by rw [hcc]; exact SX.out.below hb, by rw [hcc]; exact SZ.out.below hb⟩⟩
          have cz : ∀ o, (w3.alloc o).cell? ⟨(ad.add (q * 4)).block, (ad.add (q * 4)).off + 3, none⟩ = some (.slice Z3 z.new.length kz) := fun o => (((Below.refl _ _).alloc (Nat.le_refl _) o).cell (p := ⟨(ad.add (q * 4)).block, (ad.add (q * 4)).off + 3, none⟩) (cell_lt cz3)).trans cz3
          clear hcc cz0 cz1 cz2 cz3
          by_cases hkd : cc.kind = 0
          · have hk2 : (cc.kind != 0) = false := by simp [hkd]
            have HK := put hkd
            clear hkd
            go_wp2_with (first | (go_at_call 20; refine (kindCalls (fun k => k < N) cc [.string x.table, .int .i64 x.id, .slice X2 x.old.length k2, .slice Z3 z.new.length kz] _ (RC.out _ ((Below.refl _ _).alloc (Nat.le_refl _) _))).mono ?_; rintro e w5 ⟨rfl, hb5⟩))
            all_goals
              have hb6 : Below wo.heap.size wo w5 := HB3.out.trans ((((Below.refl _ _).alloc (Nat.le_refl _) _).trans (hb5.mono (by simp))).mono HB3.out.size)
              go_roundg (m - p)
              case measure => omega
              case rel =>
                have h := (KS.out.below hb6).drop (n := p) hpm
                refine ⟨_, m - p, _, (x :: l).drop p, _, _, _, out, rfl, rfl, Nat.le_refl _, by rw [List.length_drop, ← HM.out], by first | exact HMO.out | simp [HMO.out], put ?_, put (KO.out.below hb6), put (KB.out.trans (hb6.mono hNo)), put ?_, put (fun z hz => KE.out z (List.mem_of_mem_drop hz)), by omega⟩
                · first
                  | (have hcp : c' = p := by omega
                     subst hcp
                     rw [if_pos rfl, Nat.sub_self] at h
                     exact h)
                  | (have hcp : c' ≠ p := by omega
                     rw [if_neg hcp] at h
                     exact h)
                · rw [← KN.out, HNS.out, if_pos HK.out]; simp
          · have hk2 : (cc.kind != 0) = true := by simp [hkd]
            have HK := put hkd
            clear hkd
            go_wp2_with (first | (go_at_call 20; refine (kindCalls (fun k => k < N) cc [.string x.table, .int .i64 x.id, .slice X2 x.old.length k2, .slice Z3 z.new.length kz] _ (RC.out _ ((Below.refl _ _).alloc (Nat.le_refl _) _))).mono ?_; rintro e w5 ⟨rfl, hb5⟩; have d0 := (hb5.cell (p := ⟨w3.heap.size, 0, none⟩) (by simp)); have d1 := (hb5.cell (p := ⟨w3.heap.size, 1, none⟩) (by simp)); have d2 := (hb5.cell (p := ⟨w3.heap.size, 2, none⟩) (by simp)); have d3 := (hb5.cell (p := ⟨w3.heap.size, 3, none⟩) (by simp)); simp at d0 d1 d2 d3; have HB5 := put hb5; clear hb5) | (go_at_call 56; have hbo : Below wo.heap.size wo w5 := HB3.out.trans ((((Below.refl _ _).alloc (Nat.le_refl _) _).trans (HB5.out.mono (by simp))).mono HB3.out.size); refine (cloneCalls (fun k => k < N) cc [.string x.table, .int .i64 x.id, .slice X2 x.old.length k2, .slice Z3 z.new.length kz] w5 (RC.out _ (((Below.refl _ _).alloc (Nat.le_refl _) _).trans (HB5.out.mono (by simp)))) (by rw [HC.out]; exact BX.out.1) (by rw [HC.out]; exact BX.out.2)).mono ?_; rintro e w6 ⟨v2, v3, rfl, ho2, ho3, _, hb6⟩; have HO2 := put ho2; have HO3 := put ho3; have HBO := put (hbo.trans (hb6.mono hbo.size)); have HB65 := put hb6; have HP : Kp (tChgU.R (fun k => N ≤ k ∧ some k ≠ (Value.slice Ao mo co).ownBlock) w6 cc [.string cc.table, .int .i64 cc.id, v2, v3]) := put (cloned_RU (BW := wo.heap.size) hNo hbo.size KO.out.lt ho2 ho3 (by rw [HC.out]; have := BX.out.1; simp only; omega) (by rw [HC.out]; have := BX.out.2; simp only; omega)); obtain ⟨V2, c22, e22, _, _⟩ := ho2.form; obtain ⟨V3, c33, e33, _, _⟩ := ho3.form; have HOW := put (KO.out.below HBO.out); subst e22; subst e33; clear ho2 ho3 hbo hb6 HO2 HO3) | (at_builtin; refine wpList_push tChgU N rfl _ _ 27 40 _ 72 rfl Try.underlying27 infoChg rfl (by decide) (by decide) (.slice Ao mo co) out cc [.string cc.table, .int .i64 cc.id, .slice V2 cc.old.length c22, .slice V3 cc.new.length c33] (fun k => N ≤ k) rfl rfl HP.out HOW.out (Nat.le_trans hNo HBO.out.size) (by rw [← HMO.out]; omega) ?_; intro v1 w7 hown hg hat; obtain ⟨A9, c9, e9, _, _⟩ := hown.form; rw [show (out ++ [cc]).length = mo + 1 by rw [HMO.out]; simp] at e9; subst e9; have hb7 : Below N wo w7 := (HBO.out.mono hNo).grown hg (Nat.le_trans hNo HBO.out.size) (fun k hk => (HOW.out.lt k hk).1); have HB7 := put hb7; have HOWN := put hown; clear hown hg hat hb7))
            all_goals
              have hb7 := HB7.out
              go_roundg (m - p)
              case measure => omega
              case rel =>
                have h := (KS.out.below' hb7 (fun k hk => hk)).drop (n := p) hpm
                refine ⟨_, m - p, _, (x :: l).drop p, _, _, _, out ++ [cc], rfl, by go_num, Nat.le_refl _, by rw [List.length_drop, ← HM.out], by first | exact HMO.out | simp [HMO.out], put ?_, put HOWN.out, put (KB.out.trans hb7), put ?_, put (fun z hz => KE.out z (List.mem_of_mem_drop hz)), by omega⟩
                · first
                  | (have hcp : c' = p := by omega
                     subst hcp
                     rw [if_pos rfl, Nat.sub_self] at h
                     exact h)
                  | (have hcp : c' ≠ p := by omega
                     rw [if_neg hcp] at h
                     exact h)
                · rw [← KN.out, HNS.out, if_neg HK.out]; simp

end Go.Proofs.Ytkfoknjflpklpaa.D

namespace Go.Proofs.Ytkfoknjflpklpaa.D
open Go Go.Sort Go.Proofs.Ytkfoknjflpklpaa.Stab

/-- What a row is last, among changes, if it was nv. -/
def lastNew (x : Chg) (nv : List Val) (l : List Chg) : List Val := l.foldl (fun nv y => if y.same x then y.new else nv) nv

/-- Put where it stands. -/
def insAt (c : Chg) (out : List Chg) : List Chg := out.takeWhile (·.lt c) ++ [c] ++ out.dropWhile (·.lt c)

theorem insAt_length (c : Chg) (out : List Chg) : (insAt c out).length = out.length + 1 := by
  have := congrArg List.length (List.takeWhile_append_dropWhile (p := (·.lt c)) (l := out))
  rw [List.length_append] at this
  unfold insAt
  simp only [List.length_append, List.length_singleton]
  omega

def Chg.upto (x : Chg) (l : List Chg) : Chg := { x with new := lastNew x x.new l }

def refStep (l : List Chg) (i : Nat) (x : Chg) (out : List Chg) : List Chg :=
  if (l.take i).all (fun y => !y.same x) then
    if (x.upto (l.drop i)).kind = 0 then out else insAt (x.upto (l.drop i)) out
  else out

def refOuts (l : List Chg) : Nat → List Chg
  | 0 => []
  | i + 1 => match l[i]? with
    | none => refOuts l i
    | some x => refStep l i x (refOuts l i)

/-- The document's net effect. -/
def refNet (l : List Chg) : List Chg := refOuts l l.length

theorem refOuts_succ {l : List Chg} {i : Nat} {x : Chg} (h : l[i]? = some x) : refOuts l (i + 1) = refStep l i x (refOuts l i) := by rw [refOuts, h]

theorem lastNew_eq (x : Chg) : ∀ (l : List Chg) (nv : List Val), lastNew x nv l = ((l.filter (fun y => y.same x)).getLast?.map Chg.new).getD nv
  | [], nv => rfl
  | y :: l, nv => by
    have h := lastNew_eq x l (if y.same x then y.new else nv)
    unfold lastNew at h ⊢
    rw [List.foldl_cons, h, List.filter_cons]
    cases hy : y.same x with
    | false => simp
    | true =>
      simp only [if_true]
      cases hf : l.filter (fun y => y.same x) with
      | nil => simp
      | cons z zs => rw [List.getLast?_cons_cons]; simp [List.getLast?_eq_some_getLast]

theorem flip_same (x : Chg) : (fun y : Chg => y.same x) = x.same := by
  funext y
  rw [Bool.eq_iff_iff]
  exact ⟨Chg.same_symm, Chg.same_symm⟩

theorem insAt_mem {c d : Chg} {out : List Chg} : d ∈ insAt c out ↔ d = c ∨ d ∈ out := by
  unfold insAt
  have h : d ∈ out ↔ d ∈ out.takeWhile (·.lt c) ∨ d ∈ out.dropWhile (·.lt c) := by rw [← List.mem_append, List.takeWhile_append_dropWhile]
  rw [List.mem_append, List.mem_append, List.mem_singleton, h]
  constructor
  · rintro ((h | h) | h)
    · exact .inr (.inl h)
    · exact .inl h
    · exact .inr (.inr h)
  · rintro (h | h | h)
    · exact .inl (.inr h)
    · exact .inl (.inl h)
    · exact .inr h

theorem insAt_rising {c : Chg} {out : List Chg} (h : Rising out) (hn : ∀ d ∈ out, d.same c = false) : Rising (insAt c out) := by
  have h1 : Rising (out.takeWhile (·.lt c)) := List.Pairwise.sublist (List.takeWhile_sublist _) h
  have h2 : Rising (out.dropWhile (·.lt c)) := List.Pairwise.sublist (List.dropWhile_sublist _) h
  have h3 : ∀ d ∈ out.takeWhile (·.lt c), d.lt c = true := fun d hd => tw_imp (p := fun x : Chg => x.lt c) hd
  have h4 : ∀ d ∈ out.dropWhile (·.lt c), c.lt d = true := by
    cases hd : out.dropWhile (·.lt c) with
    | nil => intro d hd; cases hd
    | cons z r =>
      have hz : z.lt c = false := by
        have := List.head?_dropWhile_not (·.lt c) out
        rw [hd] at this
        simpa using this
      have hzo : z ∈ out := (List.dropWhile_sublist (l := out) (·.lt c)).subset (by rw [hd]; exact List.mem_cons_self)
      have hcz : c.lt z = true := by
        cases hh : c.lt z with
        | true => rfl
        | false => have := Chg.lt_tri hz hh; rw [hn z hzo] at this; cases this
      rw [hd] at h2
      intro d hd'
      rcases List.mem_cons.1 hd' with rfl | hd'
      · exact hcz
      · exact Chg.lt_trans hcz ((List.pairwise_cons.1 h2).1 d hd')
  unfold insAt
  refine List.pairwise_append.2 ⟨List.pairwise_append.2 ⟨h1, by simp, fun a ha b hb => by rw [List.mem_singleton.1 hb]; exact h3 a ha⟩, h2, fun a ha b hb => ?_⟩
  rcases List.mem_append.1 ha with ha | ha
  · exact Chg.lt_trans (h3 a ha) (h4 b hb)
  · rw [List.mem_singleton.1 ha]; exact h4 b hb

theorem refOuts_spec (l : List Chg) : ∀ i, i ≤ l.length → Rising (refOuts l i) ∧ ∀ c, c ∈ refOuts l i ↔ IsNet l c ∧ ∃ y ∈ l.take i, y.same c = true
  | 0, _ => by
    refine ⟨List.Pairwise.nil, fun c => ⟨fun h => (by cases h), fun h => ?_⟩⟩
    obtain ⟨_, y, hy, _⟩ := h
    simp at hy
  | i + 1, hi => by
    obtain ⟨i1, i2⟩ := refOuts_spec l i (by omega)
    obtain ⟨x, hx⟩ : ∃ x, l[i]? = some x := ⟨_, List.getElem?_eq_getElem (by omega)⟩
    have htk : l.take (i + 1) = l.take i ++ [x] := by
      obtain ⟨hlt, rfl⟩ := List.getElem?_eq_some_iff.1 hx
      exact List.take_succ_eq_append_getElem hlt
    have hdr : l.drop i = x :: l.drop (i + 1) := by
      obtain ⟨hlt, rfl⟩ := List.getElem?_eq_some_iff.1 hx
      exact List.drop_eq_getElem_cons hlt
    rw [refOuts_succ hx]
    unfold refStep
    have hex : ∀ c, (∃ y ∈ l.take (i + 1), y.same c = true) ↔ (∃ y ∈ l.take i, y.same c = true) ∨ x.same c = true := by
      intro c
      rw [htk]
      constructor
      · rintro ⟨y, hy, hc⟩
        rcases List.mem_append.1 hy with hy | hy
        · exact .inl ⟨y, hy, hc⟩
        · rw [List.mem_singleton.1 hy] at hc; exact .inr hc
      · rintro (⟨y, hy, hc⟩ | h)
        · exact ⟨y, List.mem_append.2 (.inl hy), hc⟩
        · exact ⟨x, List.mem_append.2 (.inr (List.mem_singleton.2 rfl)), h⟩
    by_cases hf : (l.take i).all (fun y => !y.same x) = true
    · rw [if_pos hf]
      have hf' : ∀ y ∈ l.take i, y.same x = false := fun y hy => by have := List.all_eq_true.1 hf y hy; simpa using this
      obtain ⟨c0, hc0⟩ : ∃ c0 : Chg, c0 = x.upto (l.drop i) := ⟨_, rfl⟩
      rw [← hc0]
      have hcs : c0.same x = true := by rw [hc0]; exact Chg.same_refl x
      have hfil : l.filter c0.same = x :: (l.drop (i + 1)).filter x.same := by
        rw [same_eq_filter hcs]
        conv => lhs; rw [← List.take_append_drop i l]
        rw [List.filter_append, filter_none (fun y hy => by
          cases h : x.same y with
          | false => rfl
          | true => have := hf' y hy; rw [Chg.same_symm h] at this; cases this), List.nil_append, hdr, List.filter_cons, if_pos (Chg.same_refl x)]
      have hh : (l.filter c0.same).head?.map Chg.old = some c0.old := by rw [hfil, hc0]; rfl
      have hl : (l.filter c0.same).getLast?.map Chg.new = some c0.new := by
        have e : c0.new = lastNew x x.new (l.drop i) := by rw [hc0]; rfl
        rw [e, lastNew_eq, flip_same, hfil, hdr, List.filter_cons, if_pos (Chg.same_refl x), List.getLast?_eq_some_getLast (by simp)]
        rfl
      have hnew : ∀ c, IsNet l c → x.same c = true → c0.kind ≠ 0 ∧ c = c0 := fun c hc hxc => by
        have hcc : c.same c0 = true := Chg.same_trans (Chg.same_symm hxc) (Chg.same_symm hcs)
        have e : c = c0 := by
          obtain ⟨_, h1, h2⟩ := hc
          rw [same_eq_filter hcc, hh] at h1
          rw [same_eq_filter hcc, hl] at h2
          rw [Chg.same_iff] at hcc
          obtain ⟨t, i', o, n⟩ := c
          obtain ⟨t', i'', o', n'⟩ := c0
          simp only [Option.some.injEq] at h1 h2 hcc
          rw [hcc.1, hcc.2, h1, h2]
        exact ⟨by rw [← e]; exact hc.1, e⟩
      by_cases hk : c0.kind = 0
      · rw [if_pos hk]
        refine ⟨i1, fun c => ?_⟩
        rw [i2 c, hex c]
        constructor
        · rintro ⟨h1, h2⟩; exact ⟨h1, .inl h2⟩
        · rintro ⟨h1, h2 | h2⟩
          · exact ⟨h1, h2⟩
          · exact absurd hk (hnew c h1 h2).1
      · rw [if_neg hk]
        refine ⟨insAt_rising i1 (fun d hd => ?_), fun c => ?_⟩
        · obtain ⟨_, y, hy, hyd⟩ := (i2 d).1 hd
          cases h : d.same c0 with
          | false => rfl
          | true => have := hf' y hy; rw [Chg.same_trans hyd (Chg.same_trans h hcs)] at this; cases this
        · rw [insAt_mem, i2 c, hex c]
          constructor
          · rintro (rfl | ⟨h1, h2⟩)
            · exact ⟨⟨hk, hh, hl⟩, .inr (Chg.same_symm hcs)⟩
            · exact ⟨h1, .inl h2⟩
          · rintro ⟨h1, h2 | h2⟩
            · exact .inr ⟨h1, h2⟩
            · exact .inl (hnew c h1 h2).2
    · rw [if_neg hf]
      refine ⟨i1, fun c => ?_⟩
      rw [i2 c, hex c]
      constructor
      · rintro ⟨h1, h2⟩; exact ⟨h1, .inl h2⟩
      · rintro ⟨h1, h2 | h2⟩
        · exact ⟨h1, h2⟩
        · refine ⟨h1, ?_⟩
          have : ∃ y ∈ l.take i, y.same x = true := by
            refine Classical.byContradiction fun hne => hf (List.all_eq_true.2 fun y hy => ?_)
            cases h : y.same x with
            | false => rfl
            | true => exact absurd ⟨y, hy, h⟩ hne
          obtain ⟨y, hy, h⟩ := this
          exact ⟨y, hy, Chg.same_trans h h2⟩

/-- The document's net effect is the net effect. -/
theorem refNet_eq (l : List Chg) : refNet l = net l := by
  obtain ⟨h1, h2⟩ := refOuts_spec l l.length (Nat.le_refl _)
  refine Rising.ext h1 (net_rising l) (fun c => ?_)
  rw [mem_net]
  have := h2 c
  unfold refNet
  rw [this, List.take_length]
  constructor
  · exact fun h => h.1
  · intro h
    refine ⟨h, ?_⟩
    have h3 := h.2.1
    cases hf : l.filter c.same with
    | nil => rw [hf] at h3; simp at h3
    | cons y ys =>
      have hy : y ∈ l.filter c.same := by rw [hf]; exact List.mem_cons_self
      obtain ⟨hy1, hy2⟩ := List.mem_filter.1 hy
      exact ⟨y, hy1, Chg.same_symm hy2⟩

end Go.Proofs.Ytkfoknjflpklpaa.D

namespace Go.Proofs.Ytkfoknjflpklpaa.D
open Go Go.RowKit Go.Proofs.Ytkfoknjflpklpaa.Mem

/-- A bool is returned, of which Φ holds. -/
def Said (Φ : Bool → Prop) (e : Ending) : Prop := ∃ b, e = .returned (.bool b) ∧ Φ b

theorem R_parts {ok : Nat → Prop} {w : World} {x : Chg} {a b v2 v3 : Value} (h : tChg.R ok w x [a, b, v2, v3]) : Sl tVal ok w v2 x.old ∧ Sl tVal ok w v3 x.new := by
  obtain ⟨u2, u3, e, h2, h3⟩ := h
  simp only [List.cons.injEq, and_true] at e
  obtain ⟨_, _, rfl, rfl⟩ := e
  exact ⟨h2, h3⟩

set_option maxHeartbeats 16000000 in
set_option maxRecDepth 100000 in
theorem greatCalls (ok : Nat → Prop) (v : Value) (xs : List Chg) (w : World) (h : Sl tChg ok w v xs) :
    Calls Try.prog 21 #[v] w fun e w' => Said (fun b => b = false → xs.length ≤ 80 ∧ ∀ x ∈ xs, x.old.length ≤ 20 ∧ x.new.length ≤ 20) e ∧ Below w.heap.size w w' := by
  obtain ⟨A, c, rfl, l1, l2, l3⟩ := h.shape
  have KS := put h
  obtain ⟨m, hm⟩ : ∃ m, m = xs.length := ⟨_, rfl⟩
  rw [← hm] at l1 l3 KS ⊢
  have HM := put hm
  clear h hm
  by_cases hg : m > 80
  · have hg1 : (m : Int) > 80 := by omega
    clear hg
    go_enter Try.func21, Try.ntmps21
    go_wp2_with fail
    go_ret
    exact ⟨⟨true, rfl, (fun e => by cases e)⟩, Below.refl _ _⟩
  · have hg1 : ¬ (m : Int) > 80 := by omega
    have HG : Kp (m ≤ 80) := ⟨by omega⟩
    clear hg
    go_enter Try.func21, Try.ntmps21
    go_wp2_with fail
    go_loopg [12] m (fun kx s12 wr => ∃ (i : Nat), s12 = .int .i64 i ∧ i ≤ m ∧ m - i ≤ kx ∧ Kp (∀ x ∈ xs.take i, x.old.length ≤ 20 ∧ x.new.length ≤ 20) ∧ Kp (Below w.heap.size w wr))
    case atStart => exact ⟨0, rfl, Nat.zero_le _, Nat.le_refl _, put (by simp), put (Below.refl _ _)⟩
    case round =>
      obtain ⟨i, rfl, hi, hkx, HI, KB⟩ := hrel
      by_cases hlt : i < m
      · have hlz : (i : Int) < (m : Int) := by omega
        have i0 : (0 : Int) ≤ (i : Int) := by omega
        obtain ⟨ad, x, A2, k2, A3, k3, rfl, hx, x0, x1, x2, x3, KR, _⟩ := chgs_at (KS.out.elder KB.out).row.1 i (by rw [← HM.out]; exact hlt)
        have KX := put hx
        have B1 : ∀ o, Below wr.heap.size wr (wr.alloc o) := fun o => (Below.refl _ _).alloc (Nat.le_refl _) _
        clear hx
        by_cases h1 : (x.table.size : Int) > 200
        · go_wp2_with fail
          go_ret
          exact ⟨⟨true, rfl, (fun e => by cases e)⟩, KB.out.trans ((B1 _).mono KB.out.size)⟩
        · by_cases h2 : (x.old.length : Int) > 20
          · go_wp2_with fail
            go_ret
            exact ⟨⟨true, rfl, (fun e => by cases e)⟩, KB.out.trans ((B1 _).mono KB.out.size)⟩
          · by_cases h3 : (x.new.length : Int) > 20
            · go_wp2_with fail
              go_ret
              exact ⟨⟨true, rfl, (fun e => by cases e)⟩, KB.out.trans ((B1 _).mono KB.out.size)⟩
            · have BX : Kp (x.old.length ≤ 20 ∧ x.new.length ≤ 20) := ⟨by omega, by omega⟩
              go_wp2_with fail
              obtain ⟨w2, hw2⟩ : ∃ w2, w2 = wr.alloc (.cells #[.string x.table, .int .i64 x.id, .slice A2 x.old.length k2, .slice A3 x.new.length k3] 40) := ⟨_, rfl⟩
              have b2 : w2.cell? ⟨wr.heap.size, 2, none⟩ = some (.slice A2 x.old.length k2) := by rw [hw2]; simp
              have b3 : w2.cell? ⟨wr.heap.size, 3, none⟩ = some (.slice A3 x.new.length k3) := by rw [hw2]; simp
              have hB2 : Below wr.heap.size wr w2 := by rw [hw2]; exact B1 _
              have s2 : wr.heap.size < w2.heap.size := by rw [hw2]; simp
              rw [← hw2]
              have HB2 := put hB2
              have S2V : Kp (∀ W, Below w2.heap.size w2 W → Sl tVal (fun k => k < w2.heap.size) W (.slice A2 x.old.length k2) x.old) := ⟨fun W hb => ((R_parts KR.out).1.below (hB2.trans (hb.mono hB2.size))).mono (fun k hk => by have := KB.out.size; have := hB2.size; omega)⟩
              have S3V : Kp (∀ W, Below w2.heap.size w2 W → Sl tVal (fun k => k < w2.heap.size) W (.slice A3 x.new.length k3) x.new) := ⟨fun W hb => ((R_parts KR.out).2.below (hB2.trans (hb.mono hB2.size))).mono (fun k hk => by have := KB.out.size; have := hB2.size; omega)⟩
              clear hw2 hB2 x0 x1 x2 x3
              obtain ⟨B, hB⟩ : ∃ B, B = wr.heap.size := ⟨_, rfl⟩
              rw [← hB] at b2 b3 s2 ⊢
              have HBB := put hB
              clear hB
              go_region_held3 (fun w' => w'.cell? ⟨B, 2, none⟩ = some (.slice A2 x.old.length k2) ∧ w'.cell? ⟨B, 3, none⟩ = some (.slice A3 x.new.length k3)) (first | go_keep | exact ⟨f2, f3⟩ | exact ⟨g2, g3⟩)
                (first | (refine step_pushes tVal w2.heap.size rfl _ _ 30 55 _ 32 rfl Try.underlying30 infoVal rfl (by decide) (by decide) (.slice (some ⟨w2.heap.size, 0, none⟩) 0 0) (.slice A2 x.old.length k2) [] x.old (fun _ => True) (fun k => k < w2.heap.size) rfl rfl (S2V.out _ ((Below.refl _ _).alloc (Nat.le_refl _) _).drew) (fun k hk => ⟨trivial, fun e => by simp only [Value.ownBlock, Option.some.injEq] at e; omega⟩) (Own.lit _ _ _ _).drew (by simp) (by have := BX.out.1; simp only [List.length_nil]; omega) ?_; intro v1 w3 ho1 hg1 hat1; rw [List.nil_append] at ho1; obtain ⟨V1, c1, e1, _, _⟩ := ho1.form; subst e1; have hb3 : Below w2.heap.size w2 w3 := ((Below.refl _ _).alloc (Nat.le_refl _) _).drew.grown hg1 (by simp) (fun k hk => by simp only [Value.ownBlock, Option.some.injEq] at hk; omega); have f2 := (hb3.cell (p := ⟨B, 2, none⟩) s2).trans b2; have f3 := (hb3.cell (p := ⟨B, 3, none⟩) s2).trans b3; have HO1 := put ho1; have HB3 := put hb3; clear ho1 hg1 hat1 hb3) | (refine step_pushes tVal w2.heap.size rfl _ _ 30 55 _ 32 rfl Try.underlying30 infoVal rfl (by decide) (by decide) (.slice V1 x.old.length c1) (.slice A3 x.new.length k3) x.old x.new (fun _ => True) (fun k => k < w2.heap.size) rfl rfl (by first | exact S3V.out _ HB3.out | exact S3V.out _ HB3.out.drew) (fun k hk => ⟨trivial, fun e => by have := (HO1.out.lt k e.symm).1; omega⟩) (by first | exact HO1.out | exact HO1.out.drew) (by first | exact HB3.out.size | exact HB3.out.drew.size) (by have := BX.out; omega) ?_; intro v2 w4 ho2 hg2 hat2; obtain ⟨V2, c2, e2, _, _⟩ := ho2.form; subst e2; have hb4 : Below w2.heap.size w2 w4 := (by first | exact HB3.out.grown hg2 HB3.out.size (fun k hk => (HO1.out.lt k hk).1) | exact HB3.out.drew.grown hg2 HB3.out.drew.size (fun k hk => (HO1.out.lt k hk).1)); have g2 := (hb4.cell (p := ⟨B, 2, none⟩) s2).trans b2; have g3 := (hb4.cell (p := ⟨B, 3, none⟩) s2).trans b3; have HO2 := put ho2; have HB4 := put hb4; clear ho2 hg2 hat2 hb4))
              have hn4 : (x.old ++ x.new).length ≤ 140737488355328 := by have := BX.out; rw [List.length_append]; omega
              have KV : Kp (Sl tVal (fun _ => True) w4 (.slice V2 (x.old ++ x.new).length c2) (x.old ++ x.new)) := put (HO2.out.sl (fun _ _ => trivial) (fun _ _ => trivial) hn4)
              obtain ⟨n, hn⟩ : ∃ n, n = (x.old ++ x.new).length := ⟨_, rfl⟩
              have hnn : (x.old.length : Int) + (x.new.length : Int) = (n : Int) := by rw [hn, List.length_append]; omega
              rw [← hn] at KV ⊢
              have HNV := put hn
              have hn40 : n ≤ 40 := by have := BX.out; rw [hn, List.length_append]; omega
              clear hn
              generalize x.old ++ x.new = vs at *
              clear hn4 f2 f3 g2 g3 b2 b3
              go_wp2_with fail
              rw [hnn]
              clear hnn
              go_loopg [40] n (fun kx s40 wi => ∃ (k : Nat), s40 = .int .i64 k ∧ k ≤ n ∧ n - k ≤ kx ∧ Kp (Below w4.heap.size w4 wi))
              case atStart => exact ⟨0, rfl, Nat.zero_le _, Nat.le_refl _, put (Below.refl _ _)⟩
              case round =>
                obtain ⟨k, rfl, hk, hkx2, KBI⟩ := hrel
                by_cases hlt3 : k < n
                · have hlz3 : (k : Int) < (n : Int) := by omega
                  have k0 : (0 : Int) ≤ (k : Int) := by omega
                  obtain ⟨ad3, rfl, c0, c1', c2'⟩ := vals_get (KV.out.below KBI.out).row.1 k (by rw [← HNV.out]; exact hlt3)
                  have hb6 : ∀ o, Below w.heap.size w (wr.alloc o) := fun o => KB.out.trans ((HB2.out.trans ((HB4.out.trans ((KBI.out.trans (((Below.refl _ _).alloc (Nat.le_refl _) o).mono KBI.out.size)).mono HB4.out.size)).mono HB2.out.size)).mono KB.out.size)
                  have HB6 := put hb6
                  clear hb6
                  by_cases h4 : ((vs[k]'(by rw [← HNV.out]; exact hlt3)).s.size : Int) > 200
                  · go_wp2_with fail
                    go_ret
                    exact ⟨⟨true, rfl, (fun e => by cases e)⟩, HB6.out _⟩
                  · go_wp2_with fail
                    go_roundg (n - (k + 1))
                    case measure => omega
                    case rel => exact ⟨k + 1, by go_num, by omega, Nat.le_refl _, put (KBI.out.trans (((Below.refl _ _).alloc (Nat.le_refl _) _).mono KBI.out.size))⟩
                · have hlz3 : ¬ (k : Int) < (n : Int) := by omega
                  go_wp2_with fail
                  go_roundg (m - (i + 1))
                  case measure => omega
                  case rel =>
                    refine ⟨i + 1, by go_num, by omega, Nat.le_refl _, put ?_, put (KB.out.trans ((HB2.out.trans ((HB4.out.trans (KBI.out.mono HB4.out.size)).mono HB2.out.size)).mono KB.out.size))⟩
                    rw [take_one_more KX.out]
                    intro z hz
                    rcases List.mem_append.1 hz with hz | hz
                    · exact HI.out z hz
                    · rw [List.mem_singleton.1 hz]; exact BX.out
      · have hlz : ¬ (i : Int) < (m : Int) := by omega
        go_wp2
        go_ret
        obtain rfl : i = m := by omega
        have hk := HI.out
        rw [List.take_of_length_le (by rw [HM.out]; exact Nat.le_refl _)] at hk
        exact ⟨⟨false, rfl, fun _ => ⟨HG.out, hk⟩⟩, KB.out⟩

end Go.Proofs.Ytkfoknjflpklpaa.D

namespace Go.Proofs.Ytkfoknjflpklpaa.D
open Go Go.RowKit Go.Proofs.Ytkfoknjflpklpaa.Mem

theorem chg_eq_iff (x y : Chg) : x = y ↔ x.table = y.table ∧ x.id = y.id ∧ x.old = y.old ∧ x.new = y.new := by
  cases x; cases y; simp

theorem Sl.drewn {α : Type} {d : Ty α} {ok : Nat → Prop} {w : World} {v : Value} {xs : List α} (h : Sl d ok w v xs) (n : Nat) : Sl d ok (w.drewN n) v xs := h.move (fun k _ _ => by simp)

set_option maxHeartbeats 16000000 in
set_option maxRecDepth 100000 in
theorem refSameCalls (ok1 ok2 : Nat → Prop) (u v : Value) (xs ys : List Chg) (w : World) (hx : Sl tChg ok1 w u xs) (hy : Sl tChg ok2 w v ys) :
    Calls Try.prog 16 #[u, v] w fun e w' => e = .returned (.bool (decide (xs = ys))) ∧ ∃ q, w' = w.drewN q := by
  obtain ⟨A, c, rfl, hx1, hx2, hx3, hxn, hxr⟩ := hx
  obtain ⟨B, c', rfl, hy1, hy2, hy3, hyn, hyr⟩ := hy
  have HX := put hxr
  have HY := put hyr
  clear hxr hyr hxn hyn
  by_cases hl : xs.length = ys.length
  · have l1 : ((xs.length : Int) != (ys.length : Int)) = false := by simp [hl]
    have HL := put hl
    clear hl
    go_enter Try.func16, Try.ntmps16
    go_wp2
    go_loopg [5] xs.length (fun kx s5 wr => ∃ (i : Nat), s5 = .int .i64 i ∧ i ≤ xs.length ∧ xs.length - i ≤ kx ∧ Kp (∃ q, wr = w.drewN q) ∧ Kp (xs.take i = ys.take i))
    case atStart => exact ⟨0, rfl, Nat.zero_le _, Nat.le_refl _, put ⟨0, rfl⟩, put (by simp)⟩
    case round =>
      obtain ⟨i, rfl, hi, hkx, hw, ht⟩ := hrel
      have HXr : Row tChg ok1 wr A xs := by obtain ⟨q, e⟩ := hw.out; rw [e]; exact HX.out.move (fun k _ _ => by simp)
      have HYr : Row tChg ok2 wr B ys := by obtain ⟨q, e⟩ := hw.out; rw [e]; exact HY.out.move (fun k _ _ => by simp)
      by_cases hlt : i < xs.length
      · have hlz : (i : Int) < (xs.length : Int) := by omega
        have hlt2 : i < ys.length := by rw [← HL.out]; exact hlt
        have hlz2 : (i : Int) < (ys.length : Int) := by omega
        have i0 : (0 : Int) ≤ (i : Int) := by omega
        obtain ⟨ad, a2, a3, rfl, x0, x1, x2, x3, sx2, sx3, _⟩ := chgs_get HXr i hlt
        obtain ⟨bd, b2, b3, rfl, y0, y1, y2, y3, sy2, sy3, _⟩ := chgs_get HYr i hlt2
        obtain ⟨x, hxe⟩ : ∃ x, x = xs[i] := ⟨_, rfl⟩
        obtain ⟨y, hye⟩ : ∃ y, y = ys[i] := ⟨_, rfl⟩
        rw [← hxe] at x0 x1 sx2 sx3
        rw [← hye] at y0 y1 sy2 sy3
        have E := put (And.intro hxe hye)
        obtain ⟨A2, k2, rfl, _, _, _⟩ := sx2.shape
        obtain ⟨A3, k3, rfl, _, _, _⟩ := sx3.shape
        obtain ⟨B2, j2, rfl, _, _, _⟩ := sy2.shape
        obtain ⟨B3, j3, rfl, _, _, _⟩ := sy3.shape
        have C2 : Kp (∀ n, Calls Try.prog 52 #[.slice A2 x.old.length k2, .slice B2 y.old.length j2] (wr.drewN n) fun e w' => e = .returned (.bool (decide (x.old = y.old))) ∧ ∃ q, w' = (wr.drewN n).drewN q) := ⟨fun n => sameVals ok1 ok2 _ _ x.old y.old _ (Sl.drewn sx2 n) (Sl.drewn sy2 n)⟩
        have C3 : Kp (∀ n, Calls Try.prog 52 #[.slice A3 x.new.length k3, .slice B3 y.new.length j3] (wr.drewN n) fun e w' => e = .returned (.bool (decide (x.new = y.new))) ∧ ∃ q, w' = (wr.drewN n).drewN q) := ⟨fun n => sameVals ok1 ok2 _ _ x.new y.new _ (Sl.drewn sx3 n) (Sl.drewn sy3 n)⟩
        clear hxe hye HXr HYr sx2 sx3 sy2 sy3
        have R := put (chg_eq_iff x y)
        by_cases h1 : x.table = y.table
        · have z1 : (x.table.toList == y.table.toList) = true := by rw [bytes_eq]; exact decide_eq_true h1
          have z1' : (x.table.toList != y.table.toList) = false := by rw [bne, z1]; rfl
          have K1 := put h1
          clear h1
          by_cases h2 : x.id = y.id
          · have z2 : (x.id != y.id) = false := by simp [h2]
            have K2 := put h2
            clear h2
            by_cases h3 : x.old = y.old
            · have z3 : decide (x.old = y.old) = true := decide_eq_true h3
              have K3 := put h3
              clear h3
              by_cases h4 : x.new = y.new
              · have z4 : decide (x.new = y.new) = true := decide_eq_true h4
                have K4 := put h4
                clear h4
                rw [z3] at C2
                rw [z4] at C3
                clear z3 z4
                go_wp2
                go_quiet (first | (go_at_call_of 52 (Value.slice A2 x.old.length k2); exact Calls.quiet_of (C2.out _)) | (go_at_call_of 52 (Value.slice A3 x.new.length k3); exact Calls.quiet_of (C3.out _)))
                go_wp2
                go_roundg (xs.length - (i + 1))
                case measure => omega
                case rel => exact ⟨i + 1, by go_num, by omega, Nat.le_refl _, put (by obtain ⟨q0, e⟩ := hw.out; rw [e]; simp only [World.drewN_drewN]; exact ⟨_, rfl⟩), put (take_succ_eq hlt hlt2 ht.out (by rw [← E.out.1, ← E.out.2]; exact R.out.2 ⟨K1.out, K2.out, K3.out, K4.out⟩))⟩
              · have z4 : decide (x.new = y.new) = false := decide_eq_false h4
                have hne := h4
                have NE := put h4
                clear h4
                rw [z3] at C2
                rw [z4] at C3
                clear z3 z4
                clear hne
                go_wp2
                go_quiet (first | (go_at_call_of 52 (Value.slice A2 x.old.length k2); exact Calls.quiet_of (C2.out _)) | (go_at_call_of 52 (Value.slice A3 x.new.length k3); exact Calls.quiet_of (C3.out _)))
                go_wp2
                go_ret
                refine ⟨?_, (by obtain ⟨q0, e⟩ := hw.out; rw [e]; simp only [World.drewN_drewN]; exact ⟨_, rfl⟩)⟩
                have : xs ≠ ys := fun h => by
                  apply NE.out
                  have hxy : x = y := by rw [E.out.1, E.out.2]; simp only [h]
                  exact by rw [hxy]
                simp [this]
            · have z3 : decide (x.old = y.old) = false := decide_eq_false h3
              have hne := h3
              have NE := put h3
              clear h3
              rw [z3] at C2
              clear z3
              clear hne
              go_wp2
              go_quiet (first | (go_at_call_of 52 (Value.slice A2 x.old.length k2); exact Calls.quiet_of (C2.out _)) | (go_at_call_of 52 (Value.slice A3 x.new.length k3); exact Calls.quiet_of (C3.out _)))
              go_wp2
              go_ret
              refine ⟨?_, (by obtain ⟨q0, e⟩ := hw.out; rw [e]; simp only [World.drewN_drewN]; exact ⟨_, rfl⟩)⟩
              have : xs ≠ ys := fun h => by
                apply NE.out
                have hxy : x = y := by rw [E.out.1, E.out.2]; simp only [h]
                exact by rw [hxy]
              simp [this]
          · have z2 : (x.id != y.id) = true := by simp [h2]
            have hne := h2
            have NE := put h2
            clear h2
            clear hne
            go_wp2
            go_quiet (first | (go_at_call_of 52 (Value.slice A2 x.old.length k2); exact Calls.quiet_of (C2.out _)) | (go_at_call_of 52 (Value.slice A3 x.new.length k3); exact Calls.quiet_of (C3.out _)))
            go_wp2
            go_ret
            refine ⟨?_, (by obtain ⟨q0, e⟩ := hw.out; rw [e]; simp only [World.drewN_drewN]; exact ⟨_, rfl⟩)⟩
            have : xs ≠ ys := fun h => by
              apply NE.out
              have hxy : x = y := by rw [E.out.1, E.out.2]; simp only [h]
              exact by rw [hxy]
            simp [this]
        · have z1 : (x.table.toList == y.table.toList) = false := by rw [bytes_eq]; exact decide_eq_false h1
          have z1' : (x.table.toList != y.table.toList) = true := by rw [bne, z1]; rfl
          have hne := h1
          have NE := put h1
          clear h1
          clear hne
          go_wp2
          go_quiet (first | (go_at_call_of 52 (Value.slice A2 x.old.length k2); exact Calls.quiet_of (C2.out _)) | (go_at_call_of 52 (Value.slice A3 x.new.length k3); exact Calls.quiet_of (C3.out _)))
          go_wp2
          go_ret
          refine ⟨?_, (by obtain ⟨q0, e⟩ := hw.out; rw [e]; simp only [World.drewN_drewN]; exact ⟨_, rfl⟩)⟩
          have : xs ≠ ys := fun h => by
            apply NE.out
            have hxy : x = y := by rw [E.out.1, E.out.2]; simp only [h]
            exact by rw [hxy]
          simp [this]
      · have hlz : ¬ (i : Int) < (xs.length : Int) := by omega
        clear HXr HYr
        go_wp2
        go_ret
        refine ⟨?_, hw.out⟩
        have h1 := ht.out
        rw [List.take_of_length_le (by omega), List.take_of_length_le (by have := HL.out; omega)] at h1
        simp [h1]
  · have l1 : ((xs.length : Int) != (ys.length : Int)) = true := by rw [bne_iff_ne]; omega
    have HL := put hl
    go_enter Try.func16, Try.ntmps16
    clear hl
    go_wp2
    go_ret
    refine ⟨?_, 0, rfl⟩
    have : xs ≠ ys := fun h => HL.out (by rw [h])
    simp [this]

end Go.Proofs.Ytkfoknjflpklpaa.D

namespace Go.Proofs.Ytkfoknjflpklpaa.D
open Go Go.RowKit Go.Proofs.Ytkfoknjflpklpaa.Mem Go.Proofs.Ytkfoknjflpklpaa.Cmp

theorem Own.lit' {α : Type} (d : Ty α) {E : TypeId} {ok : Nat → Prop} {w : World} {base b : Nat} (h : w.heap[b]? = some (.cells #[] E (0, 0))) (hb : base ≤ b) : Own d E ok w base (.slice (some ⟨b, 0, none⟩) 0 0) [] :=
  ⟨[], rfl, ⟨by simp, .inr ⟨b, 0, #[], rfl, hb, h, Nat.le_refl _, by simp, by simp, by simp⟩⟩, fun i x c h => by simp at h⟩

theorem lit_sl {α : Type} {d : Ty α} {E : TypeId} {ok : Nat → Prop} {w : World} {b : Nat} {p : α} {cs : List Value} (h : w.heap[b]? = some (.cells cs.toArray E (0, 0))) (hr : d.R ok w p cs) (hb : ok b) : Sl d ok w (.slice (some ⟨b, 0, none⟩) 1 1) [p] :=
  ⟨_, 1, rfl, Nat.le_refl _, by omega, by simp, (fun e => by cases e), fun _ => ⟨_, rfl, hb, (Array.getElem?_eq_some_iff.1 h).1, fun i x hx => by
    rcases i with _ | i
    · simp only [List.getElem?_cons_zero, Option.some.injEq] at hx
      subst hx
      refine ⟨cs, hr, fun j u hu => ?_⟩
      rw [Nat.zero_mul, Nat.zero_add]
      exact Go.World.news_of_block h j u (by simpa using hu)
    · simp at hx⟩⟩

theorem same_b (x y : Chg) : (y.table.toList == x.table.toList && y.id == x.id) = y.same x := by
  rw [bytes_eq]
  simp only [Chg.same]
  congr 1

theorem balloc {w w' : World} (h : Below w.heap.size w w') (o : Obj) : Below w.heap.size w (w'.alloc o) := h.alloc h.size o

theorem ne_new {k B b n c : Nat} (h : k < B) (hb : B ≤ b) : some k ≠ (Value.slice (some ⟨b, 0, none⟩) n c).ownBlock := fun e => by
  simp only [Value.ownBlock, Option.some.injEq] at e
  omega
theorem lit_block {B b n c : Nat} (hb : B ≤ b) : ∀ k, (Value.slice (some ⟨b, 0, none⟩) n c).ownBlock = some k → B ≤ k := fun k e => by
  simp only [Value.ownBlock, Option.some.injEq] at e
  omega
theorem ne_own {α : Type} {d : Ty α} {E base k : Nat} {ok : Nat → Prop} {w : World} {v : Value} {xs : List α} (h : Own d E ok w base v xs) (hk : k < base) : some k ≠ v.ownBlock := fun e => by have := (h.lt k e.symm).1; omega
theorem ne_fresh {α : Type} {d : Ty α} {E base : Nat} {ok : Nat → Prop} {w : World} {v : Value} {xs : List α} (h : Own d E ok w base v xs) : some w.heap.size ≠ v.ownBlock := fun e => by have := (h.lt _ e.symm).2; omega
theorem ne_grown {v1 v : Value} {S b : Nat} (hat : v1.ownBlock = v.ownBlock ∨ ∃ b', v1.ownBlock = some b' ∧ S ≤ b') (h1 : some b ≠ v.ownBlock) (h2 : b < S) : some b ≠ v1.ownBlock := fun e => by
  rcases hat with h | ⟨b', h3, h4⟩
  · exact h1 (e.trans h)
  · rw [h3] at e
    simp only [Option.some.injEq] at e
    omega
theorem ne_lit {b b' n c : Nat} (h : b ≠ b') : some b ≠ (Value.slice (some ⟨b', 0, none⟩) n c).ownBlock := fun e => h (by simpa [Value.ownBlock] using e)
theorem heap_alloc_get (w : World) (o : Obj) (k : Nat) : (w.alloc o).heap[k]? = if k = w.heap.size then some o else w.heap[k]? := by
  split
  · next h => rw [h]; exact heap_alloc_new _ _
  · next h =>
    by_cases hk : k < w.heap.size
    · exact Below.heap_alloc _ _ _ hk
    · rw [Array.getElem?_eq_none (by simp; omega), Array.getElem?_eq_none (by omega)]
theorem heap_drew_get (w : World) (k : Nat) : w.drew.heap[k]? = w.heap[k]? := rfl

theorem lastNew_take {x y : Chg} {xs : List Chg} {i k : Nat} (hik : i ≤ k) (hy : xs[k]? = some y) : lastNew x x.new ((xs.take (k + 1)).drop i) = (if y.same x then y.new else lastNew x x.new ((xs.take k).drop i)) := by
  have hlt := (List.getElem?_eq_some_iff.1 hy).1
  rw [take_one_more hy, List.drop_append_of_le_length (by rw [List.length_take]; omega)]
  unfold lastNew
  rw [List.foldl_append]
  rfl

theorem bsize {w w' : World} (h : Below w.heap.size w w') : w.heap.size ≤ w'.heap.size := h.size

theorem lt_b (x y : Chg) : (Op.bytesLess x.table.toList y.table.toList || (x.table.toList == y.table.toList && decide (x.id < y.id))) = x.lt y := by
  rw [bytes_eq]
  rfl

theorem Below.drewn {N n : Nat} {w w' : World} (h : Below N w w') : Below N w (w'.drewN n) := h.trans ⟨rfl, rfl, rfl, by simp, fun k _ => by simp⟩

end Go.Proofs.Ytkfoknjflpklpaa.D

namespace Go.Proofs.Ytkfoknjflpklpaa.D
open Go Go.RowKit Go.Proofs.Ytkfoknjflpklpaa.Mem

/-- The worlds differ at the blocks B and behind all alone. -/
structure But (B : Nat → Prop) (w w' : World) : Prop where
  os : w'.os = w.os
  tape : w'.tape = w.tape
  output : w'.output = w.output
  size : w.heap.size ≤ w'.heap.size
  block : ∀ k, k < w.heap.size → ¬ B k → w'.heap[k]? = w.heap[k]?
theorem But.of_below {B : Nat → Prop} {w w' : World} (h : Below w.heap.size w w') : But B w w' := ⟨h.os, h.tape, h.output, h.size, fun k hk _ => h.block k hk⟩
theorem But.below {B : Nat → Prop} {w w' : World} {N : Nat} (h : But B w w') (hN : N ≤ w.heap.size) (hB : ∀ k, B k → N ≤ k) : Below N w w' := ⟨h.os, h.tape, h.output, h.size, fun k hk => h.block k (by omega) (fun hb => by have := hB k hb; omega)⟩

set_option maxRecDepth 100000 in
theorem newCalls (w : World) : Calls Try.prog 26 #[] w fun e w' => e = .returned (.pointer (some ⟨w.heap.size, 0, none⟩)) ∧ w' = w.alloc (.cells #[.slice none 0 0] 116) := by
  go_enter Try.func26, Try.ntmps26
  go_wp2_with fail
  go_ret
  exact ⟨rfl, rfl⟩

set_option maxRecDepth 100000 in
theorem markCalls (w : World) (T n c : Nat) (A : Option Addr) (h : w.cell? ⟨T, 0, none⟩ = some (.slice A n c)) : Calls Try.prog 30 #[.pointer (some ⟨T, 0, none⟩)] w fun e w' => e = .returned (.int .i64 n) ∧ w' = w := by
  go_enter Try.func30, Try.ntmps30
  go_wp2_with fail
  go_ret
  exact ⟨rfl, rfl⟩
set_option maxRecDepth 100000 in
theorem markNil (w : World) : Calls Try.prog 30 #[.pointer none] w fun e w' => e = .returned (.int .i64 0) ∧ w' = w := by
  go_enter Try.func30, Try.ntmps30
  go_wp2_with fail
  go_ret
  exact ⟨rfl, rfl⟩

/-- A mark that may be. -/
def markOf (mk : Int) (n : Nat) : Nat := min mk.toNat n
theorem markOf_int (mk : Int) (n : Nat) : ((markOf mk n : Nat) : Int) = min (max mk 0) (n : Int) := by unfold markOf; omega

set_option maxRecDepth 100000 in
theorem atCalls (w : World) (T n c : Nat) (A : Option Addr) (mk : Int) (h : w.cell? ⟨T, 0, none⟩ = some (.slice A n c)) : Calls Try.prog 58 #[.pointer (some ⟨T, 0, none⟩), .int .i64 mk] w fun e w' => e = .returned (.int .i64 (markOf mk n)) ∧ w' = w := by
  rw [markOf_int]
  go_enter Try.func58, Try.ntmps58
  go_wp2_with (first | (go_at_call 30; refine (markCalls _ T n c A h).mono ?_; rintro e w1 ⟨rfl, rfl⟩))
  go_ret
  exact ⟨rfl, rfl⟩

set_option maxRecDepth 100000 in
theorem sinceNil (w : World) (mk : Int) : Calls Try.prog 29 #[.pointer none, .int .i64 mk] w fun e w' => e = .returned (.slice none 0 0) ∧ w' = w := by
  go_enter Try.func29, Try.ntmps29
  go_wp2_with fail
  go_ret
  exact ⟨rfl, rfl⟩
set_option maxRecDepth 100000 in
theorem backNil (w : World) (mk : Int) : Calls Try.prog 28 #[.pointer none, .int .i64 mk] w fun e w' => (∃ r, e = .returned r) ∧ w' = w := by
  go_enter Try.func28, Try.ntmps28
  go_wp2_with fail
  exact bodyPost_end (results_none rfl _ _ _) rfl ⟨⟨_, rfl⟩, rfl⟩
set_option maxRecDepth 100000 in
theorem noteNil (w : World) (a b c d : Value) : Calls Try.prog 27 #[.pointer none, .agg #[a, b, c, d]] w fun e w' => (∃ r, e = .returned r) ∧ Below w.heap.size w w' := by
  go_enter Try.func27, Try.ntmps27
  go_wp2_with fail
  exact bodyPost_end (results_none rfl _ _ _) rfl ⟨⟨_, rfl⟩, balloc (Below.refl _ _) _⟩

set_option maxHeartbeats 8000000 in
set_option maxRecDepth 100000 in
theorem sinceCalls (ok : Nat → Prop) (w : World) (T n c : Nat) (A : Option Addr) (mk : Int) (xs : List Chg) (hT : w.cell? ⟨T, 0, none⟩ = some (.slice A n c)) (hS : Sl tChg ok w (.slice A n c) xs) (hl : xs.length ≤ 1000) (hb : ∀ x ∈ xs, x.old.length ≤ 1000 ∧ x.new.length ≤ 1000) :
    Calls Try.prog 29 #[.pointer (some ⟨T, 0, none⟩), .int .i64 mk] w fun e w' => ∃ vo, e = .returned vo ∧ Own tChgU 40 (fun k => w.heap.size ≤ k) w' w.heap.size vo (net (xs.drop (markOf mk n))) ∧ Below w.heap.size w w' := by
  obtain ⟨hrow, hn, hnc, hc9, _, hA0⟩ := hS.row
  have hkn : markOf mk n ≤ n := Nat.min_le_right _ _
  have HD := hS.drop hkn
  have LD : Kp ((xs.drop (markOf mk n)).length ≤ 1000) := put (by rw [List.length_drop]; omega)
  have RD : Kp (∀ x ∈ xs.drop (markOf mk n), x.old.length ≤ 1000 ∧ x.new.length ≤ 1000) := put (fun x hx => hb x (List.mem_of_mem_drop hx))
  have C58 : Kp (∀ W, W.cell? ⟨T, 0, none⟩ = some (.slice A n c) → Calls Try.prog 58 #[.pointer (some ⟨T, 0, none⟩), .int .i64 mk] W fun e w' => e = .returned (.int .i64 (markOf mk n)) ∧ w' = W) := ⟨fun W h => atCalls W T n c A mk h⟩
  generalize xs.drop (markOf mk n) = ys at *
  generalize markOf mk n = k at *
  have k0 : (0 : Int) ≤ (k : Int) := by omega
  have kn : (k : Int) ≤ (n : Int) := by omega
  have kc : (n : Int) ≤ (c : Int) := by omega
  have HSC := put (And.intro hS hn)
  clear hS hrow hl hb hn
  cases A with
  | none =>
    obtain rfl : c = 0 := hA0 rfl
    obtain rfl : n = 0 := by omega
    obtain rfl : k = 0 := by omega
    have HN : Kp (∀ W, Below w.heap.size w W → Sl tChg ok W (.slice none 0 0) ys) := put (fun W hb => by have h := HD; simp only [if_true, Nat.sub_self] at h; exact h.below hb)
    clear HD hA0
    go_enter Try.func29, Try.ntmps29
    go_wp2_with fail
    go_region_held3 (fun w' => w'.cell? ⟨T, 0, none⟩ = some (.slice none 0 0)) (first | go_keep | exact hT | exact t6)
      (first | (go_at_call 58; refine (C58.out _ (by first | exact hT | assumption)).mono ?_; rintro e w5 ⟨rfl, rfl⟩) | (go_at_call 18; refine (netCallsU ok (.slice none 0 0) ys _ (HN.out _ (by (repeat (first | with_reducible exact (Below.refl _ _) | with_reducible apply Below.drew | with_reducible refine balloc ?_ _)))) LD.out RD.out).mono ?_; rintro e w6 ⟨vo, rfl, ho, hb6⟩; have hb : Below w.heap.size w w6 := Below.trans (by (repeat (first | with_reducible exact (Below.refl _ _) | with_reducible apply Below.drew | with_reducible refine balloc ?_ _))) (hb6.mono (bsize (by (repeat (first | with_reducible exact (Below.refl _ _) | with_reducible apply Below.drew | with_reducible refine balloc ?_ _))))); have t6 := (hb.cell (p := ⟨T, 0, none⟩) (cell_lt hT)).trans hT; have HO := put ho; have HB := put hb; clear ho hb6 hb))
    all_goals
      go_wp2_with fail
      go_ret
      exact ⟨_, rfl, HO.out, HB.out⟩
  | some ad =>
    by_cases hck : c = k
    · obtain rfl : c = n := by omega
      obtain rfl : k = c := by omega
      rw [if_pos rfl, Nat.sub_self] at HD
      have HN : Kp (∀ W, Below w.heap.size w W → Sl tChg ok W (.slice (some ad) 0 0) ys) := put (fun W hb => HD.below hb)
      clear HD hA0 hck
      go_enter Try.func29, Try.ntmps29
      go_wp2_with fail
      go_region_held3 (fun w' => w'.cell? ⟨T, 0, none⟩ = some (.slice (some ad) k k)) (first | go_keep | exact hT | exact t6)
        (first | (go_at_call 58; refine (C58.out _ (by first | exact hT | assumption)).mono ?_; rintro e w5 ⟨rfl, rfl⟩) | (go_at_call 18; refine (netCallsU ok (.slice (some ad) 0 0) ys _ (HN.out _ (by (repeat (first | with_reducible exact (Below.refl _ _) | with_reducible apply Below.drew | with_reducible refine balloc ?_ _)))) LD.out RD.out).mono ?_; rintro e w6 ⟨vo, rfl, ho, hb6⟩; have hb : Below w.heap.size w w6 := Below.trans (by (repeat (first | with_reducible exact (Below.refl _ _) | with_reducible apply Below.drew | with_reducible refine balloc ?_ _))) (hb6.mono (bsize (by (repeat (first | with_reducible exact (Below.refl _ _) | with_reducible apply Below.drew | with_reducible refine balloc ?_ _))))); have t6 := (hb.cell (p := ⟨T, 0, none⟩) (cell_lt hT)).trans hT; have HO := put ho; have HB := put hb; clear ho hb6 hb))
      all_goals
        go_wp2_with fail
        go_ret
        exact ⟨_, rfl, HO.out, HB.out⟩
    · rw [if_neg hck] at HD
      have HN : Kp (∀ W, Below w.heap.size w W → Sl tChg ok W (.slice (some (ad.add (k * 4))) (n - k) (c - k)) ys) := put (fun W hb => HD.below hb)
      clear HD hA0
      go_enter Try.func29, Try.ntmps29
      go_wp2_with fail
      go_region_held3 (fun w' => w'.cell? ⟨T, 0, none⟩ = some (.slice (some ad) n c)) (first | go_keep | exact hT | exact t6)
        (first | (go_at_call 58; refine (C58.out _ (by first | exact hT | assumption)).mono ?_; rintro e w5 ⟨rfl, rfl⟩) | (go_at_call 18; refine (netCallsU ok (.slice (some (ad.add (k * 4))) (n - k) (c - k)) ys _ (HN.out _ (by (repeat (first | with_reducible exact (Below.refl _ _) | with_reducible apply Below.drew | with_reducible refine balloc ?_ _)))) LD.out RD.out).mono ?_; rintro e w6 ⟨vo, rfl, ho, hb6⟩; have hb : Below w.heap.size w w6 := Below.trans (by (repeat (first | with_reducible exact (Below.refl _ _) | with_reducible apply Below.drew | with_reducible refine balloc ?_ _))) (hb6.mono (bsize (by (repeat (first | with_reducible exact (Below.refl _ _) | with_reducible apply Below.drew | with_reducible refine balloc ?_ _))))); have t6 := (hb.cell (p := ⟨T, 0, none⟩) (cell_lt hT)).trans hT; have HO := put ho; have HB := put hb; clear ho hb6 hb))
      all_goals
        go_wp2_with fail
        go_ret
        exact ⟨_, rfl, HO.out, HB.out⟩

theorem heap_drew_size (w : World) : w.drew.heap.size = w.heap.size := rfl
theorem cell_of_heap {w : World} {T : Nat} {v : Value} {t : TypeId} (h : w.heap[T]? = some (.cells #[v] t (0, 0))) : w.cell? ⟨T, 0, none⟩ = some v := by simp [World.cell?, h]
theorem loose_of_heap {w : World} {T : Nat} {v : Value} {t : TypeId} (h : w.heap[T]? = some (.cells #[v] t (0, 0))) : w.frozen? ⟨T, 0, none⟩ = false := by simp [World.frozen?, h]
theorem heap_store {w : World} {T : Nat} {v : Value} {t : TypeId} (h : w.heap[T]? = some (.cells #[v] t (0, 0))) (u : Value) : (w.setCell ⟨T, 0, none⟩ u).heap[T]? = some (.cells #[u] t (0, 0)) := by
  simp [World.setCell, Array.getElem?_modify, h]
theorem heap_store_other {w : World} {T k : Nat} (u : Value) (h : k ≠ T) : (w.setCell ⟨T, 0, none⟩ u).heap[k]? = w.heap[k]? := Below.heap_setCell w ⟨T, 0, none⟩ u k h

set_option maxHeartbeats 8000000 in
set_option maxRecDepth 100000 in
theorem backCalls (ok : Nat → Prop) (w : World) (T n c : Nat) (A : Option Addr) (mk : Int) (xs : List Chg) (hT : w.heap[T]? = some (.cells #[.slice A n c] 116 (0, 0))) (hS : Sl tChg ok w (.slice A n c) xs) (hl : xs.length ≤ 1000) (hok : ∀ k, ok k → k ≠ T) :
    Calls Try.prog 28 #[.pointer (some ⟨T, 0, none⟩), .int .i64 mk] w fun e w' => (∃ r, e = .returned r) ∧ ∃ A' c', w'.heap[T]? = some (.cells #[.slice A' (xs.take (markOf mk n)).length c'] 116 (0, 0)) ∧ Own tChg 40 (fun k => ok k ∧ k < w.heap.size) w' w.heap.size (.slice A' (xs.take (markOf mk n)).length c') (xs.take (markOf mk n)) ∧ But (fun k => k = T) w w' := by
  obtain ⟨hrow, hn, hnc, hc9, _, hA0⟩ := hS.row
  have hkn : markOf mk n ≤ n := Nat.min_le_right _ _
  have HD := hS.take hkn
  have LD : Kp ((xs.take (markOf mk n)).length * 72 ≤ 140737488355328) := put (by rw [List.length_take]; omega)
  have hT0 := cell_of_heap hT
  have hTs : T < w.heap.size := (Array.getElem?_eq_some_iff.1 hT).1
  have C58 : Kp (∀ W, W.cell? ⟨T, 0, none⟩ = some (.slice A n c) → Calls Try.prog 58 #[.pointer (some ⟨T, 0, none⟩), .int .i64 mk] W fun e w' => e = .returned (.int .i64 (markOf mk n)) ∧ w' = W) := ⟨fun W h => atCalls W T n c A mk h⟩
  generalize xs.take (markOf mk n) = ys at *
  generalize markOf mk n = k at *
  have k0 : (0 : Int) ≤ (k : Int) := by omega
  have kn : (k : Int) ≤ (n : Int) := by omega
  have kc : (k : Int) ≤ (c : Int) := by omega
  have HT := put hT
  have HOK := put hok
  have HSC := put (And.intro hS hn)
  have HN : Kp (∀ W, Below w.heap.size w W → Sl tChg ok W (.slice A k c) ys) := put (fun W hb => HD.below hb)
  clear hS hrow hl hn hT HD hok
  cases A with
  | none =>
    obtain rfl : c = 0 := hA0 rfl
    obtain rfl : n = 0 := by omega
    obtain rfl : k = 0 := by omega
    clear hA0
    go_enter Try.func28, Try.ntmps28
    go_wp2_with fail
    go_region_law (first | (go_simp; go_at_call 58; refine (C58.out _ (by first | exact hT0 | assumption)).mono ?_; rintro e w5 ⟨rfl, rfl⟩; go_wp2_with fail) | (go_simp; go_at_call 53; refine (cloneChg ok (.slice none 0 0) ys _ (HN.out _ (by (repeat (first | with_reducible exact (Below.refl _ _) | with_reducible apply Below.drew | with_reducible refine balloc ?_ _)))) LD.out).mono ?_; rintro e w6 ⟨A6, c6, rfl, ho, hb6⟩; have hb : Below w.heap.size w w6 := Below.trans (by (repeat (first | with_reducible exact (Below.refl _ _) | with_reducible apply Below.drew | with_reducible refine balloc ?_ _))) (hb6.mono (bsize (by (repeat (first | with_reducible exact (Below.refl _ _) | with_reducible apply Below.drew | with_reducible refine balloc ?_ _))))); have h6 := (hb.block T hTs).trans HT.out; have t6 := cell_of_heap h6; have f6 := loose_of_heap h6; have H6 := put h6; have HO := put ho; have HB := put hb; clear ho hb6 hb h6; go_wp2_with fail))
    all_goals
      go_wp2_with fail
      exact bodyPost_end (results_none rfl _ _ _) rfl ⟨⟨_, rfl⟩, A6, c6, heap_store H6.out _, Own.far HO.out (fun k hk e => by have h := (HO.out.lt k hk).1; have e2 : k = T := e; simp only [heap_drew_size] at h; omega) (fun k hk e => HOK.out k hk.1 e) _, HB.out.os, HB.out.tape, HB.out.output, by have := HB.out.size; simpa [World.setCell] using this, fun k hk hne => (heap_store_other _ hne).trans (HB.out.block k hk)⟩
  | some ad =>
    clear hA0
    go_enter Try.func28, Try.ntmps28
    go_wp2_with fail
    go_region_law (first | (go_simp; go_at_call 58; refine (C58.out _ (by first | exact hT0 | assumption)).mono ?_; rintro e w5 ⟨rfl, rfl⟩; go_wp2_with fail) | (go_simp; go_at_call 53; refine (cloneChg ok (.slice (some ad) k c) ys _ (HN.out _ (by (repeat (first | with_reducible exact (Below.refl _ _) | with_reducible apply Below.drew | with_reducible refine balloc ?_ _)))) LD.out).mono ?_; rintro e w6 ⟨A6, c6, rfl, ho, hb6⟩; have hb : Below w.heap.size w w6 := Below.trans (by (repeat (first | with_reducible exact (Below.refl _ _) | with_reducible apply Below.drew | with_reducible refine balloc ?_ _))) (hb6.mono (bsize (by (repeat (first | with_reducible exact (Below.refl _ _) | with_reducible apply Below.drew | with_reducible refine balloc ?_ _))))); have h6 := (hb.block T hTs).trans HT.out; have t6 := cell_of_heap h6; have f6 := loose_of_heap h6; have H6 := put h6; have HO := put ho; have HB := put hb; clear ho hb6 hb h6; go_wp2_with fail))
    all_goals
      go_wp2_with fail
      exact bodyPost_end (results_none rfl _ _ _) rfl ⟨⟨_, rfl⟩, A6, c6, heap_store H6.out _, Own.far HO.out (fun k hk e => by have h := (HO.out.lt k hk).1; have e2 : k = T := e; simp only [heap_drew_size] at h; omega) (fun k hk e => HOK.out k hk.1 e) _, HB.out.os, HB.out.tape, HB.out.output, by have := HB.out.size; simpa [World.setCell] using this, fun k hk hne => (heap_store_other _ hne).trans (HB.out.block k hk)⟩
end Go.Proofs.Ytkfoknjflpklpaa.D

namespace Go.Proofs.Ytkfoknjflpklpaa.D
open Go Go.RowKit Go.Proofs.Ytkfoknjflpklpaa.Mem

/-- A slice's own form; nothing is said of its elements. -/
def Shp (v : Value) : Prop := ∃ A n c, v = .slice A n c ∧ n ≤ c ∧ c ≤ 9223372036854775807 ∧ n ≤ 140737488355328
theorem Shp.oneCell {v : Value} (h : Shp v) : v.oneCell' = true := by
  obtain ⟨A, n, c, rfl, _⟩ := h
  rfl
theorem Sl.shp {α : Type} {d : Ty α} {ok : Nat → Prop} {w : World} {v : Value} {xs : List α} (h : Sl d ok w v xs) : Shp v := by
  obtain ⟨A, c, rfl, h1, h2, h3⟩ := h.shape
  exact ⟨A, _, c, rfl, h1, h2, h3⟩

/-- A slice that reads, of at most so many bytes. -/
def SlB {α : Type} (d : Ty α) (B : Nat) (ok : Nat → Prop) (w : World) (v : Value) (xs : List α) : Prop := Sl d ok w v xs ∧ xs.length * B ≤ 140737488355328
section
variable {α : Type} {d : Ty α} {B : Nat} {ok ok' : Nat → Prop} {w w' : World} {v : Value} {xs : List α}
theorem SlB.mono (h : SlB d B ok w v xs) (hok : ∀ k, ok k → ok' k) : SlB d B ok' w v xs := ⟨h.1.mono hok, h.2⟩
theorem SlB.move (h : SlB d B ok w v xs) (hm : ∀ k, ok k → k < w.heap.size → w'.heap[k]? = w.heap[k]?) : SlB d B ok w' v xs := ⟨h.1.move hm, h.2⟩
theorem SlB.bnd (h : SlB d B ok w v xs) : SlB d B (fun k => ok k ∧ k < w.heap.size) w v xs := ⟨h.1.bnd, h.2⟩
end

def tNo (α : Type) (k : Nat) : Ty α where
  sz := k
  R := fun _ _ _ _ => False
  len := fun h => h.elim
  one := fun h => h.elim
  mono := fun _ h => h
  move := fun _ h => h
  bnd := fun h => h

/-- A source: a kind and two names. -/
def tSrc : Ty Unit where
  sz := 3
  R := fun _ _ _ cs => ∃ (a : Int) (b c : ByteArray), cs = [.int .i64 a, .string b, .string c]
  len := fun ⟨_, _, _, h⟩ => by rw [h]; rfl
  one := fun ⟨_, _, _, h⟩ u hu => by
    rw [h] at hu
    simp only [List.mem_cons, List.not_mem_nil, or_false] at hu
    rcases hu with rfl | rfl | rfl <;> rfl
  mono := fun _ h => h
  move := fun _ h => h
  bnd := fun h => h

def tExS (k : Ty Unit) : Ty Unit where
  sz := 7
  R := fun ok w _ cs => ∃ (a : ByteArray) (b c : Int) (d e f : ByteArray) (v : Value) (xs : List Unit), cs = [.string a, .int .i64 b, .int .i64 c, .string d, .string e, .string f, v] ∧ SlB k 104 ok w v xs
  len := fun ⟨_, _, _, _, _, _, _, _, h, _⟩ => by rw [h]; rfl
  one := fun ⟨_, _, _, _, _, _, _, _, h, hs⟩ u hu => by
    rw [h] at hu
    simp only [List.mem_cons, List.not_mem_nil, or_false] at hu
    rcases hu with rfl | rfl | rfl | rfl | rfl | rfl | rfl <;> first | rfl | exact hs.1.oneCell
  mono := fun hok ⟨a, b, c, d, e, f, v, xs, h, hs⟩ => ⟨a, b, c, d, e, f, v, xs, h, hs.mono hok⟩
  move := fun hm ⟨a, b, c, d, e, f, v, xs, h, hs⟩ => ⟨a, b, c, d, e, f, v, xs, h, hs.move hm⟩
  bnd := fun ⟨a, b, c, d, e, f, v, xs, h, hs⟩ => ⟨a, b, c, d, e, f, v, xs, h, hs.bnd⟩
/-- An expression less than n deep. -/
def tEx : Nat → Ty Unit
  | 0 => tNo Unit 7
  | n + 1 => tExS (tEx n)
theorem tEx_sz : ∀ n, (tEx n).sz = 7
  | 0 => rfl
  | _ + 1 => rfl

def tSetS (k : Ty Unit) : Ty Unit where
  sz := 8
  R := fun ok w _ cs => ∃ (a : ByteArray) (es : List Value), cs = .string a :: es ∧ k.R ok w () es ∧ es.length = 7
  len := fun ⟨_, _, h, _, h7⟩ => by rw [h, List.length_cons, h7]
  one := fun ⟨_, _, h, hs, _⟩ u hu => by
    rw [h] at hu
    rcases List.mem_cons.1 hu with rfl | hu
    · rfl
    · exact k.one hs u hu
  mono := fun hok ⟨a, es, h, hs, h7⟩ => ⟨a, es, h, k.mono hok hs, h7⟩
  move := fun hm ⟨a, es, h, hs, h7⟩ => ⟨a, es, h, k.move hm hs, h7⟩
  bnd := fun ⟨a, es, h, hs, h7⟩ => ⟨a, es, h, k.bnd hs, h7⟩
def tSet (n : Nat) : Ty Unit := tSetS (tEx n)

/-- What is wanted of a rule. -/
structure Rl where
  name : ByteArray
  table : ByteArray
  prio : Int
  event : Int
  deferred : Bool
deriving DecidableEq

def tStS (ex st : Ty Unit) (k : Ty Rl) : Ty Rl where
  sz := 15
  R := fun ok w x cs => ∃ (kd : Int) (col : ByteArray) (rl : Bool) (vc v1 v2 v3 v4 v5 v6 : Value) (x1 x2 x3 x4 x5 : List Unit) (x6 : List Rl),
    cs = [.int .i64 kd, .string x.name, .string x.table, .string col, vc, v1, v2, v3, v4, v5, .int .i64 x.prio, .int .i64 x.event, .bool x.deferred, .bool rl, v6] ∧
    x.name.size ≤ 9223372036854775807 ∧ Shp vc ∧ SlB ex 104 ok w v1 x1 ∧ SlB ex 104 ok w v2 x2 ∧ SlB ex 104 ok w v3 x3 ∧ SlB st 120 ok w v4 x4 ∧ SlB tSrc 40 ok w v5 x5 ∧ SlB k 248 ok w v6 x6
  len := fun ⟨_, _, _, _, _, _, _, _, _, _, _, _, _, _, _, _, h, _⟩ => by rw [h]; rfl
  one := fun ⟨_, _, _, _, _, _, _, _, _, _, _, _, _, _, _, _, h, _, h0, h1, h2, h3, h4, h5, h6⟩ u hu => by
    rw [h] at hu
    simp only [List.mem_cons, List.not_mem_nil, or_false] at hu
    rcases hu with rfl | rfl | rfl | rfl | rfl | rfl | rfl | rfl | rfl | rfl | rfl | rfl | rfl | rfl | rfl <;>
      first | rfl | exact h0.oneCell | exact h1.1.oneCell | exact h2.1.oneCell | exact h3.1.oneCell | exact h4.1.oneCell | exact h5.1.oneCell | exact h6.1.oneCell
  mono := fun hok ⟨a1, a2, a3, a4, a5, a6, a7, a8, a9, b1, b2, b3, b4, b5, b6, b7, h, hn, h0, h1, h2, h3, h4, h5, h6⟩ => ⟨a1, a2, a3, a4, a5, a6, a7, a8, a9, b1, b2, b3, b4, b5, b6, b7, h, hn, h0, h1.mono hok, h2.mono hok, h3.mono hok, h4.mono hok, h5.mono hok, h6.mono hok⟩
  move := fun hm ⟨a1, a2, a3, a4, a5, a6, a7, a8, a9, b1, b2, b3, b4, b5, b6, b7, h, hn, h0, h1, h2, h3, h4, h5, h6⟩ => ⟨a1, a2, a3, a4, a5, a6, a7, a8, a9, b1, b2, b3, b4, b5, b6, b7, h, hn, h0, h1.move hm, h2.move hm, h3.move hm, h4.move hm, h5.move hm, h6.move hm⟩
  bnd := fun ⟨a1, a2, a3, a4, a5, a6, a7, a8, a9, b1, b2, b3, b4, b5, b6, b7, h, hn, h0, h1, h2, h3, h4, h5, h6⟩ => ⟨a1, a2, a3, a4, a5, a6, a7, a8, a9, b1, b2, b3, b4, b5, b6, b7, h, hn, h0, h1.bnd, h2.bnd, h3.bnd, h4.bnd, h5.bnd, h6.bnd⟩
/-- A statement less than n deep. -/
def tSt : Nat → Ty Rl
  | 0 => tNo Rl 15
  | n + 1 => tStS (tEx n) (tSet n) (tSt n)
theorem tSt_sz : ∀ n, (tSt n).sz = 15
  | 0 => rfl
  | _ + 1 => rfl

/-- Element i of a slice of expressions. -/
theorem exs_at {n : Nat} {ok : Nat → Prop} {w : World} {A : Option Addr} {xs : List Unit} (h : Row (tEx n) ok w A xs) (i : Nat) (hi : i < xs.length) :
    ∃ m ad a b c d e f B k j, n = m + 1 ∧ A = some ad ∧ w.cell? (ad.add (i * 7)) = some (.string a) ∧ w.cell? ⟨(ad.add (i * 7)).block, (ad.add (i * 7)).off + 1, none⟩ = some (.int .i64 b) ∧ w.cell? ⟨(ad.add (i * 7)).block, (ad.add (i * 7)).off + 2, none⟩ = some (.int .i64 c) ∧ w.cell? ⟨(ad.add (i * 7)).block, (ad.add (i * 7)).off + 3, none⟩ = some (.string d) ∧ w.cell? ⟨(ad.add (i * 7)).block, (ad.add (i * 7)).off + 4, none⟩ = some (.string e) ∧ w.cell? ⟨(ad.add (i * 7)).block, (ad.add (i * 7)).off + 5, none⟩ = some (.string f) ∧ w.cell? ⟨(ad.add (i * 7)).block, (ad.add (i * 7)).off + 6, none⟩ = some (.slice B k j) ∧
      k ≤ j ∧ j ≤ 9223372036854775807 ∧ k ≤ 140737488355328 ∧ (tEx n).R ok w () [.string a, .int .i64 b, .int .i64 c, .string d, .string e, .string f, .slice B k j] := by
  obtain ⟨ad, cs, rfl, _, _, hr, ha⟩ := h.get i hi
  rw [tEx_sz] at ha
  cases n with
  | zero => exact hr.elim
  | succ m =>
    have hr0 := hr
    obtain ⟨a, b, c, d, e, f, v, ys, rfl, hs, _⟩ := hr
    obtain ⟨B, j, rfl, l1, l2, l3⟩ := hs.shape
    exact ⟨m, ad, a, b, c, d, e, f, B, _, j, rfl, rfl, At.c0 ha rfl, At.cj ha 1 (by omega) rfl, At.cj ha 2 (by omega) rfl, At.cj ha 3 (by omega) rfl, At.cj ha 4 (by omega) rfl, At.cj ha 5 (by omega) rfl, At.cj ha 6 (by omega) rfl, l1, l2, l3, hr0⟩

end Go.Proofs.Ytkfoknjflpklpaa.D

namespace Go.Proofs.Ytkfoknjflpklpaa.D
open Go Go.RowKit Go.Sort Go.Proofs.Ytkfoknjflpklpaa.Mem Go.Proofs.Ytkfoknjflpklpaa.Cmp Go.Proofs.Ytkfoknjflpklpaa.Stab

def rlCmp (a b : Rl) : Int := or2 (compareI b.prio a.prio) (compareS a.name b.name)
def Rl.lt (a b : Rl) : Bool := decide (b.prio < a.prio) || (decide (a.prio = b.prio) && ltS a.name b.name)

theorem Rl.lt_iff (a b : Rl) : a.lt b = true ↔ b.prio < a.prio ∨ a.prio = b.prio ∧ ltS a.name b.name = true := by simp [Rl.lt]

theorem rlCmp_lt (a b : Rl) : rlCmp a b < 0 ↔ a.lt b = true := by
  rw [Rl.lt_iff]
  unfold rlCmp or2 compareS compareI
  by_cases h1 : b.prio < a.prio
  · simp [h1]
  · by_cases h2 : a.prio < b.prio
    · have : a.prio ≠ b.prio := by omega
      simp [h1, h2, this]
    · have h3 : a.prio = b.prio := by omega
      by_cases h4 : ltS a.name b.name = true
      · simp [h3, h4]
      · by_cases h5 : a.name = b.name
        · simp [h3, h5, ltS_irrefl]
        · simp [h3, h4, h5]

theorem ltOf_rl (a b : Rl) : ltOf rlCmp a b = a.lt b := by
  rw [Bool.eq_iff_iff, ← rlCmp_lt]
  simp [ltOf]

theorem ltS_ntrans {a b c : ByteArray} (h1 : ltS a b = false) (h2 : ltS b c = false) : ltS a c = false := by
  cases h : ltS a c with
  | false => rfl
  | true =>
    cases h3 : ltS c b with
    | true => have := ltS_trans h h3; rw [h1] at this; cases this
    | false => have e := ltS_tri h2 h3; subst e; rw [h1] at h; cases h

theorem swo_rl : SWO (ltOf rlCmp) := by
  have e : ltOf rlCmp = Rl.lt := funext fun a => funext fun b => ltOf_rl a b
  rw [e]
  refine ⟨fun a => by simp [Rl.lt, ltS_irrefl], fun x y z h1 h2 => ?_, fun x y z h1 h2 => ?_⟩
  · rw [Rl.lt_iff] at *
    rcases h1 with h1 | ⟨h1, h1'⟩ <;> rcases h2 with h2 | ⟨h2, h2'⟩
    · exact .inl (by omega)
    · exact .inl (by omega)
    · exact .inl (by omega)
    · exact .inr ⟨by omega, ltS_trans h1' h2'⟩
  · have n1 : ¬ (y.prio < x.prio ∨ x.prio = y.prio ∧ ltS x.name y.name = true) := by rw [← Rl.lt_iff, h1]; simp
    have n2 : ¬ (z.prio < y.prio ∨ y.prio = z.prio ∧ ltS y.name z.name = true) := by rw [← Rl.lt_iff, h2]; simp
    cases h : x.lt z with
    | false => rfl
    | true =>
      exfalso
      rw [Rl.lt_iff] at h
      rcases h with h | ⟨h, h'⟩
      · exact n1 (.inl (by have : ¬ z.prio < y.prio := fun h => n2 (.inl h); omega))
      · have a1 : ¬ z.prio < y.prio := fun h => n2 (.inl h)
        have a2 : ¬ y.prio < x.prio := fun h => n1 (.inl h)
        have e1 : x.prio = y.prio := by omega
        have e2 : y.prio = z.prio := by omega
        have b1 : ltS x.name y.name = false := by
          cases hh : ltS x.name y.name with
          | false => rfl
          | true => exact absurd (.inr ⟨e1, hh⟩) n1
        have b2 : ltS y.name z.name = false := by
          cases hh : ltS y.name z.name with
          | false => rfl
          | true => exact absurd (.inr ⟨e2, hh⟩) n2
        rw [ltS_ntrans b1 b2] at h'
        cases h'

section
variable {α : Type} {lt : α → α → Bool}
theorem swo_asymm (hr : SWO lt) {x y : α} (h : lt x y = true) : lt y x = false := by
  cases h2 : lt y x with
  | false => rfl
  | true => have := hr.trans _ _ _ h h2; rw [hr.irrefl] at this; cases this
theorem ins_pw (hr : SWO lt) (x : α) : ∀ out : List α, out.Pairwise (fun a b => lt b a = false) → (ins lt x out).Pairwise (fun a b => lt b a = false)
  | [], _ => by simp [ins]
  | y :: out, h => by
    rw [List.pairwise_cons] at h
    unfold ins
    split
    · next hl =>
      rw [List.pairwise_cons]
      refine ⟨fun z hz => ?_, List.pairwise_cons.2 h⟩
      rcases List.mem_cons.1 hz with rfl | hz
      · exact swo_asymm hr hl
      · cases hzx : lt z x with
        | false => rfl
        | true => have := hr.trans _ _ _ hzx hl; rw [h.1 z hz] at this; cases this
    · next hl =>
      rw [List.pairwise_cons]
      refine ⟨fun z hz => ?_, ins_pw hr x out h.2⟩
      rcases List.mem_cons.1 ((ins_perm (lt := lt) x out).subset hz) with rfl | hz
      · simpa using hl
      · exact h.1 z hz
theorem isort_pw (hr : SWO lt) (l : List α) : (isort lt l).Pairwise (fun a b => lt b a = false) := by
  have key : ∀ (l out : List α), out.Pairwise (fun a b => lt b a = false) → (l.foldl (fun out x => ins lt x out) out).Pairwise (fun a b => lt b a = false) := by
    intro l
    induction l with
    | nil => intro out h; exact h
    | cons x l ih => intro out h; exact ih _ (ins_pw hr x out h)
  exact key l [] List.Pairwise.nil
end

/-- Is a rule triggered by what it would see? -/
def trig (mk : ByteArray → Int) (log : List Chg) (r : Rl) : Bool := decide (0 < r.event) && decide (0 < ((net (log.drop (markOf (mk r.name) log.length))).filter (Chg.isOf r.table r.event)).length)
def seen (mk : ByteArray → Int) (log : List Chg) (r : Rl) : List Chg := net (log.drop (markOf (mk r.name) log.length))
/-- The first of rules in order. -/
def firstOf (mk : ByteArray → Int) (log : List Chg) (dfr : Bool) (rs : List Rl) : Option Rl := rs.find? (fun r => (dfr || !r.deferred) && trig mk log r)

/-- None ahead of the first is triggered; if there is none, none is. -/
theorem first_law {mk : ByteArray → Int} {log : List Chg} {rs : List Rl} {r : Rl} (hr : r ∈ rs)
    (h : ∀ f, firstOf mk log true (isort (ltOf rlCmp) rs) = some f → r.lt f = true) : trig mk log r = false := by
  have hm : r ∈ isort (ltOf rlCmp) rs := (isort_perm rs).symm.subset hr
  cases hf : firstOf mk log true (isort (ltOf rlCmp) rs) with
  | none =>
    have := List.find?_eq_none.1 hf r hm
    simpa using this
  | some f =>
    have hlt := h f hf
    obtain ⟨_, l1, l2, e, hb⟩ := List.find?_eq_some_iff_append.1 hf
    have hpw := isort_pw swo_rl rs
    rw [e] at hm hpw
    rcases List.mem_append.1 hm with hm | hm
    · have := hb r hm
      simpa using this
    · exfalso
      rcases List.mem_cons.1 hm with rfl | hm
      · rw [← ltOf_rl, swo_rl.irrefl] at hlt; cases hlt
      · have := (List.pairwise_cons.1 (List.pairwise_append.1 hpw).2.1).1 r hm
        rw [ltOf_rl, hlt] at this
        cases this

theorem first_trig {mk : ByteArray → Int} {log : List Chg} {dfr : Bool} {rs : List Rl} {f : Rl} (h : firstOf mk log dfr rs = some f) : trig mk log f = true ∧ f ∈ rs := by
  have h1 := List.find?_some h
  simp only [Bool.and_eq_true] at h1
  exact ⟨h1.2, List.mem_of_find?_eq_some h⟩
end Go.Proofs.Ytkfoknjflpklpaa.D

namespace Go.Proofs.Ytkfoknjflpklpaa.D
open Go Go.RowKit Go.Proofs.Ytkfoknjflpklpaa.Mem

def rawR (v : Value) : Option (DataW Value × List MemPlace) := some (.held v, [])
def sk (s : ByteArray) : Lit := .string s.data.toList
theorem sk_inj {s t : ByteArray} (h : sk s = sk t) : s = t := by
  unfold sk at h
  injection h with h
  cases s; cases t
  simp only at h
  congr 1
  exact Array.toList_inj.1 h
theorem sk_key (s : ByteArray) : Go.WideAt.IsKeyLit (sk s) := trivial
theorem strKeys : Maps.Keyed Try.prog 9 := Maps.string_keyed Try.underlying9
theorem keyOf_sk {s : ByteArray} (h : s.size ≤ maxLen) : keyOf Try.prog 9 (.string s) = some (sk s) := WideMaps.keyOf_string_mk Try.underlying9 h
theorem zero_int (w : World) : (zeroValue 3).run Try.prog w = .ok (.int .i64 0) w := by kernel_rfl

/-- Block b is a map that reads as f. -/
def Marks (w : World) (b n : Nat) (f : ByteArray → Option Int) : Prop := ∃ D, w.ownsMap Try.prog 9 rawR b n D ∧ ∀ s, D.atKey (sk s) (.held (.int .i64 0)) = .held (.int .i64 ((f s).getD 0)) ∧ Maps.has D (sk s) = (f s).isSome
def putM (f : ByteArray → Option Int) (s : ByteArray) (v : Int) : ByteArray → Option Int := fun t => if t = s then some v else f t

theorem Marks.lt {w : World} {b n : Nat} {f : ByteArray → Option Int} (h : Marks w b n f) : b < w.heap.size := by
  obtain ⟨D, h, _⟩ := h
  exact h.lt
theorem Marks.made (w : World) : Marks (w.alloc (.map #[] 0)) w.heap.size 0 (fun _ => none) :=
  ⟨_, World.ownsMap_made w _ _ _, fun _ => ⟨rfl, rfl⟩⟩
theorem Marks.kept {w w' : World} {b n : Nat} {f : ByteArray → Option Int} (h : Marks w b n f) (hm : w'.heap[b]? = w.heap[b]?) : Marks w' b n f := by
  obtain ⟨D, ⟨es, clock, hb, F, hs, hD⟩, hr⟩ := h
  exact ⟨D, ⟨es, clock, hm.trans hb, F, hs, hD⟩, hr⟩
theorem Marks.below {w w' : World} {b n : Nat} {f : ByteArray → Option Int} (h : Marks w b n f) (hb : Below w.heap.size w w') : Marks w' b n f := h.kept (hb.block b h.lt)
theorem Marks.mono {w : World} {b n m : Nat} {f : ByteArray → Option Int} (h : Marks w b n f) (hn : n ≤ m) : Marks w b m f := by
  obtain ⟨D, h1, h2⟩ := h
  exact ⟨D, h1.mono hn, h2⟩

/-- m[s]. -/
theorem Marks.look {w : World} {b n : Nat} {f : ByteArray → Option Int} (h : Marks w b n f) {s : ByteArray} (hs : s.size ≤ maxLen) :
    (Instr.lookup 129 (.map (some b)) (.string s) false).run Try.prog w = .ok (.int .i64 ((f s).getD 0)) w := by
  obtain ⟨D, h1, h2⟩ := h
  obtain ⟨v, ps, hrun, hv⟩ := h1.lookup strKeys Try.underlying129 (zero_int w) (zd := .held (.int .i64 0)) (zp := []) rfl (keyOf_sk hs)
  rw [(h2 s).1] at hv
  simp only [rawR, Option.some.injEq, Prod.mk.injEq, DataW.held.injEq] at hv
  rw [hrun, hv.1]
/-- v, ok := m[s]. -/
theorem Marks.look_ok {w : World} {b n : Nat} {f : ByteArray → Option Int} (h : Marks w b n f) {s : ByteArray} (hs : s.size ≤ maxLen) :
    (Instr.lookup 129 (.map (some b)) (.string s) true).run Try.prog w = .ok (.tuple #[.int .i64 ((f s).getD 0), .bool (f s).isSome]) w := by
  obtain ⟨D, h1, h2⟩ := h
  obtain ⟨v, ps, hrun, hv⟩ := h1.look_ok strKeys Try.underlying129 (zero_int w) (zd := .held (.int .i64 0)) (zp := []) rfl (keyOf_sk hs)
  rw [(h2 s).1] at hv
  simp only [rawR, Option.some.injEq, Prod.mk.injEq, DataW.held.injEq] at hv
  rw [hrun, hv.1, (h2 s).2]
/-- m[s] = v. -/
theorem Marks.store {w : World} {b n : Nat} {f : ByteArray → Option Int} (h : Marks w b n f) (hn : n < maxLen) {s : ByteArray} (hs : s.size ≤ maxLen) (v : Int) :
    ∃ w', (Instr.mapUpdate 129 (.map (some b)) (.string s) (.int .i64 v)).run Try.prog w = .ok () w' ∧ Marks w' b (n + 1) (putM f s v) ∧ w.grownBy w' (some b) := by
  obtain ⟨D, h1, h2⟩ := h
  obtain ⟨w', hrun, h3, h4⟩ := h1.update strKeys Try.underlying129 hn (keyOf_sk hs) (val := .int .i64 v) (d := .held (.int .i64 v)) (ps := []) rfl
  refine ⟨w', hrun, ⟨_, h3, fun t => ?_⟩, h4⟩
  have hM : Maps.IsMap D := by obtain ⟨es, _, _, _, _, e⟩ := h1; exact ⟨_, e⟩
  unfold putM
  by_cases he : t = s
  · subst he
    simp only [if_true, Option.getD_some, Option.isSome_some]
    exact ⟨Maps.atKey_put_same hM (sk_key _) _ _, Maps.has_put_same hM (sk_key _) _⟩
  · simp only [he, if_false]
    have hne : sk t ≠ sk s := fun e => he (sk_inj e)
    rw [Maps.atKey_put_other hne, Maps.has_put_other hne]
    exact h2 t

/-- m[s] = v in a plain region. -/
theorem wpList_mark {ops : Array Oper} {rest : List Oper} {o : Oper} {a : Act} {Q : Exit → Act → World → Prop} {w : World} (hg : o.guard = none) (m x v : Operand) (hop : o.op = Op.mapUpdate 129 m x v)
    {b n : Nat} {f : ByteArray → Option Int} (hm : a.eval m = .map (some b)) (h : Marks w b n f) (hn : n < maxLen) {s : ByteArray} {c : Int} (hx : a.eval x = .string s) (hvv : a.eval v = .int .i64 c) (hs : s.size ≤ maxLen)
    (hK : ∀ w', Marks w' b (n + 1) (putM f s c) → w.grownBy w' (some b) → wpList Try.prog ops Q rest (a.put o.dst undef) w') : wpList Try.prog ops Q (o :: rest) a w := by
  refine wpList_plain hg fun K' hK' => ?_
  obtain ⟨w', hrun, r1, r2⟩ := h.store hn hs c
  unfold Oper.wp
  simp [execOp, hop, hm, hx, hvv, hrun, Result.andThen]
  exact hK' _ _ (hK w' r1 r2)
end Go.Proofs.Ytkfoknjflpklpaa.D
