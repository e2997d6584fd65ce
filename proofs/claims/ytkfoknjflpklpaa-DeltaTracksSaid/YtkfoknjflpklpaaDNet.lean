/- delta.Net. -/
import Derived.Test.YtkfoknjflpklpaaDPure
namespace Go.Proofs.Ytkfoknjflpklpaa.D
open Go Go.RowKit Go.Sort Go.Proofs.Ytkfoknjflpklpaa.Mem Go.Proofs.Ytkfoknjflpklpaa.Cmp Go.Proofs.Ytkfoknjflpklpaa.Stab

/-- Element i of a slice of changes. -/
theorem chgs_get {ok : Nat → Prop} {w : World} {A : Option Addr} {xs : List Chg} (h : Row tChg ok w A xs) (i : Nat) (hi : i < xs.length) :
    ∃ ad v2 v3, A = some ad ∧ w.cell? (ad.add (i * 4)) = some (.string xs[i].table) ∧ w.cell? ⟨(ad.add (i * 4)).block, (ad.add (i * 4)).off + 1, none⟩ = some (.int .i64 xs[i].id) ∧ w.cell? ⟨(ad.add (i * 4)).block, (ad.add (i * 4)).off + 2, none⟩ = some v2 ∧ w.cell? ⟨(ad.add (i * 4)).block, (ad.add (i * 4)).off + 3, none⟩ = some v3 ∧ Sl tVal ok w v2 xs[i].old ∧ Sl tVal ok w v3 xs[i].new ∧ ok ad.block := by
  obtain ⟨ad, cs, rfl, hok, _, ⟨v2, v3, rfl, h2, h3⟩, ha⟩ := h.get i hi
  exact ⟨ad, v2, v3, rfl, At.c0 ha rfl, At.cj ha 1 (by omega) rfl, At.cj ha 2 (by omega) rfl, At.cj ha 3 (by omega) rfl, h2, h3, hok⟩

theorem cell_lt {W : World} {a : Addr} {v : Value} (h : W.cell? a = some v) : a.block < W.heap.size := by
  unfold World.cell? at h
  cases e : W.heap[a.block]? with
  | none => rw [e] at h; simp at h
  | some o => exact (Array.getElem?_eq_some_iff.1 e).1

theorem grown_cell {W : World} {q : Nat} {os : Array Obj} {a : Addr} {v : Value} (h : W.cell? a = some v) : (grow (W.drewN q) os).cell? a = some v := by
  have hlt := cell_lt h
  rw [cell?_grow _ _ _ (by simpa using hlt)]
  simpa using h

theorem Below.growd {N q : Nat} {w wr : World} {os : Array Obj} (h : Below N w wr) (hN : N ≤ wr.heap.size) : Below N w (grow (wr.drewN q) os) := by
  refine h.trans ⟨rfl, rfl, rfl, by simp, fun k hk => ?_⟩
  rw [heap_grow_old _ _ (by simpa using Nat.lt_of_lt_of_le hk hN)]
  simp

theorem take_same {x y : Chg} {l : List Chg} {p : Nat} (hp : 0 < p) (hy : (x :: l)[p]? = some y) (h : ∀ z ∈ l.take (p - 1), x.same z = true) (hs : x.same y = true) : ∀ z ∈ l.take p, x.same z = true := by
  obtain ⟨q, rfl⟩ : ∃ q, p = q + 1 := ⟨p - 1, by omega⟩
  rw [List.getElem?_cons_succ] at hy
  obtain ⟨hq, rfl⟩ := List.getElem?_eq_some_iff.1 hy
  rw [List.take_succ_eq_append_getElem hq]
  intro z hz
  rcases List.mem_append.1 hz with hz | hz
  · exact h z hz
  · rw [List.mem_singleton.1 hz]; exact hs

theorem cloned_R {W : World} {BW N B : Nat} {vo v2 v3 : Value} {cc : Chg} (h1 : N ≤ BW) (h2 : BW ≤ B) (ho : ∀ k, vo.ownBlock = some k → N ≤ k ∧ k < BW) (h3 : Own tVal 55 (fun _ => False) W B v2 cc.old) (h4 : Own tVal 55 (fun _ => False) W B v3 cc.new) (n1 : cc.old.length ≤ 140737488355328) (n2 : cc.new.length ≤ 140737488355328) :
    tChg.R (fun k => N ≤ k ∧ some k ≠ vo.ownBlock) W cc [.string cc.table, .int .i64 cc.id, v2, v3] := by
  have key : ∀ v xs, Own tVal 55 (fun _ => False) W B v xs → xs.length ≤ 140737488355328 → Sl tVal (fun k => N ≤ k ∧ some k ≠ vo.ownBlock) W v xs := fun v xs h hn => h.sl (fun k hk => by
    have hk1 := (h.lt k hk).1
    refine ⟨by omega, fun e => ?_⟩
    have := (ho k e.symm).2
    omega) (fun k hk => hk.elim) hn
  exact ⟨v2, v3, rfl, key _ _ h3 n1, key _ _ h4 n2⟩

theorem net_step {x z : Chg} {l : List Chg} {p q : Nat} (hq : p = q + 1) (hz : (x :: l)[q]? = some z) (h : l.takeWhile x.same = l.take (p - 1) ∧ l.dropWhile x.same = l.drop (p - 1)) :
    netScan (x :: l) = (if Chg.kind { x with new := z.new } = 0 then [] else [{ x with new := z.new }]) ++ netScan ((x :: l).drop p) := by
  subst hq
  rw [Nat.add_sub_cancel] at h
  have e : (x :: l.takeWhile x.same).getLast (by simp) = z := by
    rw [List.getLast_eq_getElem]
    simp only [h.1, List.length_cons, Nat.add_sub_cancel]
    obtain ⟨hlt, rfl⟩ := List.getElem?_eq_some_iff.1 hz
    have hm : min q l.length = q := by simp only [List.length_cons] at hlt; omega
    simp only [List.length_take, hm]
    cases q with
    | zero => rfl
    | succ q => simp
  rw [netScan]
  simp only [e, h.2, List.drop_succ_cons]

theorem while_of {α : Type} (p : α → Bool) : ∀ (n : Nat) (l : List α), (∀ z ∈ l.take n, p z = true) → (∀ y, l[n]? = some y → p y = false) → l.takeWhile p = l.take n ∧ l.dropWhile p = l.drop n
  | _, [], _, _ => by simp
  | 0, y :: l, _, h => by
    have := h y rfl
    simp [this]
  | n + 1, y :: l, h1, h2 => by
    have hy := h1 y (by simp)
    obtain ⟨i1, i2⟩ := while_of p n l (fun z hz => h1 z (by simp [hz])) (fun z hz => h2 z (by simpa using hz))
    simp [hy, i1, i2]

set_option maxHeartbeats 8000000 in
set_option maxRecDepth 100000 in
theorem netCalls (ok : Nat → Prop) (v : Value) (xs : List Chg) (w : World) (h : Sl tChg ok w v xs) (hl : xs.length ≤ 1000) (hb : ∀ x ∈ xs, x.old.length ≤ 1000 ∧ x.new.length ≤ 1000) :
    Calls Try.prog 18 #[v] w fun e w' => ∃ vo, e = .returned vo ∧ Own tChg 40 (fun k => w.heap.size ≤ k) w' w.heap.size vo (net xs) ∧ Below w.heap.size w w' := by
  obtain ⟨A, c, rfl, l1, l2, l3⟩ := h.shape
  have C1 := put (cloneChg ok _ xs w h (by omega))
  have C2 : Kp (∀ w1 v1, Own tChg 40 (fun k => ok k ∧ k < w.heap.size) w1 w.heap.size v1 xs → Calls Try.prog 54 #[v1, .func (.func 55) #[] #[]] w1 fun e w' => e = .returned (.tuple #[]) ∧ Own tChg 40 (fun k => ok k ∧ k < w.heap.size) w' w.heap.size v1 (isort (ltOf chgCmp) xs) ∧ w1.grownBy w' v1.ownBlock) := ⟨fun w1 v1 ho => by
    refine StabChg.sortOwn tChg rfl _ w1 _ v1 xs ho chgCmp swo_chg 55 #[] (fun args w => by rfl) (fun x y cx cy W hx hy => ?_) (by omega)
    obtain ⟨a2, a3, rfl, _, _⟩ := hx
    obtain ⟨b2, b3, rfl, _, _⟩ := hy
    exact beforeCalls _ _ _ _ _ _ _ _ W⟩
  have HN : Kp (netScan (isort (ltOf chgCmp) xs) = net xs) := ⟨rfl⟩
  have HL := put hl
  have HB : Kp (∀ x ∈ isort (ltOf chgCmp) xs, x.old.length ≤ 1000 ∧ x.new.length ≤ 1000) := ⟨fun x hx => hb x ((isort_perm xs).subset hx)⟩
  have HP : Kp ((isort (ltOf chgCmp) xs).length = xs.length) := ⟨(isort_perm xs).length_eq⟩
  clear hb h hl
  generalize isort (ltOf chgCmp) xs = ys at C2 HN HB HP
  go_enter Try.func18, Try.ntmps18
  go_wp2_with (first | (go_at_call 53; refine C1.out.mono ?_; rintro e w1 ⟨A1, c1, rfl, ho1, hb1⟩; have C2' := put (C2.out w1 _ ho1)) | (go_at_call 54; refine C2'.out.mono ?_; rintro e w2 ⟨rfl, ho2, hg2⟩))
  have hB : Below w.heap.size w w2 := hb1.grown hg2 hb1.size (fun k hk => (ho1.lt k hk).1)
  have hS : Sl tChg (fun k => k < w2.heap.size) w2 (.slice A1 xs.length c1) ys := ho2.sl (fun k hk => (ho2.lt k hk).2) (fun k hk => Nat.lt_of_lt_of_le hk.2 hB.size) (by have := HL.out; have := HP.out; omega)
  have HBW := put hB
  have HS := put hS
  rw [show xs.length = ys.length from HP.out.symm] at HS ⊢
  have hlen : ys.length ≤ 1000 := by rw [HP.out]; exact HL.out
  clear hS hB ho2 ho1 hb1 hg2 C2' C2 C1 HP
  obtain ⟨N, hN⟩ : ∃ N, N = w2.heap.size := ⟨_, rfl⟩
  rw [← hN] at HS
  have HNN := put hN
  clear hN
  go_loopg [3, 4] ys.length (fun kx s3 s4 wr => ∃ (A' : Option Addr) (m c' : Nat) (rest : List Chg) (Ao : Option Addr) (mo co : Nat) (out : List Chg), s3 = .slice A' m c' ∧ s4 = .slice Ao mo co ∧ m ≤ kx ∧ m = rest.length ∧ mo = out.length ∧ Kp (Sl tChg (fun k => k < N) wr (.slice A' m c') rest) ∧ Kp (Own tChg 40 (fun k => N ≤ k) wr N (.slice Ao mo co) out) ∧ Kp (Below N w2 wr) ∧ Kp (out ++ netScan rest = net xs) ∧ Kp (∀ x ∈ rest, x.old.length ≤ 1000 ∧ x.new.length ≤ 1000) ∧ m + mo ≤ 1000)
  case atStart => exact ⟨_, _, _, ys, none, 0, 0, [], rfl, rfl, Nat.le_refl _, rfl, rfl, HS, put (Own.nil _ _ _ _ _), put (by rw [HNN.out]; exact Below.refl _ _), put (by simpa using HN.out), HB, by simpa using hlen⟩
  case round =>
    obtain ⟨A', m, c', rest, Ao, mo, co, out, rfl, rfl, hkx, hm, hmo, KS, KO, KB, KN, KE, hro⟩ := hrel
    clear HS HN HB
    cases rest with
    | nil =>
      obtain rfl : m = 0 := hm
      go_wp2
      go_ret
      have e : out = net xs := by have := KN.out; rw [netScan, List.append_nil] at this; exact this
      have hbw := HBW.out
      have hle : w.heap.size ≤ N := by rw [HNN.out]; exact hbw.size
      rw [← e]
      refine ⟨_, rfl, (KO.out.lower hle).mono (fun k hk => Nat.le_trans hle hk), hbw.trans (KB.out.mono hle)⟩
    | cons x l =>
      have hpos : 0 < m := by rw [hm]; simp
      have hpd : decide (0 < m) = true := by simp [hpos]
      have HM := put hm
      have HMO := put hmo
      clear hm hmo
      go_wp2
      obtain ⟨wo, rfl⟩ : ∃ wo : World, wo = wr := ⟨_, rfl⟩
      go_loopg [5] l.length (fun kx s5 wi => ∃ (p : Nat), s5 = .int .i64 p ∧ 0 < p ∧ p ≤ m ∧ m - p ≤ kx ∧ Kp (Below wo.heap.size wo wi) ∧ Kp (∀ y ∈ l.take (p - 1), x.same y = true))
      case atStart => exact ⟨1, rfl, by decide, by omega, by rw [HM.out]; simp, put (Below.refl _ _), put (by simp)⟩
      case round =>
        obtain ⟨p, rfl, hp, hpm, hkx2, hbi, hsm⟩ := hrel
        have KSi : Sl tChg (fun k => k < N) wr (.slice A' m c') (x :: l) := KS.out.below hbi.out
        by_cases hlt : p < m
        · have hlz : (p : Int) < (m : Int) := by omega
          have i0 : (0 : Int) ≤ (p : Int) := by omega
          have i1 : (0 : Int) < (m : Int) := by omega
          obtain ⟨ad, y2, y3, rfl, cy0, cy1, cy2, cy3, _, _, _⟩ := chgs_get KSi.row.1 p (by rw [← HM.out]; exact hlt)
          obtain ⟨ad', x2, x3, e, cx0, cx1, cx2, cx3, _, _, _⟩ := chgs_get KSi.row.1 0 (by simp)
          obtain rfl := Option.some.inj e
          simp only [Nat.zero_mul, add_zero, List.getElem_cons_zero] at cx0 cx1 cx2 cx3
          obtain ⟨y, hy⟩ : ∃ y, (x :: l)[p]? = some y := ⟨_, List.getElem?_eq_getElem (by rw [← HM.out]; exact hlt)⟩
          rw [(List.getElem?_eq_some_iff.1 hy).2] at cy0 cy1
          have HY := put hy
          clear hy e KSi
          by_cases hs : x.same y = true
          · have hc : (cmpRow y.table y.id x.table x.id == 0) = true := by rw [beq_iff_eq]; exact (chgCmp_eq y x).2 (Chg.same_symm hs)
            have HS := put hs
            clear hs
            go_wp2
            go_region_held3 (fun w' => w'.cell? ad = some (.string x.table) ∧ w'.cell? ⟨ad.block, ad.off + 1, none⟩ = some (.int .i64 x.id) ∧ w'.cell? ⟨ad.block, ad.off + 2, none⟩ = some x2 ∧ w'.cell? ⟨ad.block, ad.off + 3, none⟩ = some x3 ∧ w'.cell? (ad.add (p * 4)) = some (.string y.table) ∧ w'.cell? ⟨(ad.add (p * 4)).block, (ad.add (p * 4)).off + 1, none⟩ = some (.int .i64 y.id) ∧ w'.cell? ⟨(ad.add (p * 4)).block, (ad.add (p * 4)).off + 2, none⟩ = some y2 ∧ w'.cell? ⟨(ad.add (p * 4)).block, (ad.add (p * 4)).off + 3, none⟩ = some y3) (first | go_keep | exact ⟨grown_cell cx0, grown_cell cx1, grown_cell cx2, grown_cell cx3, grown_cell cy0, grown_cell cy1, grown_cell cy2, grown_cell cy3⟩)
              (first | (go_at_call 55; refine (beforeCalls _ _ _ _ _ _ _ _ _).mono ?_; rintro e w' ⟨rfl, q, os, rfl⟩))
            go_wp2
            go_roundg (m - (p + 1))
            case measure => omega
            case rel => exact ⟨p + 1, by go_num, by omega, by omega, Nat.le_refl _, put (Below.growd hbi.out hbi.out.size), put (take_same hp HY.out hsm.out HS.out)⟩
          · have hc : (cmpRow y.table y.id x.table x.id == 0) = false := by rw [beq_eq_false_iff_ne]; intro e; exact hs (Chg.same_symm ((chgCmp_eq y x).1 e))
            have HW : Kp (l.takeWhile x.same = l.take (p - 1) ∧ l.dropWhile x.same = l.drop (p - 1)) := ⟨while_of _ _ _ hsm.out (fun z hz => by
              have h1 := HY.out
              obtain ⟨q, rfl⟩ : ∃ q, p = q + 1 := ⟨p - 1, by omega⟩
              rw [List.getElem?_cons_succ] at h1
              rw [Nat.add_sub_cancel, h1] at hz
              injection hz with hz
              rw [← hz]
              simpa using hs)⟩
            clear hs
            go_wp2
            go_region_held3 (fun w' => w'.cell? ad = some (.string x.table) ∧ w'.cell? ⟨ad.block, ad.off + 1, none⟩ = some (.int .i64 x.id) ∧ w'.cell? ⟨ad.block, ad.off + 2, none⟩ = some x2 ∧ w'.cell? ⟨ad.block, ad.off + 3, none⟩ = some x3 ∧ w'.cell? (ad.add (p * 4)) = some (.string y.table) ∧ w'.cell? ⟨(ad.add (p * 4)).block, (ad.add (p * 4)).off + 1, none⟩ = some (.int .i64 y.id) ∧ w'.cell? ⟨(ad.add (p * 4)).block, (ad.add (p * 4)).off + 2, none⟩ = some y2 ∧ w'.cell? ⟨(ad.add (p * 4)).block, (ad.add (p * 4)).off + 3, none⟩ = some y3) (first | go_keep | exact ⟨grown_cell cx0, grown_cell cx1, grown_cell cx2, grown_cell cx3, grown_cell cy0, grown_cell cy1, grown_cell cy2, grown_cell cy3⟩)
              (first | (go_at_call 55; refine (beforeCalls _ _ _ _ _ _ _ _ _).mono ?_; rintro e w' ⟨rfl, q, os, rfl⟩))
            obtain ⟨w3, hw3⟩ : ∃ w3, w3 = grow (wr.drewN (1 + q)) os := ⟨_, rfl⟩
            rw [← hw3]
            have hb3 : Below wo.heap.size wo w3 := by rw [hw3]; exact Below.growd hbi.out hbi.out.size
            clear hw3 cx0 cx1 cx2 cx3 cy0 cy1 cy2 cy3
            have K3 : Sl tChg (fun k => k < N) w3 (.slice (some ad) m c') (x :: l) := KS.out.below hb3
            obtain ⟨q, hq⟩ : ∃ q, p = q + 1 := ⟨p - 1, by omega⟩
            have hq1 : (p : Int) - 1 = (q : Int) := by omega
            have q0 : (0 : Int) ≤ (q : Int) := by omega
            have q1 : (q : Int) < (m : Int) := by omega
            obtain ⟨ad1, x2, x3, e1, cx0, cx1, cx2, cx3, sx2, sx3, _⟩ := chgs_get K3.row.1 0 (by simp)
            obtain rfl := Option.some.inj e1
            simp only [Nat.zero_mul, add_zero, List.getElem_cons_zero] at cx0 cx1 cx2 cx3 sx2 sx3
            obtain ⟨ad2, z2, z3, e2, cz0, cz1, cz2, cz3, sz2, sz3, _⟩ := chgs_get K3.row.1 q (by rw [← HM.out]; omega)
            obtain rfl := Option.some.inj e2
            obtain ⟨z, hz⟩ : ∃ z, (x :: l)[q]? = some z := ⟨_, List.getElem?_eq_getElem (by rw [← HM.out]; omega)⟩
            rw [(List.getElem?_eq_some_iff.1 hz).2] at cz0 cz1 sz2 sz3
            have HNS := put (net_step hq hz HW.out)
            have bx := (KE.out x (by simp)).1
            have bz := (KE.out z (List.mem_of_getElem? hz)).2
            have HZ := put (And.intro hz hq)
            have BX := put (And.intro bx bz)
            obtain ⟨X2, k2, rfl, gx2, _, _⟩ := sx2.shape
            obtain ⟨X3, k3, rfl, gx3, _, _⟩ := sx3.shape
            obtain ⟨Z3, kz, rfl, gz3, _, _⟩ := sz3.shape
            have SX := put sx2
            have SZ := put sz3
            have HB3 := put hb3
            clear e1 e2 sx2 sx3 sz2 sz3 hz hq bx bz K3 hb3
            obtain ⟨cc, hcc⟩ : ∃ cc : Chg, cc = { x with new := z.new } := ⟨_, rfl⟩
            have HC := put hcc
            rw [← hcc] at HNS
            have hNo : N ≤ wo.heap.size := by rw [HNN.out]; exact KB.out.size
            have RC : Kp (∀ w', Below w3.heap.size w3 w' → tChg.R (fun k => k < N) w' cc [.string x.table, .int .i64 x.id, .slice X2 x.old.length k2, .slice Z3 z.new.length kz]) := ⟨fun w' hb => ⟨_, _, by rw [hcc], by rw [hcc]; exact SX.out.below hb, by rw [hcc]; exact SZ.out.below hb⟩⟩
            have cz : ∀ o, (w3.alloc o).cell? ⟨(ad.add (q * 4)).block, (ad.add (q * 4)).off + 3, none⟩ = some (.slice Z3 z.new.length kz) := fun o => (((Below.refl _ _).alloc (Nat.le_refl _) o).cell (p := ⟨(ad.add (q * 4)).block, (ad.add (q * 4)).off + 3, none⟩) (cell_lt cz3)).trans cz3
            clear hcc cz0 cz1 cz2 cz3
            by_cases hkd : cc.kind = 0
            · have hk2 : (cc.kind != 0) = false := by simp [hkd]
              have HK := put hkd
              clear hkd
              go_wp2_with (first | (go_at_call 20; refine (kindCalls (fun k => k < N) cc [.string x.table, .int .i64 x.id, .slice X2 x.old.length k2, .slice Z3 z.new.length kz] _ (RC.out _ ((Below.refl _ _).alloc (Nat.le_refl _) _))).mono ?_; rintro e w5 ⟨rfl, hb5⟩))
              all_goals
                have hb6 : Below wo.heap.size wo w5 := HB3.out.trans ((((Below.refl _ _).alloc (Nat.le_refl _) _).trans (hb5.mono (by simp))).mono HB3.out.size)
                go_roundg (m - p)
                case measure => omega
                case rel =>
                  have h := (KS.out.below hb6).drop (n := p) hpm
                  refine ⟨_, m - p, _, (x :: l).drop p, _, _, _, out, rfl, rfl, Nat.le_refl _, by rw [List.length_drop, ← HM.out], by first | exact HMO.out | simp [HMO.out], put ?_, put (KO.out.below hb6), put (KB.out.trans (hb6.mono hNo)), put ?_, put (fun z hz => KE.out z (List.mem_of_mem_drop hz)), by omega⟩
                  · first
                    | (have hcp : c' = p := by omega
                       subst hcp
                       rw [if_pos rfl, Nat.sub_self] at h
                       exact h)
                    | (have hcp : c' ≠ p := by omega
                       rw [if_neg hcp] at h
                       exact h)
                  · rw [← KN.out, HNS.out, if_pos HK.out]; simp
            · have hk2 : (cc.kind != 0) = true := by simp [hkd]
              have HK := put hkd
              clear hkd
              go_wp2_with (first | (go_at_call 20; refine (kindCalls (fun k => k < N) cc [.string x.table, .int .i64 x.id, .slice X2 x.old.length k2, .slice Z3 z.new.length kz] _ (RC.out _ ((Below.refl _ _).alloc (Nat.le_refl _) _))).mono ?_; rintro e w5 ⟨rfl, hb5⟩; have d0 := (hb5.cell (p := ⟨w3.heap.size, 0, none⟩) (by simp)); have d1 := (hb5.cell (p := ⟨w3.heap.size, 1, none⟩) (by simp)); have d2 := (hb5.cell (p := ⟨w3.heap.size, 2, none⟩) (by simp)); have d3 := (hb5.cell (p := ⟨w3.heap.size, 3, none⟩) (by simp)); simp at d0 d1 d2 d3; have HB5 := put hb5; clear hb5) | (go_at_call 56; have hbo : Below wo.heap.size wo w5 := HB3.out.trans ((((Below.refl _ _).alloc (Nat.le_refl _) _).trans (HB5.out.mono (by simp))).mono HB3.out.size); refine (cloneCalls (fun k => k < N) cc [.string x.table, .int .i64 x.id, .slice X2 x.old.length k2, .slice Z3 z.new.length kz] w5 (RC.out _ (((Below.refl _ _).alloc (Nat.le_refl _) _).trans (HB5.out.mono (by simp)))) (by rw [HC.out]; exact BX.out.1) (by rw [HC.out]; exact BX.out.2)).mono ?_; rintro e w6 ⟨v2, v3, rfl, ho2, ho3, _, hb6⟩; have HO2 := put ho2; have HO3 := put ho3; have HBO := put (hbo.trans (hb6.mono hbo.size)); have HB65 := put hb6; have HP : Kp (tChg.R (fun k => N ≤ k ∧ some k ≠ (Value.slice Ao mo co).ownBlock) w6 cc [.string cc.table, .int .i64 cc.id, v2, v3]) := put (cloned_R (BW := wo.heap.size) hNo hbo.size KO.out.lt ho2 ho3 (by rw [HC.out]; have := BX.out.1; simp only; omega) (by rw [HC.out]; have := BX.out.2; simp only; omega)); obtain ⟨V2, c22, e22, _, _⟩ := ho2.form; obtain ⟨V3, c33, e33, _, _⟩ := ho3.form; have HOW := put (KO.out.below HBO.out); subst e22; subst e33; clear ho2 ho3 hbo hb6 HO2 HO3) | (at_builtin; refine wpList_push tChg N rfl _ _ 27 40 _ 72 rfl Try.underlying27 infoChg rfl (by decide) (by decide) (.slice Ao mo co) out cc [.string cc.table, .int .i64 cc.id, .slice V2 cc.old.length c22, .slice V3 cc.new.length c33] (fun k => N ≤ k) rfl rfl HP.out HOW.out (Nat.le_trans hNo HBO.out.size) (by rw [← HMO.out]; omega) ?_; intro v1 w7 hown hg hat; obtain ⟨A9, c9, e9, _, _⟩ := hown.form; rw [show (out ++ [cc]).length = mo + 1 by rw [HMO.out]; simp] at e9; subst e9; have hb7 : Below N wo w7 := (HBO.out.mono hNo).grown hg (Nat.le_trans hNo HBO.out.size) (fun k hk => (HOW.out.lt k hk).1); have HB7 := put hb7; have HOWN := put hown; clear hown hg hat hb7))
              all_goals
                have hb7 := HB7.out
                go_roundg (m - p)
                case measure => omega
                case rel =>
                  have h := (KS.out.below' hb7 (fun k hk => hk)).drop (n := p) hpm
                  refine ⟨_, m - p, _, (x :: l).drop p, _, _, _, out ++ [cc], rfl, by go_num, Nat.le_refl _, by rw [List.length_drop, ← HM.out], by first | exact HMO.out | simp [HMO.out], put ?_, put HOWN.out, put (KB.out.trans hb7), put ?_, put (fun z hz => KE.out z (List.mem_of_mem_drop hz)), by omega⟩
                  · first
                    | (have hcp : c' = p := by omega
                       subst hcp
                       rw [if_pos rfl, Nat.sub_self] at h
                       exact h)
                    | (have hcp : c' ≠ p := by omega
                       rw [if_neg hcp] at h
                       exact h)
                  · rw [← KN.out, HNS.out, if_neg HK.out]; simp
        · obtain ⟨ad, _, _, rfl, _⟩ := chgs_get KSi.row.1 0 (by simp)
          have hlz : ((p : Int) < (m : Int)) = False := by simp; omega
          have HW : Kp (l.takeWhile x.same = l.take (p - 1) ∧ l.dropWhile x.same = l.drop (p - 1)) := ⟨while_of _ _ _ hsm.out (fun z hz => by
            rw [List.getElem?_eq_none (by have := HM.out; simp only [List.length_cons] at this; omega)] at hz
            cases hz)⟩
          clear KSi
          go_wp2_with fail
          go_quiet (fail)
          obtain ⟨w3, hw3⟩ : ∃ w3, w3 = wr.drewN nq := ⟨_, rfl⟩
          rw [← hw3]
          have hb3 : Below wo.heap.size wo w3 := by rw [hw3]; exact hbi.out.trans ⟨rfl, rfl, rfl, by simp, fun k _ => by simp⟩
          clear hw3
          have K3 : Sl tChg (fun k => k < N) w3 (.slice (some ad) m c') (x :: l) := KS.out.below hb3
          obtain ⟨q, hq⟩ : ∃ q, p = q + 1 := ⟨p - 1, by omega⟩
          have hq1 : (p : Int) - 1 = (q : Int) := by omega
          have q0 : (0 : Int) ≤ (q : Int) := by omega
          have q1 : (q : Int) < (m : Int) := by omega
          obtain ⟨ad1, x2, x3, e1, cx0, cx1, cx2, cx3, sx2, sx3, _⟩ := chgs_get K3.row.1 0 (by simp)
          obtain rfl := Option.some.inj e1
          simp only [Nat.zero_mul, add_zero, List.getElem_cons_zero] at cx0 cx1 cx2 cx3 sx2 sx3
          obtain ⟨ad2, z2, z3, e2, cz0, cz1, cz2, cz3, sz2, sz3, _⟩ := chgs_get K3.row.1 q (by rw [← HM.out]; omega)
          obtain rfl := Option.some.inj e2
          obtain ⟨z, hz⟩ : ∃ z, (x :: l)[q]? = some z := ⟨_, List.getElem?_eq_getElem (by rw [← HM.out]; omega)⟩
          rw [(List.getElem?_eq_some_iff.1 hz).2] at cz0 cz1 sz2 sz3
          have HNS := put (net_step hq hz HW.out)
          have bx := (KE.out x (by simp)).1
          have bz := (KE.out z (List.mem_of_getElem? hz)).2
          have HZ := put (And.intro hz hq)
          have BX := put (And.intro bx bz)
          obtain ⟨X2, k2, rfl, gx2, _, _⟩ := sx2.shape
          obtain ⟨X3, k3, rfl, gx3, _, _⟩ := sx3.shape
          obtain ⟨Z3, kz, rfl, gz3, _, _⟩ := sz3.shape
          have SX := put sx2
          have SZ := put sz3
          have HB3 := put hb3
          clear e1 e2 sx2 sx3 sz2 sz3 hz hq bx bz K3 hb3
          obtain ⟨cc, hcc⟩ : ∃ cc : Chg, cc = { x with new := z.new } := ⟨_, rfl⟩
          have HC := put hcc
          rw [← hcc] at HNS
          have hNo : N ≤ wo.heap.size := by rw [HNN.out]; exact KB.out.size
          have RC : Kp (∀ w', Below w3.heap.size w3 w' → tChg.R (fun k => k < N) w' cc [.string x.table, .int .i64 x.id, .slice X2 x.old.length k2, .slice Z3 z.new.length kz]) := ⟨fun w' hb => ⟨_, _, by rw [hcc], by rw [hcc]; exact SX.out.below hb, by rw [hcc]; exact SZ.out.below hb⟩⟩
          have cz : ∀ o, (w3.alloc o).cell? ⟨(ad.add (q * 4)).block, (ad.add (q * 4)).off + 3, none⟩ = some (.slice Z3 z.new.length kz) := fun o => (((Below.refl _ _).alloc (Nat.le_refl _) o).cell (p := ⟨(ad.add (q * 4)).block, (ad.add (q * 4)).off + 3, none⟩) (cell_lt cz3)).trans cz3
          clear hcc cz0 cz1 cz2 cz3
          by_cases hkd : cc.kind = 0
          · have hk2 : (cc.kind != 0) = false := by simp [hkd]
            have HK := put hkd
            clear hkd
            go_wp2_with (first | (go_at_call 20; refine (kindCalls (fun k => k < N) cc [.string x.table, .int .i64 x.id, .slice X2 x.old.length k2, .slice Z3 z.new.length kz] _ (RC.out _ ((Below.refl _ _).alloc (Nat.le_refl _) _))).mono ?_; rintro e w5 ⟨rfl, hb5⟩))
            all_goals
              have hb6 : Below wo.heap.size wo w5 := HB3.out.trans ((((Below.refl _ _).alloc (Nat.le_refl _) _).trans (hb5.mono (by simp))).mono HB3.out.size)
              go_roundg (m - p)
              case measure => omega
              case rel =>
                have h := (KS.out.below hb6).drop (n := p) hpm
                refine ⟨_, m - p, _, (x :: l).drop p, _, _, _, out, rfl, rfl, Nat.le_refl _, by rw [List.length_drop, ← HM.out], by first | exact HMO.out | simp [HMO.out], put ?_, put (KO.out.below hb6), put (KB.out.trans (hb6.mono hNo)), put ?_, put (fun z hz => KE.out z (List.mem_of_mem_drop hz)), by omega⟩
                · first
                  | (have hcp : c' = p := by omega
                     subst hcp
                     rw [if_pos rfl, Nat.sub_self] at h
                     exact h)
                  | (have hcp : c' ≠ p := by omega
                     rw [if_neg hcp] at h
                     exact h)
                · rw [← KN.out, HNS.out, if_pos HK.out]; simp
          · have hk2 : (cc.kind != 0) = true := by simp [hkd]
            have HK := put hkd
            clear hkd
            go_wp2_with (first | (go_at_call 20; refine (kindCalls (fun k => k < N) cc [.string x.table, .int .i64 x.id, .slice X2 x.old.length k2, .slice Z3 z.new.length kz] _ (RC.out _ ((Below.refl _ _).alloc (Nat.le_refl _) _))).mono ?_; rintro e w5 ⟨rfl, hb5⟩; have d0 := (hb5.cell (p := ⟨w3.heap.size, 0, none⟩) (by simp)); have d1 := (hb5.cell (p := ⟨w3.heap.size, 1, none⟩) (by simp)); have d2 := (hb5.cell (p := ⟨w3.heap.size, 2, none⟩) (by simp)); have d3 := (hb5.cell (p := ⟨w3.heap.size, 3, none⟩) (by simp)); simp at d0 d1 d2 d3; have HB5 := put hb5; clear hb5) | (go_at_call 56; have hbo : Below wo.heap.size wo w5 := HB3.out.trans ((((Below.refl _ _).alloc (Nat.le_refl _) _).trans (HB5.out.mono (by simp))).mono HB3.out.size); refine (cloneCalls (fun k => k < N) cc [.string x.table, .int .i64 x.id, .slice X2 x.old.length k2, .slice Z3 z.new.length kz] w5 (RC.out _ (((Below.refl _ _).alloc (Nat.le_refl _) _).trans (HB5.out.mono (by simp)))) (by rw [HC.out]; exact BX.out.1) (by rw [HC.out]; exact BX.out.2)).mono ?_; rintro e w6 ⟨v2, v3, rfl, ho2, ho3, _, hb6⟩; have HO2 := put ho2; have HO3 := put ho3; have HBO := put (hbo.trans (hb6.mono hbo.size)); have HB65 := put hb6; have HP : Kp (tChg.R (fun k => N ≤ k ∧ some k ≠ (Value.slice Ao mo co).ownBlock) w6 cc [.string cc.table, .int .i64 cc.id, v2, v3]) := put (cloned_R (BW := wo.heap.size) hNo hbo.size KO.out.lt ho2 ho3 (by rw [HC.out]; have := BX.out.1; simp only; omega) (by rw [HC.out]; have := BX.out.2; simp only; omega)); obtain ⟨V2, c22, e22, _, _⟩ := ho2.form; obtain ⟨V3, c33, e33, _, _⟩ := ho3.form; have HOW := put (KO.out.below HBO.out); subst e22; subst e33; clear ho2 ho3 hbo hb6 HO2 HO3) | (at_builtin; refine wpList_push tChg N rfl _ _ 27 40 _ 72 rfl Try.underlying27 infoChg rfl (by decide) (by decide) (.slice Ao mo co) out cc [.string cc.table, .int .i64 cc.id, .slice V2 cc.old.length c22, .slice V3 cc.new.length c33] (fun k => N ≤ k) rfl rfl HP.out HOW.out (Nat.le_trans hNo HBO.out.size) (by rw [← HMO.out]; omega) ?_; intro v1 w7 hown hg hat; obtain ⟨A9, c9, e9, _, _⟩ := hown.form; rw [show (out ++ [cc]).length = mo + 1 by rw [HMO.out]; simp] at e9; subst e9; have hb7 : Below N wo w7 := (HBO.out.mono hNo).grown hg (Nat.le_trans hNo HBO.out.size) (fun k hk => (HOW.out.lt k hk).1); have HB7 := put hb7; have HOWN := put hown; clear hown hg hat hb7))
            all_goals
              have hb7 := HB7.out
              go_roundg (m - p)
              case measure => omega
              case rel =>
                have h := (KS.out.below' hb7 (fun k hk => hk)).drop (n := p) hpm
                refine ⟨_, m - p, _, (x :: l).drop p, _, _, _, out ++ [cc], rfl, by go_num, Nat.le_refl _, by rw [List.length_drop, ← HM.out], by first | exact HMO.out | simp [HMO.out], put ?_, put HOWN.out, put (KB.out.trans hb7), put ?_, put (fun z hz => KE.out z (List.mem_of_mem_drop hz)), by omega⟩
                · first
                  | (have hcp : c' = p := by omega
                     subst hcp
                     rw [if_pos rfl, Nat.sub_self] at h
                     exact h)
                  | (have hcp : c' ≠ p := by omega
                     rw [if_neg hcp] at h
                     exact h)
                · rw [← KN.out, HNS.out, if_neg HK.out]; simp

end Go.Proofs.Ytkfoknjflpklpaa.D
