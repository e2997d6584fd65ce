/- The document's net effect. -/
import Derived.Test.YtkfoknjflpklpaaDR21
namespace Go.Proofs.Ytkfoknjflpklpaa.D
open Go Go.RowKit Go.Proofs.Ytkfoknjflpklpaa.Mem Go.Proofs.Ytkfoknjflpklpaa.Cmp
-- helpers: DRefB

set_option maxHeartbeats 16000000 in
set_option maxRecDepth 100000 in
theorem refNetCalls (ok : Nat → Prop) (v : Value) (xs : List Chg) (w : World) (h : Sl tChg ok w v xs) (hl : xs.length ≤ 1000) :
    Calls Try.prog 23 #[v] w fun e w' => ∃ vo, e = .returned vo ∧ Own tChg 43 (fun _ => True) w' w.heap.size vo (refNet xs) ∧ Below w.heap.size w w' := by
  obtain ⟨A, c, rfl, l1, l2, l3⟩ := h.shape
  have KS := put h
  obtain ⟨m, hm⟩ : ∃ m, m = xs.length := ⟨_, rfl⟩
  have hm1000 : m ≤ 1000 := by omega
  rw [← hm] at l1 l3 KS ⊢
  have HM := put hm
  clear h hm hl
  go_enter Try.func23, Try.ntmps23
  go_wp2_with fail
  go_loopg [3, 4] m (fun kx s3 s4 wr => ∃ (i mo co : Nat) (ga : Addr), s3 = .slice (some ga) mo co ∧ s4 = .int .i64 i ∧ i ≤ m ∧ mo ≤ i ∧ mo ≤ co ∧ m - i ≤ kx ∧ Kp (mo = (refOuts xs i).length) ∧ Kp (Own tChg 43 (fun _ => True) wr w.heap.size (.slice (some ga) mo co) (refOuts xs i)) ∧ Kp (Below w.heap.size w wr))
  case atStart => exact ⟨0, 0, 0, _, rfl, rfl, Nat.zero_le _, Nat.le_refl _, Nat.le_refl _, Nat.le_refl _, put rfl, put (Own.lit _ _ _ _), put ((Below.refl _ _).alloc (Nat.le_refl _) _)⟩
  case round =>
    obtain ⟨i, mo, co, ga, rfl, rfl, hi, hmi, hmc, hkx, HMO, KO, KB⟩ := hrel
    by_cases hlt : i < m
    · have hlz : (i : Int) < (m : Int) := by omega
      have i0 : (0 : Int) ≤ (i : Int) := by omega
      have KSw := put (KS.out.elder KB.out)
      obtain ⟨ad, x, A2, k2, A3, k3, rfl, hx, x0, x1, x2, x3, KR, had⟩ := chgs_at KSw.out.row.1 i (by rw [← HM.out]; exact hlt)
      have KX := put hx
      have HST := put (refOuts_succ hx)
      clear hx
      go_wp2_with fail
      obtain ⟨wo, rfl⟩ : ∃ wo : World, wo = wr := ⟨_, rfl⟩
      go_loopg [5, 6] i (fun kx s5 s6 wi => ∃ (b : Bool) (k : Nat), s5 = .bool b ∧ s6 = .int .i64 k ∧ k ≤ i ∧ i - k ≤ kx ∧ Kp (b = (xs.take k).all (fun y => !y.same x)) ∧ Kp (∃ q, wi = wo.drewN q))
      case atStart => exact ⟨true, 0, rfl, rfl, Nat.zero_le _, Nat.le_refl _, put (by simp), put ⟨0, rfl⟩⟩
      case round =>
        obtain ⟨b, k, rfl, rfl, hk, hkx2, HBk, HQ⟩ := hrel
        have X0 : wr.cell? (ad.add (i * 4)) = some (.string x.table) := by obtain ⟨q, e⟩ := HQ.out; rw [e]; simpa using x0
        have X1 : wr.cell? ⟨(ad.add (i * 4)).block, (ad.add (i * 4)).off + 1, none⟩ = some (.int .i64 x.id) := by obtain ⟨q, e⟩ := HQ.out; rw [e]; simpa using x1
        by_cases hlt2 : k < i
        · have hlz2 : (k : Int) < (i : Int) := by omega
          have k0 : (0 : Int) ≤ (k : Int) := by omega
          have k1 : (k : Int) < (m : Int) := by omega
          obtain ⟨ad2, y, _, _, _, _, e2, hy, y0, y1, _, _, _, _⟩ := chgs_at KSw.out.row.1 k (by rw [← HM.out]; omega)
          obtain rfl := Option.some.inj e2
          have Y0 : wr.cell? (ad.add (k * 4)) = some (.string y.table) := by obtain ⟨q, e⟩ := HQ.out; rw [e]; simpa using y0
          have Y1 : wr.cell? ⟨(ad.add (k * 4)).block, (ad.add (k * 4)).off + 1, none⟩ = some (.int .i64 y.id) := by obtain ⟨q, e⟩ := HQ.out; rw [e]; simpa using y1
          have HNB : Kp ((xs.take (k + 1)).all (fun z => !z.same x) = (b && !y.same x)) := ⟨by rw [take_one_more hy, List.all_append, HBk.out]; simp⟩
          have HSB := put (same_b x y)
          clear e2 hy x0 x1 x2 x3 y0 y1
          cases b with
          | false =>
            go_wp2_with fail
            go_quiet (fail)
            go_wp2_with fail
            go_roundg (i - (k + 1))
            case measure => omega
            case rel => exact ⟨false, k + 1, by go_num, by go_num, by omega, Nat.le_refl _, put (by rw [HNB.out]; rfl), put (by obtain ⟨q, e⟩ := HQ.out; rw [e]; exact ⟨_, World.drewN_drewN _ _ _⟩)⟩
          | true =>
            cases z1 : (y.table.toList == x.table.toList) with
            | false =>
              have hs : y.same x = false := by rw [← HSB.out, z1]; rfl
              have HS := put hs
              clear hs
              go_wp2_with fail
              go_quiet (fail)
              go_wp2_with fail
              go_roundg (i - (k + 1))
              case measure => omega
              case rel => exact ⟨true, k + 1, by go_num, by go_num, by omega, Nat.le_refl _, put (by rw [HNB.out, HS.out]; rfl), put (by obtain ⟨q, e⟩ := HQ.out; rw [e]; exact ⟨_, World.drewN_drewN _ _ _⟩)⟩
            | true =>
              cases z2 : (y.id == x.id) with
              | false =>
                have hs : y.same x = false := by rw [← HSB.out, z1, z2]; rfl
                have HS := put hs
                clear hs
                go_wp2_with fail
                go_quiet (fail)
                go_wp2_with fail
                go_roundg (i - (k + 1))
                case measure => omega
                case rel => exact ⟨true, k + 1, by go_num, by go_num, by omega, Nat.le_refl _, put (by rw [HNB.out, HS.out]; rfl), put (by obtain ⟨q, e⟩ := HQ.out; rw [e]; exact ⟨_, World.drewN_drewN _ _ _⟩)⟩
              | true =>
                have hs : y.same x = true := by rw [← HSB.out, z1, z2]; rfl
                have HS := put hs
                clear hs
                go_wp2_with fail
                go_quiet (fail)
                go_wp2_with fail
                go_roundg (i - (k + 1))
                case measure => omega
                case rel => exact ⟨false, k + 1, by go_num, by go_num, by omega, Nat.le_refl _, put (by rw [HNB.out, HS.out]; rfl), put (by obtain ⟨q, e⟩ := HQ.out; rw [e]; exact ⟨_, World.drewN_drewN _ _ _⟩)⟩
        · have hlz2 : ¬ (k : Int) < (i : Int) := by omega
          obtain rfl : k = i := by omega
          cases b with
          | false =>
            have HO : Kp (refOuts xs (k + 1) = refOuts xs k) := ⟨by rw [HST.out]; unfold refStep; rw [← HBk.out]; rfl⟩
            clear x0 x1 x2 x3
            go_wp2_with fail
            go_roundg (m - (k + 1))
            case measure => omega
            case rel => exact ⟨k + 1, mo, co, ga, rfl, by go_num, by omega, by omega, hmc, Nat.le_refl _, put (by rw [HO.out]; exact HMO.out), put (by rw [HO.out]; obtain ⟨q, e⟩ := HQ.out; rw [e]; exact KO.out.below (Below.drewn (Below.refl _ _))), put (by obtain ⟨q, e⟩ := HQ.out; rw [e]; exact Below.drewn KB.out)⟩
          | true =>
            have X2 : wr.cell? ⟨(ad.add (k * 4)).block, (ad.add (k * 4)).off + 2, none⟩ = some (.slice A2 x.old.length k2) := by obtain ⟨q, e⟩ := HQ.out; rw [e]; simpa using x2
            have X3 : wr.cell? ⟨(ad.add (k * 4)).block, (ad.add (k * 4)).off + 3, none⟩ = some (.slice A3 x.new.length k3) := by obtain ⟨q, e⟩ := HQ.out; rw [e]; simpa using x3
            have HBo : Kp (Below wo.heap.size wo wr) := put (by obtain ⟨q, e⟩ := HQ.out; rw [e]; exact Below.drewn (Below.refl _ _))
            have HO : Kp (refOuts xs (k + 1) = if (x.upto (xs.drop k)).kind = 0 then refOuts xs k else insAt (x.upto (xs.drop k)) (refOuts xs k)) := ⟨by rw [HST.out]; unfold refStep; rw [← HBk.out]; rfl⟩
            clear x0 x1 x2 x3
            go_wp2_with fail
            obtain ⟨w2, hw2⟩ : ∃ w2, w2 = wr.alloc (.cells #[.string x.table, .int .i64 x.id, .slice A2 x.old.length k2, .slice A3 x.new.length k3] 43) := ⟨_, rfl⟩
            have b0 : w2.cell? ⟨wr.heap.size, 0, none⟩ = some (.string x.table) := by rw [hw2]; simp
            have b1 : w2.cell? ⟨wr.heap.size, 1, none⟩ = some (.int .i64 x.id) := by rw [hw2]; simp
            have b2 : w2.cell? ⟨wr.heap.size, 2, none⟩ = some (.slice A2 x.old.length k2) := by rw [hw2]; simp
            have b3 : w2.cell? ⟨wr.heap.size, 3, none⟩ = some (.slice A3 x.new.length k3) := by rw [hw2]; simp
            have bf : w2.frozen? ⟨wr.heap.size, 3, none⟩ = false := by rw [hw2]; simp
            have hB2 : Below wr.heap.size wr w2 := by rw [hw2]; exact (Below.refl _ _).alloc (Nat.le_refl _) _
            have hBs : wr.heap.size < w2.heap.size := by rw [hw2]; simp
            rw [← hw2]
            obtain ⟨B, hB⟩ : ∃ B, B = wr.heap.size := ⟨_, rfl⟩
            have hBw : Below wo.heap.size wo w2 := HBo.out.trans (hB2.mono HBo.out.size)
            have hBo : wo.heap.size ≤ B := by rw [hB]; exact HBo.out.size
            rw [← hB] at b0 b1 b2 b3 bf hBs ⊢
            have HBW := put hBw
            have S3 := put ((R_parts KR.out).2.below hBw)
            have S2 := put (R_parts KR.out).1
            clear hw2 hB2 hB hBw X0 X1 X2 X3 HQ
            go_loopg [8] m (fun kx s8 wi => ∃ (t : Nat) (N3 : Option Addr) (nl kn : Nat) (nv : List Val), s8 = .int .i64 t ∧ k ≤ t ∧ t ≤ m ∧ m - t ≤ kx ∧ wi.cell? ⟨B, 0, none⟩ = some (.string x.table) ∧ wi.cell? ⟨B, 1, none⟩ = some (.int .i64 x.id) ∧ wi.cell? ⟨B, 2, none⟩ = some (.slice A2 x.old.length k2) ∧ wi.cell? ⟨B, 3, none⟩ = some (.slice N3 nl kn) ∧ wi.frozen? ⟨B, 3, none⟩ = false ∧ B < wi.heap.size ∧ Kp (nl = nv.length) ∧ Kp (Sl tVal (fun k => ok k ∧ k < w.heap.size) wi (.slice N3 nl kn) nv) ∧ Kp (Below wo.heap.size wo wi) ∧ Kp (nv = lastNew x x.new ((xs.take t).drop k)))
            case atStart => exact ⟨k, _, _, _, x.new, rfl, Nat.le_refl _, by omega, by omega, b0, b1, b2, b3, bf, hBs, put rfl, S3, HBW, put (by rw [List.drop_eq_nil_of_le (by rw [List.length_take]; omega)]; rfl)⟩
            case round =>
              obtain ⟨t, N3, nl, kn, nv, rfl, htk, htm, hkx3, c0, c1, c2, c3, cf, hBs, HNL, HNS, HBI, HNV⟩ := hrel
              clear b0 b1 b2 b3 bf S3
              by_cases hlt3 : t < m
              · have hlz3 : (t : Int) < (m : Int) := by omega
                have t0 : (0 : Int) ≤ (t : Int) := by omega
                obtain ⟨ad2, z, Z2, kz2, Z3, kz3, e2, hz, z0, z1, z2, z3, KZ, _⟩ := chgs_at (KSw.out.below HBI.out).row.1 t (by rw [← HM.out]; exact hlt3)
                obtain rfl := Option.some.inj e2
                have HNT := put (lastNew_take (x := x) htk hz)
                have HSB := put (same_b x z)
                have SZ := put (R_parts KZ.out).2
                have hzl : (ad.add (t * 4)).block < wr.heap.size := cell_lt z0
                clear e2 hz
                cases q1 : (z.table.toList == x.table.toList) with
                | false =>
                  have hs : z.same x = false := by rw [← HSB.out, q1]; rfl
                  have HS := put hs
                  clear hs
                  go_wp2_with fail
                  go_quiet (fail)
                  go_wp2_with fail
                  go_roundg (m - (t + 1))
                  case measure => omega
                  case rel => exact ⟨t + 1, N3, nl, kn, nv, by go_num, by omega, by omega, Nat.le_refl _, by simpa using c0, by simpa using c1, by simpa using c2, by simpa using c3, by simpa using cf, by simpa using hBs, HNL, put (Sl.drewn HNS.out _), put (Below.drewn HBI.out), put (by rw [HNT.out, HS.out, HNV.out]; rfl)⟩
                | true =>
                  cases q2 : (z.id == x.id) with
                  | false =>
                    have hs : z.same x = false := by rw [← HSB.out, q1, q2]; rfl
                    have HS := put hs
                    clear hs
                    go_wp2_with fail
                    go_quiet (fail)
                    go_wp2_with fail
                    go_roundg (m - (t + 1))
                    case measure => omega
                    case rel => exact ⟨t + 1, N3, nl, kn, nv, by go_num, by omega, by omega, Nat.le_refl _, by simpa using c0, by simpa using c1, by simpa using c2, by simpa using c3, by simpa using cf, by simpa using hBs, HNL, put (Sl.drewn HNS.out _), put (Below.drewn HBI.out), put (by rw [HNT.out, HS.out, HNV.out]; rfl)⟩
                  | true =>
                    have hs : z.same x = true := by rw [← HSB.out, q1, q2]; rfl
                    have HS := put hs
                    clear hs
                    go_wp2_with fail
                    go_quiet (fail)
                    go_wp2_with fail
                    go_roundg (m - (t + 1))
                    case measure => omega
                    case rel => exact ⟨t + 1, Z3, _, kz3, z.new, by go_num, by omega, by omega, Nat.le_refl _, by simp [go_sem, c0], by simp [go_sem, c1], by simp [go_sem, c2], by simp [go_sem, c3], by simp [go_sem, cf], by simpa using hBs, put rfl, put (SZ.out.move (fun k hk _ => by rw [Below.heap_setCell _ _ _ _ (by have := KB.out.size; have := hk.2; simp only; omega)]; simp)), put ((Below.drewn HBI.out).setCell hBo _), put (by rw [HNT.out, HS.out]; rfl)⟩
              · have hlz3 : ¬ (t : Int) < (m : Int) := by omega
                obtain rfl : m = t := by omega
                obtain ⟨cc, hcc⟩ : ∃ cc : Chg, cc = x.upto (xs.drop k) := ⟨_, rfl⟩
                have hnv : nv = cc.new := by rw [HNV.out, hcc, List.take_of_length_le (by rw [HM.out]; exact Nat.le_refl _)]; rfl
                rw [← hcc] at HO
                have hct : cc.table = x.table := by rw [hcc]; rfl
                have hci : cc.id = x.id := by rw [hcc]; rfl
                have hco : cc.old = x.old := by rw [hcc]; rfl
                subst hnv
                rw [HNL.out] at c3 HNS
                rw [← hct] at c0
                rw [← hci] at c1
                rw [← hco] at c2 S2
                have KRC : Kp (tChg.R (fun k => ok k ∧ k < w.heap.size) wr cc [.string cc.table, .int .i64 cc.id, .slice A2 cc.old.length k2, .slice N3 cc.new.length kn]) := ⟨⟨_, _, rfl, S2.out.below HBI.out, HNS.out⟩⟩
                clear hcc

                by_cases hkd : cc.kind = 0
                · have hk2 : (cc.kind == 0) = true := by simp [hkd]
                  have HO2 : Kp (refOuts xs (k + 1) = refOuts xs k) := ⟨by rw [HO.out, if_pos hkd]⟩
                  clear hkd hct hci hco
                  go_wp2_with (first | (go_at_call 22; refine (refKindCalls _ cc [.string cc.table, .int .i64 cc.id, .slice A2 cc.old.length k2, .slice N3 cc.new.length kn] wr KRC.out).mono ?_; rintro e w5 ⟨rfl, hb5⟩; have HB5 := put (HBI.out.trans (hb5.mono HBI.out.size)); clear hb5))
                  go_roundg (m - (k + 1))
                  case measure => omega
                  case rel => exact ⟨k + 1, mo, co, ga, rfl, by go_num, by omega, by omega, hmc, Nat.le_refl _, put (by rw [HO2.out]; exact HMO.out), put (by rw [HO2.out]; exact KO.out.below HB5.out), put (KB.out.trans (HB5.out.mono KB.out.size))⟩
                · have hk2 : (cc.kind == 0) = false := by simp [hkd]
                  have HO2 : Kp (refOuts xs (k + 1) = insAt cc (refOuts xs k)) := ⟨by rw [HO.out, if_neg hkd]⟩
                  clear hkd hct hci hco
                  generalize refOuts xs k = out at *
                  go_wp2_with (first | (go_at_call 22; refine (refKindCalls _ cc [.string cc.table, .int .i64 cc.id, .slice A2 cc.old.length k2, .slice N3 cc.new.length kn] wr KRC.out).mono ?_; rintro e w5 ⟨rfl, hb5⟩; have HB5 := put (HBI.out.trans (hb5.mono HBI.out.size)); have d0 := (hb5.cell (p := ⟨B, 0, none⟩) hBs).trans c0; have d1 := (hb5.cell (p := ⟨B, 1, none⟩) hBs).trans c1; have d2 := (hb5.cell (p := ⟨B, 2, none⟩) hBs).trans c2; have d3 := (hb5.cell (p := ⟨B, 3, none⟩) hBs).trans c3; have hB5 : B < w5.heap.size := Nat.lt_of_lt_of_le hBs hb5.size; have KRZ := put (Ty.below KRC.out hb5); clear hb5))
                  have KOZ := put (KO.out.below HB5.out)
                  have KOS : Kp (Sl tChg (fun _ => True) w5 (.slice (some ga) mo co) out) := ⟨by have h := KOZ.out.sl (ok' := fun _ => True) (fun _ _ => trivial) (fun _ _ => trivial) (by rw [← HMO.out]; omega); exact h⟩
                  clear c0 c1 c2 c3 cf hBs
                  go_loopg [9] mo (fun kx s9 wi => ∃ (a : Nat), s9 = .int .i64 a ∧ a ≤ mo ∧ mo - a ≤ kx ∧ Kp (∀ y ∈ out.take a, y.lt cc = true) ∧ Kp (∃ q, wi = w5.drewN q))
                  case atStart => exact ⟨0, rfl, Nat.zero_le _, Nat.le_refl _, put (by simp), put ⟨0, rfl⟩⟩
                  case round =>
                    obtain ⟨a, rfl, ha, hkx4, HLT, HQ⟩ := hrel
                    have e0 : wr.cell? ⟨B, 0, none⟩ = some (.string cc.table) := by obtain ⟨q, e⟩ := HQ.out; rw [e]; simpa using d0
                    have e1 : wr.cell? ⟨B, 1, none⟩ = some (.int .i64 cc.id) := by obtain ⟨q, e⟩ := HQ.out; rw [e]; simpa using d1
                    have e2 : wr.cell? ⟨B, 2, none⟩ = some (.slice A2 cc.old.length k2) := by obtain ⟨q, e⟩ := HQ.out; rw [e]; simpa using d2
                    have e3 : wr.cell? ⟨B, 3, none⟩ = some (.slice N3 cc.new.length kn) := by obtain ⟨q, e⟩ := HQ.out; rw [e]; simpa using d3
                    have hBr : B < wr.heap.size := by obtain ⟨q, e⟩ := HQ.out; rw [e]; simpa using hB5
                    have hbr : Below w5.heap.size w5 wr := by obtain ⟨q, e⟩ := HQ.out; rw [e]; exact Below.drewn (Below.refl _ _)
                    have HBR := put hbr
                    by_cases hlt4 : a < mo
                    · have hlz4 : (a : Int) < (mo : Int) := by omega
                      have a0 : (0 : Int) ≤ (a : Int) := by omega
                      obtain ⟨gb, z, _, _, _, _, e, hz, z0, z1, _, _, _, _⟩ := chgs_at (KOS.out.below hbr).row.1 a (by rw [← HMO.out]; exact hlt4)
                      obtain rfl := Option.some.inj e
                      have HZ := put hz
                      have HLB := put (lt_b z cc)
                      clear hbr e hz d0 d1 d2 d3
                      cases p1 : Op.bytesLess z.table.toList cc.table.toList with
                      | true =>
                        have HT : Kp (z.lt cc = true) := ⟨by rw [← HLB.out, p1]; rfl⟩
                        go_wp2_with fail
                        go_quiet (fail)
                        go_wp2_with fail
                        go_roundg (mo - (a + 1))
                        case measure => omega
                        case rel => exact ⟨a + 1, by go_num, by omega, Nat.le_refl _, put (by rw [take_one_more HZ.out]; intro y hy; rcases List.mem_append.1 hy with hy | hy; exact HLT.out y hy; rw [List.mem_singleton.1 hy]; exact HT.out), put (by obtain ⟨q, e⟩ := HQ.out; rw [e]; exact ⟨_, World.drewN_drewN _ _ _⟩)⟩
                      | false =>
                        cases p2 : (z.table.toList == cc.table.toList) with
                        | true =>
                          by_cases p3 : z.id < cc.id
                          · have HT : Kp (z.lt cc = true) := ⟨by rw [← HLB.out, p1, p2]; simp [p3]⟩
                            go_wp2_with fail
                            go_quiet (fail)
                            go_wp2_with fail
                            go_roundg (mo - (a + 1))
                            case measure => omega
                            case rel => exact ⟨a + 1, by go_num, by omega, Nat.le_refl _, put (by rw [take_one_more HZ.out]; intro y hy; rcases List.mem_append.1 hy with hy | hy; exact HLT.out y hy; rw [List.mem_singleton.1 hy]; exact HT.out), put (by obtain ⟨q, e⟩ := HQ.out; rw [e]; exact ⟨_, World.drewN_drewN _ _ _⟩)⟩
                          · have HT : Kp (z.lt cc = false) := ⟨by rw [← HLB.out, p1, p2]; simp [p3]⟩
                            go_wp2_with fail
                            go_quiet (fail)
                            go_wp2_with fail
                            obtain ⟨w6, hw6⟩ : ∃ w6, w6 = wr.drewN nq := ⟨_, rfl⟩
                            rw [← hw6]
                            have f0 : w6.cell? ⟨B, 0, none⟩ = some (.string cc.table) := by rw [hw6]; simpa using e0
                            have f1 : w6.cell? ⟨B, 1, none⟩ = some (.int .i64 cc.id) := by rw [hw6]; simpa using e1
                            have f2 : w6.cell? ⟨B, 2, none⟩ = some (.slice A2 cc.old.length k2) := by rw [hw6]; simpa using e2
                            have f3 : w6.cell? ⟨B, 3, none⟩ = some (.slice N3 cc.new.length kn) := by rw [hw6]; simpa using e3
                            have hb6 : Below w5.heap.size w5 w6 := by rw [hw6]; exact Below.drewn HBR.out
                            have hB6 : B < w6.heap.size := by rw [hw6]; simpa using hBr
                            have CR : Kp (∀ W, Below w6.heap.size w6 W → tChg.R (fun k => k < w6.heap.size) W cc [.string cc.table, .int .i64 cc.id, .slice A2 cc.old.length k2, .slice N3 cc.new.length kn]) := ⟨fun W hb => Ty.below (tChg.mono (fun k hk => hk.2) (tChg.bnd (Ty.below KRZ.out hb6))) hb⟩
                            have OS : Sl tChg (fun k => k < w6.heap.size) w6 (.slice (some ga) mo co) out := (KOS.out.below hb6).bnd.mono (fun k hk => hk.2)
                            have HTD : Kp (out.takeWhile (·.lt cc) = out.take a ∧ out.dropWhile (·.lt cc) = out.drop a) := ⟨while_of _ a out HLT.out (fun y hy => by rw [HZ.out] at hy; injection hy with hy; rw [← hy]; exact HT.out)⟩
                            have HB56 := put (HB5.out.trans (hb6.mono HB5.out.size))
                            refine region21 _ _ _ _ _ _ _ _ _ _ _ _ _ _ _ _ _ _ _ _ _ _ _ _ _ _ _ _ _ _ _ _ _ _ _ _ _ _ _ _ _ _ _ _ _ _ _ _ _ _ _ _ _ _ _ _ _ _ _ _ _ _ _ _ _ _ _ _ _ _ _ _ _ _ _ _ _ _ _ _ _ _ _ _ _ _ _ _ _ _ _ _ _ _ _ _ _ _ _ _ _ _ _ _ _ _ _ _ _ _ _ _ _ _ _ _ _ _ _ _ _ _ _ _ _ _ _ _ _ _ _ _ _ _ _ _ B mo co a ga cc out A2 N3 k2 kn w6 _ f0 f1 f2 f3 hB6 CR OS HMO ha hmc (by omega) ?_ _ rfl
                            intro r126 r127 r128 r129 r130 r131 r132 r133 r134 r135 r136 r137 g3 c3 w9 hc9 hb9 ho9
                            have HB9 := put (HB56.out.trans (hb9.mono HB56.out.size))
                            have HO9 := put (ho9.lower (Nat.le_trans KB.out.size HB56.out.size))
                            clear hb9 ho9 hw6 OS f0 f1 f2 f3 e0 e1 e2 e3
                            go_wp2_with fail
                            go_roundg (m - (k + 1))
                            case measure => omega
                            case rel => exact ⟨k + 1, mo + 1, c3, _, rfl, by go_num, by omega, by omega, hc9, Nat.le_refl _, put (by rw [HO2.out, insAt_length, ← HMO.out]), put (by rw [HO2.out]; unfold insAt; rw [HTD.out.1, HTD.out.2]; exact HO9.out), put (KB.out.trans (HB9.out.mono KB.out.size))⟩
                        | false =>
                          have HT : Kp (z.lt cc = false) := ⟨by rw [← HLB.out, p1, p2]; rfl⟩
                          go_wp2_with fail
                          go_quiet (fail)
                          go_wp2_with fail
                          obtain ⟨w6, hw6⟩ : ∃ w6, w6 = wr.drewN nq := ⟨_, rfl⟩
                          rw [← hw6]
                          have f0 : w6.cell? ⟨B, 0, none⟩ = some (.string cc.table) := by rw [hw6]; simpa using e0
                          have f1 : w6.cell? ⟨B, 1, none⟩ = some (.int .i64 cc.id) := by rw [hw6]; simpa using e1
                          have f2 : w6.cell? ⟨B, 2, none⟩ = some (.slice A2 cc.old.length k2) := by rw [hw6]; simpa using e2
                          have f3 : w6.cell? ⟨B, 3, none⟩ = some (.slice N3 cc.new.length kn) := by rw [hw6]; simpa using e3
                          have hb6 : Below w5.heap.size w5 w6 := by rw [hw6]; exact Below.drewn HBR.out
                          have hB6 : B < w6.heap.size := by rw [hw6]; simpa using hBr
                          have CR : Kp (∀ W, Below w6.heap.size w6 W → tChg.R (fun k => k < w6.heap.size) W cc [.string cc.table, .int .i64 cc.id, .slice A2 cc.old.length k2, .slice N3 cc.new.length kn]) := ⟨fun W hb => Ty.below (tChg.mono (fun k hk => hk.2) (tChg.bnd (Ty.below KRZ.out hb6))) hb⟩
                          have OS : Sl tChg (fun k => k < w6.heap.size) w6 (.slice (some ga) mo co) out := (KOS.out.below hb6).bnd.mono (fun k hk => hk.2)
                          have HTD : Kp (out.takeWhile (·.lt cc) = out.take a ∧ out.dropWhile (·.lt cc) = out.drop a) := ⟨while_of _ a out HLT.out (fun y hy => by rw [HZ.out] at hy; injection hy with hy; rw [← hy]; exact HT.out)⟩
                          have HB56 := put (HB5.out.trans (hb6.mono HB5.out.size))
                          refine region21 _ _ _ _ _ _ _ _ _ _ _ _ _ _ _ _ _ _ _ _ _ _ _ _ _ _ _ _ _ _ _ _ _ _ _ _ _ _ _ _ _ _ _ _ _ _ _ _ _ _ _ _ _ _ _ _ _ _ _ _ _ _ _ _ _ _ _ _ _ _ _ _ _ _ _ _ _ _ _ _ _ _ _ _ _ _ _ _ _ _ _ _ _ _ _ _ _ _ _ _ _ _ _ _ _ _ _ _ _ _ _ _ _ _ _ _ _ _ _ _ _ _ _ _ _ _ _ _ _ _ _ _ _ _ _ _ B mo co a ga cc out A2 N3 k2 kn w6 _ f0 f1 f2 f3 hB6 CR OS HMO ha hmc (by omega) ?_ _ rfl
                          intro r126 r127 r128 r129 r130 r131 r132 r133 r134 r135 r136 r137 g3 c3 w9 hc9 hb9 ho9
                          have HB9 := put (HB56.out.trans (hb9.mono HB56.out.size))
                          have HO9 := put (ho9.lower (Nat.le_trans KB.out.size HB56.out.size))
                          clear hb9 ho9 hw6 OS f0 f1 f2 f3 e0 e1 e2 e3
                          go_wp2_with fail
                          go_roundg (m - (k + 1))
                          case measure => omega
                          case rel => exact ⟨k + 1, mo + 1, c3, _, rfl, by go_num, by omega, by omega, hc9, Nat.le_refl _, put (by rw [HO2.out, insAt_length, ← HMO.out]), put (by rw [HO2.out]; unfold insAt; rw [HTD.out.1, HTD.out.2]; exact HO9.out), put (KB.out.trans (HB9.out.mono KB.out.size))⟩
                    · have hlz4 : ¬ (a : Int) < (mo : Int) := by omega
                      go_wp2_with fail
                      go_quiet (fail)
                      go_wp2_with fail
                      obtain ⟨w6, hw6⟩ : ∃ w6, w6 = wr.drewN nq := ⟨_, rfl⟩
                      rw [← hw6]
                      have f0 : w6.cell? ⟨B, 0, none⟩ = some (.string cc.table) := by rw [hw6]; simpa using e0
                      have f1 : w6.cell? ⟨B, 1, none⟩ = some (.int .i64 cc.id) := by rw [hw6]; simpa using e1
                      have f2 : w6.cell? ⟨B, 2, none⟩ = some (.slice A2 cc.old.length k2) := by rw [hw6]; simpa using e2
                      have f3 : w6.cell? ⟨B, 3, none⟩ = some (.slice N3 cc.new.length kn) := by rw [hw6]; simpa using e3
                      have hb6 : Below w5.heap.size w5 w6 := by rw [hw6]; exact Below.drewn HBR.out
                      have hB6 : B < w6.heap.size := by rw [hw6]; simpa using hBr
                      have CR : Kp (∀ W, Below w6.heap.size w6 W → tChg.R (fun k => k < w6.heap.size) W cc [.string cc.table, .int .i64 cc.id, .slice A2 cc.old.length k2, .slice N3 cc.new.length kn]) := ⟨fun W hb => Ty.below (tChg.mono (fun k hk => hk.2) (tChg.bnd (Ty.below KRZ.out hb6))) hb⟩
                      have OS : Sl tChg (fun k => k < w6.heap.size) w6 (.slice (some ga) mo co) out := (KOS.out.below hb6).bnd.mono (fun k hk => hk.2)
                      have HTD : Kp (out.takeWhile (·.lt cc) = out.take a ∧ out.dropWhile (·.lt cc) = out.drop a) := ⟨while_of _ a out HLT.out (fun y hy => by rw [List.getElem?_eq_none (by rw [← HMO.out]; omega)] at hy; cases hy)⟩
                      have HB56 := put (HB5.out.trans (hb6.mono HB5.out.size))
                      refine region21 _ _ _ _ _ _ _ _ _ _ _ _ _ _ _ _ _ _ _ _ _ _ _ _ _ _ _ _ _ _ _ _ _ _ _ _ _ _ _ _ _ _ _ _ _ _ _ _ _ _ _ _ _ _ _ _ _ _ _ _ _ _ _ _ _ _ _ _ _ _ _ _ _ _ _ _ _ _ _ _ _ _ _ _ _ _ _ _ _ _ _ _ _ _ _ _ _ _ _ _ _ _ _ _ _ _ _ _ _ _ _ _ _ _ _ _ _ _ _ _ _ _ _ _ _ _ _ _ _ _ _ _ _ _ _ _ B mo co a ga cc out A2 N3 k2 kn w6 _ f0 f1 f2 f3 hB6 CR OS HMO ha hmc (by omega) ?_ _ rfl
                      intro r126 r127 r128 r129 r130 r131 r132 r133 r134 r135 r136 r137 g3 c3 w9 hc9 hb9 ho9
                      have HB9 := put (HB56.out.trans (hb9.mono HB56.out.size))
                      have HO9 := put (ho9.lower (Nat.le_trans KB.out.size HB56.out.size))
                      clear hb9 ho9 hw6 OS f0 f1 f2 f3 e0 e1 e2 e3
                      go_wp2_with fail
                      go_roundg (m - (k + 1))
                      case measure => omega
                      case rel => exact ⟨k + 1, mo + 1, c3, _, rfl, by go_num, by omega, by omega, hc9, Nat.le_refl _, put (by rw [HO2.out, insAt_length, ← HMO.out]), put (by rw [HO2.out]; unfold insAt; rw [HTD.out.1, HTD.out.2]; exact HO9.out), put (KB.out.trans (HB9.out.mono KB.out.size))⟩
    · have hlz : ¬ (i : Int) < (m : Int) := by omega
      go_wp2
      go_ret
      obtain rfl : i = m := by omega
      have hk := KO.out
      rw [HM.out] at hk
      exact ⟨_, rfl, hk, KB.out⟩

end Go.Proofs.Ytkfoknjflpklpaa.D
