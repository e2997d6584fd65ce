/- slices.SortStableFunc at []tripwire/api.Value: the row holds what the stable sort gives. -/
import Derived.Test.YtkfoknjflpklpaaStabOneIns
import Derived.Test.YtkfoknjflpklpaaStabOneSym3
import Derived.Test.YtkfoknjflpklpaaStabSpec
namespace Go.Proofs.Ytkfoknjflpklpaa.StabOne
open Go.Shelf Go.RowKit Go.Lib Go.Sort Go.Proofs Go.Proofs.Ytkfoknjflpklpaa.Stab
variable {P : Program} {α : Type} [Inhabited α]

theorem size_insOuter (lt : α → α → Bool) (a b : Nat) : ∀ (n i : Nat) (d : Array α), b - i = n → b ≤ d.size → (insOuter lt a b i d).size = d.size := by
  have hin : ∀ (j : Nat) (d : Array α), (insInner lt a j d).size = d.size := by
    intro j
    induction j with
    | zero => intro d; rw [insInner]
    | succ j ih => intro d; rw [insInner]; split
                   · rw [ih, size_swp]
                   · rfl
  intro n
  induction n with
  | zero => intro i d h _; rw [insOuter, if_neg (by omega)]
  | succ n ih => intro i d h hb; rw [insOuter, if_pos (by omega), ih _ _ (by omega) (by rw [hin]; exact hb), hin]

theorem size_ins (lt : α → α → Bool) (a b : Nat) (d : Array α) (hb : b ≤ d.size) : (insertionSort lt d a b).size = d.size := size_insOuter lt a b _ _ d rfl hb

theorem size_insBlocks (lt : α → α → Bool) (bs n : Nat) : ∀ (k a b : Nat) (d : Array α), n + bs - b = k → d.size = n → (insBlocks lt bs n a b d).size = n := by
  intro k
  induction k using Nat.strongRecOn with
  | _ k ih =>
    intro a b d hk hs
    rw [insBlocks]
    by_cases c : b ≤ n ∧ 0 < bs
    · rw [if_pos c]; exact ih _ (by omega) b (b + bs) _ rfl (by rw [size_ins _ _ _ _ (by omega)]; exact hs)
    · rw [if_neg c, size_ins _ _ _ _ (by omega)]; exact hs

theorem size_mergePass (lt : α → α → Bool) (bs n : Nat) (hbs : 0 < bs) : ∀ (k a b : Nat) (d : Array α), n + 2 * bs - b = k → b = a + 2 * bs → d.size = n → (mergePass lt bs n a b d).size = n := by
  intro k
  induction k using Nat.strongRecOn with
  | _ k ih =>
    intro a b d hk hb hs
    rw [mergePass]
    by_cases c : b ≤ n ∧ 0 < bs
    · rw [if_pos c]; exact ih _ (by omega) b (b + 2 * bs) _ rfl rfl (by rw [size_symMerge _ _ _ _ _ _ rfl (by omega) (by omega) (by omega)]; exact hs)
    · rw [if_neg c]
      split
      · rw [size_symMerge _ _ _ _ _ _ rfl (by omega) (by omega) (by omega)]; exact hs
      · exact hs

set_option maxHeartbeats 16000000 in
set_option maxRecDepth 1000000 in
theorem stableCalls (L : Lay P) (enc : α → Value) (cf : α → α → Int) (g : Nat) (o : Value) (cb : Array Value) (blk off cap : Nat) (d0 d : Array α) (w0 w : World)
    (eg : ∀ args w, (callFunc g args).run P w = .ok (.enter g args) w) (hcmp : CmpLaysF P g o cb enc cf blk off d0.size w0) (R : Row1 enc w0 blk off d0) (hs : d0.size = d.size) (S : SW enc w0 blk off d w) (hsz : d.size < 1152921504606846976) :
    Calls P 106 #[.slice (some ⟨blk, off, none⟩) d.size cap, .int .i64 d.size, .func (.func g) #[o] cb] w fun e w' => e = .returned (.tuple #[]) ∧ SW enc w0 blk off (stable (ltOf cf) d) w' := by
  have eins : ∀ args w, (callFunc 132 args).run P w = .ok (.enter 132 args) w := enters_of L.fins (by kernel_rfl) rfl
  have esym : ∀ args w, (callFunc 133 args).run P w = .ok (.enter 133 args) w := enters_of L.fsym (by kernel_rfl) rfl
  have t0 := L.t0; have a0 := L.a0; have z0 := L.z0; have v0 := L.v0; have t3 := L.t3; have a3 := L.a3; have z3 := L.z3; have v3 := L.v3; have t4 := L.t4; have a4 := L.a4; have z4 := L.z4; have v4 := L.v4; have ts := L.ts; have as' := L.aS; have zs := L.zs; have vs := L.vs; have tE := L.tE; have uE := run_underlying L.tE; have tf := L.tf; have af := L.af; have zf := L.zf; have vf := L.vf
  have FG := L.fsta
  have SYM : Aside _ := fun N => symMergeCalls L enc cf g o cb blk off cap d0 w0 eg hcmp R (by omega) N
  have HC : Aside _ := hcmp
  have S0 : Aside (SW enc w0 blk off d w) := S
  have LL : Aside (Lay P) := L
  clear S hcmp L
  obtain ⟨n, hn⟩ : ∃ n, n = d.size := ⟨_, rfl⟩
  have HN : Hid (n = d.size) := hn
  have hsn : d0.size = n := by rw [hn]; exact hs
  have HSN : Hid (d0.size = n) := hsn
  rw [← hn] at hsz ⊢
  clear hn hs hsn
  go_enter FG, Try.ntmps106
  go_wp2
  go_loopg [7, 8] (n + 1) (fun kx s7 s8 wr => ∃ (a : Nat) (dk : Array α), s7 = .int .i64 a ∧ s8 = .int .i64 ((a : Int) + 20) ∧ a ≤ n ∧ n - a ≤ kx ∧ Hid (dk.size = n) ∧ Aside (SW enc w0 blk off dk wr) ∧ Hid (insBlocks (ltOf cf) 20 n a (a + 20) dk = insBlocks (ltOf cf) 20 n 0 20 d))
  case atStart => exact ⟨0, d, rfl, rfl, Nat.zero_le _, by omega, HN.out.symm, S0, rfl⟩
  case round =>
    clear S0
    obtain ⟨a, dk, rfl, rfl, han, hkx, hds, S1, heq⟩ := hrel
    by_cases hlt : a + 20 ≤ n
    · have hltz : (a : Int) + 20 ≤ (n : Int) := by omega
      go_wp2_with fail
      rw [show ((a : Int) + 20) = ((a + 20 : Nat) : Int) by omega, ← hds.out]
      refine (insCalls LL.out enc cf g o cb blk off cap a (a + 20) d0 dk w0 _ eg HC.out R (by rw [hds.out]; exact HSN.out) S1.out (by omega) (by rw [hds.out]; exact hlt) (by rw [hds.out]; omega)).mono ?_
      rintro e w' ⟨rfl, S2⟩
      have S3 : Aside _ := S2
      clear S2 S1
      rw [hds.out]
      go_wp2
      go_roundg (n - (a + 20))
      case measure => omega
      case rel => exact ⟨a + 20, _, by first | rfl | go_num, by first | rfl | go_num | (congr 1; omega), hlt, Nat.le_refl _, (show _ = _ by rw [size_ins _ _ _ _ (by rw [hds.out]; exact hlt)]; exact hds.out), S3, (show _ = _ by
        rw [← heq.out, insBlocks.eq_def _ 20 n a (a + 20) dk, if_pos ⟨hlt, by omega⟩])⟩
    · have hltz : ¬ (a : Int) + 20 ≤ (n : Int) := by omega
      go_wp2_with fail
      rw [← hds.out]
      refine (insCalls LL.out enc cf g o cb blk off cap a dk.size d0 dk w0 _ eg HC.out R (by rw [hds.out]; exact HSN.out) S1.out (by rw [hds.out]; exact han) (Nat.le_refl _) (by rw [hds.out]; omega)).mono ?_
      rintro e w' ⟨rfl, S2⟩
      rw [hds.out] at S2 ⊢
      have hd2 : insertionSort (ltOf cf) dk a n = insBlocks (ltOf cf) 20 n 0 20 d := by rw [← heq.out, insBlocks.eq_def _ 20 n a (a + 20) dk, if_neg (by omega)]
      rw [hd2] at S2
      have S3 : Aside _ := S2
      have hz2 : (insBlocks (ltOf cf) 20 n 0 20 d).size = n := size_insBlocks _ _ _ _ _ _ _ rfl HN.out.symm
      obtain ⟨e0, he0⟩ : ∃ e0, e0 = insBlocks (ltOf cf) 20 n 0 20 d := ⟨_, rfl⟩
      rw [← he0] at S3 hz2
      have HE0 : Hid _ := he0
      have HZ2 : Hid _ := hz2
      clear S2 S1 hd2 heq hds he0 hz2 hltz hlt hkx han
      go_wp2
      clear dk
      go_loopg [6] n (fun kx s6 wr2 => ∃ (bs : Nat) (dk : Array α), s6 = .int .i64 bs ∧ 0 < bs ∧ bs ≤ n + n + 20 ∧ n - bs ≤ kx ∧ Hid (dk.size = n) ∧ Aside (SW enc w0 blk off dk wr2) ∧ Hid (mergeAll (ltOf cf) bs n dk = mergeAll (ltOf cf) 20 n e0))
      case atStart => exact ⟨20, e0, rfl, by omega, by omega, by omega, HZ2, S3, rfl⟩
      case round =>
        clear S3
        obtain ⟨bs, dk, rfl, hb0, hbn, hkx, hds, S1, heq⟩ := hrel
        by_cases hlt : bs < n
        · have hltz : (bs : Int) < (n : Int) := by omega
          obtain ⟨wo, rfl⟩ : ∃ wo : World, wo = wr := ⟨_, rfl⟩
          go_wp2
          go_loopg [7, 8] (n + 1) (fun ky s7 s8 wr3 => ∃ (a : Nat) (dj : Array α), s7 = .int .i64 a ∧ s8 = .int .i64 ((a : Int) + 2 * (bs : Int)) ∧ a ≤ n ∧ n - a ≤ ky ∧ Hid (dj.size = n) ∧ Aside (SW enc w0 blk off dj wr3) ∧ Hid (mergePass (ltOf cf) bs n a (a + 2 * bs) dj = mergePass (ltOf cf) bs n 0 (2 * bs) dk))
          case atStart => exact ⟨0, dk, rfl, by first | rfl | go_num | (congr 1; omega), Nat.zero_le _, by omega, hds, S1, by show _ = _; rw [Nat.zero_add]⟩
          case round =>
            clear S1
            obtain ⟨a, dj, rfl, rfl, han, hky, hdj, S1, hmp⟩ := hrel
            by_cases hlt2 : a + 2 * bs ≤ n
            · have hltz2 : (a : Int) + 2 * (bs : Int) ≤ (n : Int) := by omega
              go_wp2_with fail
              rw [show ((a : Int) + (bs : Int)) = ((a + bs : Nat) : Int) by omega, show ((a : Int) + 2 * (bs : Int)) = ((a + 2 * bs : Nat) : Int) by omega, ← hdj.out]
              refine (SYM.out (2 * bs) a (a + bs) (a + 2 * bs) dj _ (by rw [hdj.out]; exact HSN.out) S1.out (by omega) (by omega) (by rw [hdj.out]; exact hlt2) (by omega)).mono ?_
              rintro e w' ⟨rfl, S2⟩
              have S3 : Aside _ := S2
              clear S2 S1
              rw [hdj.out]
              go_wp2
              go_roundg (n - (a + 2 * bs))
              case measure => omega
              case rel => exact ⟨a + 2 * bs, _, by first | rfl | go_num, by first | rfl | go_num | (congr 1; omega), hlt2, Nat.le_refl _, (show _ = _ by rw [size_symMerge _ _ _ _ _ _ rfl (by omega) (by omega) (by rw [hdj.out]; exact hlt2)]; exact hdj.out), S3, (show _ = _ by
                rw [← hmp.out, mergePass.eq_def _ bs n a (a + 2 * bs) dj, if_pos ⟨hlt2, hb0⟩])⟩
            · have hltz2 : ¬ (a : Int) + 2 * (bs : Int) ≤ (n : Int) := by omega
              have hq : mergePass (ltOf cf) bs n 0 (2 * bs) dk = if a + bs < n then symMerge (ltOf cf) dj a (a + bs) n else dj := by rw [← hmp.out, mergePass.eq_def _ bs n a (a + 2 * bs) dj, if_neg (by omega)]
              have HQ : Hid _ := hq
              clear hq
              have fin : ∀ dz, dz = mergePass (ltOf cf) bs n 0 (2 * bs) dk → mergeAll (ltOf cf) (bs * 2) n dz = mergeAll (ltOf cf) 20 n e0 := fun dz h => by
                rw [h, ← heq.out, mergeAll.eq_def _ bs n dk, if_pos ⟨hlt, hb0⟩]
              have FIN : Aside _ := fin
              have hzz : (mergePass (ltOf cf) bs n 0 (2 * bs) dk).size = n := size_mergePass _ _ _ hb0 _ _ _ _ rfl (by omega) hds.out
              have HZZ : Hid _ := hzz
              clear fin hzz hmp heq
              by_cases c : a + bs < n
              · have cz : (a : Int) + (bs : Int) < (n : Int) := by omega
                go_wp2_with fail
                rw [show ((a : Int) + (bs : Int)) = ((a + bs : Nat) : Int) by omega, ← hdj.out]
                refine (SYM.out n a (a + bs) dj.size dj _ (by rw [hdj.out]; exact HSN.out) S1.out (by omega) (by rw [hdj.out]; exact c) (Nat.le_refl _) (by rw [hdj.out]; omega)).mono ?_
                rintro e w' ⟨rfl, S2⟩
                rw [hdj.out] at S2 ⊢
                rw [if_pos c] at HQ
                rw [← HQ.out] at S2
                have S3 : Aside _ := S2
                clear S2 S1
                go_wp2
                go_roundg (n - bs * 2)
                case measure => omega
                case rel => exact ⟨bs * 2, _, by first | rfl | go_num | (congr 1; omega), by omega, by omega, Nat.le_refl _, HZZ, S3, FIN.out _ rfl⟩
              · have cz : ¬ (a : Int) + (bs : Int) < (n : Int) := by omega
                rw [if_neg c] at HQ
                rw [← HQ.out] at S1
                go_wp2
                go_roundg (n - bs * 2)
                case measure => omega
                case rel => exact ⟨bs * 2, _, by first | rfl | go_num | (congr 1; omega), by omega, by omega, Nat.le_refl _, HZZ, S1, FIN.out _ rfl⟩
        · have hltz : ¬ (bs : Int) < (n : Int) := by omega
          go_wp2
          go_end0
          refine ⟨rfl, ?_⟩
          have e9 : stable (ltOf cf) d = dk := by
            unfold stable
            rw [← HN.out, ← HE0.out, ← heq.out, mergeAll, if_neg (by omega)]
          rw [e9]
          exact S1.out

set_option maxHeartbeats 4000000 in
set_option maxRecDepth 1000000 in
theorem sortCalls (L : Lay P) (enc : α → Value) (cf : α → α → Int) (g : Nat) (o : Value) (cb : Array Value) (blk off cap : Nat) (d : Array α) (w : World)
    (eg : ∀ args w, (callFunc g args).run P w = .ok (.enter g args) w) (hcmp : CmpLaysF P g o cb enc cf blk off d.size w) (R : Row1 enc w blk off d) (hsz : d.size < 1152921504606846976) :
    Calls P 77 #[.slice (some ⟨blk, off, none⟩) d.size cap, .func (.func g) #[o] cb] w fun e w' => e = .returned (.tuple #[]) ∧ SW enc w blk off (stable (ltOf cf) d) w' := by
  have esta : ∀ args w, (callFunc 106 args).run P w = .ok (.enter 106 args) w := enters_of L.fsta (by kernel_rfl) rfl
  have t0 := L.t0; have a0 := L.a0; have z0 := L.z0; have v0 := L.v0; have t3 := L.t3; have a3 := L.a3; have z3 := L.z3; have v3 := L.v3; have t4 := L.t4; have a4 := L.a4; have z4 := L.z4; have v4 := L.v4; have ts := L.ts; have as' := L.aS; have zs := L.zs; have vs := L.vs; have tE := L.tE; have uE := run_underlying L.tE; have tf := L.tf; have af := L.af; have zf := L.zf; have vf := L.vf
  have FG := L.ftop
  have C := stableCalls L enc cf g o cb blk off cap d d w w eg hcmp R rfl (SW.start R.hH) hsz
  have CC : Aside _ := C
  clear C hcmp L
  go_enter FG, Try.ntmps77
  go_wp2_with fail
  refine Calls.mono CC.out ?_
  rintro e w' ⟨rfl, S⟩
  have S1 : Aside _ := S
  clear S
  go_wp2
  go_end0
  exact ⟨rfl, S1.out⟩

end Go.Proofs.Ytkfoknjflpklpaa.StabOne
