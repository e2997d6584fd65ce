/- slices.SortStableFunc at tripwire/api.Row: the row holds what the stable sort gives. slices.SortStableFunc on a row of the call's own, at tripwire/api.Row. rule.Transition, at kind 1: as many rows as there are changes of that kind. The document's example of layer 23. tripwirelaw13.Great: it tells; no memory that was there is touched. great of layer 23: more than is played? -/
import Derived.Test.YtkfoknjflpklpaaGF14
import Derived.Test.YtkfoknjflpklpaaGF16
import Derived.Test.YtkfoknjflpklpaaGF4
import Derived.Test.YtkfoknjflpklpaaGF1
import Derived.Test.YtkfoknjflpklpaaGF6
import Derived.Test.YtkfoknjflpklpaaGF12
import Derived.Test.YtkfoknjflpklpaaGF11
import Derived.Test.YtkfoknjflpklpaaGF5

namespace Go.Proofs.Ytkfoknjflpklpaa.StabRow
open Go.Shelf Go.RowKit Go.Lib Go.Sort Go.Proofs Go.Proofs.Ytkfoknjflpklpaa.Stab
variable {P : Program} {α : Type} [Inhabited α]

theorem size_insOuter (lt : α → α → Bool) (a b : Nat) : ∀ (n i : Nat) (d : Array α), b - i = n → b ≤ d.size → (insOuter lt a b i d).size = d.size := by
  have hin : ∀ (j : Nat) (d : Array α), (insInner lt a j d).size = d.size := by
    intro j
    induction j with
    | zero => intro d; rw [insInner]
    | succ j ih => intro d; rw [insInner]; split
                   · rw [ih, size_swp]
                   · rfl
  intro n
  induction n with
  | zero => intro i d h _; rw [insOuter, if_neg (by omega)]
  | succ n ih => intro i d h hb; rw [insOuter, if_pos (by omega), ih _ _ (by omega) (by rw [hin]; exact hb), hin]

theorem size_ins (lt : α → α → Bool) (a b : Nat) (d : Array α) (hb : b ≤ d.size) : (insertionSort lt d a b).size = d.size := size_insOuter lt a b _ _ d rfl hb

theorem size_insBlocks (lt : α → α → Bool) (bs n : Nat) : ∀ (k a b : Nat) (d : Array α), n + bs - b = k → d.size = n → (insBlocks lt bs n a b d).size = n := by
  intro k
  induction k using Nat.strongRecOn with
  | _ k ih =>
    intro a b d hk hs
    rw [insBlocks]
    by_cases c : b ≤ n ∧ 0 < bs
    · rw [if_pos c]; exact ih _ (by omega) b (b + bs) _ rfl (by rw [size_ins _ _ _ _ (by omega)]; exact hs)
    · rw [if_neg c, size_ins _ _ _ _ (by omega)]; exact hs

theorem size_mergePass (lt : α → α → Bool) (bs n : Nat) (hbs : 0 < bs) : ∀ (k a b : Nat) (d : Array α), n + 2 * bs - b = k → b = a + 2 * bs → d.size = n → (mergePass lt bs n a b d).size = n := by
  intro k
  induction k using Nat.strongRecOn with
  | _ k ih =>
    intro a b d hk hb hs
    rw [mergePass]
    by_cases c : b ≤ n ∧ 0 < bs
    · rw [if_pos c]; exact ih _ (by omega) b (b + 2 * bs) _ rfl rfl (by rw [size_symMerge _ _ _ _ _ _ rfl (by omega) (by omega) (by omega)]; exact hs)
    · rw [if_neg c]
      split
      · rw [size_symMerge _ _ _ _ _ _ rfl (by omega) (by omega) (by omega)]; exact hs
      · exact hs

set_option maxHeartbeats 16000000 in
set_option maxRecDepth 1000000 in
theorem stableCalls {k : Nat} (L : Lay P k) (enc : α → List Value) (cf : α → α → Int) (g : Nat) (cb : Array Value) (blk off cap : Nat) (d0 d : Array α) (w0 w : World)
    (eg : ∀ args w, (callFunc g args).run P w = .ok (.enter g args) w) (hcmp : CmpLays P g cb enc k cf blk off d0.size w0) (R : RowK enc k w0 blk off d0) (hs : d0.size = d.size) (S : SWK enc k w0 blk off d w) (hsz : d.size < 1152921504606846976) :
    Calls P 114 #[.slice (some ⟨blk, off, none⟩) d.size cap, .int .i64 d.size, .func (.func g) #[] cb] w fun e w' => e = .returned (.tuple #[]) ∧ SWK enc k w0 blk off (stable (ltOf cf) d) w' := by
  have eins : ∀ args w, (callFunc 136 args).run P w = .ok (.enter 136 args) w := enters_of L.fins (by kernel_rfl) rfl
  have esym : ∀ args w, (callFunc 137 args).run P w = .ok (.enter 137 args) w := enters_of L.fsym (by kernel_rfl) rfl
  have t0 := L.t0; have a0 := L.a0; have z0 := L.z0; have v0 := L.v0; have t3 := L.t3; have a3 := L.a3; have z3 := L.z3; have v3 := L.v3; have t4 := L.t4; have a4 := L.a4; have z4 := L.z4; have v4 := L.v4; have ts := L.ts; have as' := L.aS; have zs := L.zs; have vs := L.vs; have tf := L.tf; have af := L.af; have zf := L.zf; have vf := L.vf
  have FG := L.fsta
  have SYM : Aside _ := fun N => symMergeCalls L enc cf g cb blk off cap d0 w0 eg hcmp R (by omega) N
  have HC : Aside _ := hcmp
  have S0 : Aside (SWK enc k w0 blk off d w) := S
  have LL : Aside (Lay P k) := L
  clear S hcmp L
  obtain ⟨n, hn⟩ : ∃ n, n = d.size := ⟨_, rfl⟩
  have HN : Hid (n = d.size) := hn
  have hsn : d0.size = n := by rw [hn]; exact hs
  have HSN : Hid (d0.size = n) := hsn
  rw [← hn] at hsz ⊢
  clear hn hs hsn
  go_enter FG, Try.ntmps114
  go_wp2
  go_loopg [7, 8] (n + 1) (fun kx s7 s8 wr => ∃ (a : Nat) (dk : Array α), s7 = .int .i64 a ∧ s8 = .int .i64 ((a : Int) + 20) ∧ a ≤ n ∧ n - a ≤ kx ∧ Hid (dk.size = n) ∧ Aside (SWK enc k w0 blk off dk wr) ∧ Hid (insBlocks (ltOf cf) 20 n a (a + 20) dk = insBlocks (ltOf cf) 20 n 0 20 d))
  case atStart => exact ⟨0, d, rfl, rfl, Nat.zero_le _, by omega, HN.out.symm, S0, rfl⟩
  case round =>
    clear S0
    obtain ⟨a, dk, rfl, rfl, han, hkx, hds, S1, heq⟩ := hrel
    by_cases hlt : a + 20 ≤ n
    · have hltz : (a : Int) + 20 ≤ (n : Int) := by omega
      go_wp2_with fail
      rw [show ((a : Int) + 20) = ((a + 20 : Nat) : Int) by omega, ← hds.out]
      refine (insCalls LL.out enc cf g cb blk off cap a (a + 20) d0 dk w0 _ eg HC.out R (by rw [hds.out]; exact HSN.out) S1.out (by omega) (by rw [hds.out]; exact hlt) (by rw [hds.out]; omega)).mono ?_
      rintro e w' ⟨rfl, S2⟩
      have S3 : Aside _ := S2
      clear S2 S1
      rw [hds.out]
      go_wp2
      go_roundg (n - (a + 20))
      case measure => omega
      case rel => exact ⟨a + 20, _, by first | rfl | go_num, by first | rfl | go_num | (congr 1; omega), hlt, Nat.le_refl _, (show _ = _ by rw [size_ins _ _ _ _ (by rw [hds.out]; exact hlt)]; exact hds.out), S3, (show _ = _ by
        rw [← heq.out, insBlocks.eq_def _ 20 n a (a + 20) dk, if_pos ⟨hlt, by omega⟩])⟩
    · have hltz : ¬ (a : Int) + 20 ≤ (n : Int) := by omega
      go_wp2_with fail
      rw [← hds.out]
      refine (insCalls LL.out enc cf g cb blk off cap a dk.size d0 dk w0 _ eg HC.out R (by rw [hds.out]; exact HSN.out) S1.out (by rw [hds.out]; exact han) (Nat.le_refl _) (by rw [hds.out]; omega)).mono ?_
      rintro e w' ⟨rfl, S2⟩
      rw [hds.out] at S2 ⊢
      have hd2 : insertionSort (ltOf cf) dk a n = insBlocks (ltOf cf) 20 n 0 20 d := by rw [← heq.out, insBlocks.eq_def _ 20 n a (a + 20) dk, if_neg (by omega)]
      rw [hd2] at S2
      have S3 : Aside _ := S2
      have hz2 : (insBlocks (ltOf cf) 20 n 0 20 d).size = n := size_insBlocks _ _ _ _ _ _ _ rfl HN.out.symm
      obtain ⟨e0, he0⟩ : ∃ e0, e0 = insBlocks (ltOf cf) 20 n 0 20 d := ⟨_, rfl⟩
      rw [← he0] at S3 hz2
      have HE0 : Hid _ := he0
      have HZ2 : Hid _ := hz2
      clear S2 S1 hd2 heq hds he0 hz2 hltz hlt hkx han
      go_wp2
      clear dk
      go_loopg [6] n (fun kx s6 wr2 => ∃ (bs : Nat) (dk : Array α), s6 = .int .i64 bs ∧ 0 < bs ∧ bs ≤ n + n + 20 ∧ n - bs ≤ kx ∧ Hid (dk.size = n) ∧ Aside (SWK enc k w0 blk off dk wr2) ∧ Hid (mergeAll (ltOf cf) bs n dk = mergeAll (ltOf cf) 20 n e0))
      case atStart => exact ⟨20, e0, rfl, by omega, by omega, by omega, HZ2, S3, rfl⟩
      case round =>
        clear S3
        obtain ⟨bs, dk, rfl, hb0, hbn, hkx, hds, S1, heq⟩ := hrel
        by_cases hlt : bs < n
        · have hltz : (bs : Int) < (n : Int) := by omega
          obtain ⟨wo, rfl⟩ : ∃ wo : World, wo = wr := ⟨_, rfl⟩
          go_wp2
          go_loopg [7, 8] (n + 1) (fun ky s7 s8 wr3 => ∃ (a : Nat) (dj : Array α), s7 = .int .i64 a ∧ s8 = .int .i64 ((a : Int) + 2 * (bs : Int)) ∧ a ≤ n ∧ n - a ≤ ky ∧ Hid (dj.size = n) ∧ Aside (SWK enc k w0 blk off dj wr3) ∧ Hid (mergePass (ltOf cf) bs n a (a + 2 * bs) dj = mergePass (ltOf cf) bs n 0 (2 * bs) dk))
          case atStart => exact ⟨0, dk, rfl, by first | rfl | go_num | (congr 1; omega), Nat.zero_le _, by omega, hds, S1, by show _ = _; rw [Nat.zero_add]⟩
          case round =>
            clear S1
            obtain ⟨a, dj, rfl, rfl, han, hky, hdj, S1, hmp⟩ := hrel
            by_cases hlt2 : a + 2 * bs ≤ n
            · have hltz2 : (a : Int) + 2 * (bs : Int) ≤ (n : Int) := by omega
              go_wp2_with fail
              rw [show ((a : Int) + (bs : Int)) = ((a + bs : Nat) : Int) by omega, show ((a : Int) + 2 * (bs : Int)) = ((a + 2 * bs : Nat) : Int) by omega, ← hdj.out]
              refine (SYM.out (2 * bs) a (a + bs) (a + 2 * bs) dj _ (by rw [hdj.out]; exact HSN.out) S1.out (by omega) (by omega) (by rw [hdj.out]; exact hlt2) (by omega)).mono ?_
              rintro e w' ⟨rfl, S2⟩
              have S3 : Aside _ := S2
              clear S2 S1
              rw [hdj.out]
              go_wp2
              go_roundg (n - (a + 2 * bs))
              case measure => omega
              case rel => exact ⟨a + 2 * bs, _, by first | rfl | go_num, by first | rfl | go_num | (congr 1; omega), hlt2, Nat.le_refl _, (show _ = _ by rw [size_symMerge _ _ _ _ _ _ rfl (by omega) (by omega) (by rw [hdj.out]; exact hlt2)]; exact hdj.out), S3, (show _ = _ by
                rw [← hmp.out, mergePass.eq_def _ bs n a (a + 2 * bs) dj, if_pos ⟨hlt2, hb0⟩])⟩
            · have hltz2 : ¬ (a : Int) + 2 * (bs : Int) ≤ (n : Int) := by omega
              have hq : mergePass (ltOf cf) bs n 0 (2 * bs) dk = if a + bs < n then symMerge (ltOf cf) dj a (a + bs) n else dj := by rw [← hmp.out, mergePass.eq_def _ bs n a (a + 2 * bs) dj, if_neg (by omega)]
              have HQ : Hid _ := hq
              clear hq
              have fin : ∀ dz, dz = mergePass (ltOf cf) bs n 0 (2 * bs) dk → mergeAll (ltOf cf) (bs * 2) n dz = mergeAll (ltOf cf) 20 n e0 := fun dz h => by
                rw [h, ← heq.out, mergeAll.eq_def _ bs n dk, if_pos ⟨hlt, hb0⟩]
              have FIN : Aside _ := fin
              have hzz : (mergePass (ltOf cf) bs n 0 (2 * bs) dk).size = n := size_mergePass _ _ _ hb0 _ _ _ _ rfl (by omega) hds.out
              have HZZ : Hid _ := hzz
              clear fin hzz hmp heq
              by_cases c : a + bs < n
              · have cz : (a : Int) + (bs : Int) < (n : Int) := by omega
                go_wp2_with fail
                rw [show ((a : Int) + (bs : Int)) = ((a + bs : Nat) : Int) by omega, ← hdj.out]
                refine (SYM.out n a (a + bs) dj.size dj _ (by rw [hdj.out]; exact HSN.out) S1.out (by omega) (by rw [hdj.out]; exact c) (Nat.le_refl _) (by rw [hdj.out]; omega)).mono ?_
                rintro e w' ⟨rfl, S2⟩
                rw [hdj.out] at S2 ⊢
                rw [if_pos c] at HQ
                rw [← HQ.out] at S2
                have S3 : Aside _ := S2
                clear S2 S1
                go_wp2
                go_roundg (n - bs * 2)
                case measure => omega
                case rel => exact ⟨bs * 2, _, by first | rfl | go_num | (congr 1; omega), by omega, by omega, Nat.le_refl _, HZZ, S3, FIN.out _ rfl⟩
              · have cz : ¬ (a : Int) + (bs : Int) < (n : Int) := by omega
                rw [if_neg c] at HQ
                rw [← HQ.out] at S1
                go_wp2
                go_roundg (n - bs * 2)
                case measure => omega
                case rel => exact ⟨bs * 2, _, by first | rfl | go_num | (congr 1; omega), by omega, by omega, Nat.le_refl _, HZZ, S1, FIN.out _ rfl⟩
        · have hltz : ¬ (bs : Int) < (n : Int) := by omega
          go_wp2
          go_end0
          refine ⟨rfl, ?_⟩
          have e9 : stable (ltOf cf) d = dk := by
            unfold stable
            rw [← HN.out, ← HE0.out, ← heq.out, mergeAll, if_neg (by omega)]
          rw [e9]
          exact S1.out

set_option maxHeartbeats 4000000 in
set_option maxRecDepth 1000000 in
theorem sortCalls {k : Nat} (L : Lay P k) (enc : α → List Value) (cf : α → α → Int) (g : Nat) (cb : Array Value) (blk off cap : Nat) (d : Array α) (w : World)
    (eg : ∀ args w, (callFunc g args).run P w = .ok (.enter g args) w) (hcmp : CmpLays P g cb enc k cf blk off d.size w) (R : RowK enc k w blk off d) (hsz : d.size < 1152921504606846976) :
    Calls P 87 #[.slice (some ⟨blk, off, none⟩) d.size cap, .func (.func g) #[] cb] w fun e w' => e = .returned (.tuple #[]) ∧ SWK enc k w blk off (stable (ltOf cf) d) w' := by
  have esta : ∀ args w, (callFunc 114 args).run P w = .ok (.enter 114 args) w := enters_of L.fsta (by kernel_rfl) rfl
  have t0 := L.t0; have a0 := L.a0; have z0 := L.z0; have v0 := L.v0; have t3 := L.t3; have a3 := L.a3; have z3 := L.z3; have v3 := L.v3; have t4 := L.t4; have a4 := L.a4; have z4 := L.z4; have v4 := L.v4; have ts := L.ts; have as' := L.aS; have zs := L.zs; have vs := L.vs; have tf := L.tf; have af := L.af; have zf := L.zf; have vf := L.vf
  have FG := L.ftop
  have C := stableCalls L enc cf g cb blk off cap d d w w eg hcmp R rfl (SWK.start R.hH) hsz
  have CC : Aside _ := C
  clear C hcmp L
  go_enter FG, Try.ntmps87
  go_wp2_with fail
  refine Calls.mono CC.out ?_
  rintro e w' ⟨rfl, S⟩
  have S1 : Aside _ := S
  clear S
  go_wp2
  go_end0
  exact ⟨rfl, S1.out⟩

end Go.Proofs.Ytkfoknjflpklpaa.StabRow

namespace Go.Proofs.Ytkfoknjflpklpaa.StabRow
open Go.Shelf Go.RowKit Go.Lib Go.Sort Go.Proofs Go.Proofs.Ytkfoknjflpklpaa.Stab Go.Proofs.Ytkfoknjflpklpaa.Mem

/-- An element as it is sorted: its cells, what they read as, where it stood. -/
structure El {β : Type} (d : Ty β) (ok : Nat → Prop) (w : World) where
  cells : List Value
  x : β
  tag : Nat
  hr : d.R ok w x cells

theorem isort_map {α β : Type} (f : α → β) (lt : β → β → Bool) (l : List α) : (isort (fun a b => lt (f a) (f b)) l).map f = isort lt (l.map f) := by
  have hi : ∀ (x : α) (l : List α), (ins (fun a b => lt (f a) (f b)) x l).map f = ins lt (f x) (l.map f) := by
    intro x l
    induction l with
    | nil => rfl
    | cons y ys ih =>
      rw [ins, List.map_cons, ins]
      split
      · rfl
      · rw [List.map_cons, ih]
  have hf : ∀ (l out : List α), (l.foldl (fun out x => ins (fun a b => lt (f a) (f b)) x out) out).map f = (l.map f).foldl (fun out x => ins lt x out) (out.map f) := by
    intro l
    induction l with
    | nil => intro out; rfl
    | cons x l ih => intro out; rw [List.foldl_cons, ih, hi, List.map_cons, List.foldl_cons]
  exact hf l []

/-- The block of a row that is put. -/
theorem putRow_block (w : World) (g : Nat) (F : Array Value) (cur : Array Value) (e : TypeId) (fr : Nat × Nat) (h : w.heap[g]? = some (.cells cur e fr)) : (putRow id w g 0 F).heap[g]? = some (.cells (putCells id 0 F cur) e fr) := by
  simp [putRow, mapBlock, Array.getElem?_modify, h, onCells]
theorem putRow_other (w : World) (g k : Nat) (F : Array Value) (h : k ≠ g) : (putRow id w g 0 F).heap[k]? = w.heap[k]? := by
  simp [putRow, mapBlock, Array.getElem?_modify, Ne.symm h]

theorem sortWorld_other {α : Type} [Inhabited α] (enc : α → List Value) (k : Nat) (w : World) (g m : Nat) (dk : Array α) (os : Array Obj) (j : Nat) (hj : j < w.heap.size) (hne : j ≠ g) : (sortWorldK enc k w g 0 m dk os).heap[j]? = w.heap[j]? := by
  unfold sortWorldK putRowK
  show (grow (putRow id (Sort.ahead w m) g 0 (flatK enc k dk)) os).heap[j]? = _
  have hs : (putRow id (Sort.ahead w m) g 0 (flatK enc k dk)).heap.size = w.heap.size := by simp [putRow, mapBlock, Sort.ahead]
  show (_ ++ os)[j]? = _
  rw [Array.getElem?_append_left (by rw [hs]; exact hj), putRow_other _ _ _ _ hne]
  rfl

theorem putCells_take (F cur : Array Value) (h : F.size ≤ cur.size) : (putCells id 0 F cur).toList.take F.size = F.toList := by
  apply List.ext_getElem?
  intro i
  rw [List.getElem?_take]
  by_cases hi : i < F.size
  · rw [if_pos hi]
    have h1 : i < cur.size := by omega
    simp only [putCells, Array.toList_mapIdx, List.getElem?_mapIdx]
    rw [List.getElem?_eq_getElem (by simpa using h1), List.getElem?_eq_getElem (by simpa using hi)]
    simp only [Option.map_some, Nat.zero_le, Nat.zero_add, true_and, if_pos hi, Nat.sub_zero, id]
    rw [getElem!_pos F i hi, Array.getElem_toList]
  · rw [if_neg hi, List.getElem?_eq_none (by simp; omega)]

theorem flatK_toList {α : Type} [Inhabited α] (enc : α → List Value) (k : Nat) (hk : ∀ x, (enc x).length = k) (d : Array α) : (flatK enc k d).toList = (d.toList.map enc).flatten := by
  apply List.ext_getElem?
  intro t
  by_cases ht : t < d.size * k
  · have k0 : 0 < k := by rcases Nat.eq_zero_or_pos k with h | h
                          · subst h; simp at ht
                          · exact h
    have hq : t / k < d.size := (Nat.div_lt_iff_lt_mul k0).2 ht
    have hm : t % k < k := Nat.mod_lt _ k0
    have h1 : (flatK enc k d).toList[t]? = some (flatK enc k d)[t]! := by
      have hts : t < (flatK enc k d).size := by rw [size_flatK]; exact ht
      rw [List.getElem?_eq_getElem (by simpa using ht), Array.getElem_toList, getElem!_pos (flatK enc k d) t hts]
    have h2 : ((d.toList.map enc).flatten)[t / k * k + t % k]? = some (enc d[t / k]!)[t % k]! := by
      refine flat_get (sz := k) _ (fun c hc => ?_) (t / k) (enc d[t / k]!) (t % k) _ ?_ ?_
      · obtain ⟨x, _, rfl⟩ := List.mem_map.1 hc
        exact hk x
      · rw [List.getElem?_map, List.getElem?_eq_getElem (by simpa using hq), Option.map_some, Array.getElem_toList, getElem!_pos d _ hq]
      · have hm2 : t % k < (enc d[t / k]!).length := by rw [hk]; exact hm
        rw [List.getElem?_eq_getElem hm2, getElem!_pos (enc d[t / k]!) (t % k) hm2]
    rw [h1, get_flatK _ _ _ _ ht]
    rw [show t / k * k + t % k = t by rw [Nat.mul_comm]; exact Nat.div_add_mod t k] at h2
    exact h2.symm
  · have hl : ((d.toList.map enc).flatten).length = d.size * k := by
      have : ∀ l : List α, ((l.map enc).flatten).length = l.length * k := by
        intro l
        induction l with
        | nil => simp
        | cons x l ih => rw [List.map_cons, List.flatten_cons, List.length_append, ih, hk, List.length_cons, Nat.add_mul, Nat.one_mul, Nat.add_comm]
      rw [this]; simp
    rw [List.getElem?_eq_none (by simp; omega), List.getElem?_eq_none (by omega)]

theorem holds_of_owns (w : World) (base E k : Nat) (g n cap : Nat) (cs : List Value) (ho : w.ownsRow base E k (.slice (some ⟨g, 0, none⟩) n cap) n cs) (F : Array Value) (hF : F.toList = cs) : Holds id w g 0 F := by
  intro j hj
  have hj' : cs[j]? = some F[j]! := by
    rw [← hF, List.getElem?_eq_getElem (by simpa using hj), Array.getElem_toList, getElem!_pos F j hj]
  have h1 := ho.cells (g := g) rfl j _ hj'
  rw [add_plain] at h1
  refine ⟨by rw [Nat.zero_add]; exact h1, ?_⟩
  rcases ho.2 with ⟨h, _⟩ | ⟨g', cap', cur, he, _, hh, _⟩
  · cases h
  · injection he with he _ _
    injection he with he
    injection he with he
    subst he
    simp [World.frozen?, hh]

theorem wf_tags {β : Type} {d : Ty β} {ok : Nat → Prop} {w : World} (xs : List β) : ∀ (cells : List (List Value)) (m : Nat), cells.length = xs.length → (∀ (i : Nat) (x : β) (c : List Value), xs[i]? = some x → cells[i]? = some c → d.R ok w x c) →
    ∃ l : List (El d ok w), l.map El.x = xs ∧ l.map El.cells = cells ∧ ∀ (i : Nat) (e : El d ok w), l[i]? = some e → e.tag = m + i := by
  induction xs with
  | nil => intro cells m hl _; exact ⟨[], rfl, by cases cells; rfl; simp at hl, fun i e h => by simp at h⟩
  | cons x xs ih =>
    intro cells m hl hr
    cases cells with
    | nil => simp at hl
    | cons c cells =>
      obtain ⟨l, h1, h2, h3⟩ := ih cells (m + 1) (by simpa using hl) (fun i x c hx hc => hr (i + 1) x c (by simpa using hx) (by simpa using hc))
      refine ⟨⟨c, x, m, hr 0 x c rfl rfl⟩ :: l, by simp [h1], by simp [h2], fun i e he => ?_⟩
      cases i with
      | zero =>
        simp only [List.getElem?_cons_zero, Option.some.injEq] at he
        subst he; rfl
      | succ i => rw [h3 i e (by simpa using he)]; omega

set_option maxHeartbeats 4000000 in
set_option maxRecDepth 100000 in
theorem sort_none (A : Option Addr) (c g : Nat) (cb : Array Value) (w : World) :
    Calls Try.prog 87 #[.slice A 0 c, .func (.func g) #[] cb] w fun e w' => e = .returned (.tuple #[]) ∧ w = w' := by
  go_enter Try.func87, Try.ntmps87
  go_wp2
  refine wp_loop_rounds 1 ?_
  rw [rounds_succ]
  go_wp2
  refine wp_loop_rounds 1 ?_
  rw [rounds_succ]
  go_wp2
  go_end0
  go_wp2
  refine wp_loop_rounds 1 ?_
  rw [rounds_succ]
  go_wp2
  go_end0
  go_wp2
  go_end0
  exact ⟨rfl, rfl⟩

theorem sortOwn {β : Type} (d : Ty β) (hk : d.sz = 2) (ok : Nat → Prop) (w : World) (base : Nat) (v : Value) (xs : List β) (h : Own d 159 ok w base v xs) (cf : β → β → Int) (hS : SWO (ltOf cf)) (g : Nat) (cb : Array Value)
    (eg : ∀ args w, (callFunc g args).run Try.prog w = .ok (.enter g args) w)
    (hcmp : ∀ (x y : β) (cx cy : List Value) (W : World), d.R (fun k => ok k ∧ some k ≠ v.ownBlock) W x cx → d.R (fun k => ok k ∧ some k ≠ v.ownBlock) W y cy →
      Calls Try.prog g (#[.agg cx.toArray, .agg cy.toArray] ++ cb) W fun e w' => e = .returned (.int .i64 (cf x y)) ∧ ∃ q os, w' = grow (W.drewN q) os) (hsz : xs.length < 1152921504606846976) :
    Calls Try.prog 87 #[v, .func (.func g) #[] cb] w fun e w' => e = .returned (.tuple #[]) ∧ Own d 159 ok w' base v (isort (ltOf cf) xs) ∧ w.grownBy w' v.ownBlock := by
  rcases h.shape with ⟨rfl, rfl⟩ | ⟨g0, cap, rfl, hb, hlt, hc, hc2⟩
  · refine (sort_none none 0 g cb w).mono ?_
    rintro e w' ⟨rfl, rfl⟩
    exact ⟨rfl, Own.nil _ _ _ _ _, ⟨rfl, rfl, rfl, Nat.le_refl _, fun _ _ _ => rfl⟩⟩
  · by_cases hx : xs = []
    · subst hx
      refine (sort_none _ cap g cb w).mono ?_
      rintro e w' ⟨rfl, rfl⟩
      exact ⟨rfl, h, ⟨rfl, rfl, rfl, Nat.le_refl _, fun _ _ _ => rfl⟩⟩
    · obtain ⟨cells, hlc, ho, hr⟩ := h
      have hne : ∀ k, (ok k ∧ some k ≠ (Value.slice (some ⟨g0, 0, none⟩) xs.length cap).ownBlock) → k ≠ g0 := fun k hk e => hk.2 (by rw [e]; rfl)
      obtain ⟨l, hl1, hl2, hl3⟩ := wf_tags xs cells 0 hlc hr
      have hll : l.length = xs.length := by have := congrArg List.length hl1; rwa [List.length_map] at this
      have e0 : El d (fun k => ok k ∧ some k ≠ (Value.slice (some ⟨g0, 0, none⟩) xs.length cap).ownBlock) w := by
        cases l with
        | nil => exact absurd (by simpa using hl1.symm) hx
        | cons e _ => exact e
      haveI : Inhabited (El d (fun k => ok k ∧ some k ≠ (Value.slice (some ⟨g0, 0, none⟩) xs.length cap).ownBlock) w) := ⟨e0⟩
      have hkk : ∀ x : El d (fun k => ok k ∧ some k ≠ (Value.slice (some ⟨g0, 0, none⟩) xs.length cap).ownBlock) w, x.cells.length = 2 := fun x => by rw [d.len x.hr, hk]
      have hF : (flatK El.cells 2 l.toArray).toList = cells.flatten := by rw [flatK_toList _ _ hkk]; simp [hl2]
      rw [hk] at ho
      have hH : HoldsK El.cells 2 w g0 0 l.toArray := holds_of_owns w base _ 2 g0 _ cap _ ho _ hF
      have R : RowK El.cells 2 w g0 0 l.toArray := ⟨hkk, fun x => d.one x.hr, hH, hlt⟩
      have hC : CmpLays Try.prog g cb El.cells 2 (fun a b => cf a.x b.x) g0 0 l.toArray.size w := fun m os dk _ x y => by
        have mv : ∀ k, (ok k ∧ some k ≠ (Value.slice (some ⟨g0, 0, none⟩) xs.length cap).ownBlock) → k < w.heap.size → (sortWorldK (α := El d (fun k => ok k ∧ some k ≠ (Value.slice (some ⟨g0, 0, none⟩) xs.length cap).ownBlock) w) El.cells 2 w g0 0 m dk os).heap[k]? = w.heap[k]? := fun k hk hkl => sortWorld_other _ _ _ _ _ _ _ _ hkl (hne k hk)
        exact hcmp x.x y.x x.cells y.cells _ (d.move mv x.hr) (d.move mv y.hr)
      have hSE : SWO (ltOf fun a b : El d (fun k => ok k ∧ some k ≠ (Value.slice (some ⟨g0, 0, none⟩) xs.length cap).ownBlock) w => cf a.x b.x) :=
        ⟨fun x => hS.irrefl x.x, fun x y z => hS.trans x.x y.x z.x, fun x y z => hS.ntrans x.x y.x z.x⟩
      have hs : l.toArray.size = xs.length := by simpa using hll
      have C := sortCalls (P := Try.prog) laid El.cells (fun a b => cf a.x b.x) g cb g0 0 cap l.toArray w eg hC R (by rw [hs]; exact hsz)
      rw [hs] at C
      refine C.mono ?_
      rintro e w' ⟨rfl, n, os, hw⟩
      have hst : (stable (ltOf fun a b : El d (fun k => ok k ∧ some k ≠ (Value.slice (some ⟨g0, 0, none⟩) xs.length cap).ownBlock) w => cf a.x b.x) l.toArray).toList = isort (ltOf fun a b => cf a.x b.x) l := by
        refine stable_isort (tag := El.tag) hSE l.toArray (fun i j hij hj => ?_)
        have hj' : j < l.length := by simpa using hj
        have t1 := hl3 i l[i] (List.getElem?_eq_getElem (by omega))
        have t2 := hl3 j l[j] (List.getElem?_eq_getElem hj')
        rw [getElem!_pos l.toArray i (by simp; omega), getElem!_pos l.toArray j (by simpa using hj')]
        simp only [List.getElem_toArray]
        omega
      have hmap : (isort (ltOf fun a b : El d (fun k => ok k ∧ some k ≠ (Value.slice (some ⟨g0, 0, none⟩) xs.length cap).ownBlock) w => cf a.x b.x) l).map El.x = isort (ltOf cf) xs := by
        rw [← hl1]
        exact isort_map (El.x (d := d)) (ltOf cf) l
      generalize stable (ltOf fun a b : El d (fun k => ok k ∧ some k ≠ (Value.slice (some ⟨g0, 0, none⟩) xs.length cap).ownBlock) w => cf a.x b.x) l.toArray = ds at hw hst
      have hdl : ds.toList.map El.x = isort (ltOf cf) xs := by rw [hst]; exact hmap
      have hdn : ds.size = xs.length := by
        have h1 := congrArg List.length hdl
        rw [List.length_map, (isort_perm xs).length_eq] at h1
        simpa using h1
      have hg : w.grownBy w' (some g0) := by
        rw [hw]
        refine ⟨rfl, rfl, rfl, ?_, fun k hk hkn => sortWorld_other El.cells 2 w g0 n ds os k hk (fun e => hkn (by rw [e]))⟩
        unfold sortWorldK putRowK
        simp [grow, putRow, mapBlock, Sort.ahead]
      refine ⟨rfl, ⟨ds.toList.map El.cells, by rw [List.length_map, ← hdl, List.length_map], ?_, fun i x c hx hc => ?_⟩, hg⟩
      · have hn : (isort (ltOf cf) xs).length = xs.length := (isort_perm xs).length_eq
        rcases ho with ⟨q1, q2⟩
        rcases q2 with ⟨q2, _⟩ | ⟨g', cap', cur, he, hbg, hh, hcc, hcm, hcs, htk⟩
        · cases q2
        · injection he with he1 he2 he3
          injection he1 with he1
          injection he1 with he1
          subst he1; subst he3
          have hFs : (flatK El.cells 2 ds).size = xs.length * 2 := by rw [size_flatK, hdn]
          have hfl : (flatK El.cells 2 ds).toList = (ds.toList.map El.cells).flatten := flatK_toList _ _ hkk ds
          rw [hn, hk]
          refine ⟨by rw [← hfl, Array.length_toList, hFs], .inr ⟨g0, cap, putCells id 0 (flatK El.cells 2 ds) cur, rfl, hbg, ?_, hcc, hcm, by simp [putCells, hcs], ?_⟩⟩
          · rw [hw]
            unfold sortWorldK putRowK
            show (_ ++ os)[g0]? = _
            have hs2 : (putRow id (Sort.ahead w n) g0 0 (flatK El.cells 2 ds)).heap.size = w.heap.size := by simp [putRow, mapBlock, Sort.ahead]
            rw [Array.getElem?_append_left (by rw [hs2]; exact hlt)]
            exact putRow_block _ _ _ _ _ _ hh
          · rw [← hfl, ← hFs]
            exact putCells_take _ _ (by rw [hFs, hcs]; exact Nat.mul_le_mul_right _ hcc)
      · rw [← hdl, List.getElem?_map] at hx
        rw [List.getElem?_map] at hc
        cases he : ds.toList[i]? with
        | none => rw [he] at hx; cases hx
        | some el =>
          rw [he] at hx hc
          simp only [Option.map_some, Option.some.injEq] at hx hc
          subst hx; subst hc
          have hn : (isort (ltOf cf) xs).length = xs.length := (isort_perm xs).length_eq
          exact d.move (fun k hk hkl => hg.block k hkl (fun e => hk.2 (by rw [e]; rfl))) el.hr

end Go.Proofs.Ytkfoknjflpklpaa.StabRow

namespace Go.Proofs.Ytkfoknjflpklpaa.D
open Go Go.RowKit Go.Proofs.Ytkfoknjflpklpaa.Mem Go.Proofs.Ytkfoknjflpklpaa.Cmp Go.Sort Go.Proofs.Ytkfoknjflpklpaa.Stab

structure Rw where
  id : Int
  vals : List Val
def tRw : Ty Rw where
  sz := 2
  R := fun ok w x cs => ∃ v, cs = [.int .i64 x.id, v] ∧ Sl tVal ok w v x.vals
  len := fun ⟨_, h, _⟩ => by rw [h]; rfl
  one := fun ⟨v, h, hs⟩ u hu => by
    rw [h] at hu
    simp only [List.mem_cons, List.not_mem_nil, or_false] at hu
    rcases hu with rfl | rfl
    · rfl
    · exact hs.oneCell
  mono := fun hok ⟨v, h, hs⟩ => ⟨v, h, hs.mono hok⟩
  move := fun hm ⟨v, h, hs⟩ => ⟨v, h, hs.move hm⟩
  bnd := fun ⟨v, h, hs⟩ => ⟨v, h, hs.bnd⟩
theorem infoRw : (Try.prog.info? 159).map (fun i => (i.zero, i.size, i.bytes)) = some (some (.agg #[.int .i64 0, .slice none 0 0]), tRw.sz, 32) := by kernel_rfl
def rwCmp (a b : Rw) : Int := compareI a.id b.id
theorem swo_rw : SWO (ltOf rwCmp) := by
  have e : ltOf rwCmp = fun a b => decide (a.id < b.id) := by
    funext a b
    simp only [ltOf, rwCmp, compareI]
    by_cases h1 : a.id < b.id
    · simp [h1]
    · by_cases h2 : b.id < a.id <;> simp [h1, h2]
  rw [e]
  refine ⟨fun x => by simp, fun x y z h1 h2 => ?_, fun x y z h1 h2 => ?_⟩ <;> simp at * <;> omega

set_option maxHeartbeats 2000000 in
set_option maxRecDepth 100000 in
theorem rwCmpCalls (i1 i2 : Int) (u1 u2 : Value) (w : World) : Calls Try.prog 88 #[.agg #[.int .i64 i1, u1], .agg #[.int .i64 i2, u2]] w fun e w' => e = .returned (.int .i64 (compareI i1 i2)) ∧ ∃ q os, w' = grow (w.drewN q) os := by
  go_enter Try.func88, Try.ntmps88
  go_wp2_with fail
  refine (compareInt _ _ _).mono ?_
  rintro e w' ⟨rfl, rfl⟩
  go_wp2_with fail
  go_ret
  refine ⟨rfl, ?_⟩
  rw [alloc_eq_grow, alloc_eq_grow, grow_grow]
  exact ⟨0, _, rfl⟩

set_option maxRecDepth 100000 in
theorem rwSort (ok : Nat → Prop) (w : World) (base : Nat) (v : Value) (xs : List Rw) (h : Own tRw 159 ok w base v xs) (hl : xs.length ≤ 1000) :
    Calls Try.prog 87 #[v, .func (.func 88) #[] #[]] w fun e w' => e = .returned (.tuple #[]) ∧ Own tRw 159 ok w' base v (isort (ltOf rwCmp) xs) ∧ w.grownBy w' v.ownBlock := by
  refine StabRow.sortOwn tRw rfl _ w _ v xs h rwCmp swo_rw 88 #[] (fun args w => by rfl) (fun x y cx cy W hx hy => ?_) (by omega)
  obtain ⟨a, rfl, _⟩ := hx
  obtain ⟨b, rfl, _⟩ := hy
  exact rwCmpCalls x.id y.id _ _ W

set_option maxHeartbeats 2000000 in
set_option maxRecDepth 100000 in
theorem isCalls (a b c d : Value) (w : World) : Calls Try.prog 85 #[.agg #[a, b, c, d]] w fun e w' => e = .returned d ∧ Below w.heap.size w w' := by
  go_enter Try.func85, Try.ntmps85
  go_wp2_with fail
  go_ret
  exact ⟨rfl, below_alloc (Below.refl _ _) _⟩

def rwOf (c : Chg) : Rw := ⟨c.id, c.new⟩

set_option maxHeartbeats 8000000 in
set_option maxRecDepth 100000 in
theorem transCalls (okn : Nat → Prop) (vn : Value) (xs : List Chg) (tb : ByteArray) (w : World) (hn : Sl tChg okn w vn xs) (hl : xs.length ≤ 1000) (hb : ∀ c ∈ xs, c.old.length ≤ 1000 ∧ c.new.length ≤ 1000) :
    Calls Try.prog 60 #[vn, .string tb, .int .i64 1] w fun e w' => (∃ A c, e = .returned (.slice A (xs.filter (Chg.isOf tb 1)).length c)) ∧ Below w.heap.size w w' := by
  have C := put (ofCalls okn vn xs tb 1 w hn hl hb)
  have HLX : Kp ((xs.filter (Chg.isOf tb 1)).length ≤ 1000) := put (Nat.le_trans (List.length_filter_le _ _) hl)
  clear hn hl hb
  go_enter Try.func60, Try.ntmps60
  go_wp2_with fail
  refine C.out.mono ?_
  rintro e w5 ⟨vo, rfl, ho, hb5⟩
  obtain ⟨Ao, co, rfl, l1, l2⟩ := ho.form
  obtain ⟨ys, hys⟩ : ∃ ys, ys = xs.filter (Chg.isOf tb 1) := ⟨_, rfl⟩
  rw [← hys] at l1 ho HLX ⊢
  have HYS := put hys
  obtain ⟨m, hm⟩ : ∃ m, m = ys.length := ⟨_, rfl⟩
  rw [← hm] at l1 ho HLX ⊢
  have HM := put hm
  have HB5 := put hb5
  have HS : Kp (Sl tChg (fun k => k < w5.heap.size) w5 (.slice Ao m co) ys) := put (((Own.bnd ho).sl (ok' := fun k => k < w5.heap.size) (fun k hk => (ho.lt k hk).2) (fun k hk => hk.2) (by have := HLX.out; omega)))
  clear C ho hb5 hm hys
  go_wp2_with fail
  go_loopg [9, 26] m (fun kx s9 s26 wr => ∃ (i : Nat) (Ar : Option Addr) (cr : Nat), s9 = .slice Ar i cr ∧ s26 = .int .i64 i ∧ i ≤ m ∧ m - i ≤ kx ∧ Kp (Own tRw 159 (fun k => k < w5.heap.size) wr w5.heap.size (.slice Ar i cr) ((ys.take i).map rwOf)) ∧ Kp (Below w5.heap.size w5 wr))
  case atStart => exact ⟨0, none, 0, rfl, rfl, Nat.zero_le _, Nat.le_refl _, put (Own.nil _ _ _ _ _), put (Below.refl _ _)⟩
  case round =>
    obtain ⟨i, Ar, cr, rfl, rfl, hi, hkx, KO, KB⟩ := hrel
    by_cases hlt : i < m
    · have hlz : (i : Int) < (m : Int) := by omega
      have i0 : (0 : Int) ≤ (i : Int) := by omega
      obtain ⟨ad, x, A2, k2, A3, k3, rfl, hx, x0, x1, x2, x3, KR, _⟩ := chgs_at (HS.out.below KB.out).row.1 i (by rw [← HM.out]; exact hlt)
      have KX := put hx
      clear hx
      go_wp2_with fail
      obtain ⟨wk, hwk⟩ : ∃ wk, wk = wr.alloc (.cells #[.string x.table, .int .i64 x.id, .slice A2 x.old.length k2, .slice A3 x.new.length k3] 40) := ⟨_, rfl⟩
      obtain ⟨K, hK⟩ : ∃ K, K = wr.heap.size := ⟨_, rfl⟩
      have hbk : Below wr.heap.size wr wk := by rw [hwk]; exact balloc (Below.refl _ _) _
      have f0 : wk.cell? ⟨K, 0, none⟩ = some (.string x.table) := by rw [hwk, hK]; simp
      have f1 : wk.cell? ⟨K, 1, none⟩ = some (.int .i64 x.id) := by rw [hwk, hK]; simp
      have f2 : wk.cell? ⟨K, 2, none⟩ = some (.slice A2 x.old.length k2) := by rw [hwk, hK]; simp
      have f3 : wk.cell? ⟨K, 3, none⟩ = some (.slice A3 x.new.length k3) := by rw [hwk, hK]; simp
      have hks : K < wk.heap.size := by rw [hwk, hK]; simp
      rw [← hwk, ← hK]
      have HBK := put hbk
      have HKE := put hK
      have HLI : Kp (i < m ∧ m ≤ 1000) := put ⟨hlt, HLX.out⟩
      clear hwk hbk hK x0 x1 x2 x3
      go_region_held3 (fun w' => w'.cell? ⟨K, 0, none⟩ = some (.string x.table) ∧ w'.cell? ⟨K, 1, none⟩ = some (.int .i64 x.id) ∧ w'.cell? ⟨K, 2, none⟩ = some (.slice A2 x.old.length k2) ∧ w'.cell? ⟨K, 3, none⟩ = some (.slice A3 x.new.length k3)) (first | go_keep | exact ⟨q0, q1, q2, q3⟩ | exact ⟨m0, m1, m2, m3⟩)
        (first | (go_at_call 85; refine (isCalls _ _ _ _ _).mono ?_; rintro e w6 ⟨rfl, hb6⟩; have hb : Below wk.heap.size wk w6 := Below.trans (Below.refl _ _).drew hb6; have m0 := (hb.cell (p := ⟨K, 0, none⟩) hks).trans f0; have m1 := (hb.cell (p := ⟨K, 1, none⟩) hks).trans f1; have m2 := (hb.cell (p := ⟨K, 2, none⟩) hks).trans f2; have m3 := (hb.cell (p := ⟨K, 3, none⟩) hks).trans f3; have hks6 : K < w6.heap.size := Nat.lt_of_lt_of_le hks hb.size; have HB6 : Kp (Below wr.heap.size wr w6) := put (HBK.out.trans (hb.mono HBK.out.size)); clear hb6 hb) | (refine step_push1 tRw w5.heap.size rfl _ _ 118 159 _ 32 rfl Try.underlying118 infoRw rfl (by decide) (by decide) (.slice Ar i cr) _ ((ys.take i).map rwOf) (rwOf x) [.int .i64 x.id, .slice A3 x.new.length k3] (fun k => k < w5.heap.size) rfl rfl (heap_alloc_new _ _) ⟨_, rfl, ((R_parts KR.out).2.below (Below.trans HB6.out (Below.mono (balloc (Below.refl _ _) _) HB6.out.size))).mono (fun k hk => ⟨hk, fun e => by have := (KO.out.lt k e.symm).1; omega⟩)⟩ (KO.out.below (Below.trans HB6.out (Below.mono (balloc (Below.refl _ _) _) HB6.out.size))) (Nat.le_trans KB.out.size (Nat.le_trans HB6.out.size (by simp))) (by rw [List.length_map, List.length_take]; have := HLI.out; omega) ?_; intro v1 w7 ho hg hat; obtain ⟨V9, c9, e9, _, _⟩ := ho.form; rw [show ((ys.take i).map rwOf ++ [rwOf x]).length = i + 1 by rw [List.length_append, List.length_map, List.length_take, List.length_singleton]; have := HLI.out; have := HM.out; omega] at e9; subst e9; have hg6 : w6.grownBy w7 (Value.slice Ar i cr).ownBlock := World.grownBy.trans (World.grownBy_alloc w6 _ _) hg; have hK7 := hg6.block K hks6 (fun e => by have h1 := (KO.out.lt K e.symm).2; have h2 := HKE.out; omega); have q0 := (World.cell?_of_block (a := ⟨K, 0, none⟩) hK7).trans m0; have q1 := (World.cell?_of_block (a := ⟨K, 1, none⟩) hK7).trans m1; have q2 := (World.cell?_of_block (a := ⟨K, 2, none⟩) hK7).trans m2; have q3 := (World.cell?_of_block (a := ⟨K, 3, none⟩) hK7).trans m3; have HO7 := put ho; have HG6 := put hg6; clear ho hg hat hg6 hK7))
      go_wp2_with fail
      go_roundg (m - (i + 1))
      case measure => omega
      case rel => exact ⟨i + 1, _, c9, rfl, by go_num, by omega, Nat.le_refl _, put (by rw [take_one_more KX.out, List.map_append]; exact HO7.out), put ((KB.out.trans (HB6.out.mono KB.out.size)).grown HG6.out (Nat.le_trans KB.out.size HB6.out.size) (fun k hk => (KO.out.lt k hk).1))⟩
    · have hlz : ¬ (i : Int) < (m : Int) := by omega
      obtain rfl : m = i := by omega
      go_wp2_with fail
      refine (rwSort _ _ _ _ _ KO.out (by rw [List.length_map, List.length_take]; have := HLX.out; omega)).mono ?_
      rintro e w9 ⟨rfl, ho9, hg9⟩
      have HB9 := put ((HB5.out.trans (KB.out.mono HB5.out.size)).grown hg9 (Nat.le_trans HB5.out.size KB.out.size) (fun k hk => Nat.le_trans HB5.out.size (KO.out.lt k hk).1))
      clear ho9 hg9
      go_wp2_with fail
      go_ret
      refine ⟨⟨Ar, cr, ?_⟩, HB9.out⟩
      rw [← HYS.out, ← HM.out]
      rfl
end Go.Proofs.Ytkfoknjflpklpaa.D

namespace Go.Proofs.Ytkfoknjflpklpaa.D
open Go Go.RowKit Go.Sort Go.Proofs.Ytkfoknjflpklpaa.Mem Go.Proofs.Ytkfoknjflpklpaa.Stab

theorem wp_store_over {P : Program} {op : Oper} {a : Act} {w : World} {K : Act → World → Prop} {Q : Exit → Act → World → Prop} (ty : TypeId) (x y : Operand) (ho : op.op = .store ty x y)
    (b : Nat) (cur : Array Value) (t : TypeId) (cs : List Value) (hx : a.eval x = .pointer (some ⟨b, 0, none⟩)) (hy : a.eval y = .agg cs.toArray)
    (hh : w.heap[b]? = some (.cells cur t (0, 0))) (hsz : cur.size = cs.length) (hi : (P.info? ty).map (·.size) = some cs.length) (h1 : ∀ v ∈ cs, v.oneCell' = true)
    (h : ∀ w8, w8 = w.setCells b 0 cs → w8.heap[b]? = some (.cells cs.toArray t (0, 0)) → K (a.put op.dst undef) w8) : op.wp P a w K Q :=
  wp_store_mid ty x y ho b 0 cs.toArray hx hy (fun j hj => by
    have hj' : j < cur.size := by rw [hsz]; simpa using hj
    constructor
    · simp only [World.cell?, hh, Nat.zero_add]
      simp [hj']
    · simp [World.frozen?, hh]) (by simpa using hi) (all_oneCell_toArray h1) (h _ (by simp) (by
    obtain ⟨cur', h2, h3, h4⟩ := setCells_heap b t cs 0 w cur hh (by omega)
    have : cur'.toList = cs := by rw [h4, Nat.zero_add, List.drop_of_length_le (by simp; omega)]; simp
    rw [h2]
    congr 2
    exact Array.toList_inj.1 (by simpa using this)))

set_option maxHeartbeats 4000000 in
theorem rowCalls23 (n : Int) (w : World) : Calls Try.prog 59 #[.int .i64 n] w fun e w' => e = .returned (.slice (some ⟨w.heap.size, 0, none⟩) 1 1) ∧ w.alloc (.cells #[.int .i64 2, .int .i64 n, .string ⟨#[]⟩] 55) = w' := by
  go_enter Try.func59, Try.ntmps59
  go_wp2
  go_ret
  exact ⟨rfl, rfl⟩

def rule0 : Rl := ⟨⟨#[114]⟩, ⟨#[116]⟩, 0, 1, false⟩
theorem rule0_R (ok : Nat → Prop) (w : World) : (tSt 1).R ok w rule0 [.int .i64 8, .string { data := #[114] }, .string { data := #[116] }, .string { data := #[] }, .slice none 0 0, .slice none 0 0, .slice none 0 0, .slice none 0 0, .slice none 0 0, .slice none 0 0, .int .i64 0, .int .i64 1, .bool false, .bool true, .slice none 0 0] :=
  ⟨8, ⟨#[]⟩, true, _, _, _, _, _, _, _, [], [], [], [], [], [], rfl, by decide, ⟨none, 0, 0, rfl, by omega, by omega, by omega⟩, ⟨Sl.nil _ _ _, by simp⟩, ⟨Sl.nil _ _ _, by simp⟩, ⟨Sl.nil _ _ _, by simp⟩, ⟨Sl.nil _ _ _, by simp⟩, ⟨Sl.nil _ _ _, by simp⟩, ⟨Sl.nil _ _ _, by simp⟩⟩
def log1 : List Chg := [chgOf [] (rowOf 1)]
def log2 : List Chg := [chgOf [] (rowOf 1), chgOf (rowOf 1) []]
theorem net_one {x : Chg} (h : x.kind ≠ 0) : net [x] = [x] := by
  have h2 : isort (ltOf chgCmp) [x] = [x] := by simp [isort, ins]
  unfold net
  rw [h2, netScan]
  simp only [List.takeWhile_nil, List.dropWhile_nil, netScan, List.append_nil]
  exact if_neg h
def mk0 : ByteArray → Int := fun s => (marksOf [rule0] 0 s).getD 0
theorem mk0_r : mk0 rule0.name = 0 := by simp [mk0, marksOf]
theorem seen1 : seen mk0 log1 rule0 = log1 := by
  unfold seen
  rw [mk0_r]
  show net (log1.drop (markOf 0 1)) = log1
  rw [show markOf 0 1 = 0 from rfl, List.drop_zero]
  exact net_one (by decide)
theorem seen2 : seen mk0 log2 rule0 = [] := by
  unfold seen
  rw [mk0_r]
  show net (log2.drop (markOf 0 2)) = []
  rw [show markOf 0 2 = 0 from rfl, List.drop_zero]
  exact net_first
theorem first1 : firstOf mk0 log1 false [rule0] = some rule0 := by
  have h : trig mk0 log1 rule0 = true := by
    have := seen1
    unfold seen at this
    unfold trig
    rw [this]
    decide
  unfold firstOf
  simp only [List.find?_cons, h]
  rfl
theorem first2 : firstOf mk0 log2 false [rule0] = none := by
  have h : trig mk0 log2 rule0 = false := by
    have := seen2
    unfold seen at this
    unfold trig
    rw [this]
    rfl
  unfold firstOf
  simp only [List.find?_cons, h, Bool.and_false, List.find?_nil]
theorem sort_one : isort (ltOf rlCmp) [rule0] = [rule0] := by simp [isort, ins]

set_option maxHeartbeats 8000000 in
set_option maxRecDepth 1000000 in
theorem awakeCalls23 (w : World) : Calls Try.prog 31 #[] w fun e w' => e = .returned (.bool true) ∧ Below w.heap.size w w' := by
  go_enter Try.func31, Try.ntmps31
  go_wp2_with (first | (go_at_call 34; refine (agNewCalls _).mono ?_; rintro e w1 ⟨rfl, hw1⟩) | (go_at_call 26; refine (newCalls _).mono ?_; rintro e w2 ⟨rfl, hw2⟩))
  clear hw1
  have hs2 : w2.heap.size = w.heap.size + 3 := by rw [hw2]; simp
  have hA2 : AgAt w2 (w.heap.size + 1) (.slice none 0 0) w.heap.size := by
    rw [hw2]
    exact AgAt.below (show AgAt ((w.alloc (.map #[] 0)).alloc (.cells #[.slice none 0 0, .map (some w.heap.size)] 131)) (w.heap.size + 1) _ _ from top_get (by simp)) (balloc (Below.refl _ _) _)
  have hM2 : Marks w2 w.heap.size 0 (fun _ => none) := by
    rw [hw2]
    exact ((Marks.made w).below (balloc (Below.refl _ _) _)).below (balloc (Below.refl _ _) _)
  have hT2 : w2.heap[w.heap.size + 1 + 1]? = some (.cells #[.slice none 0 0] 116 (0, 0)) := by rw [hw2]; exact top_get (by simp)
  have hB2 : Below w.heap.size w w2 := by rw [hw2]; exact balloc (balloc (balloc (Below.refl _ _) _) _) _
  rw [← hw2]
  obtain ⟨a, ha⟩ : ∃ a, a = w.heap.size + 1 := ⟨_, rfl⟩
  rw [← ha] at hA2 hT2 ⊢
  obtain ⟨T, hT⟩ : ∃ T, T = a + 1 := ⟨_, rfl⟩
  rw [← hT] at hT2 ⊢
  have HT := put hT
  have HA2 := put hA2
  have HM2 := put hM2
  have HT2 := put hT2
  have HB2 := put hB2
  have HSZ : Kp (a = w.heap.size + 1 ∧ w2.heap.size = T + 1 ∧ T = w.heap.size + 2) := put ⟨ha, by omega, by omega⟩
  clear hw2 ha hs2 hA2 hM2 hT2 hB2 hT
  refine (rulesCalls 1 (fun k => k = T + 1) _ a w.heap.size _ _ [rule0] 0 (HA2.out.below (balloc (Below.refl _ _) _)) (HM2.out.below (balloc (Below.refl _ _) _)) (lit_sl (p := rule0) (cs := [.int .i64 8, .string { data := #[114] }, .string { data := #[116] }, .string { data := #[] }, .slice none 0 0, .slice none 0 0, .slice none 0 0, .slice none 0 0, .slice none 0 0, .slice none 0 0, .int .i64 0, .int .i64 1, .bool false, .bool true, .slice none 0 0]) (top_get (w := w2) HSZ.out.2.1.symm) (rule0_R _ _) rfl) (by simp) (by simp) (fun k hk => by have := HSZ.out; omega) (by have := HSZ.out; omega)).mono ?_
  rintro e w4 ⟨⟨r, rfl⟩, A4, c4, m2, hA4, hm2, hO4, hM4, hB4⟩
  rw [sort_one] at hO4
  have HA4 := put hA4
  have HM4 := put hM4
  have HTa : Kp (T ≠ a ∧ T < w2.heap.size) := put (by have h1 := HSZ.out; omega)
  have HT4 := put ((hB4.block T (by have := HTa.out; simp; omega) (fun e => HTa.out.1 e)).trans ((Below.heap_alloc _ _ _ HTa.out.2).trans HT2.out))
  have HS4 : Kp (w2.heap.size < w4.heap.size) := put (by have := hB4.size; simp at this; omega)
  have HB4 : Kp (Below w.heap.size w w4) := put (HB2.out.trans ((balloc (Below.refl _ _) _).mono HB2.out.size) |>.trans (hB4.below (N := w.heap.size) (by have := HSZ.out; simp; omega) (fun k hk => by have := HSZ.out; omega)))
  have HM2l : Kp (m2 < w4.heap.size ∧ m2 ≠ T) := put ⟨hM4.lt, by have := HTa.out; simp at hm2; omega⟩
  have HO4 : Kp (Sl (tSt 1) (fun k => k < w4.heap.size ∧ k ≠ T) w4 (.slice A4 1 c4) [rule0]) := put (((Own.bnd hO4).sl (ok' := fun k => k < w4.heap.size ∧ k ≠ T) (fun k hk => ⟨(hO4.lt k hk).2, fun e => by have h1 := (hO4.lt k hk).1; have h2 := HTa.out; simp at h1; omega⟩) (fun k hk => ⟨hk.2, fun e => by have h1 := HTa.out; have h2 := hk.1.1; omega⟩) (by simp)))
  clear hA4 hM4 hO4 hB4 hm2
  go_wp2_with (first | (go_at_call 59; refine (rowCalls23 _ _).mono ?_; rintro e w5 ⟨rfl, hw5⟩))
  have HW5 := put hw5
  have hs5 : w5.heap.size = w4.heap.size + 1 := by rw [← hw5]; simp
  have h5 : Below w4.heap.size w4 w5 := by rw [← hw5]; exact balloc (Below.refl _ _) _
  have hr5 : w5.heap[w4.heap.size]? = some (.cells #[.int .i64 2, .int .i64 1, .string ⟨#[]⟩] 55 (0, 0)) := by rw [← hw5]; exact heap_alloc_new _ _
  have HT5 := put ((h5.block T (Array.getElem?_eq_some_iff.1 HT4.out).1).trans HT4.out)
  have HS5 := put hs5
  have H5 := put h5
  clear hw5 hs5 h5
  refine (noteCalls (fun k => w5.heap.size ≤ k) (fun _ => True) w5 T 0 0 w5.heap.size none none (some ⟨w4.heap.size, 0, none⟩) 0 1 [] (chgOf [] (rowOf 1)) HT5.out (Own.nil _ _ _ _ _) ⟨_, _, rfl, Sl.nil _ _ _, vals_lit hr5 trivial⟩ (by decide) (by decide) (by simp) rfl (fun k hk e => by have h1 := HTa.out; have h2 := HS4.out; have h3 := HS5.out; omega) (Nat.le_refl _)).mono ?_
  rintro e w6 ⟨⟨r6, rfl⟩, A6, c6, hT6, hO6, hB6⟩
  have hO6' : Own tChg 40 (fun k => w5.heap.size ≤ k) w6 w5.heap.size (.slice A6 1 c6) log1 := hO6.mono (fun k hk => hk.elim id id)
  have h56 : Below w5.heap.size w5 w6 ∨ True := .inr trivial
  clear h56
  have hk6 : ∀ k, k < w5.heap.size → k ≠ T → w6.heap[k]? = w5.heap[k]? := fun k hk hne => hB6.block k hk (fun e => e.elim hne (fun e => by simp [Value.ownBlock] at e))
  have hs6 := hB6.size
  have HO6 := put hO6'
  have HT6 := put hT6
  have HAn : Kp (a < w2.heap.size ∧ a ≠ T) := put ⟨HA2.out.lt, fun e => HTa.out.1 e.symm⟩
  have HA6 : Kp (AgAt w6 a (.slice A4 1 c4) m2) := put ((HA4.out.below H5.out).kept (hk6 a (by have h1 := HA4.out.lt; have h2 := HS5.out; omega) HAn.out.2))
  have HM6 : Kp (Marks w6 m2 11 (marksOf [rule0] 0)) := put ((HM4.out.below H5.out).kept (hk6 m2 (by have h1 := HM2l.out.1; have h2 := HS5.out; omega) HM2l.out.2))
  have HR6 : Kp (Sl (tSt 1) (fun k => k < w4.heap.size ∧ k ≠ T) w6 (.slice A4 1 c4) [rule0]) := put ((HO4.out.below H5.out).move (fun k hk _ => hk6 k (by have h1 := hk.1; have h2 := HS5.out; omega) hk.2))
  have HB6 : Kp (Below w.heap.size w w6) := put (HB4.out.trans ((H5.out.mono HB4.out.size).trans ⟨hB6.os, hB6.tape, hB6.output, hB6.size, fun k hk => hk6 k (by have h1 := HSZ.out; have h2 := HS4.out; have h3 := HS5.out; omega) (by have h1 := HSZ.out; have h2 := HT.out; omega)⟩))
  have HS6 := put hs6
  clear hO6 hO6' hT6 hB6 hk6 hs6 hr5
  go_wp2_with fail
  refine (nextCalls 1 (fun k => k < w4.heap.size ∧ k ≠ T) (fun k => w5.heap.size ≤ k ∧ k ≠ T) w6 a m2 T 11 1 c4 1 c6 A4 A6 [rule0] (marksOf [rule0] 0) log1 false (by simp [rule0]) HA6.out HR6.out HM6.out (cell_of_heap HT6.out) (HO6.out.sl (fun k hk => ⟨(HO6.out.lt k hk).1, fun e => by have h1 := (HO6.out.lt k hk).1; have h2 := HTa.out; have h3 := HS4.out; have h4 := HS5.out; omega⟩) (fun k hk => ⟨hk, fun e => by have h2 := HTa.out; have h3 := HS4.out; have h4 := HS5.out; omega⟩) (by decide)) (by decide) (by decide)).mono ?_
  rintro e w7 ⟨hs, hb7⟩
  rw [show firstOf (fun s => (marksOf [rule0] 0 s).getD 0) log1 false [rule0] = some rule0 from first1] at hs
  obtain ⟨cs7, vn, rfl, hr7, hn7⟩ := hs
  rw [show seen (fun s => (marksOf [rule0] 0 s).getD 0) log1 rule0 = log1 from seen1] at hn7
  obtain ⟨d7, kd7, col7, rl7, Ac7, nc7, cc7, A17, n17, c17, A27, n27, c27, A37, n37, c37, A47, n47, c47, A57, n57, c57, A67, n67, c67, hd7, hce, hp7⟩ := st_parts hr7
  obtain rfl := hce.eq
  obtain ⟨V7, c7, e7, hl7, hc7⟩ := hn7.form
  clear hl7 hc7
  rw [show log1.length = 1 from rfl] at e7
  subst e7
  have HN7 := put hn7
  have HB7 := put hb7
  have HAr : Kp (∀ k o, w6.heap[k]? = some o → w7.heap[k]? = some o) := put (fun k o h => keepX h hb7)
  obtain ⟨nm, hnm⟩ : ∃ nm, nm = rule0.name := ⟨_, rfl⟩
  obtain ⟨tb, htb⟩ : ∃ tb, tb = rule0.table := ⟨_, rfl⟩
  obtain ⟨pr, hpr⟩ : ∃ pr, pr = rule0.prio := ⟨_, rfl⟩
  obtain ⟨ev, hev⟩ : ∃ ev, ev = rule0.event := ⟨_, rfl⟩
  obtain ⟨df, hdf⟩ : ∃ df, df = rule0.deferred := ⟨_, rfl⟩
  rw [← hnm, ← htb, ← hpr, ← hev, ← hdf]
  have HNM := put hnm
  have HC7 : Kp (∀ v ∈ ([.int .i64 kd7, .string nm, .string tb, .string col7, .slice Ac7 nc7 cc7, .slice A17 n17 c17, .slice A27 n27 c27, .slice A37 n37 c37, .slice A47 n47 c47, .slice A57 n57 c57, .int .i64 pr, .int .i64 ev, .bool df, .bool rl7, .slice A67 n67 c67] : List Value), v.oneCell' = true) := put (by rw [hnm, htb, hpr, hev, hdf]; exact (tSt 1).one hr7)
  clear hd7 hp7 hce hr7 hn7 hb7 hnm htb hpr hev hdf
  dsimp only
  go_wp2_with (first | (go_at_call 59; refine (rowCalls23 _ _).mono ?_; rintro e w9 ⟨rfl, hw9⟩))
  obtain ⟨w8, hw8⟩ : ∃ w8, w8 = w7.alloc (.cells #[.int .i64 kd7, .string nm, .string tb, .string col7, .slice Ac7 nc7 cc7, .slice A17 n17 c17, .slice A27 n27 c27, .slice A37 n37 c37, .slice A47 n47 c47, .slice A57 n57 c57, .int .i64 pr, .int .i64 ev, .bool df, .bool rl7, .slice A67 n67 c67] 67) := ⟨_, rfl⟩
  rw [← hw8] at hw9
  have H8 : Kp (Below w7.heap.size w7 w8) := put (by rw [hw8]; exact balloc (Below.refl _ _) _)
  have HX8 : Kp (w8.heap[w7.heap.size]? = some (.cells #[.int .i64 kd7, .string nm, .string tb, .string col7, .slice Ac7 nc7 cc7, .slice A17 n17 c17, .slice A27 n27 c27, .slice A37 n37 c37, .slice A47 n47 c47, .slice A57 n57 c57, .int .i64 pr, .int .i64 ev, .bool df, .bool rl7, .slice A67 n67 c67] 67 (0, 0))) := put (by rw [hw8]; exact heap_alloc_new _ _)
  have HS8 : Kp (w7.heap.size < w8.heap.size) := put (by rw [hw8]; simp)
  have HE8 : Kp (w8.heap.size = w7.heap.size + 1) := put (by rw [hw8]; simp)
  clear hw8
  have h9 : Below w8.heap.size w8 w9 := by rw [← hw9]; exact balloc (Below.refl _ _) _
  have hr9 : w9.heap[w7.heap.size + 1]? = some (.cells #[.int .i64 2, .int .i64 1, .string ⟨#[]⟩] 55 (0, 0)) := by rw [← hw9, ← HE8.out]; exact heap_alloc_new _ _
  have hb69 : Below w6.heap.size w6 w9 := HB7.out.trans ((H8.out.trans (h9.mono H8.out.size)).mono HB7.out.size)
  have HX9 := put ((h9.block _ HS8.out).trans HX8.out)
  have HB79 := put (H8.out.trans (h9.mono H8.out.size))
  have HB69 := put hb69
  have HT9 := put ((hb69.block T (Array.getElem?_eq_some_iff.1 HT6.out).1).trans HT6.out)
  clear hw9 h9 hb69
  refine (noteCalls (fun k => w5.heap.size ≤ k) (fun _ => True) w9 T 1 c6 w5.heap.size A6 (some ⟨w7.heap.size + 1, 0, none⟩) none 1 0 log1 (chgOf (rowOf 1) []) HT9.out (HO6.out.below HB69.out) ⟨_, _, rfl, vals_lit hr9 trivial, Sl.nil _ _ _⟩ (by decide) (by decide) (by decide) rfl (fun k hk e => by have h1 := HTa.out; have h2 := HS4.out; have h3 := HS5.out; omega) (Nat.le_trans HS6.out HB69.out.size)).mono ?_
  rintro e w10 ⟨⟨r10, rfl⟩, A10, c10, hT10, hO10, hB10⟩
  have hO10' : Own tChg 40 (fun k => w5.heap.size ≤ k) w10 w5.heap.size (.slice A10 2 c10) log2 := hO10.mono (fun k hk => hk.elim id (fun h => Nat.le_trans (Nat.le_trans HS6.out HB69.out.size) h))
  have hk10 : ∀ k, k < w9.heap.size → k ≠ T → (k < w5.heap.size ∨ w6.heap.size ≤ k) → w10.heap[k]? = w9.heap[k]? := fun k hk hne hor => hB10.block k hk (fun e => e.elim hne (fun e => by have h1 := HO6.out.lt k e.symm; omega))
  have HO10 := put hO10'
  have HT10 := put hT10
  have HK10 := put hk10
  have HS10 := put hB10.size
  have HA10 : Kp (AgAt w10 a (.slice A4 1 c4) m2) := put ((HA6.out.below HB69.out).kept (hk10 a (by have h1 := HA6.out.lt; have h2 := HB69.out.size; omega) HAn.out.2 (.inl (by have h1 := HA4.out.lt; have h2 := HS5.out; omega))))
  have HM10 : Kp (Marks w10 m2 11 (marksOf [rule0] 0)) := put ((HM6.out.below HB69.out).kept (hk10 m2 (by have h1 := HM6.out.lt; have h2 := HB69.out.size; omega) HM2l.out.2 (.inl (by have h1 := HM2l.out.1; have h2 := HS5.out; omega))))
  have HR10 : Kp (Sl (tSt 1) (fun k => k < w4.heap.size ∧ k ≠ T) w10 (.slice A4 1 c4) [rule0]) := put ((HR6.out.below HB69.out).move (fun k hk hlt => hk10 k hlt hk.2 (.inl (by have h1 := hk.1; have h2 := HS5.out; omega))))
  have HB10 : Kp (Below w.heap.size w w10) := put (HB6.out.trans ((HB69.out.mono HB6.out.size).trans ⟨hB10.os, hB10.tape, hB10.output, hB10.size, fun k hk => hk10 k (by have h1 := HB6.out.size; have h2 := HB69.out.size; omega) (by have h1 := HSZ.out; omega) (.inl (by have h1 := HB4.out.size; have h2 := HS5.out; omega))⟩))
  have HX10 := put ((hk10 w7.heap.size (by have h1 := HS8.out; have h2 := HB79.out.size; have h3 := (Array.getElem?_eq_some_iff.1 HX9.out).1; exact h3) (by have h1 := HTa.out; have h2 := HS4.out; have h3 := HS5.out; have h4 := HS6.out; have h5 := HB7.out.size; omega) (.inr HB7.out.size)).trans HX9.out)
  have HV10 : Kp (Sl tChg (fun k => w6.heap.size ≤ k) w10 (.slice V7 1 c7) log1) := put (((HN7.out.below HB79.out).sl (ok' := fun k => w6.heap.size ≤ k) (fun k hk => (HN7.out.lt k hk).1) (fun k hk => Nat.le_of_lt hk) (by decide)).move (fun k hk hlt => hk10 k hlt (by have h1 := HTa.out; have h2 := HS4.out; have h3 := HS5.out; have h4 := HS6.out; omega) (.inr hk)))
  clear hO10 hO10' hT10 hB10 hk10 hr9
  go_wp2_with fail
  refine (nextCalls 1 (fun k => k < w4.heap.size ∧ k ≠ T) (fun k => w5.heap.size ≤ k ∧ k ≠ T) w10 a m2 T 11 1 c4 2 c10 A4 A10 [rule0] (marksOf [rule0] 0) log2 false (by simp [rule0]) HA10.out HR10.out HM10.out (cell_of_heap HT10.out) (HO10.out.sl (fun k hk => ⟨(HO10.out.lt k hk).1, fun e => by have h1 := (HO10.out.lt k hk).1; have h2 := HTa.out; have h3 := HS4.out; have h4 := HS5.out; omega⟩) (fun k hk => ⟨hk, fun e => by have h2 := HTa.out; have h3 := HS4.out; have h4 := HS5.out; omega⟩) (by decide)) (by decide) (by decide)).mono ?_
  rintro e w11 ⟨hs, hb11⟩
  rw [show firstOf (fun s => (marksOf [rule0] 0 s).getD 0) log2 false [rule0] = none from first2] at hs
  obtain rfl : e = _ := hs
  have HB11 := put hb11
  clear hb11
  obtain ⟨w12, hw12⟩ : ∃ w12, w12 = w11.alloc (.cells #[.int .i64 0, .string { data := #[] }, .string { data := #[] }, .string { data := #[] }, .slice none 0 0, .slice none 0 0, .slice none 0 0, .slice none 0 0, .slice none 0 0, .slice none 0 0, .int .i64 0, .int .i64 0, .bool false, .bool false, .slice none 0 0] 67) := ⟨_, rfl⟩
  have h12 : Below w11.heap.size w11 w12 := by rw [hw12]; exact balloc (Below.refl _ _) _
  have hb1012 : Below w10.heap.size w10 w12 := HB11.out.trans (h12.mono HB11.out.size)
  have x1 := st_c1 ((hb1012.block w7.heap.size (Array.getElem?_eq_some_iff.1 HX10.out).1).trans HX10.out)
  have hnm1 : nm.toList = [114] := by rw [HNM.out, ByteArray.toList_eq]; rfl
  have HV12 := put (HV10.out.below hb1012)
  have HB12 := put (HB10.out.trans (hb1012.mono HB10.out.size))
  clear h12 hb1012
  rw [hw12] at x1 HV12
  dsimp only
  go_wp2_with fail
  rw [← hw12] at x1 HV12 ⊢
  clear hw12
  refine (transCalls (fun k => w6.heap.size ≤ k) _ log1 ⟨#[116]⟩ w12 HV12.out (by decide) (by decide)).mono ?_
  rintro e w13 ⟨⟨A13, c13, rfl⟩, hb13⟩
  rw [show (log1.filter (Chg.isOf ⟨#[116]⟩ 1)).length = 1 by decide]
  have HB13 := put (HB12.out.trans (hb13.mono HB12.out.size))
  clear hb13
  go_wp2_with fail
  go_ret
  exact ⟨rfl, HB13.out⟩
end Go.Proofs.Ytkfoknjflpklpaa.D

namespace Go.Proofs.Ytkfoknjflpklpaa.D
open Go Go.RowKit Go.Proofs.Ytkfoknjflpklpaa.Mem

set_option maxHeartbeats 16000000 in
set_option maxRecDepth 100000 in
theorem greatStCalls (d : Nat) (ok : Nat → Prop) (x : Rl) (cs : List Value) (w : World) (h : (tSt d).R ok w x cs) :
    Calls Try.prog 33 #[.agg cs.toArray] w fun e w' => Said (fun _ => True) e ∧ Below w.heap.size w w' := by
  have KH := put h
  obtain ⟨d', kd, col, rl, Ac, nc, cc, A1, n1, c1, A2, n2, c2, A3, n3, c3, A4, n4, c4, A5, n5, c5, A6, n6, c6, rfl, ⟨rfl, bc, b1, b2, b3, b4, b5, b6⟩, _⟩ := st_parts h
  clear h
  obtain ⟨l0, m0, q0⟩ := bc
  obtain ⟨l1, m1, q1⟩ := b1
  obtain ⟨l2, m2, q2⟩ := b2
  obtain ⟨l3, m3, q3⟩ := b3
  obtain ⟨l4, m4, q4⟩ := b4
  obtain ⟨l5, m5, q5⟩ := b5
  obtain ⟨l6, m6, q6⟩ := b6
  by_cases hs : (n1 : Int) + (n2 : Int) + (n3 : Int) + (n4 : Int) + (n6 : Int) + (nc : Int) + (n5 : Int) > 200
  · go_enter Try.func33, Try.ntmps33
    go_wp2_with fail
    go_ret
    exact ⟨⟨true, rfl, trivial⟩, below_alloc (Below.refl _ _) _⟩
  · go_enter Try.func33, Try.ntmps33
    go_wp2_with fail
    obtain ⟨w1, hw1⟩ : ∃ w1, w1 = w.alloc (.cells #[.int .i64 kd, .string x.name, .string x.table, .string col, .slice Ac nc cc, .slice A1 n1 c1, .slice A2 n2 c2, .slice A3 n3 c3, .slice A4 n4 c4, .slice A5 n5 c5, .int .i64 x.prio, .int .i64 x.event, .bool x.deferred, .bool rl, .slice A6 n6 c6] 67) := ⟨_, rfl⟩
    have hX1 : w1.heap[w.heap.size]? = some (.cells #[.int .i64 kd, .string x.name, .string x.table, .string col, .slice Ac nc cc, .slice A1 n1 c1, .slice A2 n2 c2, .slice A3 n3 c3, .slice A4 n4 c4, .slice A5 n5 c5, .int .i64 x.prio, .int .i64 x.event, .bool x.deferred, .bool rl, .slice A6 n6 c6] 67 (0, 0)) := by rw [hw1]; exact heap_alloc_new _ _
    have hB1 : Below w.heap.size w w1 := by rw [hw1]; exact below_alloc (Below.refl _ _) _
    rw [← hw1]
    clear hw1
    obtain ⟨B, hB⟩ : ∃ B, B = w.heap.size := ⟨_, rfl⟩
    rw [← hB] at hX1 ⊢
    have HX1 := put hX1
    have HB1 := put hB1
    have HB := put hB
    clear hB hX1 hB1
    refine (deepCalls _ _ x _ _ _ (Ty.below KH.out HB1.out)).mono ?_
    rintro e w5 ⟨⟨b, rfl, _⟩, hb⟩
    have HB5 := put (HB1.out.trans (hb.mono HB1.out.size))
    have HX5 := put ((hb.block B (Array.getElem?_eq_some_iff.1 HX1.out).1).trans HX1.out)
    clear hb
    cases b with
    | true =>
      go_wp2_with fail
      go_ret
      exact ⟨⟨true, rfl, trivial⟩, HB5.out⟩
    | false =>
      obtain ⟨z0, z1, z2, z3, z4, z5, z6, z7, z8, z9, z10, z11, z12, z13, z14⟩ := st_all HX5.out
      go_wp2_with fail
      clear z0 z1 z2 z3 z4 z5 z6 z7 z8 z9 z10 z11 z12 z13 z14
      refine (plainStCalls _ _ x _ _ (Ty.below KH.out HB5.out)).mono ?_
      rintro e w6 ⟨cs6, rfl, hr6, hb6⟩
      have HB6 := put (HB5.out.trans (hb6.mono HB5.out.size))
      have HR6 := put hr6
      obtain ⟨d6, kd6, col6, rl6, Ac6, nc6, cc6, A16, n16, c16, A26, n26, c26, A36, n36, c36, A46, n46, c46, A56, n56, c56, A66, n66, c66, _, hce, _⟩ := st_parts hr6
      obtain rfl := hce.eq
      clear hce hr6 hb6
      go_wp2_with fail
      refine (sizeCalls _ _ x _ _ _ HR6.out).mono ?_
      rintro e w7 ⟨⟨k, rfl⟩, hb7⟩
      have HB7 := put (HB6.out.trans (hb7.mono HB6.out.size))
      clear hb7
      go_wp2_with fail
      go_ret
      exact ⟨⟨_, rfl, trivial⟩, HB7.out⟩
end Go.Proofs.Ytkfoknjflpklpaa.D

namespace Go.Proofs.Ytkfoknjflpklpaa.D
open Go Go.RowKit Go.Proofs.Ytkfoknjflpklpaa.Mem

set_option maxHeartbeats 16000000 in
set_option maxRecDepth 100000 in
theorem greatCalls23 (ok : Nat → Prop) (v : Value) (xs : List Chg) (w : World) (h : Sl tChg ok w v xs) :
    Calls Try.prog 32 #[v] w fun e w' => Said (fun b => b = false → xs.length ≤ 60 ∧ ∀ x ∈ xs, x.old.length ≤ 20 ∧ x.new.length ≤ 20) e ∧ Below w.heap.size w w' := by
  obtain ⟨A, c, rfl, l1, l2, l3⟩ := h.shape
  have KS := put h
  obtain ⟨m, hm⟩ : ∃ m, m = xs.length := ⟨_, rfl⟩
  rw [← hm] at l1 l3 KS ⊢
  have HM := put hm
  clear h hm
  by_cases hg : m > 60
  · have hg1 : (m : Int) > 60 := by omega
    clear hg
    go_enter Try.func32, Try.ntmps32
    go_wp2_with fail
    go_ret
    exact ⟨⟨true, rfl, (fun e => by cases e)⟩, Below.refl _ _⟩
  · have hg1 : ¬ (m : Int) > 60 := by omega
    have HG : Kp (m ≤ 60) := ⟨by omega⟩
    clear hg
    go_enter Try.func32, Try.ntmps32
    go_wp2_with fail
    go_loopg [12] m (fun kx s12 wr => ∃ (i : Nat), s12 = .int .i64 i ∧ i ≤ m ∧ m - i ≤ kx ∧ Kp (∀ x ∈ xs.take i, x.old.length ≤ 20 ∧ x.new.length ≤ 20) ∧ Kp (Below w.heap.size w wr))
    case atStart => exact ⟨0, rfl, Nat.zero_le _, Nat.le_refl _, put (by simp), put (Below.refl _ _)⟩
    case round =>
      obtain ⟨i, rfl, hi, hkx, HI, KB⟩ := hrel
      by_cases hlt : i < m
      · have hlz : (i : Int) < (m : Int) := by omega
        have i0 : (0 : Int) ≤ (i : Int) := by omega
        obtain ⟨ad, x, A2, k2, A3, k3, rfl, hx, x0, x1, x2, x3, KR, _⟩ := chgs_at (KS.out.elder KB.out).row.1 i (by rw [← HM.out]; exact hlt)
        have KX := put hx
        have B1 : ∀ o, Below wr.heap.size wr (wr.alloc o) := fun o => (Below.refl _ _).alloc (Nat.le_refl _) _
        clear hx
        by_cases h1 : (x.table.size : Int) > 100
        · go_wp2_with fail
          go_ret
          exact ⟨⟨true, rfl, (fun e => by cases e)⟩, KB.out.trans ((B1 _).mono KB.out.size)⟩
        · by_cases h2 : (x.old.length : Int) > 20
          · go_wp2_with fail
            go_ret
            exact ⟨⟨true, rfl, (fun e => by cases e)⟩, KB.out.trans ((B1 _).mono KB.out.size)⟩
          · by_cases h3 : (x.new.length : Int) > 20
            · go_wp2_with fail
              go_ret
              exact ⟨⟨true, rfl, (fun e => by cases e)⟩, KB.out.trans ((B1 _).mono KB.out.size)⟩
            · have BX : Kp (x.old.length ≤ 20 ∧ x.new.length ≤ 20) := ⟨by omega, by omega⟩
              go_wp2_with fail
              obtain ⟨w2, hw2⟩ : ∃ w2, w2 = wr.alloc (.cells #[.string x.table, .int .i64 x.id, .slice A2 x.old.length k2, .slice A3 x.new.length k3] 40) := ⟨_, rfl⟩
              have b2 : w2.cell? ⟨wr.heap.size, 2, none⟩ = some (.slice A2 x.old.length k2) := by rw [hw2]; simp
              have b3 : w2.cell? ⟨wr.heap.size, 3, none⟩ = some (.slice A3 x.new.length k3) := by rw [hw2]; simp
              have hB2 : Below wr.heap.size wr w2 := by rw [hw2]; exact B1 _
              have s2 : wr.heap.size < w2.heap.size := by rw [hw2]; simp
              rw [← hw2]
              have HB2 := put hB2
              have S2V : Kp (∀ W, Below w2.heap.size w2 W → Sl tVal (fun k => k < w2.heap.size) W (.slice A2 x.old.length k2) x.old) := ⟨fun W hb => ((R_parts KR.out).1.below (hB2.trans (hb.mono hB2.size))).mono (fun k hk => by have := KB.out.size; have := hB2.size; omega)⟩
              have S3V : Kp (∀ W, Below w2.heap.size w2 W → Sl tVal (fun k => k < w2.heap.size) W (.slice A3 x.new.length k3) x.new) := ⟨fun W hb => ((R_parts KR.out).2.below (hB2.trans (hb.mono hB2.size))).mono (fun k hk => by have := KB.out.size; have := hB2.size; omega)⟩
              clear hw2 hB2 x0 x1 x2 x3
              obtain ⟨B, hB⟩ : ∃ B, B = wr.heap.size := ⟨_, rfl⟩
              rw [← hB] at b2 b3 s2 ⊢
              have HBB := put hB
              clear hB
              go_region_held3 (fun w' => w'.cell? ⟨B, 2, none⟩ = some (.slice A2 x.old.length k2) ∧ w'.cell? ⟨B, 3, none⟩ = some (.slice A3 x.new.length k3)) (first | go_keep | exact ⟨f2, f3⟩ | exact ⟨g2, g3⟩)
                (first | (refine step_pushes tVal w2.heap.size rfl _ _ 30 55 _ 32 rfl Try.underlying30 infoVal rfl (by decide) (by decide) (.slice (some ⟨w2.heap.size, 0, none⟩) 0 0) (.slice A2 x.old.length k2) [] x.old (fun _ => True) (fun k => k < w2.heap.size) rfl rfl (S2V.out _ ((Below.refl _ _).alloc (Nat.le_refl _) _).drew) (fun k hk => ⟨trivial, fun e => by simp only [Value.ownBlock, Option.some.injEq] at e; omega⟩) (Own.lit _ _ _ _).drew (by simp) (by have := BX.out.1; simp only [List.length_nil]; omega) ?_; intro v1 w3 ho1 hg1 hat1; rw [List.nil_append] at ho1; obtain ⟨V1, c1, e1, _, _⟩ := ho1.form; subst e1; have hb3 : Below w2.heap.size w2 w3 := ((Below.refl _ _).alloc (Nat.le_refl _) _).drew.grown hg1 (by simp) (fun k hk => by simp only [Value.ownBlock, Option.some.injEq] at hk; omega); have f2 := (hb3.cell (p := ⟨B, 2, none⟩) s2).trans b2; have f3 := (hb3.cell (p := ⟨B, 3, none⟩) s2).trans b3; have HO1 := put ho1; have HB3 := put hb3; clear ho1 hg1 hat1 hb3) | (refine step_pushes tVal w2.heap.size rfl _ _ 30 55 _ 32 rfl Try.underlying30 infoVal rfl (by decide) (by decide) (.slice V1 x.old.length c1) (.slice A3 x.new.length k3) x.old x.new (fun _ => True) (fun k => k < w2.heap.size) rfl rfl (by first | exact S3V.out _ HB3.out | exact S3V.out _ HB3.out.drew) (fun k hk => ⟨trivial, fun e => by have := (HO1.out.lt k e.symm).1; omega⟩) (by first | exact HO1.out | exact HO1.out.drew) (by first | exact HB3.out.size | exact HB3.out.drew.size) (by have := BX.out; omega) ?_; intro v2 w4 ho2 hg2 hat2; obtain ⟨V2, c2, e2, _, _⟩ := ho2.form; subst e2; have hb4 : Below w2.heap.size w2 w4 := (by first | exact HB3.out.grown hg2 HB3.out.size (fun k hk => (HO1.out.lt k hk).1) | exact HB3.out.drew.grown hg2 HB3.out.drew.size (fun k hk => (HO1.out.lt k hk).1)); have g2 := (hb4.cell (p := ⟨B, 2, none⟩) s2).trans b2; have g3 := (hb4.cell (p := ⟨B, 3, none⟩) s2).trans b3; have HO2 := put ho2; have HB4 := put hb4; clear ho2 hg2 hat2 hb4))
              have hn4 : (x.old ++ x.new).length ≤ 140737488355328 := by have := BX.out; rw [List.length_append]; omega
              have KV : Kp (Sl tVal (fun _ => True) w4 (.slice V2 (x.old ++ x.new).length c2) (x.old ++ x.new)) := put (HO2.out.sl (fun _ _ => trivial) (fun _ _ => trivial) hn4)
              obtain ⟨n, hn⟩ : ∃ n, n = (x.old ++ x.new).length := ⟨_, rfl⟩
              have hnn : (x.old.length : Int) + (x.new.length : Int) = (n : Int) := by rw [hn, List.length_append]; omega
              rw [← hn] at KV ⊢
              have HNV := put hn
              have hn40 : n ≤ 40 := by have := BX.out; rw [hn, List.length_append]; omega
              clear hn
              generalize x.old ++ x.new = vs at *
              clear hn4 f2 f3 g2 g3 b2 b3
              go_wp2_with fail
              rw [hnn]
              clear hnn
              go_loopg [40] n (fun kx s40 wi => ∃ (k : Nat), s40 = .int .i64 k ∧ k ≤ n ∧ n - k ≤ kx ∧ Kp (Below w4.heap.size w4 wi))
              case atStart => exact ⟨0, rfl, Nat.zero_le _, Nat.le_refl _, put (Below.refl _ _)⟩
              case round =>
                obtain ⟨k, rfl, hk, hkx2, KBI⟩ := hrel
                by_cases hlt3 : k < n
                · have hlz3 : (k : Int) < (n : Int) := by omega
                  have k0 : (0 : Int) ≤ (k : Int) := by omega
                  obtain ⟨ad3, rfl, c0, c1', c2'⟩ := vals_get (KV.out.below KBI.out).row.1 k (by rw [← HNV.out]; exact hlt3)
                  have hb6 : ∀ o, Below w.heap.size w (wr.alloc o) := fun o => KB.out.trans ((HB2.out.trans ((HB4.out.trans ((KBI.out.trans (((Below.refl _ _).alloc (Nat.le_refl _) o).mono KBI.out.size)).mono HB4.out.size)).mono HB2.out.size)).mono KB.out.size)
                  have HB6 := put hb6
                  clear hb6
                  by_cases h4 : ((vs[k]'(by rw [← HNV.out]; exact hlt3)).s.size : Int) > 100
                  · go_wp2_with fail
                    go_ret
                    exact ⟨⟨true, rfl, (fun e => by cases e)⟩, HB6.out _⟩
                  · go_wp2_with fail
                    go_roundg (n - (k + 1))
                    case measure => omega
                    case rel => exact ⟨k + 1, by go_num, by omega, Nat.le_refl _, put (KBI.out.trans (((Below.refl _ _).alloc (Nat.le_refl _) _).mono KBI.out.size))⟩
                · have hlz3 : ¬ (k : Int) < (n : Int) := by omega
                  go_wp2_with fail
                  go_roundg (m - (i + 1))
                  case measure => omega
                  case rel =>
                    refine ⟨i + 1, by go_num, by omega, Nat.le_refl _, put ?_, put (KB.out.trans ((HB2.out.trans ((HB4.out.trans (KBI.out.mono HB4.out.size)).mono HB2.out.size)).mono KB.out.size))⟩
                    rw [take_one_more KX.out]
                    intro z hz
                    rcases List.mem_append.1 hz with hz | hz
                    · exact HI.out z hz
                    · rw [List.mem_singleton.1 hz]; exact BX.out
      · have hlz : ¬ (i : Int) < (m : Int) := by omega
        go_wp2
        go_ret
        obtain rfl : i = m := by omega
        have hk := HI.out
        rw [List.take_of_length_le (by rw [HM.out]; exact Nat.le_refl _)] at hk
        exact ⟨⟨false, rfl, fun _ => ⟨HG.out, hk⟩⟩, KB.out⟩

end Go.Proofs.Ytkfoknjflpklpaa.D
