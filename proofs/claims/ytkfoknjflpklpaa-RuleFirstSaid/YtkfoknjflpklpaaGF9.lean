/- slices.SortStableFunc at tripwire/ast.Stmt: the row holds what the stable sort gives. slices.SortStableFunc on a row of the call's own, at tripwire/ast.Stmt. rule.before: how two rules stand; rules sorted. The last element of a row of the call's own, written over. The document's size of an expression, of a statement: a number; no memory that was there is touched. tripwirelaw13.PlainExpr, PlainExprs: what comes out reads as an expression does. A region of a body, by its number. -/
import Derived.Test.YtkfoknjflpklpaaGF6
import Derived.Test.YtkfoknjflpklpaaGF8
import Derived.Test.YtkfoknjflpklpaaGF4
import Derived.Test.YtkfoknjflpklpaaGF1
import Derived.Test.YtkfoknjflpklpaaGF5
import Derived.Deep.MidRow
import Derived.Deep.Upon
import Derived.WalkKit

namespace Go.Proofs.Ytkfoknjflpklpaa.StabStm
open Go.Shelf Go.RowKit Go.Lib Go.Sort Go.Proofs Go.Proofs.Ytkfoknjflpklpaa.Stab
variable {P : Program} {α : Type} [Inhabited α]

theorem size_insOuter (lt : α → α → Bool) (a b : Nat) : ∀ (n i : Nat) (d : Array α), b - i = n → b ≤ d.size → (insOuter lt a b i d).size = d.size := by
  have hin : ∀ (j : Nat) (d : Array α), (insInner lt a j d).size = d.size := by
    intro j
    induction j with
    | zero => intro d; rw [insInner]
    | succ j ih => intro d; rw [insInner]; split
                   · rw [ih, size_swp]
                   · rfl
  intro n
  induction n with
  | zero => intro i d h _; rw [insOuter, if_neg (by omega)]
  | succ n ih => intro i d h hb; rw [insOuter, if_pos (by omega), ih _ _ (by omega) (by rw [hin]; exact hb), hin]

theorem size_ins (lt : α → α → Bool) (a b : Nat) (d : Array α) (hb : b ≤ d.size) : (insertionSort lt d a b).size = d.size := size_insOuter lt a b _ _ d rfl hb

theorem size_insBlocks (lt : α → α → Bool) (bs n : Nat) : ∀ (k a b : Nat) (d : Array α), n + bs - b = k → d.size = n → (insBlocks lt bs n a b d).size = n := by
  intro k
  induction k using Nat.strongRecOn with
  | _ k ih =>
    intro a b d hk hs
    rw [insBlocks]
    by_cases c : b ≤ n ∧ 0 < bs
    · rw [if_pos c]; exact ih _ (by omega) b (b + bs) _ rfl (by rw [size_ins _ _ _ _ (by omega)]; exact hs)
    · rw [if_neg c, size_ins _ _ _ _ (by omega)]; exact hs

theorem size_mergePass (lt : α → α → Bool) (bs n : Nat) (hbs : 0 < bs) : ∀ (k a b : Nat) (d : Array α), n + 2 * bs - b = k → b = a + 2 * bs → d.size = n → (mergePass lt bs n a b d).size = n := by
  intro k
  induction k using Nat.strongRecOn with
  | _ k ih =>
    intro a b d hk hb hs
    rw [mergePass]
    by_cases c : b ≤ n ∧ 0 < bs
    · rw [if_pos c]; exact ih _ (by omega) b (b + 2 * bs) _ rfl rfl (by rw [size_symMerge _ _ _ _ _ _ rfl (by omega) (by omega) (by omega)]; exact hs)
    · rw [if_neg c]
      split
      · rw [size_symMerge _ _ _ _ _ _ rfl (by omega) (by omega) (by omega)]; exact hs
      · exact hs

set_option maxHeartbeats 16000000 in
set_option maxRecDepth 1000000 in
theorem stableCalls {k : Nat} (L : Lay P k) (enc : α → List Value) (cf : α → α → Int) (g : Nat) (cb : Array Value) (blk off cap : Nat) (d0 d : Array α) (w0 w : World)
    (eg : ∀ args w, (callFunc g args).run P w = .ok (.enter g args) w) (hcmp : CmpLays P g cb enc k cf blk off d0.size w0) (R : RowK enc k w0 blk off d0) (hs : d0.size = d.size) (S : SWK enc k w0 blk off d w) (hsz : d.size < 1152921504606846976) :
    Calls P 93 #[.slice (some ⟨blk, off, none⟩) d.size cap, .int .i64 d.size, .func (.func g) #[] cb] w fun e w' => e = .returned (.tuple #[]) ∧ SWK enc k w0 blk off (stable (ltOf cf) d) w' := by
  have eins : ∀ args w, (callFunc 115 args).run P w = .ok (.enter 115 args) w := enters_of L.fins (by kernel_rfl) rfl
  have esym : ∀ args w, (callFunc 116 args).run P w = .ok (.enter 116 args) w := enters_of L.fsym (by kernel_rfl) rfl
  have t0 := L.t0; have a0 := L.a0; have z0 := L.z0; have v0 := L.v0; have t3 := L.t3; have a3 := L.a3; have z3 := L.z3; have v3 := L.v3; have t4 := L.t4; have a4 := L.a4; have z4 := L.z4; have v4 := L.v4; have ts := L.ts; have as' := L.aS; have zs := L.zs; have vs := L.vs; have tf := L.tf; have af := L.af; have zf := L.zf; have vf := L.vf
  have FG := L.fsta
  have SYM : Aside _ := fun N => symMergeCalls L enc cf g cb blk off cap d0 w0 eg hcmp R (by omega) N
  have HC : Aside _ := hcmp
  have S0 : Aside (SWK enc k w0 blk off d w) := S
  have LL : Aside (Lay P k) := L
  clear S hcmp L
  obtain ⟨n, hn⟩ : ∃ n, n = d.size := ⟨_, rfl⟩
  have HN : Hid (n = d.size) := hn
  have hsn : d0.size = n := by rw [hn]; exact hs
  have HSN : Hid (d0.size = n) := hsn
  rw [← hn] at hsz ⊢
  clear hn hs hsn
  go_enter FG, Try.ntmps93
  go_wp2
  go_loopg [7, 8] (n + 1) (fun kx s7 s8 wr => ∃ (a : Nat) (dk : Array α), s7 = .int .i64 a ∧ s8 = .int .i64 ((a : Int) + 20) ∧ a ≤ n ∧ n - a ≤ kx ∧ Hid (dk.size = n) ∧ Aside (SWK enc k w0 blk off dk wr) ∧ Hid (insBlocks (ltOf cf) 20 n a (a + 20) dk = insBlocks (ltOf cf) 20 n 0 20 d))
  case atStart => exact ⟨0, d, rfl, rfl, Nat.zero_le _, by omega, HN.out.symm, S0, rfl⟩
  case round =>
    clear S0
    obtain ⟨a, dk, rfl, rfl, han, hkx, hds, S1, heq⟩ := hrel
    by_cases hlt : a + 20 ≤ n
    · have hltz : (a : Int) + 20 ≤ (n : Int) := by omega
      go_wp2_with fail
      rw [show ((a : Int) + 20) = ((a + 20 : Nat) : Int) by omega, ← hds.out]
      refine (insCalls LL.out enc cf g cb blk off cap a (a + 20) d0 dk w0 _ eg HC.out R (by rw [hds.out]; exact HSN.out) S1.out (by omega) (by rw [hds.out]; exact hlt) (by rw [hds.out]; omega)).mono ?_
      rintro e w' ⟨rfl, S2⟩
      have S3 : Aside _ := S2
      clear S2 S1
      rw [hds.out]
      go_wp2
      go_roundg (n - (a + 20))
      case measure => omega
      case rel => exact ⟨a + 20, _, by first | rfl | go_num, by first | rfl | go_num | (congr 1; omega), hlt, Nat.le_refl _, (show _ = _ by rw [size_ins _ _ _ _ (by rw [hds.out]; exact hlt)]; exact hds.out), S3, (show _ = _ by
        rw [← heq.out, insBlocks.eq_def _ 20 n a (a + 20) dk, if_pos ⟨hlt, by omega⟩])⟩
    · have hltz : ¬ (a : Int) + 20 ≤ (n : Int) := by omega
      go_wp2_with fail
      rw [← hds.out]
      refine (insCalls LL.out enc cf g cb blk off cap a dk.size d0 dk w0 _ eg HC.out R (by rw [hds.out]; exact HSN.out) S1.out (by rw [hds.out]; exact han) (Nat.le_refl _) (by rw [hds.out]; omega)).mono ?_
      rintro e w' ⟨rfl, S2⟩
      rw [hds.out] at S2 ⊢
      have hd2 : insertionSort (ltOf cf) dk a n = insBlocks (ltOf cf) 20 n 0 20 d := by rw [← heq.out, insBlocks.eq_def _ 20 n a (a + 20) dk, if_neg (by omega)]
      rw [hd2] at S2
      have S3 : Aside _ := S2
      have hz2 : (insBlocks (ltOf cf) 20 n 0 20 d).size = n := size_insBlocks _ _ _ _ _ _ _ rfl HN.out.symm
      obtain ⟨e0, he0⟩ : ∃ e0, e0 = insBlocks (ltOf cf) 20 n 0 20 d := ⟨_, rfl⟩
      rw [← he0] at S3 hz2
      have HE0 : Hid _ := he0
      have HZ2 : Hid _ := hz2
      clear S2 S1 hd2 heq hds he0 hz2 hltz hlt hkx han
      go_wp2
      clear dk
      go_loopg [6] n (fun kx s6 wr2 => ∃ (bs : Nat) (dk : Array α), s6 = .int .i64 bs ∧ 0 < bs ∧ bs ≤ n + n + 20 ∧ n - bs ≤ kx ∧ Hid (dk.size = n) ∧ Aside (SWK enc k w0 blk off dk wr2) ∧ Hid (mergeAll (ltOf cf) bs n dk = mergeAll (ltOf cf) 20 n e0))
      case atStart => exact ⟨20, e0, rfl, by omega, by omega, by omega, HZ2, S3, rfl⟩
      case round =>
        clear S3
        obtain ⟨bs, dk, rfl, hb0, hbn, hkx, hds, S1, heq⟩ := hrel
        by_cases hlt : bs < n
        · have hltz : (bs : Int) < (n : Int) := by omega
          obtain ⟨wo, rfl⟩ : ∃ wo : World, wo = wr := ⟨_, rfl⟩
          go_wp2
          go_loopg [7, 8] (n + 1) (fun ky s7 s8 wr3 => ∃ (a : Nat) (dj : Array α), s7 = .int .i64 a ∧ s8 = .int .i64 ((a : Int) + 2 * (bs : Int)) ∧ a ≤ n ∧ n - a ≤ ky ∧ Hid (dj.size = n) ∧ Aside (SWK enc k w0 blk off dj wr3) ∧ Hid (mergePass (ltOf cf) bs n a (a + 2 * bs) dj = mergePass (ltOf cf) bs n 0 (2 * bs) dk))
          case atStart => exact ⟨0, dk, rfl, by first | rfl | go_num | (congr 1; omega), Nat.zero_le _, by omega, hds, S1, by show _ = _; rw [Nat.zero_add]⟩
          case round =>
            clear S1
            obtain ⟨a, dj, rfl, rfl, han, hky, hdj, S1, hmp⟩ := hrel
            by_cases hlt2 : a + 2 * bs ≤ n
            · have hltz2 : (a : Int) + 2 * (bs : Int) ≤ (n : Int) := by omega
              go_wp2_with fail
              rw [show ((a : Int) + (bs : Int)) = ((a + bs : Nat) : Int) by omega, show ((a : Int) + 2 * (bs : Int)) = ((a + 2 * bs : Nat) : Int) by omega, ← hdj.out]
              refine (SYM.out (2 * bs) a (a + bs) (a + 2 * bs) dj _ (by rw [hdj.out]; exact HSN.out) S1.out (by omega) (by omega) (by rw [hdj.out]; exact hlt2) (by omega)).mono ?_
              rintro e w' ⟨rfl, S2⟩
              have S3 : Aside _ := S2
              clear S2 S1
              rw [hdj.out]
              go_wp2
              go_roundg (n - (a + 2 * bs))
              case measure => omega
              case rel => exact ⟨a + 2 * bs, _, by first | rfl | go_num, by first | rfl | go_num | (congr 1; omega), hlt2, Nat.le_refl _, (show _ = _ by rw [size_symMerge _ _ _ _ _ _ rfl (by omega) (by omega) (by rw [hdj.out]; exact hlt2)]; exact hdj.out), S3, (show _ = _ by
                rw [← hmp.out, mergePass.eq_def _ bs n a (a + 2 * bs) dj, if_pos ⟨hlt2, hb0⟩])⟩
            · have hltz2 : ¬ (a : Int) + 2 * (bs : Int) ≤ (n : Int) := by omega
              have hq : mergePass (ltOf cf) bs n 0 (2 * bs) dk = if a + bs < n then symMerge (ltOf cf) dj a (a + bs) n else dj := by rw [← hmp.out, mergePass.eq_def _ bs n a (a + 2 * bs) dj, if_neg (by omega)]
              have HQ : Hid _ := hq
              clear hq
              have fin : ∀ dz, dz = mergePass (ltOf cf) bs n 0 (2 * bs) dk → mergeAll (ltOf cf) (bs * 2) n dz = mergeAll (ltOf cf) 20 n e0 := fun dz h => by
                rw [h, ← heq.out, mergeAll.eq_def _ bs n dk, if_pos ⟨hlt, hb0⟩]
              have FIN : Aside _ := fin
              have hzz : (mergePass (ltOf cf) bs n 0 (2 * bs) dk).size = n := size_mergePass _ _ _ hb0 _ _ _ _ rfl (by omega) hds.out
              have HZZ : Hid _ := hzz
              clear fin hzz hmp heq
              by_cases c : a + bs < n
              · have cz : (a : Int) + (bs : Int) < (n : Int) := by omega
                go_wp2_with fail
                rw [show ((a : Int) + (bs : Int)) = ((a + bs : Nat) : Int) by omega, ← hdj.out]
                refine (SYM.out n a (a + bs) dj.size dj _ (by rw [hdj.out]; exact HSN.out) S1.out (by omega) (by rw [hdj.out]; exact c) (Nat.le_refl _) (by rw [hdj.out]; omega)).mono ?_
                rintro e w' ⟨rfl, S2⟩
                rw [hdj.out] at S2 ⊢
                rw [if_pos c] at HQ
                rw [← HQ.out] at S2
                have S3 : Aside _ := S2
                clear S2 S1
                go_wp2
                go_roundg (n - bs * 2)
                case measure => omega
                case rel => exact ⟨bs * 2, _, by first | rfl | go_num | (congr 1; omega), by omega, by omega, Nat.le_refl _, HZZ, S3, FIN.out _ rfl⟩
              · have cz : ¬ (a : Int) + (bs : Int) < (n : Int) := by omega
                rw [if_neg c] at HQ
                rw [← HQ.out] at S1
                go_wp2
                go_roundg (n - bs * 2)
                case measure => omega
                case rel => exact ⟨bs * 2, _, by first | rfl | go_num | (congr 1; omega), by omega, by omega, Nat.le_refl _, HZZ, S1, FIN.out _ rfl⟩
        · have hltz : ¬ (bs : Int) < (n : Int) := by omega
          go_wp2
          go_end0
          refine ⟨rfl, ?_⟩
          have e9 : stable (ltOf cf) d = dk := by
            unfold stable
            rw [← HN.out, ← HE0.out, ← heq.out, mergeAll, if_neg (by omega)]
          rw [e9]
          exact S1.out

set_option maxHeartbeats 4000000 in
set_option maxRecDepth 1000000 in
theorem sortCalls {k : Nat} (L : Lay P k) (enc : α → List Value) (cf : α → α → Int) (g : Nat) (cb : Array Value) (blk off cap : Nat) (d : Array α) (w : World)
    (eg : ∀ args w, (callFunc g args).run P w = .ok (.enter g args) w) (hcmp : CmpLays P g cb enc k cf blk off d.size w) (R : RowK enc k w blk off d) (hsz : d.size < 1152921504606846976) :
    Calls P 64 #[.slice (some ⟨blk, off, none⟩) d.size cap, .func (.func g) #[] cb] w fun e w' => e = .returned (.tuple #[]) ∧ SWK enc k w blk off (stable (ltOf cf) d) w' := by
  have esta : ∀ args w, (callFunc 93 args).run P w = .ok (.enter 93 args) w := enters_of L.fsta (by kernel_rfl) rfl
  have t0 := L.t0; have a0 := L.a0; have z0 := L.z0; have v0 := L.v0; have t3 := L.t3; have a3 := L.a3; have z3 := L.z3; have v3 := L.v3; have t4 := L.t4; have a4 := L.a4; have z4 := L.z4; have v4 := L.v4; have ts := L.ts; have as' := L.aS; have zs := L.zs; have vs := L.vs; have tf := L.tf; have af := L.af; have zf := L.zf; have vf := L.vf
  have FG := L.ftop
  have C := stableCalls L enc cf g cb blk off cap d d w w eg hcmp R rfl (SWK.start R.hH) hsz
  have CC : Aside _ := C
  clear C hcmp L
  go_enter FG, Try.ntmps64
  go_wp2_with fail
  refine Calls.mono CC.out ?_
  rintro e w' ⟨rfl, S⟩
  have S1 : Aside _ := S
  clear S
  go_wp2
  go_end0
  exact ⟨rfl, S1.out⟩

end Go.Proofs.Ytkfoknjflpklpaa.StabStm

namespace Go.Proofs.Ytkfoknjflpklpaa.StabStm
open Go.Shelf Go.RowKit Go.Lib Go.Sort Go.Proofs Go.Proofs.Ytkfoknjflpklpaa.Stab Go.Proofs.Ytkfoknjflpklpaa.Mem

/-- An element as it is sorted: its cells, what they read as, where it stood. -/
structure El {β : Type} (d : Ty β) (ok : Nat → Prop) (w : World) where
  cells : List Value
  x : β
  tag : Nat
  hr : d.R ok w x cells

theorem isort_map {α β : Type} (f : α → β) (lt : β → β → Bool) (l : List α) : (isort (fun a b => lt (f a) (f b)) l).map f = isort lt (l.map f) := by
  have hi : ∀ (x : α) (l : List α), (ins (fun a b => lt (f a) (f b)) x l).map f = ins lt (f x) (l.map f) := by
    intro x l
    induction l with
    | nil => rfl
    | cons y ys ih =>
      rw [ins, List.map_cons, ins]
      split
      · rfl
      · rw [List.map_cons, ih]
  have hf : ∀ (l out : List α), (l.foldl (fun out x => ins (fun a b => lt (f a) (f b)) x out) out).map f = (l.map f).foldl (fun out x => ins lt x out) (out.map f) := by
    intro l
    induction l with
    | nil => intro out; rfl
    | cons x l ih => intro out; rw [List.foldl_cons, ih, hi, List.map_cons, List.foldl_cons]
  exact hf l []

/-- The block of a row that is put. -/
theorem putRow_block (w : World) (g : Nat) (F : Array Value) (cur : Array Value) (e : TypeId) (fr : Nat × Nat) (h : w.heap[g]? = some (.cells cur e fr)) : (putRow id w g 0 F).heap[g]? = some (.cells (putCells id 0 F cur) e fr) := by
  simp [putRow, mapBlock, Array.getElem?_modify, h, onCells]
theorem putRow_other (w : World) (g k : Nat) (F : Array Value) (h : k ≠ g) : (putRow id w g 0 F).heap[k]? = w.heap[k]? := by
  simp [putRow, mapBlock, Array.getElem?_modify, Ne.symm h]

theorem sortWorld_other {α : Type} [Inhabited α] (enc : α → List Value) (k : Nat) (w : World) (g m : Nat) (dk : Array α) (os : Array Obj) (j : Nat) (hj : j < w.heap.size) (hne : j ≠ g) : (sortWorldK enc k w g 0 m dk os).heap[j]? = w.heap[j]? := by
  unfold sortWorldK putRowK
  show (grow (putRow id (Sort.ahead w m) g 0 (flatK enc k dk)) os).heap[j]? = _
  have hs : (putRow id (Sort.ahead w m) g 0 (flatK enc k dk)).heap.size = w.heap.size := by simp [putRow, mapBlock, Sort.ahead]
  show (_ ++ os)[j]? = _
  rw [Array.getElem?_append_left (by rw [hs]; exact hj), putRow_other _ _ _ _ hne]
  rfl

theorem putCells_take (F cur : Array Value) (h : F.size ≤ cur.size) : (putCells id 0 F cur).toList.take F.size = F.toList := by
  apply List.ext_getElem?
  intro i
  rw [List.getElem?_take]
  by_cases hi : i < F.size
  · rw [if_pos hi]
    have h1 : i < cur.size := by omega
    simp only [putCells, Array.toList_mapIdx, List.getElem?_mapIdx]
    rw [List.getElem?_eq_getElem (by simpa using h1), List.getElem?_eq_getElem (by simpa using hi)]
    simp only [Option.map_some, Nat.zero_le, Nat.zero_add, true_and, if_pos hi, Nat.sub_zero, id]
    rw [getElem!_pos F i hi, Array.getElem_toList]
  · rw [if_neg hi, List.getElem?_eq_none (by simp; omega)]

theorem flatK_toList {α : Type} [Inhabited α] (enc : α → List Value) (k : Nat) (hk : ∀ x, (enc x).length = k) (d : Array α) : (flatK enc k d).toList = (d.toList.map enc).flatten := by
  apply List.ext_getElem?
  intro t
  by_cases ht : t < d.size * k
  · have k0 : 0 < k := by rcases Nat.eq_zero_or_pos k with h | h
                          · subst h; simp at ht
                          · exact h
    have hq : t / k < d.size := (Nat.div_lt_iff_lt_mul k0).2 ht
    have hm : t % k < k := Nat.mod_lt _ k0
    have h1 : (flatK enc k d).toList[t]? = some (flatK enc k d)[t]! := by
      have hts : t < (flatK enc k d).size := by rw [size_flatK]; exact ht
      rw [List.getElem?_eq_getElem (by simpa using ht), Array.getElem_toList, getElem!_pos (flatK enc k d) t hts]
    have h2 : ((d.toList.map enc).flatten)[t / k * k + t % k]? = some (enc d[t / k]!)[t % k]! := by
      refine flat_get (sz := k) _ (fun c hc => ?_) (t / k) (enc d[t / k]!) (t % k) _ ?_ ?_
      · obtain ⟨x, _, rfl⟩ := List.mem_map.1 hc
        exact hk x
      · rw [List.getElem?_map, List.getElem?_eq_getElem (by simpa using hq), Option.map_some, Array.getElem_toList, getElem!_pos d _ hq]
      · have hm2 : t % k < (enc d[t / k]!).length := by rw [hk]; exact hm
        rw [List.getElem?_eq_getElem hm2, getElem!_pos (enc d[t / k]!) (t % k) hm2]
    rw [h1, get_flatK _ _ _ _ ht]
    rw [show t / k * k + t % k = t by rw [Nat.mul_comm]; exact Nat.div_add_mod t k] at h2
    exact h2.symm
  · have hl : ((d.toList.map enc).flatten).length = d.size * k := by
      have : ∀ l : List α, ((l.map enc).flatten).length = l.length * k := by
        intro l
        induction l with
        | nil => simp
        | cons x l ih => rw [List.map_cons, List.flatten_cons, List.length_append, ih, hk, List.length_cons, Nat.add_mul, Nat.one_mul, Nat.add_comm]
      rw [this]; simp
    rw [List.getElem?_eq_none (by simp; omega), List.getElem?_eq_none (by omega)]

theorem holds_of_owns (w : World) (base E k : Nat) (g n cap : Nat) (cs : List Value) (ho : w.ownsRow base E k (.slice (some ⟨g, 0, none⟩) n cap) n cs) (F : Array Value) (hF : F.toList = cs) : Holds id w g 0 F := by
  intro j hj
  have hj' : cs[j]? = some F[j]! := by
    rw [← hF, List.getElem?_eq_getElem (by simpa using hj), Array.getElem_toList, getElem!_pos F j hj]
  have h1 := ho.cells (g := g) rfl j _ hj'
  rw [add_plain] at h1
  refine ⟨by rw [Nat.zero_add]; exact h1, ?_⟩
  rcases ho.2 with ⟨h, _⟩ | ⟨g', cap', cur, he, _, hh, _⟩
  · cases h
  · injection he with he _ _
    injection he with he
    injection he with he
    subst he
    simp [World.frozen?, hh]

theorem wf_tags {β : Type} {d : Ty β} {ok : Nat → Prop} {w : World} (xs : List β) : ∀ (cells : List (List Value)) (m : Nat), cells.length = xs.length → (∀ (i : Nat) (x : β) (c : List Value), xs[i]? = some x → cells[i]? = some c → d.R ok w x c) →
    ∃ l : List (El d ok w), l.map El.x = xs ∧ l.map El.cells = cells ∧ ∀ (i : Nat) (e : El d ok w), l[i]? = some e → e.tag = m + i := by
  induction xs with
  | nil => intro cells m hl _; exact ⟨[], rfl, by cases cells; rfl; simp at hl, fun i e h => by simp at h⟩
  | cons x xs ih =>
    intro cells m hl hr
    cases cells with
    | nil => simp at hl
    | cons c cells =>
      obtain ⟨l, h1, h2, h3⟩ := ih cells (m + 1) (by simpa using hl) (fun i x c hx hc => hr (i + 1) x c (by simpa using hx) (by simpa using hc))
      refine ⟨⟨c, x, m, hr 0 x c rfl rfl⟩ :: l, by simp [h1], by simp [h2], fun i e he => ?_⟩
      cases i with
      | zero =>
        simp only [List.getElem?_cons_zero, Option.some.injEq] at he
        subst he; rfl
      | succ i => rw [h3 i e (by simpa using he)]; omega

set_option maxHeartbeats 4000000 in
set_option maxRecDepth 100000 in
theorem sort_none (A : Option Addr) (c g : Nat) (cb : Array Value) (w : World) :
    Calls Try.prog 64 #[.slice A 0 c, .func (.func g) #[] cb] w fun e w' => e = .returned (.tuple #[]) ∧ w = w' := by
  go_enter Try.func64, Try.ntmps64
  go_wp2
  refine wp_loop_rounds 1 ?_
  rw [rounds_succ]
  go_wp2
  refine wp_loop_rounds 1 ?_
  rw [rounds_succ]
  go_wp2
  go_end0
  go_wp2
  refine wp_loop_rounds 1 ?_
  rw [rounds_succ]
  go_wp2
  go_end0
  go_wp2
  go_end0
  exact ⟨rfl, rfl⟩

theorem sortOwn {β : Type} (d : Ty β) (hk : d.sz = 15) (ok : Nat → Prop) (w : World) (base : Nat) (v : Value) (xs : List β) (h : Own d 67 ok w base v xs) (cf : β → β → Int) (hS : SWO (ltOf cf)) (g : Nat) (cb : Array Value)
    (eg : ∀ args w, (callFunc g args).run Try.prog w = .ok (.enter g args) w)
    (hcmp : ∀ (x y : β) (cx cy : List Value) (W : World), d.R (fun k => ok k ∧ some k ≠ v.ownBlock) W x cx → d.R (fun k => ok k ∧ some k ≠ v.ownBlock) W y cy →
      Calls Try.prog g (#[.agg cx.toArray, .agg cy.toArray] ++ cb) W fun e w' => e = .returned (.int .i64 (cf x y)) ∧ ∃ q os, w' = grow (W.drewN q) os) (hsz : xs.length < 1152921504606846976) :
    Calls Try.prog 64 #[v, .func (.func g) #[] cb] w fun e w' => e = .returned (.tuple #[]) ∧ Own d 67 ok w' base v (isort (ltOf cf) xs) ∧ w.grownBy w' v.ownBlock := by
  rcases h.shape with ⟨rfl, rfl⟩ | ⟨g0, cap, rfl, hb, hlt, hc, hc2⟩
  · refine (sort_none none 0 g cb w).mono ?_
    rintro e w' ⟨rfl, rfl⟩
    exact ⟨rfl, Own.nil _ _ _ _ _, ⟨rfl, rfl, rfl, Nat.le_refl _, fun _ _ _ => rfl⟩⟩
  · by_cases hx : xs = []
    · subst hx
      refine (sort_none _ cap g cb w).mono ?_
      rintro e w' ⟨rfl, rfl⟩
      exact ⟨rfl, h, ⟨rfl, rfl, rfl, Nat.le_refl _, fun _ _ _ => rfl⟩⟩
    · obtain ⟨cells, hlc, ho, hr⟩ := h
      have hne : ∀ k, (ok k ∧ some k ≠ (Value.slice (some ⟨g0, 0, none⟩) xs.length cap).ownBlock) → k ≠ g0 := fun k hk e => hk.2 (by rw [e]; rfl)
      obtain ⟨l, hl1, hl2, hl3⟩ := wf_tags xs cells 0 hlc hr
      have hll : l.length = xs.length := by have := congrArg List.length hl1; rwa [List.length_map] at this
      have e0 : El d (fun k => ok k ∧ some k ≠ (Value.slice (some ⟨g0, 0, none⟩) xs.length cap).ownBlock) w := by
        cases l with
        | nil => exact absurd (by simpa using hl1.symm) hx
        | cons e _ => exact e
      haveI : Inhabited (El d (fun k => ok k ∧ some k ≠ (Value.slice (some ⟨g0, 0, none⟩) xs.length cap).ownBlock) w) := ⟨e0⟩
      have hkk : ∀ x : El d (fun k => ok k ∧ some k ≠ (Value.slice (some ⟨g0, 0, none⟩) xs.length cap).ownBlock) w, x.cells.length = 15 := fun x => by rw [d.len x.hr, hk]
      have hF : (flatK El.cells 15 l.toArray).toList = cells.flatten := by rw [flatK_toList _ _ hkk]; simp [hl2]
      rw [hk] at ho
      have hH : HoldsK El.cells 15 w g0 0 l.toArray := holds_of_owns w base _ 15 g0 _ cap _ ho _ hF
      have R : RowK El.cells 15 w g0 0 l.toArray := ⟨hkk, fun x => d.one x.hr, hH, hlt⟩
      have hC : CmpLays Try.prog g cb El.cells 15 (fun a b => cf a.x b.x) g0 0 l.toArray.size w := fun m os dk _ x y => by
        have mv : ∀ k, (ok k ∧ some k ≠ (Value.slice (some ⟨g0, 0, none⟩) xs.length cap).ownBlock) → k < w.heap.size → (sortWorldK (α := El d (fun k => ok k ∧ some k ≠ (Value.slice (some ⟨g0, 0, none⟩) xs.length cap).ownBlock) w) El.cells 15 w g0 0 m dk os).heap[k]? = w.heap[k]? := fun k hk hkl => sortWorld_other _ _ _ _ _ _ _ _ hkl (hne k hk)
        exact hcmp x.x y.x x.cells y.cells _ (d.move mv x.hr) (d.move mv y.hr)
      have hSE : SWO (ltOf fun a b : El d (fun k => ok k ∧ some k ≠ (Value.slice (some ⟨g0, 0, none⟩) xs.length cap).ownBlock) w => cf a.x b.x) :=
        ⟨fun x => hS.irrefl x.x, fun x y z => hS.trans x.x y.x z.x, fun x y z => hS.ntrans x.x y.x z.x⟩
      have hs : l.toArray.size = xs.length := by simpa using hll
      have C := sortCalls (P := Try.prog) laid El.cells (fun a b => cf a.x b.x) g cb g0 0 cap l.toArray w eg hC R (by rw [hs]; exact hsz)
      rw [hs] at C
      refine C.mono ?_
      rintro e w' ⟨rfl, n, os, hw⟩
      have hst : (stable (ltOf fun a b : El d (fun k => ok k ∧ some k ≠ (Value.slice (some ⟨g0, 0, none⟩) xs.length cap).ownBlock) w => cf a.x b.x) l.toArray).toList = isort (ltOf fun a b => cf a.x b.x) l := by
        refine stable_isort (tag := El.tag) hSE l.toArray (fun i j hij hj => ?_)
        have hj' : j < l.length := by simpa using hj
        have t1 := hl3 i l[i] (List.getElem?_eq_getElem (by omega))
        have t2 := hl3 j l[j] (List.getElem?_eq_getElem hj')
        rw [getElem!_pos l.toArray i (by simp; omega), getElem!_pos l.toArray j (by simpa using hj')]
        simp only [List.getElem_toArray]
        omega
      have hmap : (isort (ltOf fun a b : El d (fun k => ok k ∧ some k ≠ (Value.slice (some ⟨g0, 0, none⟩) xs.length cap).ownBlock) w => cf a.x b.x) l).map El.x = isort (ltOf cf) xs := by
        rw [← hl1]
        exact isort_map (El.x (d := d)) (ltOf cf) l
      generalize stable (ltOf fun a b : El d (fun k => ok k ∧ some k ≠ (Value.slice (some ⟨g0, 0, none⟩) xs.length cap).ownBlock) w => cf a.x b.x) l.toArray = ds at hw hst
      have hdl : ds.toList.map El.x = isort (ltOf cf) xs := by rw [hst]; exact hmap
      have hdn : ds.size = xs.length := by
        have h1 := congrArg List.length hdl
        rw [List.length_map, (isort_perm xs).length_eq] at h1
        simpa using h1
      have hg : w.grownBy w' (some g0) := by
        rw [hw]
        refine ⟨rfl, rfl, rfl, ?_, fun k hk hkn => sortWorld_other El.cells 15 w g0 n ds os k hk (fun e => hkn (by rw [e]))⟩
        unfold sortWorldK putRowK
        simp [grow, putRow, mapBlock, Sort.ahead]
      refine ⟨rfl, ⟨ds.toList.map El.cells, by rw [List.length_map, ← hdl, List.length_map], ?_, fun i x c hx hc => ?_⟩, hg⟩
      · have hn : (isort (ltOf cf) xs).length = xs.length := (isort_perm xs).length_eq
        rcases ho with ⟨q1, q2⟩
        rcases q2 with ⟨q2, _⟩ | ⟨g', cap', cur, he, hbg, hh, hcc, hcm, hcs, htk⟩
        · cases q2
        · injection he with he1 he2 he3
          injection he1 with he1
          injection he1 with he1
          subst he1; subst he3
          have hFs : (flatK El.cells 15 ds).size = xs.length * 15 := by rw [size_flatK, hdn]
          have hfl : (flatK El.cells 15 ds).toList = (ds.toList.map El.cells).flatten := flatK_toList _ _ hkk ds
          rw [hn, hk]
          refine ⟨by rw [← hfl, Array.length_toList, hFs], .inr ⟨g0, cap, putCells id 0 (flatK El.cells 15 ds) cur, rfl, hbg, ?_, hcc, hcm, by simp [putCells, hcs], ?_⟩⟩
          · rw [hw]
            unfold sortWorldK putRowK
            show (_ ++ os)[g0]? = _
            have hs2 : (putRow id (Sort.ahead w n) g0 0 (flatK El.cells 15 ds)).heap.size = w.heap.size := by simp [putRow, mapBlock, Sort.ahead]
            rw [Array.getElem?_append_left (by rw [hs2]; exact hlt)]
            exact putRow_block _ _ _ _ _ _ hh
          · rw [← hfl, ← hFs]
            exact putCells_take _ _ (by rw [hFs, hcs]; exact Nat.mul_le_mul_right _ hcc)
      · rw [← hdl, List.getElem?_map] at hx
        rw [List.getElem?_map] at hc
        cases he : ds.toList[i]? with
        | none => rw [he] at hx; cases hx
        | some el =>
          rw [he] at hx hc
          simp only [Option.map_some, Option.some.injEq] at hx hc
          subst hx; subst hc
          have hn : (isort (ltOf cf) xs).length = xs.length := (isort_perm xs).length_eq
          exact d.move (fun k hk hkl => hg.block k hkl (fun e => hk.2 (by rw [e]; rfl))) el.hr

end Go.Proofs.Ytkfoknjflpklpaa.StabStm

namespace Go.Proofs.Ytkfoknjflpklpaa.D
open Go Go.RowKit Go.Proofs.Ytkfoknjflpklpaa.Mem Go.Proofs.Ytkfoknjflpklpaa.Cmp Go.Sort Go.Proofs.Ytkfoknjflpklpaa.Stab

set_option maxHeartbeats 8000000 in
set_option maxRecDepth 100000 in
theorem rlBeforeCalls (n1 n2 : ByteArray) (p1 p2 : Int) (a0 a2 a3 a4 a5 a6 a7 a8 a9 a11 a12 a13 a14 b0 b2 b3 b4 b5 b6 b7 b8 b9 b11 b12 b13 b14 : Value) (w : World) :
    Calls Try.prog 65 #[.agg #[a0, .string n1, a2, a3, a4, a5, a6, a7, a8, a9, .int .i64 p1, a11, a12, a13, a14], .agg #[b0, .string n2, b2, b3, b4, b5, b6, b7, b8, b9, .int .i64 p2, b11, b12, b13, b14]] w fun e w' => e = .returned (.int .i64 (or2 (compareI p2 p1) (compareS n1 n2))) ∧ ∃ q os, w' = grow (w.drewN q) os := by
  go_enter Try.func65, Try.ntmps65
  go_wp2_with fail
  generalize hw2 : (w.alloc (.cells #[a0, .string n1, a2, a3, a4, a5, a6, a7, a8, a9, .int .i64 p1, a11, a12, a13, a14] 67)).alloc (.cells #[b0, .string n2, b2, b3, b4, b5, b6, b7, b8, b9, .int .i64 p2, b11, b12, b13, b14] 67) = w2
  have s2 : w2.heap.size = w.heap.size + 2 := by rw [← hw2]; simp
  have c1 : w2.cell? ⟨w.heap.size, 1, none⟩ = some (.string n1) := by rw [← hw2]; simp
  have c2 : w2.cell? ⟨w.heap.size, 10, none⟩ = some (.int .i64 p1) := by rw [← hw2]; simp
  have c3 : w2.cell? ⟨w.heap.size + 1, 1, none⟩ = some (.string n2) := by rw [← hw2]; simp
  have c4 : w2.cell? ⟨w.heap.size + 1, 10, none⟩ = some (.int .i64 p2) := by rw [← hw2]; simp
  have HW := put hw2
  clear hw2
  obtain ⟨B, hB⟩ : ∃ B, B = w.heap.size := ⟨_, rfl⟩
  rw [← hB] at s2 c1 c2 c3 c4 ⊢
  have l1 : B < w2.heap.size := by omega
  have l2 : B + 1 < w2.heap.size := by omega
  have HB := put hB
  have HS := put s2
  clear hB s2
  go_region_held3 (fun w' => w'.cell? ⟨B, 1, none⟩ = some (.string n1) ∧ w'.cell? ⟨B, 10, none⟩ = some (.int .i64 p1) ∧ w'.cell? ⟨B + 1, 1, none⟩ = some (.string n2) ∧ w'.cell? ⟨B + 1, 10, none⟩ = some (.int .i64 p2)) (go_keep)
    (first | (go_at_call 82; refine (compareStr _ _ _).mono ?_; rintro e w' ⟨rfl, rfl⟩) | (go_at_call 83; refine (compareInt _ _ _).mono ?_; rintro e w' ⟨rfl, rfl⟩) | (go_at_call 81; refine (orInt _ _ _ _ (by simp; rfl) (by simp; rfl)).mono ?_; rintro e w' ⟨rfl, rfl⟩))
  all_goals go_wp2
  all_goals go_ret
  all_goals
    refine ⟨rfl, ?_⟩
    rw [← HW.out, alloc_eq_grow, alloc_eq_grow, alloc_eq_grow, grow_grow, grow_grow]
    exact ⟨1, _, rfl⟩

theorem rl_cells {d : Nat} {ok : Nat → Prop} {w : World} {x : Rl} {cs : List Value} (h : (tSt d).R ok w x cs) : ∃ a0 a2 a3 a4 a5 a6 a7 a8 a9 a11 a12 a13 a14, cs = [a0, .string x.name, a2, a3, a4, a5, a6, a7, a8, a9, .int .i64 x.prio, a11, a12, a13, a14] := by
  obtain ⟨d', kd, col, rl, Ac, nc, cc, A1, n1, c1, A2, n2, c2, A3, n3, c3, A4, n4, c4, A5, n5, c5, A6, n6, c6, rfl, hc, _⟩ := st_parts h
  exact ⟨_, _, _, _, _, _, _, _, _, _, _, _, _, hc.eq⟩

set_option maxRecDepth 100000 in
/-- Rules of the call's own, sorted. -/
theorem rlSort (d : Nat) (ok : Nat → Prop) (w : World) (base : Nat) (v : Value) (xs : List Rl) (h : Own (tSt d) 67 ok w base v xs) (hl : xs.length ≤ 1000) :
    Calls Try.prog 64 #[v, .func (.func 65) #[] #[]] w fun e w' => e = .returned (.tuple #[]) ∧ Own (tSt d) 67 ok w' base v (isort (ltOf rlCmp) xs) ∧ w.grownBy w' v.ownBlock := by
  refine StabStm.sortOwn (tSt d) (tSt_sz d) _ w _ v xs h rlCmp swo_rl 65 #[] (fun args w => by rfl) (fun x y cx cy W hx hy => ?_) (by omega)
  obtain ⟨a0, a2, a3, a4, a5, a6, a7, a8, a9, a11, a12, a13, a14, rfl⟩ := rl_cells hx
  obtain ⟨b0, b2, b3, b4, b5, b6, b7, b8, b9, b11, b12, b13, b14, rfl⟩ := rl_cells hy
  exact rlBeforeCalls x.name y.name x.prio y.prio _ _ _ _ _ _ _ _ _ _ _ _ _ _ _ _ _ _ _ _ _ _ _ _ _ _ W
end Go.Proofs.Ytkfoknjflpklpaa.D

namespace Go.Proofs.Ytkfoknjflpklpaa.Mem
open Go Go.RowKit

theorem setCells_heap (g : Nat) (t : TypeId) : ∀ (vs : List Value) (o : Nat) (w : World) (cur : Array Value), w.heap[g]? = some (.cells cur t (0, 0)) → o + vs.length ≤ cur.size →
    ∃ cur', (w.setCells g o vs).heap[g]? = some (.cells cur' t (0, 0)) ∧ cur'.size = cur.size ∧ cur'.toList = cur.toList.take o ++ vs ++ cur.toList.drop (o + vs.length)
  | [], o, w, cur, h, _ => ⟨cur, h, rfl, by simp⟩
  | v :: r, o, w, cur, h, hb => by
    have h1 : (w.setCell ⟨g, o, none⟩ v).heap[g]? = some (.cells (cur.setIfInBounds o v) t (0, 0)) := by
      simp [World.setCell, Array.getElem?_modify, h]
    simp only [List.length_cons] at hb
    obtain ⟨cur', h2, h3, h4⟩ := setCells_heap g t r (o + 1) _ _ h1 (by simp; omega)
    refine ⟨cur', h2, by simpa using h3, ?_⟩
    rw [h4]
    simp only [Array.toList_setIfInBounds, List.length_cons]
    have ho : o < cur.toList.length := by simp; omega
    rw [List.take_set, List.drop_set_of_lt (by omega), show o + (r.length + 1) = o + 1 + r.length by omega]
    have : (cur.toList.take (o + 1)).set o v = cur.toList.take o ++ [v] := by
      rw [List.take_succ_eq_append_getElem ho, List.set_append_right _ _ (by rw [List.length_take]; exact Nat.min_le_left _ _), List.length_take, Nat.min_eq_left (by omega)]
      simp
    rw [this]
    simp

section
variable {α : Type} {d : Ty α} {E base : Nat} {ok : Nat → Prop} {w : World} {v : Value} {xs : List α} {z p : α} {cs : List Value}

theorem Own.over (h : Own d E ok w base v (xs ++ [z])) (hp : d.R (fun k => ok k ∧ some k ≠ v.ownBlock) w p cs) :
    ∃ g c, v = .slice (some ⟨g, 0, none⟩) (xs.length + 1) c ∧ base ≤ g ∧ g < w.heap.size ∧ w.there g (xs.length * d.sz) cs.length ∧ Own d E ok (w.setCells g (xs.length * d.sz) cs) base v (xs ++ [p]) := by
  obtain ⟨cells, hl, ⟨hlen, hv⟩, hR⟩ := h
  have hcl := Own.lens hl hR
  have hpl := d.len hp
  rcases hv with ⟨_, h0⟩ | ⟨g, cap, cur, rfl, hg, hh, hnc, hcm, hsz, htk⟩
  · simp at h0
  have hlx : (xs ++ [z]).length = xs.length + 1 := by simp
  rw [hlx] at hlen hnc htk ⊢
  rw [hlx] at hl
  have hgs : g < w.heap.size := (Array.getElem?_eq_some_iff.1 hh).1
  have hroom : xs.length * d.sz + cs.length ≤ cur.size := by
    rw [hsz, hpl, show xs.length * d.sz + d.sz = (xs.length + 1) * d.sz by rw [Nat.add_mul, Nat.one_mul]]
    exact Nat.mul_le_mul_right _ hnc
  obtain ⟨cur', h1, h2, h3⟩ := setCells_heap g E cs (xs.length * d.sz) w cur hh hroom
  -- the cells of all but the last
  have hsplit : cells = cells.take xs.length ++ [cells[xs.length]'(by omega)] := by
    rw [← List.take_succ_eq_append_getElem (by omega), List.take_of_length_le (by omega)]
  have hfl : ∀ (l : List (List Value)), (∀ c ∈ l, c.length = d.sz) → l.flatten.length = l.length * d.sz := by
    intro l
    induction l with
    | nil => intro _; simp
    | cons c l ih => intro hl; rw [List.flatten_cons, List.length_append, ih (fun c hc => hl c (List.mem_cons_of_mem _ hc)), hl c List.mem_cons_self, List.length_cons, Nat.add_mul, Nat.one_mul, Nat.add_comm]
  have hlt : (cells.take xs.length).flatten.length = xs.length * d.sz := by
    rw [hfl _ (fun c hc => hcl c (List.mem_of_mem_take hc)), List.length_take, Nat.min_eq_left (by omega)]
  have hpre : cur.toList.take (xs.length * d.sz) = (cells.take xs.length).flatten := by
    have e1 : cur.toList.take (xs.length * d.sz) = (cur.toList.take ((xs.length + 1) * d.sz)).take (xs.length * d.sz) := by
      rw [List.take_take, Nat.min_eq_left (Nat.mul_le_mul_right _ (by omega))]
    rw [e1, htk]
    rw [hsplit, List.flatten_append]
    have e2 : (List.take xs.length (List.take xs.length cells ++ [cells[xs.length]'(by omega)])).flatten = (cells.take xs.length).flatten := by rw [← hsplit]
    rw [e2, List.take_append_of_le_length (by omega), List.take_of_length_le (by omega)]
  refine ⟨g, cap, rfl, hg, hgs, fun j hj => ?_, cells.take xs.length ++ [cs], by rw [List.length_append, List.length_take, Nat.min_eq_left (by omega)]; simp, ⟨?_, .inr ⟨g, cap, cur', by simp, hg, h1, by simpa using hnc, hcm, by rw [h2, hsz], ?_⟩⟩, fun i x c hx hc => ?_⟩
  · have hjc : xs.length * d.sz + j < cur.size := by omega
    constructor
    · simp only [World.cell?, hh]
      simp [hjc]
    · simp [World.frozen?, hh]
  · rw [List.flatten_append, List.length_append, hlt]
    simp [hpl, Nat.add_mul]
  · rw [h3, hpre, List.flatten_append]
    have : (xs ++ [p]).length * d.sz = ((cells.take xs.length).flatten ++ cs).length := by
      rw [List.length_append (bs := cs), hlt, hpl, List.length_append, List.length_singleton, Nat.add_mul, Nat.one_mul]
    rw [this, List.take_left]
    simp
  · have hmv : ∀ x c, d.R (fun k => ok k ∧ some k ≠ (Value.slice (some ⟨g, 0, none⟩) (xs.length + 1) cap).ownBlock) w x c → d.R (fun k => ok k ∧ some k ≠ (Value.slice (some ⟨g, 0, none⟩) (xs.length + 1) cap).ownBlock) (w.setCells g (xs.length * d.sz) cs) x c := fun x c hr =>
      d.move (fun k hk hlt => World.heap_setCells_other w g _ cs hlt (fun e => hk.2 (by rw [e]; rfl))) hr
    by_cases hi : i < xs.length
    · rw [List.getElem?_append_left hi] at hx
      rw [List.getElem?_append_left (by rw [List.length_take]; omega), List.getElem?_take, if_pos hi] at hc
      exact hmv x c (hR i x c (by rw [List.getElem?_append_left hi]; exact hx) hc)
    · rw [List.getElem?_append_right (by omega)] at hx
      rw [List.getElem?_append_right (by rw [List.length_take]; omega), List.length_take, Nat.min_eq_left (by omega)] at hc
      have hi0 : i - xs.length = 0 := by
        have := (List.getElem?_eq_some_iff.1 hx).1
        simpa using this
      rw [hi0] at hx hc
      simp only [List.getElem?_cons_zero, Option.some.injEq] at hx hc
      subst hx; subst hc
      exact hmv _ _ hp
end
end Go.Proofs.Ytkfoknjflpklpaa.Mem

namespace Go.Proofs.Ytkfoknjflpklpaa.D
open Go Go.RowKit Go.Proofs.Ytkfoknjflpklpaa.Mem

/-- A number is returned. -/
def SaidI (e : Ending) : Prop := ∃ k, e = .returned (.int .i64 k)

set_option maxHeartbeats 8000000 in
set_option maxRecDepth 100000 in
theorem sizeExprCalls : ∀ (d : Nat) (ok : Nat → Prop) (cs : List Value) (n : Int) (w : World), (tEx d).R ok w () cs →
    Calls Try.prog 90 #[.agg cs.toArray, .int .i64 n] w fun e w' => SaidI e ∧ Below w.heap.size w w' := by
  intro d
  induction d with
  | zero => intro ok cs n w h; exact h.elim
  | succ d ih =>
    intro ok cs n w h
    obtain ⟨s0, i1, i2, s3, s4, s5, v, xs, rfl, hs, _⟩ := h
    obtain ⟨A, c, rfl, l1, l2, l3⟩ := hs.shape
    have IH := put ih
    have KS := put hs
    clear ih hs
    obtain ⟨m, hm⟩ : ∃ m, m = xs.length := ⟨_, rfl⟩
    rw [← hm] at l1 l3 KS ⊢
    have HM := put hm
    clear hm
    go_enter Try.func90, Try.ntmps90
    go_wp2_with fail
    obtain ⟨w1, hw1⟩ : ∃ w1, w1 = w.alloc (.cells #[.string s0, .int .i64 i1, .int .i64 i2, .string s3, .string s4, .string s5, .slice A m c] 171) := ⟨_, rfl⟩
    have f6 : w1.cell? ⟨w.heap.size, 6, none⟩ = some (.slice A m c) := by rw [hw1]; simp
    have hB1 : Below w.heap.size w w1 := by rw [hw1]; exact below_alloc (Below.refl _ _) _
    have s1 : w.heap.size < w1.heap.size := by rw [hw1]; simp
    rw [← hw1]
    clear hw1
    obtain ⟨B, hB⟩ : ∃ B, B = w.heap.size := ⟨_, rfl⟩
    rw [← hB] at f6 s1 ⊢
    have HB1 := put hB1
    have HB := put hB
    clear hB hB1
    go_loopg [5, 6] m (fun kx s5 s6 wr => ∃ (i : Nat) (q : Int), s5 = .int .i64 q ∧ s6 = .int .i64 i ∧ i ≤ m ∧ m - i ≤ kx ∧ Kp (Below w1.heap.size w1 wr))
    case atStart => exact ⟨0, _, rfl, rfl, Nat.zero_le _, Nat.le_refl _, put (Below.refl _ _)⟩
    case round =>
      obtain ⟨i, q, rfl, rfl, hi, hkx, KB⟩ := hrel
      have y6 := (KB.out.cell (p := ⟨B, 6, none⟩) s1).trans f6
      by_cases hlt : i < m
      · have hlz : (i : Int) < (m : Int) := by omega
        have i0 : (0 : Int) ≤ (i : Int) := by omega
        by_cases hq : q ≤ n
        · obtain ⟨d', ad, y0, y1, y2, y3, y4, y5, BB, k, j, rfl, rfl, x0, x1, x2, x3, x4, x5, x6, k1, k2, k3, hr⟩ := exs_at (KS.out.elder (HB1.out.trans (KB.out.mono HB1.out.size))).row.1 i (by rw [← HM.out]; exact hlt)
          have KR := put hr
          clear hr
          go_wp2_with fail
          refine (IH.out _ [.string y0, .int .i64 y1, .int .i64 y2, .string y3, .string y4, .string y5, .slice BB k j] _ _ KR.out).mono ?_
          rintro e w5 ⟨⟨b, rfl⟩, hb⟩
          have KB5 := put (below_call KB.out hb)
          clear hb y6 x0 x1 x2 x3 x4 x5 x6
          go_wp2_with fail
          go_roundg (m - (i + 1))
          case measure => omega
          case rel => exact ⟨i + 1, _, rfl, by go_num, by omega, Nat.le_refl _, KB5⟩
        · have hq' : decide (q ≤ n) = false := decide_eq_false hq
          go_wp2
          go_ret
          exact ⟨⟨_, rfl⟩, HB1.out.trans (KB.out.mono HB1.out.size)⟩
      · have hlz : ¬ (i : Int) < (m : Int) := by omega
        go_wp2
        go_ret
        exact ⟨⟨_, rfl⟩, HB1.out.trans (KB.out.mono HB1.out.size)⟩

set_option maxHeartbeats 16000000 in
set_option maxRecDepth 100000 in
theorem sizeCalls : ∀ (d : Nat) (ok : Nat → Prop) (x : Rl) (cs : List Value) (n : Int) (w : World), (tSt d).R ok w x cs →
    Calls Try.prog 62 #[.agg cs.toArray, .int .i64 n] w fun e w' => SaidI e ∧ Below w.heap.size w w' := by
  intro d
  induction d with
  | zero => intro ok x cs n w h; exact h.elim
  | succ d ih =>
    intro ok x cs n w h
    obtain ⟨d', kd, col, rl, Ac, nc, cc, A1, n1, c1, A2, n2, c2, A3, n3, c3, A4, n4, c4, A5, n5, c5, A6, n6, c6, ed, ⟨rfl, bc, b1, b2, b3, b4, b5, b6⟩, P⟩ := st_parts h
    obtain rfl : d = d' := by omega
    have IH := put ih
    have PP := put P
    clear ih P h ed
    obtain ⟨l1, m1, q1⟩ := b1
    obtain ⟨l2, m2, q2⟩ := b2
    obtain ⟨l3, m3, q3⟩ := b3
    obtain ⟨l4, m4, q4⟩ := b4
    obtain ⟨l6, m6, q6⟩ := b6
    obtain ⟨l5, m5, q5⟩ := b5
    obtain ⟨l7, m7, q7⟩ := bc
    go_enter Try.func62, Try.ntmps62
    go_wp2_with fail
    clear l5 m5 q5 l7 m7 q7
    obtain ⟨w2, hw2⟩ : ∃ w2, w2 = (w.alloc (.cells #[.int .i64 kd, .string x.name, .string x.table, .string col, .slice Ac nc cc, .slice A1 n1 c1, .slice A2 n2 c2, .slice A3 n3 c3, .slice A4 n4 c4, .slice A5 n5 c5, .int .i64 x.prio, .int .i64 x.event, .bool x.deferred, .bool rl, .slice A6 n6 c6] 127)).alloc (.cells #[.slice A1 n1 c1, .slice A2 n2 c2, .slice A3 n3 c3] 122) := ⟨_, rfl⟩
    have f8 : w2.cell? ⟨w.heap.size, 8, none⟩ = some (.slice A4 n4 c4) := by rw [hw2]; simp
    have f14 : w2.cell? ⟨w.heap.size, 14, none⟩ = some (.slice A6 n6 c6) := by rw [hw2]; simp
    have g0 : w2.cell? ⟨w.heap.size + 1, 0, none⟩ = some (.slice A1 n1 c1) := by rw [hw2]; simp
    have g1 : w2.cell? ⟨w.heap.size + 1, 1, none⟩ = some (.slice A2 n2 c2) := by rw [hw2]; simp
    have g2 : w2.cell? ⟨w.heap.size + 1, 2, none⟩ = some (.slice A3 n3 c3) := by rw [hw2]; simp
    have hB2 : Below w.heap.size w w2 := by rw [hw2]; exact (below_alloc (below_alloc (Below.refl _ _) _) _)
    have s2 : w.heap.size + 1 < w2.heap.size := by rw [hw2]; simp
    rw [← hw2]
    clear hw2
    obtain ⟨B, hB⟩ : ∃ B, B = w.heap.size := ⟨_, rfl⟩
    rw [← hB] at f8 f14 g0 g1 g2 s2 ⊢
    have HB2 := put hB2
    have HB := put hB
    clear hB hB2
    have P2 : Kp (StParts d (fun k => k < w2.heap.size) w2 (.slice A1 n1 c1) (.slice A2 n2 c2) (.slice A3 n3 c3) (.slice A4 n4 c4) (.slice A5 n5 c5) (.slice A6 n6 c6) n1 n2 n3 n4 n5 n6) := put (PP.out.later HB2.out)
    clear PP
    have K3 : Kp (∀ k : Nat, k < 3 → ∃ A n c ys, w2.cell? ⟨B + 1, k, none⟩ = some (.slice A n c) ∧ n ≤ c ∧ c ≤ 9223372036854775807 ∧ n ≤ 140737488355328 ∧ ys.length = n ∧ Sl (tEx d) (fun k => k < w2.heap.size) w2 (.slice A n c) ys) := ⟨fun k hk => by
      rcases k with _ | _ | _ | k
      · obtain ⟨ys, h1, h2⟩ := P2.out.s1
        exact ⟨_, _, _, ys, g0, l1, m1, q1, h2, h1.1⟩
      · obtain ⟨ys, h1, h2⟩ := P2.out.s2
        exact ⟨_, _, _, ys, g1, l2, m2, q2, h2, h1.1⟩
      · obtain ⟨ys, h1, h2⟩ := P2.out.s3
        exact ⟨_, _, _, ys, g2, l3, m3, q3, h2, h1.1⟩
      · omega⟩
    clear g0 g1 g2 l1 m1 q1 l2 m2 q2 l3 m3 q3
    go_loopg [5, 27] 3 (fun kx s5 s27 wr => ∃ (i : Nat) (q : Int), s5 = .int .i64 q ∧ s27 = .int .i64 i ∧ i ≤ 3 ∧ 3 - i ≤ kx ∧ Kp (Below w2.heap.size w2 wr))
    case atStart => exact ⟨0, _, rfl, rfl, Nat.zero_le _, Nat.le_refl _, put (Below.refl _ _)⟩
    case round =>
      obtain ⟨i, q0, rfl, rfl, hi, hkx, KB⟩ := hrel
      by_cases hlt : i < 3
      · have hlz : (i : Int) < 3 := by omega
        have i0 : (0 : Int) ≤ (i : Int) := by omega
        obtain ⟨A, m, c, ys, hc0, hmc, hc9, hm9, hmy, hys⟩ := K3.out i hlt
        have hcr := (KB.out.cell (p := ⟨B + 1, i, none⟩) s2).trans hc0
        have KS := put hys
        have HM := put hmy
        clear hc0 hys hmy
        go_wp2_with fail
        go_loopg [5, 8] m (fun kx s5 s8 wi => ∃ (k : Nat) (q : Int), s5 = .int .i64 q ∧ s8 = .int .i64 k ∧ k ≤ m ∧ m - k ≤ kx ∧ Kp (Below w2.heap.size w2 wi))
        case atStart => exact ⟨0, _, rfl, rfl, Nat.zero_le _, Nat.le_refl _, KB⟩
        case round =>
          obtain ⟨k, q, rfl, rfl, hk, hkx2, KBI⟩ := hrel
          by_cases hlt2 : k < m
          · have hlz2 : (k : Int) < (m : Int) := by omega
            have k0 : (0 : Int) ≤ (k : Int) := by omega
            by_cases hq2 : q ≤ n
            · obtain ⟨d', ad, y0, y1, y2, y3, y4, y5, BB, kk, j, rfl, rfl, x0, x1, x2, x3, x4, x5, x6, k1, k2, k3, hr⟩ := exs_at (KS.out.elder KBI.out).row.1 k (by rw [HM.out]; exact hlt2)
              have KR := put hr
              clear hr
              go_wp2_with fail
              refine (sizeExprCalls _ _ [.string y0, .int .i64 y1, .int .i64 y2, .string y3, .string y4, .string y5, .slice BB kk j] _ _ KR.out).mono ?_
              rintro e w5 ⟨⟨b, rfl⟩, hb⟩
              have KB5 := put (below_call KBI.out hb)
              clear hb x0 x1 x2 x3 x4 x5 x6
              go_wp2_with fail
              go_roundg (m - (k + 1))
              case measure => omega
              case rel => exact ⟨k + 1, _, rfl, by go_num, by omega, Nat.le_refl _, KB5⟩
            · have hq' : decide (q ≤ n) = false := decide_eq_false hq2
              go_wp2_with fail
              go_roundg (3 - (i + 1))
              case measure => omega
              case rel => exact ⟨i + 1, _, rfl, by go_num, by omega, Nat.le_refl _, KBI⟩
          · have hlz2 : ¬ (k : Int) < (m : Int) := by omega
            go_wp2_with fail
            go_roundg (3 - (i + 1))
            case measure => omega
            case rel => exact ⟨i + 1, _, rfl, by go_num, by omega, Nat.le_refl _, KBI⟩
      · have hlz : ¬ (i : Int) < 3 := by omega
        clear K3
        go_wp2_with fail
        go_loopg [5, 9] n4 (fun kx s5 s9 wi => ∃ (k : Nat) (q : Int), s5 = .int .i64 q ∧ s9 = .int .i64 k ∧ k ≤ n4 ∧ n4 - k ≤ kx ∧ Kp (Below w2.heap.size w2 wi))
        case atStart => exact ⟨0, _, rfl, rfl, Nat.zero_le _, Nat.le_refl _, KB⟩
        case round =>
          obtain ⟨k, q, rfl, rfl, hk, hkx2, KBI⟩ := hrel
          have y8 := (KBI.out.cell (p := ⟨B, 8, none⟩) (by show B < _; omega)).trans f8
          by_cases hlt2 : k < n4
          · have hlz2 : (k : Int) < (n4 : Int) := by omega
            have k0 : (0 : Int) ≤ (k : Int) := by omega
            by_cases hq2 : q ≤ n
            · obtain ⟨ys, hys, hmy⟩ := P2.out.s4
              obtain ⟨d', ad, z0, y0, y1, y2, y3, y4, y5, BB, kk, j, rfl, rfl, x0, x1, x2, x3, x4, x5, x6, x7, k1, k2, k3, hr⟩ := sets_at (hys.1.elder KBI.out).row.1 k (by rw [hmy]; exact hlt2)
              have KR := put hr
              clear hr hys hmy
              go_wp2_with fail
              refine (sizeExprCalls _ _ [.string y0, .int .i64 y1, .int .i64 y2, .string y3, .string y4, .string y5, .slice BB kk j] _ _ KR.out).mono ?_
              rintro e w5 ⟨⟨b, rfl⟩, hb⟩
              have KB5 := put (below_call KBI.out hb)
              clear hb y8 x0 x1 x2 x3 x4 x5 x6 x7
              go_wp2_with fail
              go_roundg (n4 - (k + 1))
              case measure => omega
              case rel => exact ⟨k + 1, _, rfl, by go_num, by omega, Nat.le_refl _, KB5⟩
            · have hq' : decide (q ≤ n) = false := decide_eq_false hq2
              go_wp2_with fail
              clear y8 hq' hq2
              go_loopg [5, 10] n6 (fun kx s5 s10 wi => ∃ (k : Nat) (q : Int), s5 = .int .i64 q ∧ s10 = .int .i64 k ∧ k ≤ n6 ∧ n6 - k ≤ kx ∧ Kp (Below w2.heap.size w2 wi))
              case atStart => exact ⟨0, _, rfl, rfl, Nat.zero_le _, Nat.le_refl _, KBI⟩
              case round =>
                obtain ⟨p, q, rfl, rfl, hp, hkx3, KBJ⟩ := hrel
                have y14 := (KBJ.out.cell (p := ⟨B, 14, none⟩) (by show B < _; omega)).trans f14
                by_cases hlt3 : p < n6
                · have hlz3 : (p : Int) < (n6 : Int) := by omega
                  have p0 : (0 : Int) ≤ (p : Int) := by omega
                  by_cases hq3 : q ≤ n
                  · obtain ⟨ys, hys, hmy⟩ := P2.out.s6
                    obtain ⟨ad, kd', x', col', rl', Ac', nc', cc', A1', n1', c1', A2', n2', c2', A3', n3', c3', A4', n4', c4', A5', n5', c5', A6', n6', c6', rfl, _, u0, u1, u2, u3, u4, u5, u6, u7, u8, u9, u10, u11, u12, u13, u14, hr⟩ := sts_at (hys.1.elder KBJ.out).row.1 p (by rw [hmy]; exact hlt3)
                    have KR := put hr
                    clear hr hys hmy
                    go_wp2_with fail
                    refine (IH.out _ x' _ _ _ KR.out).mono ?_
                    rintro e w5 ⟨⟨b, rfl⟩, hb⟩
                    have KB5 := put (below_call KBJ.out hb)
                    clear hb y14 u0 u1 u2 u3 u4 u5 u6 u7 u8 u9 u10 u11 u12 u13 u14
                    go_wp2_with fail
                    go_roundg (n6 - (p + 1))
                    case measure => omega
                    case rel => exact ⟨p + 1, _, rfl, by go_num, by omega, Nat.le_refl _, KB5⟩
                  · have hq' : decide (q ≤ n) = false := decide_eq_false hq3
                    go_wp2
                    go_ret
                    exact ⟨⟨_, rfl⟩, below_call HB2.out KBJ.out⟩
                · have hlz3 : ¬ (p : Int) < (n6 : Int) := by omega
                  go_wp2
                  go_ret
                  exact ⟨⟨_, rfl⟩, below_call HB2.out KBJ.out⟩
          · have hlz2 : ¬ (k : Int) < (n4 : Int) := by omega
            go_wp2_with fail
            clear y8
            go_loopg [5, 10] n6 (fun kx s5 s10 wi => ∃ (k : Nat) (q : Int), s5 = .int .i64 q ∧ s10 = .int .i64 k ∧ k ≤ n6 ∧ n6 - k ≤ kx ∧ Kp (Below w2.heap.size w2 wi))
            case atStart => exact ⟨0, _, rfl, rfl, Nat.zero_le _, Nat.le_refl _, KBI⟩
            case round =>
              obtain ⟨p, q, rfl, rfl, hp, hkx3, KBJ⟩ := hrel
              have y14 := (KBJ.out.cell (p := ⟨B, 14, none⟩) (by show B < _; omega)).trans f14
              by_cases hlt3 : p < n6
              · have hlz3 : (p : Int) < (n6 : Int) := by omega
                have p0 : (0 : Int) ≤ (p : Int) := by omega
                by_cases hq3 : q ≤ n
                · obtain ⟨ys, hys, hmy⟩ := P2.out.s6
                  obtain ⟨ad, kd', x', col', rl', Ac', nc', cc', A1', n1', c1', A2', n2', c2', A3', n3', c3', A4', n4', c4', A5', n5', c5', A6', n6', c6', rfl, _, u0, u1, u2, u3, u4, u5, u6, u7, u8, u9, u10, u11, u12, u13, u14, hr⟩ := sts_at (hys.1.elder KBJ.out).row.1 p (by rw [hmy]; exact hlt3)
                  have KR := put hr
                  clear hr hys hmy
                  go_wp2_with fail
                  refine (IH.out _ x' _ _ _ KR.out).mono ?_
                  rintro e w5 ⟨⟨b, rfl⟩, hb⟩
                  have KB5 := put (below_call KBJ.out hb)
                  clear hb y14 u0 u1 u2 u3 u4 u5 u6 u7 u8 u9 u10 u11 u12 u13 u14
                  go_wp2_with fail
                  go_roundg (n6 - (p + 1))
                  case measure => omega
                  case rel => exact ⟨p + 1, _, rfl, by go_num, by omega, Nat.le_refl _, KB5⟩
                · have hq' : decide (q ≤ n) = false := decide_eq_false hq3
                  go_wp2
                  go_ret
                  exact ⟨⟨_, rfl⟩, below_call HB2.out KBJ.out⟩
              · have hlz3 : ¬ (p : Int) < (n6 : Int) := by omega
                go_wp2
                go_ret
                exact ⟨⟨_, rfl⟩, below_call HB2.out KBJ.out⟩

end Go.Proofs.Ytkfoknjflpklpaa.D

namespace Go.Proofs.Ytkfoknjflpklpaa.D
open Go Go.RowKit Go.Proofs.Ytkfoknjflpklpaa.Mem

theorem infoEx (d : Nat) : (Try.prog.info? 171).map (fun i => (i.zero, i.size, i.bytes)) = some (some (.agg #[.string ⟨#[]⟩, .int .i64 0, .int .i64 0, .string ⟨#[]⟩, .string ⟨#[]⟩, .string ⟨#[]⟩, .slice none 0 0]), (tEx d).sz, 104) := by rw [tEx_sz]; kernel_rfl

theorem ex_kids {d : Nat} {ok : Nat → Prop} {w : World} {a0 a1 a2 a3 a4 a5 v : Value} (h : (tEx (d + 1)).R ok w () [a0, a1, a2, a3, a4, a5, v]) : ∃ xs, SlB (tEx d) 104 ok w v xs := by
  obtain ⟨s0, i1, i2, s3, s4, s5, v', xs, e, hs⟩ := h
  simp only [List.cons.injEq, and_true] at e
  obtain ⟨_, _, _, _, _, _, rfl⟩ := e
  exact ⟨xs, hs⟩

/-- What PlainExpr makes of an expression. -/
def PlainE (d : Nat) : Prop := ∀ (ok : Nat → Prop) (a : ByteArray) (b c : Int) (x y z : ByteArray) (B : Option Addr) (k j : Nat) (w : World), (tEx d).R ok w () [.string a, .int .i64 b, .int .i64 c, .string x, .string y, .string z, .slice B k j] →
  Calls Try.prog 92 #[.agg #[.string a, .int .i64 b, .int .i64 c, .string x, .string y, .string z, .slice B k j]] w fun e w' => ∃ A' n' c', e = .returned (.agg #[.string a, .int .i64 b, .int .i64 c, .string x, .string y, .string z, .slice A' n' c']) ∧ (tEx d).R (fun q => w.heap.size ≤ q) w' () [.string a, .int .i64 b, .int .i64 c, .string x, .string y, .string z, .slice A' n' c'] ∧ Below w.heap.size w w'

set_option maxHeartbeats 8000000 in
set_option maxRecDepth 100000 in
theorem plainExprsCalls (d : Nat) (H : PlainE d) (ok : Nat → Prop) (v : Value) (xs : List Unit) (w : World) (h : Sl (tEx d) ok w v xs) (hl : xs.length * 104 ≤ 140737488355328) :
    Calls Try.prog 91 #[v] w fun e w' => ∃ vo, e = .returned vo ∧ Own (tEx d) 171 (fun k => w.heap.size ≤ k) w' w.heap.size vo xs ∧ Below w.heap.size w w' := by
  obtain ⟨A, c, rfl, l1, l2, l3⟩ := h.shape
  have KS := put h
  have HL := put hl
  have HP := put H
  obtain ⟨m, hm⟩ : ∃ m, m = xs.length := ⟨_, rfl⟩
  rw [← hm] at l1 l3 KS ⊢
  have HM := put hm
  clear h hm hl H
  go_enter Try.func91, Try.ntmps91
  go_wp2_with fail
  go_loopg [3, 8] m (fun kx s3 s8 wr => ∃ (i : Nat) (Ao : Option Addr) (co : Nat), s3 = .slice Ao i co ∧ s8 = .int .i64 i ∧ i ≤ m ∧ m - i ≤ kx ∧ Kp (Own (tEx d) 171 (fun k => w.heap.size ≤ k) wr w.heap.size (.slice Ao i co) (xs.take i)) ∧ Kp (Below w.heap.size w wr))
  case atStart => exact ⟨0, none, 0, rfl, rfl, Nat.zero_le _, Nat.le_refl _, put (Own.nil _ _ _ _ _), put (Below.refl _ _)⟩
  case round =>
    obtain ⟨i, Ao, co, rfl, rfl, hi, hkx, KO, KB⟩ := hrel
    by_cases hlt : i < m
    · have hlz : (i : Int) < (m : Int) := by omega
      have i0 : (0 : Int) ≤ (i : Int) := by omega
      have hx : xs[i]? = some () := by rw [List.getElem?_eq_getElem (by rw [← HM.out]; exact hlt)]
      have KX := put hx
      obtain ⟨d', ad, y0, y1, y2, y3, y4, y5, BB, k, j, rfl, rfl, x0, x1, x2, x3, x4, x5, x6, k1, k2, k3, hr⟩ := exs_at (KS.out.elder KB.out).row.1 i (by rw [← HM.out]; exact hlt)
      have KR := put hr
      have B1 : ∀ o, Below wr.heap.size wr (wr.alloc o) := fun o => (Below.refl _ _).alloc (Nat.le_refl _) _
      clear hr hx
      go_wp2_with (first | (go_at_call 92; refine (HP.out _ y0 y1 y2 y3 y4 y5 BB k j _ (Ty.below KR.out (B1 _))).mono ?_; rintro e w5 ⟨A', n', c', rfl, hr5, hb5⟩; have HB5 := put ((B1 _).trans (hb5.mono (by simp))); have HR5 := put hr5; clear hr5 hb5) | (at_builtin; refine wpList_push (tEx (d' + 1)) w.heap.size rfl _ _ 122 171 _ 104 rfl Try.underlying122 (infoEx _) rfl (Nat.succ_pos _) (by decide) (.slice Ao i co) (xs.take i) () [.string y0, .int .i64 y1, .int .i64 y2, .string y3, .string y4, .string y5, .slice A' n' c'] (fun k => w.heap.size ≤ k) rfl rfl ((tEx (d' + 1)).mono (fun q hq => by have h1 := KB.out.size; simp at hq; exact ⟨by omega, fun e => by have := (KO.out.lt q e.symm).2; omega⟩) HR5.out) (KO.out.below HB5.out) (Nat.le_trans KB.out.size HB5.out.size) (by rw [List.length_take, ← HM.out]; have := HL.out; have := HM.out; omega) ?_; intro v1 w7 hown hg hat; obtain ⟨A9, c9, e9, _, _⟩ := hown.form; rw [show (xs.take i ++ [()]).length = i + 1 by rw [List.length_append, List.length_take, ← HM.out, List.length_singleton]; omega] at e9; subst e9; have hb7 : Below w.heap.size w w7 := (KB.out.trans (HB5.out.mono KB.out.size)).grown hg (Nat.le_trans KB.out.size HB5.out.size) (fun k hk => (KO.out.lt k hk).1); have HB7 := put hb7; have HOWN := put hown; clear hown hg hat hb7))
      go_roundg (m - (i + 1))
      case measure => omega
      case rel => exact ⟨i + 1, _, _, rfl, by go_num, by omega, Nat.le_refl _, put (by rw [take_one_more KX.out]; exact HOWN.out), HB7⟩
    · have hlz : ¬ (i : Int) < (m : Int) := by omega
      go_wp2
      go_ret
      obtain rfl : i = m := by omega
      have hk := KO.out
      rw [List.take_of_length_le (by rw [HM.out]; exact Nat.le_refl _)] at hk
      exact ⟨_, rfl, hk, KB.out⟩

set_option maxHeartbeats 8000000 in
set_option maxRecDepth 100000 in
theorem plainExprCalls : ∀ (d : Nat), PlainE d := by
  intro d
  induction d with
  | zero => intro ok a b c x y z B k j w h; exact h.elim
  | succ d ih =>
    intro ok a b c x y z A n c6 w h
    obtain ⟨xs, hs⟩ := ex_kids h
    clear h
    have HS := put hs
    have C : Kp (∀ W, Below w.heap.size w W → Calls Try.prog 91 #[.slice A n c6] W fun e w' => ∃ vo, e = .returned vo ∧ Own (tEx d) 171 (fun k => W.heap.size ≤ k) w' W.heap.size vo xs ∧ Below W.heap.size W w') := ⟨fun W hb => plainExprsCalls d ih ok _ xs W (hs.1.below hb) hs.2⟩
    clear ih hs
    go_enter Try.func92, Try.ntmps92
    go_wp2_with fail
    obtain ⟨w2, hw2⟩ : ∃ w2, w2 = (w.alloc (.cells #[.string a, .int .i64 b, .int .i64 c, .string x, .string y, .string z, .slice A n c6] 164)).alloc (.cells #[.string { data := #[] }, .int .i64 0, .int .i64 0, .string { data := #[] }, .string { data := #[] }, .string { data := #[] }, .slice none 0 0] 171) := ⟨_, rfl⟩
    obtain ⟨B, hB⟩ : ∃ B, B = w.heap.size := ⟨_, rfl⟩
    have hB2 : Below w.heap.size w w2 := by rw [hw2]; exact below_alloc (below_alloc (Below.refl _ _) _) _
    have d0 : w2.cell? ⟨B, 0, none⟩ = some (.string a) := by rw [hw2, hB]; simp
    have d1 : w2.cell? ⟨B, 1, none⟩ = some (.int .i64 b) := by rw [hw2, hB]; simp
    have d2 : w2.cell? ⟨B, 2, none⟩ = some (.int .i64 c) := by rw [hw2, hB]; simp
    have d3 : w2.cell? ⟨B, 3, none⟩ = some (.string x) := by rw [hw2, hB]; simp
    have d4 : w2.cell? ⟨B, 4, none⟩ = some (.string y) := by rw [hw2, hB]; simp
    have d5 : w2.cell? ⟨B, 5, none⟩ = some (.string z) := by rw [hw2, hB]; simp
    have d6 : w2.cell? ⟨B, 6, none⟩ = some (.slice A n c6) := by rw [hw2, hB]; simp
    have e0 : w2.cell? ⟨B + 1, 0, none⟩ = some (.string { data := #[] }) := by rw [hw2, hB]; simp
    have e1 : w2.cell? ⟨B + 1, 1, none⟩ = some (.int .i64 0) := by rw [hw2, hB]; simp
    have e2 : w2.cell? ⟨B + 1, 2, none⟩ = some (.int .i64 0) := by rw [hw2, hB]; simp
    have e3 : w2.cell? ⟨B + 1, 3, none⟩ = some (.string { data := #[] }) := by rw [hw2, hB]; simp
    have e4 : w2.cell? ⟨B + 1, 4, none⟩ = some (.string { data := #[] }) := by rw [hw2, hB]; simp
    have e5 : w2.cell? ⟨B + 1, 5, none⟩ = some (.string { data := #[] }) := by rw [hw2, hB]; simp
    have e6 : w2.cell? ⟨B + 1, 6, none⟩ = some (.slice none 0 0) := by rw [hw2, hB]; simp
    have f0 : w2.frozen? ⟨B + 1, 0, none⟩ = false := by rw [hw2, hB]; simp
    have f1 : w2.frozen? ⟨B + 1, 1, none⟩ = false := by rw [hw2, hB]; simp
    have f2 : w2.frozen? ⟨B + 1, 2, none⟩ = false := by rw [hw2, hB]; simp
    have f3 : w2.frozen? ⟨B + 1, 3, none⟩ = false := by rw [hw2, hB]; simp
    have f4 : w2.frozen? ⟨B + 1, 4, none⟩ = false := by rw [hw2, hB]; simp
    have f5 : w2.frozen? ⟨B + 1, 5, none⟩ = false := by rw [hw2, hB]; simp
    have f6 : w2.frozen? ⟨B + 1, 6, none⟩ = false := by rw [hw2, hB]; simp
    have l2 : B + 1 < w2.heap.size := by rw [hw2, hB]; simp
    have l1 : B < w2.heap.size := by omega
    rw [← hw2, ← hB]
    have HW := put hB2
    have HB := put hB
    clear hw2 hB hB2
    go_region_held3 (fun w' => w'.cell? ⟨B, 0, none⟩ = some (.string a) ∧ w'.cell? ⟨B, 1, none⟩ = some (.int .i64 b) ∧ w'.cell? ⟨B, 2, none⟩ = some (.int .i64 c) ∧ w'.cell? ⟨B, 3, none⟩ = some (.string x) ∧ w'.cell? ⟨B, 4, none⟩ = some (.string y) ∧ w'.cell? ⟨B, 5, none⟩ = some (.string z) ∧ w'.cell? ⟨B, 6, none⟩ = some (.slice A n c6))
      (first | go_keep | exact ⟨(hc _ _ l1).trans d0, (hc _ _ l1).trans d1, (hc _ _ l1).trans d2, (hc _ _ l1).trans d3, (hc _ _ l1).trans d4, (hc _ _ l1).trans d5, (hc _ _ l1).trans d6⟩)
      (first | (go_at_call 91; refine (C.out _ HW.out.drew).mono ?_; rintro e w3 ⟨vo, rfl, ho, hb⟩; obtain ⟨hc, hf⟩ := bcell hb; obtain ⟨A', c', eo, _, _⟩ := ho.form; subst eo; have y0 := (hc (B + 1) 0 l2).trans e0; have y1 := (hc (B + 1) 1 l2).trans e1; have y2 := (hc (B + 1) 2 l2).trans e2; have y3 := (hc (B + 1) 3 l2).trans e3; have y4 := (hc (B + 1) 4 l2).trans e4; have y5 := (hc (B + 1) 5 l2).trans e5; have y6 := (hc (B + 1) 6 l2).trans e6; have x0 := (hf (B + 1) 0 l2).trans f0; have x1 := (hf (B + 1) 1 l2).trans f1; have x2 := (hf (B + 1) 2 l2).trans f2; have x3 := (hf (B + 1) 3 l2).trans f3; have x4 := (hf (B + 1) 4 l2).trans f4; have x5 := (hf (B + 1) 5 l2).trans f5; have x6 := (hf (B + 1) 6 l2).trans f6))
    go_wp2
    have hvo : ∀ q, (Value.slice A' xs.length c').ownBlock = some q → q ≠ B + 1 := fun q hq e => by have := (ho.lt q hq).1; simp at this; omega
    have hok : ∀ q, w2.drew.heap.size ≤ q → q ≠ B + 1 := fun q hq e => by simp at hq; omega
    have h0 : Below B w w3 := by
      have h1 := HW.out
      rw [← HB.out] at h1
      exact h1.drew.trans (hb.mono (by simp; omega))
    refine bodyPost_ret (v := .agg #[.string a, .int .i64 b, .int .i64 c, .string x, .string y, .string z, .slice A' xs.length c']) (by simp [results, Try.results92, go_sem, y0, y1, y2, y3, y4, y5, y6]) rfl ⟨_, _, _, rfl, ?_, ?_⟩
    · have ho' := ((((((ho.far (p := ⟨B + 1, 0, none⟩) hvo hok (.string a)).far (p := ⟨B + 1, 1, none⟩) hvo hok (.int .i64 b)).far (p := ⟨B + 1, 2, none⟩) hvo hok (.int .i64 c)).far (p := ⟨B + 1, 3, none⟩) hvo hok (.string x)).far (p := ⟨B + 1, 4, none⟩) hvo hok (.string y)).far (p := ⟨B + 1, 5, none⟩) hvo hok (.string z)).far (p := ⟨B + 1, 6, none⟩) hvo hok (.slice A' xs.length c')
      have hge : ∀ q, w2.drew.heap.size ≤ q → w.heap.size ≤ q := fun q hq => by have := HB.out; simp at hq; omega
      exact ⟨a, b, c, x, y, z, _, xs, rfl, ho'.sl (fun q hq => hge q (ho.lt q hq).1) hge (by have := HS.out.2; omega), HS.out.2⟩
    · rw [← HB.out]
      exact (((((((h0.setCell (by simp) _).setCell (by simp) _).setCell (by simp) _).setCell (by simp) _).setCell (by simp) _).setCell (by simp) _).setCell (by simp) _)
end Go.Proofs.Ytkfoknjflpklpaa.D

namespace Go.Proofs.Ytkfoknjflpklpaa.D
open Go
def regionAt (id : Nat) : Code → Option Code
  | .region i ops b => if i = id then some (.region i ops b) else none
  | .seq a b => (regionAt id a).or (regionAt id b)
  | .cond _ a b => (regionAt id a).or (regionAt id b)
  | .block _ c => regionAt id c
  | .loop c => regionAt id c
  | _ => none
end Go.Proofs.Ytkfoknjflpklpaa.D
