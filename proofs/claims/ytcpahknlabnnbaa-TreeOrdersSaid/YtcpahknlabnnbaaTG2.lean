/- Pages: weigh, Size; slices.IndexFunc, ContainsFunc. Pages: Size, shaped, Right; slices.ContainsFunc. Pages: shaped, Right. Pages: in.two, in.four. append of one element out of a literal's block that lies anywhere. Pages: read. Pages: read, the walk. Pages: out.two, out.four. Pages: out.two, out.four over a page under way. Pages: an entry's bytes go onto a page. Pages: Encode. fault.Stop, Check, Catch. Pages: Decode. Pages: Find, Kid, some. -/
import Derived.Test.YtcpahknlabnnbaaTG1
import Derived.Laws.IdiomCopy
import Derived.Laws.Cover1
import Derived.IntWalk
import Derived.Laws.IdiomStrings
import Derived.Deep.RegionLaw
import Derived.Lib.BufferWrite
import Derived.Recover
import Derived.Defers
import Derived.OwnWalk
import Derived.Laws.ResultCell

namespace Go.Proofs.Ytcpahknlabnnbaa.T
open Go Go.RowKit Go.Sort Go.Proofs.Ytcpahknlabnnbaa.Mem

def kints (l : List Nat) : List Int := l.map fun (k : Nat) => (k : Int)
theorem kints_len (l : List Nat) : (kints l).length = l.length := List.length_map _
theorem kints_get {l : List Nat} {i k : Nat} (h : l[i]? = some k) : (kints l)[i]? = some (k : Int) := by unfold kints; rw [List.getElem?_map, h]; rfl
theorem RdE.at' {α : Type} {enc : α → Value} {ok : Nat → Prop} {w : World} {xs : List α} {A : Option Addr} {n c : Nat} (h : RdE enc ok w (.slice A n c) xs) {i : Nat} (hi : i < xs.length) : ∃ x g o, xs[i]? = some x ∧ A = some ⟨g, o, none⟩ ∧ g < w.heap.size ∧ w.cell? ⟨g, o + i, none⟩ = some (enc x) := by
  obtain ⟨g, o, h1, h2, h3⟩ := h.get (List.getElem?_eq_getElem hi)
  exact ⟨_, g, o, List.getElem?_eq_getElem hi, h1, h2, h3⟩
theorem wt_take {l : List ByteArray} {i : Nat} {s : ByteArray} (h : l[i]? = some s) : wt (l.take (i + 1)) = wt (l.take i) + (4 + s.size) := by
  rw [wt_dl, wt_dl, dl_take_succ h]
  have hi := (List.getElem?_eq_some_iff.1 h).1
  rw [List.length_take, List.length_take]; omega
theorem wt_le {l : List ByteArray} (i : Nat) : wt (l.take i) ≤ wt l := by
  induction l generalizing i with
  | nil => simp
  | cons s l ih =>
    cases i with
    | zero => simp [wt]
    | succ i => rw [List.take_succ_cons, wt, wt]; have := ih i; omega

set_option maxHeartbeats 4000000 in
set_option maxRecDepth 100000 in
theorem weighCalls (ok : Nat → Prop) (v : Value) (l : List ByteArray) (w : World) (h : RdE Value.string ok w v l) (hl : l.length ≤ 1000000) (hw : wt l ≤ 1000000000000) :
    Calls Try.prog 71 #[v] w fun e w' => e = .returned (.int .i64 (wt l)) ∧ w' = w := by
  obtain ⟨A, c, rfl, h1, h2, _⟩ := h.shape
  have HR := put h
  have HW := put hw
  obtain ⟨n, hn⟩ : ∃ n, n = l.length := ⟨_, rfl⟩
  rw [← hn] at hl h1 HR ⊢
  have HN := put hn
  clear hn h hw
  go_enter Try.func71, Try.ntmps71
  go_wp2_with fail
  go_loopg [3, 8] n (fun kx s3 s8 wr => ∃ (i : Nat) (t : Int), s3 = .int .i64 t ∧ s8 = .int .i64 i ∧ Kp (t = (wt (l.take i) : Int)) ∧ i ≤ n ∧ n - i ≤ kx ∧ wr = w)
  case atStart => exact ⟨0, 0, rfl, rfl, put rfl, Nat.zero_le _, Nat.le_refl _, rfl⟩
  case round =>
    obtain ⟨i, t, rfl, rfl, HT, hi, hkx, rfl⟩ := hrel
    by_cases hlt : i < n
    · have hlz : (i : Int) < (n : Int) := by omega
      have i0 : (0 : Int) ≤ (i : Int) := by omega
      obtain ⟨s, g, o, hx, rfl, hg, x0⟩ := HR.out.at' (i := i) (by rw [← HN.out]; exact hlt)
      have hs := wt_take hx
      have hb := wt_le (l := l) (i + 1)
      have hW := HW.out
      have ht := HT.out
      have b1 : 0 ≤ t ∧ t + (4 + (s.size : Int)) ≤ 1000000000000 := by omega
      have b2 : (s.size : Int) ≤ 1000000000000 := by omega
      have b3 : (0 : Int) ≤ (s.size : Int) := by omega
      have HT2 : Kp (t + (4 + (s.size : Int)) = (wt (l.take (i + 1)) : Int)) := put (by omega)
      clear hx hs hb hW ht
      go_wp2_with fail
      go_roundg (n - (i + 1))
      case measure => omega
      case rel => exact ⟨i + 1, _, rfl, by go_num, HT2, by omega, Nat.le_refl _, rfl⟩
    · have hlz : ¬ (i : Int) < (n : Int) := by omega
      obtain rfl : n = i := by omega
      have ht := HT.out
      rw [List.take_of_length_le (by rw [HN.out]; exact Nat.le_refl _)] at ht
      go_wp2_with fail
      go_ret
      exact ⟨by rw [← ht]; rfl, rfl⟩
end Go.Proofs.Ytcpahknlabnnbaa.T

namespace Go.Proofs.Ytcpahknlabnnbaa.T
open Go Go.RowKit Go.Sort Go.Proofs.Ytcpahknlabnnbaa.Mem

theorem bt {w w1 w2 : World} (h : Below w.heap.size w w1) (k : Below w1.heap.size w1 w2) : Below w.heap.size w w2 :=
  ⟨k.os.trans h.os, k.tape.trans h.tape, k.output.trans h.output, Nat.le_trans h.size k.size, fun i hi => (k.block i (Nat.lt_of_lt_of_le hi h.size)).trans (h.block i hi)⟩
theorem bdr (w : World) (q : Nat) : Below w.heap.size w (w.drewN q) := ⟨rfl, rfl, rfl, Nat.le_refl _, fun _ _ => rfl⟩
theorem bdr' {w w1 : World} (h : Below w.heap.size w w1) (q : Nat) : Below w.heap.size w (w1.drewN q) := ⟨h.os, h.tape, h.output, h.size, h.block⟩
/-- A node's two rows. -/
structure NdV (ok : Nat → Prop) (w : World) (vr vk : Value) (n : Nd) : Prop where
  recs : RdE Value.string ok w vr n.recs
  kids : RdE (.int .i64) ok w vk (kints n.kids)
/-- Nothing overflows. -/
structure Nd.Fair (n : Nd) : Prop where
  recs : n.recs.length ≤ 100000
  wt : T.wt n.recs ≤ 1000000000
  kids : n.kids.length ≤ 100000
section
variable {ok ok' : Nat → Prop} {w w' : World} {vr vk : Value} {n : Nd}
theorem NdV.below (h : NdV ok w vr vk n) (hb : Below w.heap.size w w') : NdV ok w' vr vk n := ⟨h.recs.below hb, h.kids.below hb⟩
theorem NdV.mono (h : NdV ok w vr vk n) (hk : ∀ k, ok k → ok' k) : NdV ok' w vr vk n := ⟨h.recs.mono hk, h.kids.mono hk⟩
theorem NdV.bnd (h : NdV ok w vr vk n) : NdV (fun k => ok k ∧ k < w.heap.size) w vr vk n := ⟨h.recs.bnd, h.kids.bnd⟩
theorem NdV.kps {S : Nat → Prop} (h : NdV ok w vr vk n) (k : Kps S w w') (hs : ∀ k, ok k → k < w.heap.size → ¬ S k) : NdV ok w' vr vk n := ⟨h.recs.kps k hs, h.kids.kps k hs⟩
end
def ndV (leaf : Bool) (vr vk : Value) : Value := .agg #[.bool leaf, vr, vk]

set_option maxHeartbeats 4000000 in
set_option maxRecDepth 100000 in
theorem sizeCalls (ok : Nat → Prop) (vr vk : Value) (n : Nd) (w : World) (h : NdV ok w vr vk n) (hf : n.Fair) :
    Calls Try.prog 56 #[.agg #[.bool n.leaf, vr, vk]] w fun e w' => e = .returned (.int .i64 n.size) ∧ Below w.heap.size w w' := by
  have C : ∀ W, Below w.heap.size w W → Calls Try.prog 71 #[vr] W fun e w' => e = .returned (.int .i64 (wt n.recs)) ∧ w' = W := fun W hb => weighCalls ok vr n.recs W (h.recs.below hb) (by have := hf.recs; omega) (by have := hf.wt; omega)
  obtain ⟨Ak, ck, rfl, k1, k2, _⟩ := h.kids.shape
  obtain ⟨Ar, cr, rfl, r1, r2, _⟩ := h.recs.shape
  rw [kints_len] at k1 ⊢
  obtain ⟨t, ht⟩ : ∃ t, t = wt n.recs := ⟨_, rfl⟩
  have HS : Kp (n.size = 3 + 4 * n.kids.length + t) := put (by unfold Nd.size; rw [ht])
  have hk := hf.kids
  have hw := hf.wt
  rw [← ht] at C hw
  obtain ⟨w1, hw1⟩ : ∃ w1, w1 = w.alloc (.cells #[.bool n.leaf, .slice Ar n.recs.length cr, .slice Ak n.kids.length ck] 69) := ⟨_, rfl⟩
  have HB1 : Kp (Below w.heap.size w w1) := put (by rw [hw1]; exact balloc (Below.refl _ _) _)
  have C1 := put fun q => C (w1.drewN q) (bdr' HB1.out q)
  have HN : Kp (∃ L, L = n.leaf) := put ⟨_, rfl⟩
  generalize n.kids.length = m at *
  clear C ht
  go_enter Try.func56, Try.ntmps56
  go_wp2_with fail
  rw [← hw1]
  obtain ⟨x0, x1, x2⟩ := c3 (w := w1) (X := w.heap.size) (t := 69) (by rw [hw1]; exact heap_alloc_new _ _)
  have y1 : ∀ q, (w1.drewN q).cell? ⟨w.heap.size, 1, none⟩ = some (.slice Ar n.recs.length cr) := fun _ => x1
  have y2 : ∀ q, (w1.drewN q).cell? ⟨w.heap.size, 2, none⟩ = some (.slice Ak m ck) := fun _ => x2
  clear hw1 x0 x1 x2
  go_quiet (first | (go_at_call_of 71 (Value.slice Ar n.recs.length cr); exact Calls.quiet_of_same (C1.out _)))
  go_wp2_with fail
  go_ret
  exact ⟨by rw [HS.out]; simp, bdr' HB1.out _⟩
/-- a where b is true, else c; the walk does not look into it. -/
structure Aft (b : Bool) (a c : Prop) : Prop where
  out : if b = true then a else c

set_option maxHeartbeats 4000000 in
set_option maxRecDepth 100000 in
/-- slices.IndexFunc at ints: f may change the world. -/
theorem indexI (g : Nat) (recv cb : Array Value) (eg : ∀ args w, (callFunc g args).run Try.prog w = .ok (.enter g args) w) (ok : Nat → Prop) (A : Option Addr) (c : Nat) (xs : List Int) (P : Nat → World → Prop) (F : World → Prop) (w : World) (hl : xs.length ≤ 1000000) (h0 : P 0 w)
    (hcell : ∀ j W, P j W → RdE (.int .i64) ok W (.slice A xs.length c) xs)
    (hg : ∀ (j : Nat) (x : Int) (W : World), xs[j]? = some x → P j W → Calls Try.prog g (recv ++ #[.int .i64 x] ++ cb) W fun e w' => ∃ b, e = .returned (.bool b) ∧ Aft b (F w') (P (j + 1) w')) :
    Calls Try.prog 65 #[.slice A xs.length c, .func (.func g) recv cb] w fun e w' => (∃ k : Nat, e = .returned (.int .i64 k) ∧ F w') ∨ (e = .returned (.int .i64 (-1)) ∧ P xs.length w') := by
  have HC := put hcell
  have HG := put hg
  have H0 := put h0
  clear hcell hg h0
  obtain ⟨n, hn⟩ : ∃ n, n = xs.length := ⟨_, rfl⟩
  rw [← hn] at hl HC ⊢
  have HN := put hn
  clear hn
  go_enter Try.func65, Try.ntmps65
  go_wp2_with fail
  go_loopg [8] n (fun kx s8 wr => ∃ (i : Nat), s8 = .int .i64 i ∧ i ≤ n ∧ n - i ≤ kx ∧ Kp (P i wr))
  case atStart => exact ⟨0, rfl, Nat.zero_le _, Nat.le_refl _, H0⟩
  case round =>
    obtain ⟨i, rfl, hi, hkx, HP⟩ := hrel
    by_cases hlt : i < n
    · have hlz : (i : Int) < (n : Int) := by omega
      have i0 : (0 : Int) ≤ (i : Int) := by omega
      obtain ⟨x, g1, o, hx, rfl, hg1, x0⟩ := (HC.out i wr HP.out).at' (i := i) (by rw [← HN.out]; exact hlt)
      have CC := put (HG.out i x wr hx HP.out)
      clear hx
      go_wp2_with (go_at_fn g; refine CC.out.mono ?_; rintro e w5 ⟨b, rfl, HH⟩)
      · have hp := HH.out
        rw [if_pos (by simp [*])] at hp
        go_ret
        exact .inl ⟨i, rfl, hp⟩
      · have hp := HH.out
        rw [if_neg (by simp [*])] at hp
        have HP2 := put hp
        clear hp
        go_roundg (n - (i + 1))
        case measure => omega
        case rel => exact ⟨i + 1, by go_num, by omega, Nat.le_refl _, HP2⟩
    · have hlz : ¬ (i : Int) < (n : Int) := by omega
      obtain rfl : n = i := by omega
      go_wp2_with fail
      go_ret
      exact .inr ⟨rfl, HP.out⟩

set_option maxHeartbeats 4000000 in
set_option maxRecDepth 100000 in
/-- slices.ContainsFunc at ints: f may change the world. -/
theorem containsI (g : Nat) (recv cb : Array Value) (eg : ∀ args w, (callFunc g args).run Try.prog w = .ok (.enter g args) w) (ok : Nat → Prop) (A : Option Addr) (c : Nat) (xs : List Int) (P : Nat → World → Prop) (F : World → Prop) (w : World) (hl : xs.length ≤ 1000000) (h0 : P 0 w)
    (hcell : ∀ j W, P j W → RdE (.int .i64) ok W (.slice A xs.length c) xs)
    (hg : ∀ (j : Nat) (x : Int) (W : World), xs[j]? = some x → P j W → Calls Try.prog g (recv ++ #[.int .i64 x] ++ cb) W fun e w' => ∃ b, e = .returned (.bool b) ∧ Aft b (F w') (P (j + 1) w')) :
    Calls Try.prog 48 #[.slice A xs.length c, .func (.func g) recv cb] w fun e w' => ∃ b, e = .returned (.bool b) ∧ Aft b (F w') (P xs.length w') := by
  have HC := put (indexI g recv cb eg ok A c xs P F w hl h0 hcell hg)
  clear hcell hg h0 hl
  have HC2 : Kp (Calls Try.prog 65 #[.slice A xs.length c, .func (.func g) recv cb] w fun e w' => ∃ k : Int, e = .returned (.int .i64 k) ∧ Kp (if 0 ≤ k then F w' else P xs.length w')) := put (HC.out.mono (by
    rintro e w' (⟨k, rfl, h⟩ | ⟨rfl, h⟩)
    · exact ⟨k, rfl, put (by rw [if_pos (by omega)]; exact h)⟩
    · exact ⟨-1, rfl, put h⟩))
  clear HC
  go_enter Try.func48, Try.ntmps48
  go_wp2_with fail
  refine HC2.out.mono ?_
  rintro e w2 ⟨k, rfl, hh⟩
  by_cases hk : 0 ≤ k
  · rw [if_pos hk] at hh
    go_wp2_with fail
    go_ret
    exact ⟨true, by simp, ⟨hh.out⟩⟩
  · rw [if_neg hk] at hh
    go_wp2_with fail
    go_ret
    exact ⟨false, by simp [hk], ⟨hh.out⟩⟩

set_option maxHeartbeats 4000000 in
set_option maxRecDepth 100000 in
theorem goodCalls (k : Int) (w : World) (h : 1 ≤ k ∧ k ≤ 4096) :
    Calls Try.prog 84 #[.int .i64 k] w fun e w' => e = .returned (.bool false) ∧ w' = w := by
  have h1 : ¬ k < 1 := by omega
  have h2 : ¬ k > 4096 := by omega
  go_enter Try.func84, Try.ntmps84
  go_wp2_with fail
  go_ret
  exact ⟨rfl, rfl⟩
end Go.Proofs.Ytcpahknlabnnbaa.T

namespace Go.Proofs.Ytcpahknlabnnbaa.T
open Go Go.RowKit Go.Sort Go.Proofs.Ytcpahknlabnnbaa.Mem

/-- a stands ahead of b. -/
def ltB (a b : ByteArray) : Bool := Op.bytesLess a.toList b.toList
theorem ltB_iff {a b : ByteArray} : ltB a b = true ↔ a.toList < b.toList := by unfold ltB; rw [bytesLess_eq]; simp
theorem ltB_not {a b : ByteArray} (h : ltB a b = true) : Op.bytesLess b.toList a.toList = false ∧ (b.toList == a.toList) = false := by
  rw [ltB_iff] at h
  refine ⟨?_, ?_⟩
  · rw [bytesLess_eq]
    simp only [decide_eq_false_iff_not]
    exact List.lt_asymm h
  · rw [beq_eq_false_iff_ne]
    intro e
    rw [e] at h
    exact List.lt_irrefl _ h
def Rise (l : List ByteArray) : Prop := l.Pairwise fun a b => ltB a b = true
theorem risePrev {l : List ByteArray} (h : Rise l) {j : Nat} {s p : ByteArray} (hs : l[j + 1]? = some s) (hp : l[j]? = some p) : ltB p s = true := by
  obtain ⟨h1, rfl⟩ := List.getElem?_eq_some_iff.1 hs
  obtain ⟨h2, rfl⟩ := List.getElem?_eq_some_iff.1 hp
  exact List.pairwise_iff_getElem.1 h _ _ _ _ (Nat.lt_succ_self j)
/-- A node of the right shape. -/
structure Nd.Shp (n : Nd) : Prop where
  leaf : n.leaf = true → n.kids = []
  inner : n.leaf = false → n.kids.length = n.recs.length + 1
  rise : Rise n.recs
  recs : ∀ s ∈ n.recs, 1 ≤ s.size ∧ s.size ≤ 400
  kids : ∀ k ∈ n.kids, 1 ≤ k ∧ k ≤ 4096

set_option maxHeartbeats 4000000 in
set_option maxRecDepth 100000 in
theorem shapedCalls (ok : Nat → Prop) (vr vk : Value) (n : Nd) (w : World) (h : NdV ok w vr vk n) (hf : n.Fair) (hs : n.Shp) :
    Calls Try.prog 70 #[.agg #[.bool n.leaf, vr, vk]] w fun e w' => e = .returned (.bool true) ∧ Below w.heap.size w w' := by
  obtain ⟨Ak, ck, rfl, k1, k2, k3⟩ := h.kids.shape
  obtain ⟨Ar, cr, rfl, r1, r2, r3⟩ := h.recs.shape
  rw [kints_len] at k1 ⊢
  obtain ⟨w1, hw1⟩ : ∃ w1, w1 = w.alloc (.cells #[.bool n.leaf, .slice Ar n.recs.length cr, .slice Ak n.kids.length ck] 69) := ⟨_, rfl⟩
  have HB1 : Kp (Below w.heap.size w w1) := put (by rw [hw1]; exact balloc (Below.refl _ _) _)
  have HR1 := put (h.recs.below HB1.out)
  have KI : Kp (RdE (.int .i64) ok w1 (.slice Ak n.kids.length ck) (kints n.kids)) := put (by have := h.kids.below HB1.out; rwa [kints_len] at this)
  have hal := containsI 84 #[] #[] (enters_of Try.func84 (by kernel_rfl) rfl) ok Ak ck (kints n.kids) (fun _ W => W = w1) (fun _ => False) w1 (by rw [kints_len]; have := hf.kids; omega) rfl (fun j W hW => by rw [hW, kints_len]; exact KI.out) (fun j x W hx hW => by
    have hm := List.mem_of_getElem? hx
    unfold kints at hm
    obtain ⟨k, hk, rfl⟩ := List.mem_map.1 hm
    have hk2 := hs.kids k hk
    exact (goodCalls (k : Int) W (by omega)).mono (by rintro e w' ⟨rfl, rfl⟩; exact ⟨false, rfl, ⟨hW⟩⟩))
  have HAL : Kp (Calls Try.prog 48 #[.slice Ak n.kids.length ck, .func (.func 84) #[] #[]] w1 fun e w' => e = .returned (.bool false) ∧ w' = w1) := put (by
    rw [kints_len] at hal
    exact hal.mono (by
      rintro e w' ⟨b, rfl, hb⟩
      have := hb.out
      cases b with
      | true => simp at this
      | false => exact ⟨rfl, by simpa using this⟩))
  have HS := put hs
  have hf2 := hf.recs
  have hk2 := hf.kids
  obtain ⟨r, hr⟩ : ∃ r, r = n.recs.length := ⟨_, rfl⟩
  rw [← hr] at hf2 HR1 hw1 r1 ⊢
  obtain ⟨x0, x1, x2⟩ := c3 (w := w1) (X := w.heap.size) (t := 69) (by rw [hw1]; exact heap_alloc_new _ _)
  have HRR := put hr
  have HW1 := put hw1
  have hlf : (n.leaf = true ∧ n.kids.length = 0) ∨ (n.leaf = false ∧ n.kids.length = r + 1) := by
    cases hl : n.leaf with
    | true => exact .inl ⟨rfl, by rw [hs.leaf hl]; rfl⟩
    | false => exact .inr ⟨rfl, by rw [hr]; exact hs.inner hl⟩
  generalize n.kids.length = m at *
  generalize n.leaf = L at *
  clear h hf hs hr hw1 hal k3 r3
  go_enter Try.func70, Try.ntmps70
  rcases hlf with ⟨rfl, rfl⟩ | ⟨rfl, rfl⟩
  all_goals
    go_wp2_with fail
    rw [← HW1.out]
    go_loopg [3, 4, 31] r (fun kx s3 s4 s31 wr => ∃ (i : Nat), s31 = .int .i64 i ∧ i ≤ r ∧ r - i ≤ kx ∧ wr = w1)
    case atStart => exact ⟨0, rfl, Nat.zero_le _, Nat.le_refl _, rfl⟩
    case round =>
      obtain ⟨i, rfl, hi, hkx, rfl⟩ := hrel
      by_cases hlt : i < r
      · have hlz : (i : Int) < (r : Int) := by omega
        have i0 : (0 : Int) ≤ (i : Int) := by omega
        obtain ⟨s, g, o, hx, rfl, hg, e0⟩ := HR1.out.at' (i := i) (by rw [← HRR.out]; exact hlt)
        have hs := HS.out.recs s (List.mem_of_getElem? hx)
        have s1 : ¬ (s.size : Int) < 1 := by omega
        have s2 : ¬ (s.size : Int) > 400 := by omega
        rcases Nat.eq_zero_or_pos i with hz | hz
        · have hz2 : ¬ (i : Int) > 0 := by omega
          have HX := put hx
          clear hx hs hz
          go_wp2_with fail
          go_roundg (r - (i + 1))
          case measure => omega
          case rel => exact ⟨i + 1, rfl, by omega, Nat.le_refl _, rfl⟩
        · have hz2 : (i : Int) > 0 := by omega
          obtain ⟨j, hj⟩ : ∃ j, i = j + 1 := ⟨i - 1, by omega⟩
          obtain ⟨p, g2, o2, hp, hA, hg2, e1⟩ := HR1.out.at' (i := j) (by rw [← HRR.out]; omega)
          injection hA with hA
          injection hA with hA1 hA2 _
          subst hA1 hA2
          have hr := risePrev HS.out.rise (by rw [← hj]; exact hx) hp
          obtain ⟨q1, q2⟩ := ltB_not hr
          have hj2 : (i : Int) - 1 = (j : Int) := by omega
          have j0 : (0 : Int) ≤ (j : Int) := by omega
          have j1 : (j : Int) < (r : Int) := by omega
          clear hx hs hz hp hr hj hg2
          go_wp2_with fail
          go_roundg (r - (i + 1))
          case measure => omega
          case rel => exact ⟨i + 1, rfl, by omega, Nat.le_refl _, rfl⟩
      · have hlz : ¬ (i : Int) < (r : Int) := by omega
        go_wp2_with fail
        refine HAL.out.mono ?_
        rintro e w5 ⟨rfl, rfl⟩
        go_wp2_with fail
        go_ret
        exact ⟨rfl, HB1.out⟩

set_option maxHeartbeats 4000000 in
set_option maxRecDepth 100000 in
theorem rightCalls (ok : Nat → Prop) (vr vk : Value) (n : Nd) (w : World) (h : NdV ok w vr vk n) (hf : n.Fair) (hs : n.Shp) :
    Calls Try.prog 53 #[.agg #[.bool n.leaf, vr, vk]] w fun e w' => e = .returned (.bool (decide (n.size ≤ 1024))) ∧ Below w.heap.size w w' := by
  have C1 : Kp (∀ W, Below w.heap.size w W → Calls Try.prog 70 #[.agg #[.bool n.leaf, vr, vk]] W fun e w' => e = .returned (.bool true) ∧ Below W.heap.size W w') := put fun W hb => shapedCalls ok vr vk n W (h.below hb) hf hs
  have C2 : Kp (∀ W, Below w.heap.size w W → Calls Try.prog 56 #[.agg #[.bool n.leaf, vr, vk]] W fun e w' => e = .returned (.int .i64 n.size) ∧ Below W.heap.size W w') := put fun W hb => sizeCalls ok vr vk n W (h.below hb) hf
  obtain ⟨w1, hw1⟩ : ∃ w1, w1 = w.alloc (.cells #[.bool n.leaf, vr, vk] 69) := ⟨_, rfl⟩
  have HB1 : Kp (Below w.heap.size w w1) := put (by rw [hw1]; exact balloc (Below.refl _ _) _)
  obtain ⟨x0, x1, x2⟩ := c3 (w := w1) (X := w.heap.size) (t := 69) (by rw [hw1]; exact heap_alloc_new _ _)
  have hw2 : w.heap.size < w1.heap.size := by rw [hw1, alloc_size]; omega
  have HW1 := put hw1
  clear hw1 h hf hs
  obtain ⟨m, hm⟩ : ∃ m, m = n.size := ⟨_, rfl⟩
  rw [← hm] at C2 ⊢
  generalize n.leaf = L at *
  clear hm
  go_enter Try.func53, Try.ntmps53
  go_wp2_with fail
  rw [← HW1.out]
  refine (C1.out w1 HB1.out).mono ?_
  rintro e w2 ⟨rfl, hb2⟩
  have HB2 := put (bt HB1.out hb2)
  have z0 := cell_at x0 hb2
  have z1 := cell_at x1 hb2
  have z2 := cell_at x2 hb2
  clear hb2 x0 x1 x2 hw2
  go_wp2_with fail
  refine (C2.out w2 HB2.out).mono ?_
  rintro e w3 ⟨rfl, hb3⟩
  have HB3 := put (bt HB2.out hb3)
  clear hb3 z0 z1 z2
  go_wp2_with fail
  go_ret
  refine ⟨?_, HB3.out⟩
  rw [show decide (m ≤ 1024) = decide ((m : Int) ≤ 1024) from by apply decide_eq_decide.2; omega]
  rfl
end Go.Proofs.Ytcpahknlabnnbaa.T

namespace Go.Proofs.Ytcpahknlabnnbaa.T
open Go Go.RowKit Go.Sort Go.Proofs.Ytcpahknlabnnbaa.Mem

theorem bits_or_i64 (a b : Nat) (ha : a < 9223372036854775808) (hb : b < 9223372036854775808) : bits .or .i64 (a : Int) (b : Int) = ((a ||| b : Nat) : Int) := by
  have hx : a ||| b < 2 ^ 63 := Nat.or_lt_two_pow (by omega) (by omega)
  have h1 : (BitVec.ofInt 64 (a : Int)).toNat = a := by
    rw [BitVec.ofInt_natCast, BitVec.toNat_ofNat]; exact Nat.mod_eq_of_lt (by omega)
  have h2 : (BitVec.ofInt 64 (b : Int)).toNat = b := by
    rw [BitVec.ofInt_natCast, BitVec.toNat_ofNat]; exact Nat.mod_eq_of_lt (by omega)
  show IntKind.i64.wrap ((BitVec.ofInt 64 (a : Int) ||| BitVec.ofInt 64 (b : Int)).toNat : Int) = _
  rw [BitVec.toNat_or, h1, h2, IntKind.wrap_i64]
  omega
theorem bits_hi (a b i m : Nat) (hm : m = 2 ^ i) (hb : b < m) (ha : a * m < 9223372036854775808) (h2 : m ≤ 9223372036854775808) : bits .or .i64 ((a : Int) * (m : Int)) (b : Int) = ((a * m + b : Nat) : Int) := by
  rw [show (a : Int) * (m : Int) = ((a * m : Nat) : Int) by simp, bits_or_i64 _ _ ha (by omega)]
  subst hm
  rw [← Nat.shiftLeft_eq, Nat.shiftLeft_add_eq_or_of_lt hb]
theorem RdE.atk {α : Type} {enc : α → Value} {ok : Nat → Prop} {w : World} {xs : List α} {A : Option Addr} {n c : Nat} (h : RdE enc ok w (.slice A n c) xs) (hn : 0 < xs.length) : ∃ g o, A = some ⟨g, o, none⟩ ∧ ok g ∧ g < w.heap.size ∧ ∀ (i : Nat) (x : α), xs[i]? = some x → w.cell? ⟨g, o + i, none⟩ = some (enc x) := by
  obtain ⟨A', c', h1, _, _, h4⟩ := h.shape
  injection h1 with h1 h2 h3
  subst h1
  rcases h4 with ⟨_, _, rfl⟩ | h4
  · exact absurd hn (by simp)
  · exact h4
theorem get2_lt (bs : List UInt8) (i : Nat) : get2 bs i < 65536 := by
  unfold get2
  have h1 := (bs.getD i 0).toNat_lt
  have h2 := (bs.getD (i + 1) 0).toNat_lt
  omega
/-- Who reads a page, and where he is. -/
def InR (I : Nat) (w : World) (A : Option Addr) (c at' : Nat) : Prop := w.heap[I]? = some (.cells #[.slice A 1024 c, .int .i64 (at' : Int)] 127 (0, 0))

set_option maxHeartbeats 4000000 in
set_option maxRecDepth 100000 in
theorem twoIn (ok : Nat → Prop) (I c at' : Nat) (A : Option Addr) (bs : List UInt8) (w : World) (hi : InR I w A c at') (hr : RdE u8 ok w (.slice A 1024 c) bs) (hok : ¬ ok I) (ha : at' + 2 ≤ 1024) (hl : bs.length = 1024) :
    Calls Try.prog 88 #[.pointer (some ⟨I, 0, none⟩)] w fun e w' => e = .returned (.int .i64 (get2 bs at')) ∧ InR I w' A c (at' + 2) ∧ Kps (fun k => k = I) w w' := by
  obtain ⟨x0, x1⟩ := c2 hi
  have x2 : w.frozen? ⟨I, 1, none⟩ = false := by simp only [World.frozen?]; unfold InR at hi; rw [hi]; rfl
  obtain ⟨g, o, rfl, hg1, hg, hy⟩ := hr.atk (by omega)
  have hne : g ≠ I := fun e => hok (e ▸ hg1)
  obtain ⟨b0, hb0⟩ : ∃ b, bs[at']? = some b := ⟨_, List.getElem?_eq_getElem (by omega)⟩
  obtain ⟨b1, hb1⟩ : ∃ b, bs[at' + 1]? = some b := ⟨_, List.getElem?_eq_getElem (by omega)⟩
  have y0 := hy _ _ hb0
  have y1 := hy _ _ hb1
  unfold u8 at y0 y1
  have HG : Kp (get2 bs at' = b0.toNat * 256 + b1.toNat) := put (by unfold get2; rw [List.getD_eq_getElem?_getD, List.getD_eq_getElem?_getD, hb0, hb1]; rfl)
  have l0 := b0.toNat_lt
  have l1 := b1.toNat_lt
  have e1 : ¬ (1024 - (at' : Int) < 2) := by omega
  have HI := put hi
  clear hb0 hb1 hi hr hy hg1
  go_enter Try.func88, Try.ntmps88
  go_wp2_with fail
  go_quiet (fail)
  go_wp2_with fail
  obtain ⟨w2, hw2⟩ : ∃ w2, w2 = (w.drewN nq).setCell ⟨I, 1, none⟩ (.int .i64 ((at' : Int) + 2)) := ⟨_, rfl⟩
  rw [← hw2]
  have x0' : (w.drewN nq).cell? ⟨I, 0, none⟩ = some (.slice (some ⟨g, o, none⟩) 1024 c) := x0
  have x1' : (w.drewN nq).cell? ⟨I, 1, none⟩ = some (.int .i64 (at' : Int)) := x1
  have y0' : (w.drewN nq).cell? ⟨g, o + at', none⟩ = some (.int .u8 (b0.toNat : Int)) := y0
  have y1' : (w.drewN nq).cell? ⟨g, o + (at' + 1), none⟩ = some (.int .u8 (b1.toNat : Int)) := y1
  have z0 : ∀ q, (w2.drewN q).cell? ⟨I, 0, none⟩ = some (.slice (some ⟨g, o, none⟩) 1024 c) := fun _ => by show w2.cell? _ = _; rw [hw2]; exact (World.cell?_setCell_other _ _ _ _ (by simp)).trans x0'
  have z1 : ∀ q, (w2.drewN q).cell? ⟨I, 1, none⟩ = some (.int .i64 ((at' : Int) + 2)) := fun _ => by show w2.cell? _ = _; rw [hw2]; exact World.cell?_setCell_same _ _ _ x1'
  have z2 : ∀ q, (w2.drewN q).cell? ⟨g, o + at', none⟩ = some (.int .u8 (b0.toNat : Int)) := fun _ => by show w2.cell? _ = _; rw [hw2]; exact (World.cell?_setCell_other _ _ _ _ (by simp)).trans y0'
  have z3 : ∀ q, (w2.drewN q).cell? ⟨g, o + (at' + 1), none⟩ = some (.int .u8 (b1.toNat : Int)) := fun _ => by show w2.cell? _ = _; rw [hw2]; exact (World.cell?_setCell_other _ _ _ _ (by simp)).trans y1'
  have e2 : (at' : Int) + 2 - 1 = (at' : Int) + 1 := by omega
  have e3 : (at' : Int) < 1024 := by omega
  have e4 : 0 ≤ (at' : Int) := by omega
  have e5 : 0 ≤ (at' : Int) + 1 := by omega
  have e6 : (at' : Int) + 1 < 1024 := by omega
  have e7 : ((at' : Int) + 1).toNat = at' + 1 := by omega
  have HW2 := put hw2
  clear hw2 x0 x1 y0 y1 x0' x1' y0' y1' x2
  go_quiet (fail)
  go_wp2_with fail
  go_ret
  refine ⟨?_, ?_, ?_⟩
  · rw [HG.out]
    have := bits_hi b0.toNat b1.toNat 8 256 rfl (by omega) (by omega) (by omega)
    rw [show ((256 : Nat) : Int) = 256 from rfl] at this
    show Ending.returned (.int .i64 (bits .or .i64 ((b0.toNat : Int) * 256) (b1.toNat : Int))) = _
    rw [this]
  · unfold InR
    rw [HW2.out]
    exact (setCell_heap (w := w.drewN _) HI.out 1 (.int .i64 ((at' : Int) + 2))).trans rfl
  · rw [HW2.out]
    exact (((Kps.refl (fun k => k = I) w).drewN _).set (Or.inl rfl) _ _).drewN _

set_option maxHeartbeats 4000000 in
set_option maxRecDepth 100000 in
theorem fourIn (ok : Nat → Prop) (I c at' : Nat) (A : Option Addr) (bs : List UInt8) (w : World) (hi : InR I w A c at') (hr : RdE u8 ok w (.slice A 1024 c) bs) (hok : ¬ ok I) (ha : at' + 4 ≤ 1024) (hl : bs.length = 1024) :
    Calls Try.prog 89 #[.pointer (some ⟨I, 0, none⟩)] w fun e w' => e = .returned (.int .i64 (get2 bs at' * 65536 + get2 bs (at' + 2) : Nat)) ∧ InR I w' A c (at' + 4) ∧ Kps (fun k => k = I) w w' := by
  have C1 := put (twoIn ok I c at' A bs w hi hr hok (by omega) hl)
  have C2 : Kp (∀ W, InR I W A c (at' + 2) → Kps (fun k => k = I) w W → _) := put fun W hW kW => twoIn ok I c (at' + 2) A bs W hW (hr.kps kW (fun k hk _ e => hok (e ▸ hk))) hok (by omega) hl
  have hg1 := get2_lt bs at'
  have hg2 := get2_lt bs (at' + 2)
  generalize get2 bs at' = x at *
  generalize get2 bs (at' + 2) = y at *
  clear hi hr
  go_enter Try.func89, Try.ntmps89
  go_wp2_with fail
  refine C1.out.mono ?_
  rintro e w2 ⟨rfl, h2, k2⟩
  have H2 := put h2
  have K2 := put k2
  clear h2 k2
  go_wp2_with fail
  refine (C2.out w2 H2.out K2.out).mono ?_
  rintro e w3 ⟨rfl, h3, k3⟩
  have H3 := put h3
  have K3 := put k3
  clear h3 k3
  go_wp2_with fail
  go_ret
  refine ⟨?_, H3.out, K2.out.trans K3.out⟩
  have := bits_hi x y 16 65536 rfl (by omega) (by omega) (by omega)
  rw [show ((65536 : Nat) : Int) = 65536 from rfl] at this
  show Ending.returned (.int .i64 (bits .or .i64 ((x : Int) * 65536) (y : Int))) = _
  rw [this]
end Go.Proofs.Ytcpahknlabnnbaa.T

namespace Go.Proofs.Ytcpahknlabnnbaa.Mem
open Go Go.RowKit
variable {P : Program} {α : Type}

theorem run_push1 (d : Ty α) {W : World} (base : Nat) (ty t e : TypeId) (z : Value) (bytes : Nat)
    (ht : P.underlying t = some (.slice e)) (hinfo : (P.info? e).map (fun i => (i.zero, i.size, i.bytes)) = some (some z, d.sz, bytes)) (hz : z.cells.size = d.sz) (hs0 : 0 < d.sz) (hb0 : 0 < bytes)
    (v : Value) (b : Nat) (xs : List α) (p : α) (cs : List Value) (ok : Nat → Prop)
    (hb : W.heap[b]? = some (.cells cs.toArray e (0, 0))) (hp : d.R (fun k => ok k ∧ some k ≠ v.ownBlock) W p cs) (HO : Own d e ok W base v xs) (hbase : base ≤ W.heap.size) (hl : (xs.length + 1) * bytes ≤ 140737488355328) :
    ∃ v1 w1, (Builtin.append_ #[t, t] ty #[v, .slice (some ⟨b, 0, none⟩) 1 1]).run P W = .ok v1 w1 ∧ Own d e ok w1 base v1 (xs ++ [p]) ∧ W.grownBy w1 v.ownBlock ∧ (v1.ownBlock = v.ownBlock ∨ ∃ b, v1.ownBlock = some b ∧ W.heap.size ≤ b) := by
  obtain ⟨i0, hi, hzz⟩ := Option.map_eq_some_iff.1 hinfo
  simp only [Prod.mk.injEq] at hzz
  obtain ⟨hz0, hz1, hz2⟩ := hzz
  have hlen : xs.length + 1 ≤ 140737488355328 := Nat.le_trans (Nat.le_mul_of_pos_right _ hb0) hl
  obtain ⟨cells, hlc, hown, hr⟩ := HO
  obtain ⟨v1, w1, hrun, hown1, hg, _, hat⟩ := run_append_own_at (P := P) W base t ty e i0 z d.sz bytes ht hi hz0 hz1 hz2 hz hs0 v xs.length cells.flatten hown ⟨b, 0, none⟩ 1 1 cs (by rw [d.len hp, Nat.one_mul])
    (fun j u hu => Go.World.news_of_block hb j u (by simpa using hu)) (d.one hp) (by simp only [maxLen]; omega) hl hbase
  have hat' : v1.ownBlock = v.ownBlock ∨ ∃ b, v1.ownBlock = some b ∧ W.heap.size ≤ b := by
    rcases hat with hat | hat
    · exact .inl hat
    · exact .inr ⟨_, hat, Nat.le_refl _⟩
  refine ⟨v1, w1, hrun, Own.appended (ys := [p]) (news := [cs]) hlc hr rfl (fun i y c hy hc => ?_) (by simpa using hown1) hg hat', hg, hat'⟩
  rcases i with _ | i
  · simp only [List.getElem?_cons_zero, Option.some.injEq] at hy hc
    subst hy; subst hc; exact hp
  · simp at hy

section
variable {ops : Array Oper} {o : Oper} {a : Act} {K : Act → World → Prop} {Q : Exit → Act → World → Prop} {E : Prop} {W : World}
/-- append(v, x) in a drawn region; the literal lies in block b. -/
theorem step_push1 (d : Ty α) (base : Nat) (hgd : o.guard = none) (s x : Operand) (t e : TypeId) (z : Value) (bytes : Nat)
    (ho : o.op = .call { callee := .builtin .append, args := #[s, x], argTypes := #[t, t] })
    (ht : P.underlying t = some (.slice e)) (hinfo : (P.info? e).map (fun i => (i.zero, i.size, i.bytes)) = some (some z, d.sz, bytes)) (hz : z.cells.size = d.sz) (hs0 : 0 < d.sz) (hb0 : 0 < bytes)
    (v : Value) (b : Nat) (xs : List α) (p : α) (cs : List Value) (ok : Nat → Prop) (hs : a.eval s = v) (hx : a.eval x = .slice (some ⟨b, 0, none⟩) 1 1)
    (hb : W.heap[b]? = some (.cells cs.toArray e (0, 0))) (hp : d.R (fun k => ok k ∧ some k ≠ v.ownBlock) W p cs) (HO : Own d e ok W base v xs) (hbase : base ≤ W.heap.size) (hl : (xs.length + 1) * bytes ≤ 140737488355328)
    (h : ∀ v1 w1, Own d e ok w1 base v1 (xs ++ [p]) → W.grownBy w1 v.ownBlock → (v1.ownBlock = v.ownBlock ∨ ∃ b, v1.ownBlock = some b ∧ W.heap.size ≤ b) → K (a.put o.dst v1) w1) :
    if Region.wanted o (yielded ops a.tmps) = true then Oper.wp P o a W K Q else E := by
  obtain ⟨v1, w1, hr, h1, h2, h3⟩ := run_push1 (P := P) d base o.type t e z bytes ht hinfo hz hs0 hb0 v b xs p cs ok hb hp HO hbase hl
  exact step_append hgd s x t ho v _ hs hx hr (h v1 w1 h1 h2 h3)
end
end Go.Proofs.Ytcpahknlabnnbaa.Mem

namespace Go.Proofs.Ytcpahknlabnnbaa.T
open Go Go.RowKit Go.Sort Go.Proofs.Ytcpahknlabnnbaa.Mem

abbrev no : Nat → Prop := fun _ => False
/-- read under way: who reads (I), the node (N) with its rows. -/
structure RSt (base I N : Nat) (w W : World) (A : Option Addr) (c at' : Nat) (leaf : Bool) (vr vk : Value) (rs : List ByteArray) (ks : List Int) : Prop where
  n : W.heap[N]? = some (.cells #[.bool leaf, vr, vk] 69 (0, 0))
  i : InR I W A c at'
  r : Own tStr 9 no W base vr rs
  k : Own (tInt .i64) 3 no W base vk ks
  nb : base ≤ N
  ib : base ≤ I
  b : Below base w W
  bw : base ≤ w.heap.size
section
variable {base I N : Nat} {w W W' : World} {A : Option Addr} {c at' : Nat} {leaf : Bool} {vr vk : Value} {rs : List ByteArray} {ks : List Int}
theorem RSt.ni (h : RSt base I N w W A c at' leaf vr vk rs ks) : N ≠ I := by
  rintro rfl
  have h1 := h.n
  have h2 := h.i
  unfold InR at h2
  rw [h2] at h1
  injection h1 with h1
  injection h1 with h1 h3 h4
  exact absurd h3 (by decide)
theorem RSt.lt (h : RSt base I N w W A c at' leaf vr vk rs ks) : N < W.heap.size ∧ I < W.heap.size := ⟨(Array.getElem?_eq_some_iff.1 h.n).1, (Array.getElem?_eq_some_iff.1 (show W.heap[I]? = _ from h.i)).1⟩
theorem RSt.cells (h : RSt base I N w W A c at' leaf vr vk rs ks) : W.cell? ⟨N, 0, none⟩ = some (.bool leaf) ∧ W.cell? ⟨N, 1, none⟩ = some vr ∧ W.cell? ⟨N, 2, none⟩ = some vk ∧ W.frozen? ⟨N, 1, none⟩ = false ∧ W.frozen? ⟨N, 2, none⟩ = false := by
  obtain ⟨a0, a1, a2⟩ := c3 h.n
  exact ⟨a0, a1, a2, by simp [World.frozen?, h.n], by simp [World.frozen?, h.n]⟩
theorem RSt.below (h : RSt base I N w W A c at' leaf vr vk rs ks) (hb : Below W.heap.size W W') : RSt base I N w W' A c at' leaf vr vk rs ks :=
  ⟨(hb.block N h.lt.1).trans h.n, (hb.block I h.lt.2).trans h.i, h.r.below hb, h.k.below hb, h.nb, h.ib, h.b.trans (hb.mono (Nat.le_trans h.bw h.b.size)), h.bw⟩
theorem RSt.step {at2 : Nat} (h : RSt base I N w W A c at' leaf vr vk rs ks) (hi : InR I W' A c at2) (k : Kps (fun k => k = I) W W') : RSt base I N w W' A c at2 leaf vr vk rs ks := by
  have hb : Below base W W' := k.below (fun k hk => by rw [hk]; exact h.ib) (Nat.le_trans h.bw h.b.size)
  have e1 := h.r.ne_block (show W.heap[I]? = _ from h.i) (by decide)
  have e2 := h.k.ne_block (show W.heap[I]? = _ from h.i) (by decide)
  exact ⟨(k.block N h.lt.1 h.ni).trans h.n, hi, h.r.move (fun k' hk => k.block k' (h.r.lt k' hk).2 (fun e => e1 (by rw [hk, e]))) (fun _ hk => hk.elim), h.k.move (fun k' hk => k.block k' (h.k.lt k' hk).2 (fun e => e2 (by rw [hk, e]))) (fun _ hk => hk.elim), h.nb, h.ib, h.b.trans hb, h.bw⟩
/-- Behind an append to the kids, and its store. -/
theorem RSt.pushK {vk1 : Value} {ks1 : List Int} (h : RSt base I N w W A c at' leaf vr vk rs ks) (hg : W.grownBy W' vk.ownBlock) (ho : Own (tInt .i64) 3 no W' base vk1 ks1) : RSt base I N w (W'.setCell ⟨N, 2, none⟩ vk1) A c at' leaf vr vk1 rs ks1 := by
  have hN : some N ≠ vk.ownBlock := h.k.ne_block h.n (by decide)
  have hI : some I ≠ vk.ownBlock := h.k.ne_block (show W.heap[I]? = _ from h.i) (by decide)
  have hn := (hg.block N h.lt.1 hN).trans h.n
  have hi : W'.heap[I]? = _ := (hg.block I h.lt.2 hI).trans h.i
  have hr : Own tStr 9 no W' base vr rs := h.r.move (fun k hk => hg.block k (h.r.lt k hk).2 (fun e => by
    obtain ⟨cs, hc⟩ := own_heap h.r hk
    exact h.k.ne_block hc (by decide) e)) (fun _ hk => hk.elim)
  have hN1 := ho.ne_block hn (by decide)
  have hN2 := hr.ne_block hn (by decide)
  have hb : Below base W W' := ⟨hg.os, hg.tape, hg.output, hg.size, fun k hk => hg.block k (Nat.lt_of_lt_of_le hk (Nat.le_trans h.bw h.b.size)) (fun e => by have := (h.k.lt k e.symm).1; omega)⟩
  exact ⟨(setCell_heap hn 2 vk1).trans rfl, (Below.heap_setCell _ ⟨N, 2, none⟩ _ I (Ne.symm h.ni)).trans hi, hr.far (fun k hk e => hN2 (by rw [hk, show k = N from e])) (fun _ hk => hk.elim) _, ho.far (fun k hk e => hN1 (by rw [hk, show k = N from e])) (fun _ hk => hk.elim) _, h.nb, h.ib, (h.b.trans hb).setCell h.nb _, h.bw⟩
theorem RSt.pushR {vr1 : Value} {rs1 : List ByteArray} (h : RSt base I N w W A c at' leaf vr vk rs ks) (hg : W.grownBy W' vr.ownBlock) (ho : Own tStr 9 no W' base vr1 rs1) : RSt base I N w (W'.setCell ⟨N, 1, none⟩ vr1) A c at' leaf vr1 vk rs1 ks := by
  have hN : some N ≠ vr.ownBlock := h.r.ne_block h.n (by decide)
  have hI : some I ≠ vr.ownBlock := h.r.ne_block (show W.heap[I]? = _ from h.i) (by decide)
  have hn := (hg.block N h.lt.1 hN).trans h.n
  have hi : W'.heap[I]? = _ := (hg.block I h.lt.2 hI).trans h.i
  have hk : Own (tInt .i64) 3 no W' base vk ks := h.k.move (fun k hk => hg.block k (h.k.lt k hk).2 (fun e => by
    obtain ⟨cs, hc⟩ := own_heap h.k hk
    exact h.r.ne_block hc (by decide) e)) (fun _ hk => hk.elim)
  have hN1 := ho.ne_block hn (by decide)
  have hN2 := hk.ne_block hn (by decide)
  have hb : Below base W W' := ⟨hg.os, hg.tape, hg.output, hg.size, fun k hk => hg.block k (Nat.lt_of_lt_of_le hk (Nat.le_trans h.bw h.b.size)) (fun e => by have := (h.r.lt k e.symm).1; omega)⟩
  exact ⟨(setCell_heap hn 1 vr1).trans rfl, (Below.heap_setCell _ ⟨N, 1, none⟩ _ I (Ne.symm h.ni)).trans hi, ho.far (fun k hk e => hN1 (by rw [hk, show k = N from e])) (fun _ hk => hk.elim) _, hk.far (fun k hk e => hN2 (by rw [hk, show k = N from e])) (fun _ hk => hk.elim) _, h.nb, h.ib, (h.b.trans hb).setCell h.nb _, h.bw⟩
end

/-! ### what stands where -/
theorem enc_head (n : Nd) : ∃ r, enc n = (if n.leaf = true then (1 : UInt8) else 2) :: (be2 n.recs.length ++ (kidsB n.kids ++ r)) ∧ r = slots 1024 n.recs ++ (List.replicate (1024 - n.size) 0 ++ datas n.recs) := ⟨_, by unfold enc Nd.head; simp, rfl⟩
theorem enc_first (n : Nd) : (enc n)[0]? = some (if n.leaf = true then (1 : UInt8) else 2) := by
  obtain ⟨r, h, _⟩ := enc_head n
  rw [h]; rfl
theorem enc_count (n : Nd) (h : n.recs.length < 65536) : get2 (enc n) 1 = n.recs.length := by
  obtain ⟨r, e, _⟩ := enc_head n
  exact (get2_be (r := kidsB n.kids ++ r) (by rw [e]; rfl) h).1
theorem enc_drop3 (n : Nd) : (enc n).drop 3 = kidsB n.kids ++ (slots 1024 n.recs ++ (List.replicate (1024 - n.size) 0 ++ datas n.recs)) := by
  obtain ⟨r, e, h⟩ := enc_head n
  rw [e, h]; rfl
theorem kidsB_drop {l : List Nat} {i k : Nat} (h : l[i]? = some k) : (kidsB l).drop (4 * i) = be4 k ++ kidsB (l.drop (i + 1)) := by
  obtain ⟨hi, rfl⟩ := List.getElem?_eq_some_iff.1 h
  have e : kidsB l = kidsB (l.take i) ++ (be4 l[i] ++ kidsB (l.drop (i + 1))) := by
    conv => lhs; rw [← List.take_append_drop i l, List.drop_eq_getElem_cons hi]
    unfold kidsB
    rw [List.flatMap_append, List.flatMap_cons]
  have hl : (kidsB (l.take i)).length = 4 * i := by rw [kidsB_len, List.length_take]; omega
  rw [e, ← hl, List.drop_left]
theorem enc_kid (n : Nd) {i k : Nat} (h : n.kids[i]? = some k) (hk : k < 4294967296) : get2 (enc n) (3 + 4 * i) * 65536 + get2 (enc n) (3 + 4 * i + 2) = k ∧ 3 + 4 * i + 4 ≤ (enc n).length := by
  have e : (enc n).drop (3 + 4 * i) = be4 k ++ (kidsB (n.kids.drop (i + 1)) ++ (slots 1024 n.recs ++ (List.replicate (1024 - n.size) 0 ++ datas n.recs))) := by
    rw [← List.drop_drop, enc_drop3, List.drop_append_of_le_length (by rw [kidsB_len]; have := (List.getElem?_eq_some_iff.1 h).1; omega), kidsB_drop h, List.append_assoc]
  obtain ⟨h1, h2, _, h4⟩ := get4_be e hk
  rw [h1, h2]
  exact ⟨by omega, h4⟩
theorem slots_split : ∀ (i : Nat) (l : List ByteArray), i ≤ l.length → ∃ p, slots 1024 l = p ++ slots (endAt l i) (l.drop i) ∧ p.length = 4 * i
  | 0, l, _ => ⟨[], by simp [endAt, dl], rfl⟩
  | i + 1, l, h => by
    obtain ⟨p, h1, h2⟩ := slots_split i l (by omega)
    have hi : l[i]? = some l[i] := List.getElem?_eq_getElem (by omega)
    refine ⟨p ++ (be2 (endAt l (i + 1)) ++ be2 (l[i]).size), ?_, ?_⟩
    · rw [h1, slots_drop hi]; simp
    · rw [List.length_append, List.length_append, be2_len, be2_len, h2]; omega
theorem enc_rec (n : Nd) (hz : n.size ≤ 1024) {i : Nat} {s : ByteArray} (h : n.recs[i]? = some s) : get2 (enc n) (3 + 4 * n.kids.length + 4 * i) = endAt n.recs (i + 1) ∧ get2 (enc n) (3 + 4 * n.kids.length + 4 * i + 2) = s.size ∧ 3 + 4 * n.kids.length + 4 * i + 4 ≤ (enc n).length ∧ endAt n.recs (i + 1) + s.size ≤ 1024 ∧ ((enc n).drop (endAt n.recs (i + 1))).take s.size = s.data.toList := by
  have hi := (List.getElem?_eq_some_iff.1 h).1
  obtain ⟨p, h1, h2⟩ := slots_split i n.recs (by omega)
  have e : (enc n).drop (3 + 4 * n.kids.length + 4 * i) = be2 (endAt n.recs (i + 1)) ++ (be2 s.size ++ (slots (endAt n.recs (i + 1)) (n.recs.drop (i + 1)) ++ (List.replicate (1024 - n.size) 0 ++ datas n.recs))) := by
    rw [← List.drop_drop, ← List.drop_drop, enc_drop3, ← kidsB_len, List.drop_left, h1, List.append_assoc, ← h2, List.drop_left, slots_drop h]; simp
  have hl := enc_len n hz
  obtain ⟨pre, hp⟩ : ∃ pre, enc n = pre ++ datas n.recs := ⟨n.head ++ (kidsB n.kids ++ (slots 1024 n.recs ++ List.replicate (1024 - n.size) 0)), by unfold enc; simp⟩
  have hd := datas_at (pre := pre) h (by rw [← datas_len, ← List.length_append, ← hp, hl])
  rw [← hp] at hd
  obtain ⟨a1, a2, a3⟩ := get2_be e (by unfold endAt; omega)
  obtain ⟨b1, b2, b3⟩ := get2_be a2 (by omega)
  exact ⟨a1, b1, by omega, hd.2, hd.1⟩
end Go.Proofs.Ytcpahknlabnnbaa.T

namespace Go.Proofs.Ytcpahknlabnnbaa.T
open Go Go.RowKit Go.Sort Go.Proofs.Ytcpahknlabnnbaa.Mem

theorem u8_of (b : UInt8) : u8 b = .int .u8 (b.toNat : Int) := rfl

theorem heap_alloc_get (w : World) (o : Obj) (k : Nat) : (w.alloc o).heap[k]? = if k = w.heap.size then some o else w.heap[k]? := hag w o k
theorem heap_drew_get (w : World) (k : Nat) : w.drew.heap[k]? = w.heap[k]? := rfl
theorem bsize {w w' : World} (h : Below w.heap.size w w') : w.heap.size ≤ w'.heap.size := h.size
theorem grown_of_below {w w' : World} {row : Option Nat} (h : Below w.heap.size w w') : w.grownBy w' row := ⟨h.os, h.tape, h.output, h.size, fun k hk _ => h.block k hk⟩
theorem RSt.frozen7 {base I N : Nat} {w W w7 : World} {A : Option Addr} {c at' : Nat} {leaf : Bool} {vr vk : Value} {rs : List ByteArray} {ks : List Int} (h : RSt base I N w W A c at' leaf vr vk rs ks) (hg : W.grownBy w7 vk.ownBlock) : w7.frozen? ⟨N, 2, none⟩ = false := by
  have hn := (hg.block N h.lt.1 (h.k.ne_block h.n (by decide))).trans h.n
  simp [World.frozen?, hn]
theorem RSt.frozenR {base I N : Nat} {w W w7 : World} {A : Option Addr} {c at' : Nat} {leaf : Bool} {vr vk : Value} {rs : List ByteArray} {ks : List Int} (h : RSt base I N w W A c at' leaf vr vk rs ks) (hg : W.grownBy w7 vr.ownBlock) : w7.frozen? ⟨N, 1, none⟩ = false := by
  have hn := (hg.block N h.lt.1 (h.r.ne_block h.n (by decide))).trans h.n
  simp [World.frozen?, hn]
set_option maxRecDepth 100000 in
theorem recBytes {ok : Nat → Prop} {w : World} {g o c en : Nat} {bs : List UInt8} {s : ByteArray} (h : RdE u8 ok w (.slice (some ⟨g, o, none⟩) 1024 c) bs) (he : (bs.drop en).take s.size = s.data.toList) (h0 : bs.length = 1024) :
    (convert 96 9 (.slice (some ⟨g, o + en, none⟩) s.size (c - en))).run Try.prog w = .ok (.string s) w := by
  · obtain ⟨g', o', h1, _, _, hy⟩ := h.atk (by omega)
    injection h1 with h1
    injection h1 with h1 h2 _
    subst h1 h2
    have hlen : s.data.toList.length = s.size := size_toList s
    have := run_convert_bytes_back (P := Try.prog) w 96 9 5 ⟨g, o + en, none⟩ (c - en) s.data.toList Try.underlying96 Try.underlying5 Try.underlying9 (fun j hj => by
      have e : (bs.drop en).take s.size = s.data.toList := he
      have hb : bs[en + j]? = some s.data.toList[j] := by
        rw [← List.getElem?_eq_getElem hj, ← e, List.getElem?_take_of_lt (by omega), List.getElem?_drop]
      have := hy _ _ hb
      rw [← Nat.add_assoc] at this
      show w.cell? ((⟨g, o + en, none⟩ : Addr).add j) = _
      rw [show ((⟨g, o + en, none⟩ : Addr).add j) = ⟨g, o + en + j, none⟩ from by simp [Addr.add], this]
      rfl)
    rw [hlen] at this
    simpa using this
theorem infoNd : (Try.prog.info? 69).map (·.size) = some 3 := by kernel_rfl
theorem readStart {w1 w3 : World} {A : Option Addr} {c S : Nat} {leaf : Bool} (h : w3 = (w1.alloc (.cells #[.slice A 1024 c, .int .i64 1] 127)).alloc (.cells #[.bool leaf, .slice none 0 0, .slice none 0 0] 69)) (hS : w1.heap.size = S + 1) :
    RSt (S + 1) (S + 1) (S + 1 + 1) w1 w3 A c 1 leaf (.slice none 0 0) (.slice none 0 0) [] [] := by
  have e2 : (w1.alloc (.cells #[.slice A 1024 c, .int .i64 1] 127)).heap.size = S + 1 + 1 := by rw [alloc_size, hS]
  refine ⟨?_, ?_, Own.nil _ _ _ _ _, Own.nil _ _ _ _ _, by omega, by omega, ?_, by omega⟩
  · rw [h, hag, if_pos e2.symm]
  · unfold InR
    rw [h, hag, if_neg (by rw [e2]; omega), hag, if_pos hS.symm]
    rfl
  · rw [h, ← hS]; exact balloc (balloc (Below.refl _ _) _) _
theorem readB {w w1 W : World} {S : Nat} (h : Below w.heap.size w w1) (hb : Below (S + 1) w1 W) (hS : w1.heap.size = S + 1) : Below w.heap.size w W := bt h (by rw [hS]; exact hb)

set_option maxHeartbeats 4000000 in
set_option maxRecDepth 100000 in
theorem readCalls (ok : Nat → Prop) (A : Option Addr) (c : Nat) (n : Nd) (w : World) (h : RdE u8 ok w (.slice A 1024 c) (enc n)) (hs : n.Shp) (hz : n.size ≤ 1024) :
    Calls Try.prog 77 #[.slice A 1024 c] w fun e w' => ∃ vr vk, e = .returned (.agg #[.bool n.leaf, vr, vk]) ∧ Own tStr 9 no w' w.heap.size vr n.recs ∧ Own (tInt .i64) 3 no w' w.heap.size vk (kints n.kids) ∧ Below w.heap.size w w' := by
  have hl := enc_len n hz
  have hrl : n.recs.length ≤ 1024 ∧ n.kids.length ≤ 1024 := by
    have := wt_dl n.recs
    unfold Nd.size at hz; omega
  have HC : Kp (1024 ≤ c) := put (by obtain ⟨A', c', h1, h2, _⟩ := h.shape; injection h1 with h1 h3 h4; omega)
  obtain ⟨g, o, rfl, hg1, hg, hy⟩ := h.atk (by omega)
  have HR : Kp (RdE u8 (fun k => k < w.heap.size) w (.slice (some ⟨g, o, none⟩) 1024 c) (enc n)) := put (h.bnd.mono fun k hk => hk.2)
  have y0 := hy 0 _ (enc_first n)
  have HY := put hy
  have HS := put hs
  have HZ := put hz
  have HL := put hl
  obtain ⟨m, hm⟩ : ∃ m, m = n.recs.length := ⟨_, rfl⟩
  obtain ⟨q, hq⟩ : ∃ q, q = n.kids.length := ⟨_, rfl⟩
  have HM := put hm
  have HQ := put hq
  rw [← hm, ← hq] at hrl
  have C0 : Kp (∀ W, InR (w.heap.size + 1) W (some ⟨g, o, none⟩) c 1 → Below w.heap.size w W → Calls Try.prog 88 #[.pointer (some ⟨w.heap.size + 1, 0, none⟩)] W fun e w' => e = .returned (.int .i64 m) ∧ InR (w.heap.size + 1) w' (some ⟨g, o, none⟩) c 3 ∧ Kps (fun k => k = w.heap.size + 1) W w') := put fun W hi hb => by
    have := twoIn (fun k => k < w.heap.size) (w.heap.size + 1) c 1 (some ⟨g, o, none⟩) (enc n) W hi (HR.out.below hb) (by omega) (by omega) hl
    rwa [enc_count n (by omega), ← hm] at this
  clear h hy hs hz hl hg1 hm hq
  generalize hL : n.leaf = L at *
  have HLF := put hL
  clear hL
  go_enter Try.func77, Try.ntmps77
  obtain ⟨b0, hb0⟩ : ∃ b0 : Int, b0 = if L = true then 1 else 2 := ⟨_, rfl⟩
  have y1 : w.cell? ⟨g, o, none⟩ = some (.int .u8 b0) := by rw [hb0]; cases L <;> exact y0
  have hlf : (L = true ∧ b0 = 1 ∧ q = 0) ∨ (L = false ∧ b0 = 2 ∧ q = m + 1) := by
    cases L with
    | true => exact .inl ⟨rfl, hb0, by rw [HQ.out, HS.out.leaf HLF.out]; rfl⟩
    | false => exact .inr ⟨rfl, hb0, by rw [HQ.out, HM.out]; exact HS.out.inner HLF.out⟩
  clear y0 hb0
  obtain ⟨w1, hw1⟩ : ∃ w1, w1 = w.alloc (.cells #[.bool false, .slice none 0 0, .slice none 0 0] 69) := ⟨_, rfl⟩
  have S1 : Kp (w1.heap.size = w.heap.size + 1) := put (by rw [hw1, alloc_size])
  have B1 : Kp (Below w.heap.size w w1) := put (by rw [hw1]; exact balloc (Below.refl _ _) _)
  have R1 : Kp (w1.heap[w.heap.size]? = some (.cells #[.bool false, .slice none 0 0, .slice none 0 0] 69 (0, 0))) := put (by rw [hw1]; exact heap_alloc_new _ _)
  rcases hlf with ⟨rfl, rfl, rfl⟩ | ⟨rfl, rfl, rfl⟩
  · go_wp2_with fail
    rw [← hw1]
    obtain ⟨w3, hw3⟩ : ∃ w3, w3 = (w1.alloc (.cells #[.slice (some ⟨g, o, none⟩) 1024 c, .int .i64 1] 127)).alloc (.cells #[.bool true, .slice none 0 0, .slice none 0 0] 69) := ⟨_, rfl⟩
    rw [← hw3]
    have ST3 := put (readStart hw3 S1.out)
    have B3 := put (readB B1.out ST3.out.b S1.out)
    clear hw1 hw3
    refine (C0.out w3 ST3.out.i B3.out).mono ?_
    rintro e w4 ⟨rfl, hi4, k4⟩
    have ST4 := put (ST3.out.step hi4 k4)
    have B4 := put (readB B1.out ST4.out.b S1.out)
    have y4 := cell_at y1 B4.out
    clear hi4 k4
    go_wp2_with fail
    have hk0 : kints n.kids = [] := by rw [HS.out.leaf HLF.out]; rfl
    have ST5 : Kp (RSt (w.heap.size + 1) (w.heap.size + 1) (w.heap.size + 1 + 1) w1 w4 (some ⟨g, o, none⟩) c (3 + 4 * 0) true (.slice none 0 0) (.slice none 0 0) [] (kints n.kids)) := put (by rw [hk0]; exact ST4.out)
    clear hk0 y4
    clear y1
    go_loopg [6, 7, 35] m (fun kx s6 s7 s35 wr => ∃ (i : Nat) (vr : Value), s35 = .int .i64 i ∧ i ≤ m ∧ m - i ≤ kx ∧ Kp (RSt (w.heap.size + 1) (w.heap.size + 1) (w.heap.size + 1 + 1) w1 wr (some ⟨g, o, none⟩) c ((3 + 4 * 0) + 4 * i) true vr (.slice none 0 0) (n.recs.take i) (kints n.kids)))
    case atStart => exact ⟨0, _, rfl, Nat.zero_le _, Nat.le_refl _, ST5⟩
    case round =>
      obtain ⟨i, vr, rfl, hi, hkx, ST⟩ := hrel
      by_cases hlt : i < m
      · have hlz : (i : Int) < (m : Int) := by omega
        obtain ⟨s, hk⟩ : ∃ s, n.recs[i]? = some s := ⟨_, List.getElem?_eq_getElem (by rw [← HM.out]; exact hlt)⟩
        have hs1 := HS.out.recs s (List.mem_of_getElem? hk)
        obtain ⟨e1, e2, e3, e4, e5⟩ := enc_rec n HZ.out hk
        rw [← HQ.out] at e1 e2 e3
        rw [HL.out] at e3
        obtain ⟨en, hen⟩ : ∃ en, en = endAt n.recs (i + 1) := ⟨_, rfl⟩
        rw [← hen] at e1 e4 e5
        have C2 : Kp (∀ W, RSt (w.heap.size + 1) (w.heap.size + 1) (w.heap.size + 1 + 1) w1 W (some ⟨g, o, none⟩) c ((3 + 4 * 0) + 4 * i) true vr (.slice none 0 0) (n.recs.take i) (kints n.kids) → Calls Try.prog 88 #[.pointer (some ⟨w.heap.size + 1, 0, none⟩)] W fun e w' => e = .returned (.int .i64 en) ∧ RSt (w.heap.size + 1) (w.heap.size + 1) (w.heap.size + 1 + 1) w1 w' (some ⟨g, o, none⟩) c ((3 + 4 * 0) + 4 * i + 2) true vr (.slice none 0 0) (n.recs.take i) (kints n.kids)) := put fun W st => by
          have := twoIn (fun k => k < w.heap.size) (w.heap.size + 1) c ((3 + 4 * 0) + 4 * i) (some ⟨g, o, none⟩) (enc n) W st.i (HR.out.below (readB B1.out st.b S1.out)) (by omega) (by omega) HL.out
          rw [e1] at this
          exact this.mono (by
            rintro e w' ⟨he, hi', hk'⟩
            exact ⟨he, st.step hi' hk'⟩)
        have C3 : Kp (∀ W, RSt (w.heap.size + 1) (w.heap.size + 1) (w.heap.size + 1 + 1) w1 W (some ⟨g, o, none⟩) c ((3 + 4 * 0) + 4 * i + 2) true vr (.slice none 0 0) (n.recs.take i) (kints n.kids) → Calls Try.prog 88 #[.pointer (some ⟨w.heap.size + 1, 0, none⟩)] W fun e w' => e = .returned (.int .i64 s.size) ∧ RSt (w.heap.size + 1) (w.heap.size + 1) (w.heap.size + 1 + 1) w1 w' (some ⟨g, o, none⟩) c ((3 + 4 * 0) + 4 * (i + 1)) true vr (.slice none 0 0) (n.recs.take i) (kints n.kids)) := put fun W st => by
          have := twoIn (fun k => k < w.heap.size) (w.heap.size + 1) c ((3 + 4 * 0) + 4 * i + 2) (some ⟨g, o, none⟩) (enc n) W st.i (HR.out.below (readB B1.out st.b S1.out)) (by omega) (by omega) HL.out
          rw [e2] at this
          exact this.mono (by
            rintro e w' ⟨he, hi', hk'⟩
            exact ⟨he, st.step (by rw [show (3 + 4 * 0) + 4 * (i + 1) = (3 + 4 * 0) + 4 * i + 2 + 2 by omega]; exact hi') hk'⟩)
        have HKS : Kp (n.recs.take (i + 1) = n.recs.take i ++ [s]) := put (take_one hk)
        have HB : Kp (∀ W, Below w.heap.size w W → (convert 96 9 (.slice (some ⟨g, o + en, none⟩) s.size (c - en))).run Try.prog W = .ok (.string s) W) := put fun W hb => recBytes (HR.out.below hb) e5 HL.out
        obtain ⟨Ar, cr, rfl, hcr, hcr2⟩ := ST.out.r.form
        have hKL : (n.recs.take i).length = i := by rw [List.length_take, ← HM.out]; omega
        rw [hKL] at hcr ST C2 C3
        have HKL := put hKL
        obtain ⟨sz, hsz⟩ : ∃ sz, sz = s.size := ⟨_, rfl⟩
        rw [← hsz] at C3 HB e4 hs1
        clear hk hKL e1 e2 e3 e5 hen hsz
        go_wp2_with fail
        refine (C2.out wr ST.out).mono ?_
        rintro e w5 ⟨rfl, h5⟩
        have ST5' := put h5
        clear h5
        go_wp2_with fail
        refine (C3.out w5 ST5'.out).mono ?_
        rintro e w6 ⟨rfl, h6⟩
        have ST6 := put h6
        clear h6
        have i1 : ¬ (en : Int) > 1024 - (sz : Int) := by omega
        go_wp2_with fail
        obtain ⟨x0, x1, x2, f1, f2⟩ := ST6.out.cells
        have zs := ST6.out.lt.1
        have B6 := put (readB B1.out ST6.out.b S1.out)
        have k1 := HB.out w6 B6.out
        have k2 := HB.out w6.drew B6.out.drew
        have i2 : IntKind.i64.wrap ((en : Int) + (sz : Int)) = (en : Int) + (sz : Int) := IntWalk.i64_in _ (by omega)
        have j1 : 0 ≤ (en : Int) + (sz : Int) := by omega
        have j2 : (en : Int) + (sz : Int) ≤ (c : Int) := by have := HC.out; omega
        have j3 : ((en : Int) + (sz : Int)).toNat = en + sz := by omega
        have j4 : ¬ c = en := by have := HC.out; omega
        refine wp_region_noPanic ?_
        go_region_law (first | (refine step_push1 tStr (w.heap.size + 1) rfl _ _ 33 9 _ 16 rfl Try.underlying33 infoStr rfl (by decide) (by decide) (.slice Ar i cr) _ (n.recs.take i) s _ no rfl rfl (by first | exact heap_alloc_new _ _ | (simp only [heap_alloc_get] <;> simp <;> done)) rfl (ST6.out.r.below (by (repeat (first | with_reducible exact (Below.refl _ _) | with_reducible apply Below.drew | with_reducible refine balloc ?_ _)))) (Nat.le_trans (by have := ST6.out.lt.2; omega) (bsize (w := w6) (by (repeat (first | with_reducible exact (Below.refl _ _) | with_reducible apply Below.drew | with_reducible refine balloc ?_ _))))) (by have := HKL.out; omega) ?_; intro v1 w7 ho hg hat; obtain ⟨V1, c1, e1, q1, q2⟩ := ho.form; rw [List.length_append, HKL.out, List.length_singleton] at e1; subst e1; clear q1 q2; have hg7 : w6.grownBy w7 (Value.slice Ar i cr).ownBlock := World.grownBy.trans (grown_of_below (by (repeat (first | with_reducible exact (Below.refl _ _) | with_reducible apply Below.drew | with_reducible refine balloc ?_ _)))) hg; have z7 : w7.cell? ⟨w.heap.size + 1 + 1, 1, none⟩ = some (.slice Ar i cr) := (World.cell?_of_block (a := ⟨w.heap.size + 1 + 1, 1, none⟩) (hg7.block _ ST6.out.lt.1 (ST6.out.r.ne_block ST6.out.n (by decide)))).trans x1; have z8 : w7.frozen? ⟨w.heap.size + 1 + 1, 1, none⟩ = false := ST6.out.frozenR hg7; have ST7 := put (ST6.out.pushR hg7 ho); clear ho hg hat hg7))
        all_goals
          refine NoPanic.normal ?_
          clear z7 z8 x0 x1 x2 f1 f2 k1 k2 zs j1 j2 j3 j4 i1 i2
          go_wp2_with fail
          go_roundg (m - (i + 1))
          case measure => omega
          case rel => exact ⟨i + 1, _, rfl, by omega, Nat.le_refl _, put (by rw [HKS.out]; exact ST7.out)⟩
      · have hlz : ¬ (i : Int) < (m : Int) := by omega
        obtain rfl : i = m := by omega
        have hall : n.recs.take i = n.recs := List.take_of_length_le (by rw [← HM.out]; exact Nat.le_refl _)
        rw [hall] at ST
        clear hall
        obtain ⟨Ar, cr, rfl, hcr, hcr2⟩ := ST.out.r.form
        obtain ⟨Ak, ck, ek, hck, hck2⟩ := ST.out.k.form
        first | subst ek | clear ek
        obtain ⟨x0, x1, x2, f1, f2⟩ := ST.out.cells
        have hR := (ST.out.b.block w.heap.size (Nat.lt_succ_self _)).trans R1.out
        obtain ⟨z0, z1, z2⟩ := c3 hR
        have z3 : wr.frozen? ⟨w.heap.size, 0, none⟩ = false := by simp [World.frozen?, hR]
        have z4 : wr.frozen? ⟨w.heap.size, 1, none⟩ = false := by simp [World.frozen?, hR]
        have z5 : wr.frozen? ⟨w.heap.size, 2, none⟩ = false := by simp [World.frozen?, hR]
        have HRR := put hR
        clear hR f1 f2
        go_wp2_with fail
        refine bodyPost_ret (results_cell_row rfl _ _ _ _ _ _ _ rfl ((setCell_heap (setCell_heap (setCell_heap HRR.out 0 _) 1 _) 2 _).trans rfl) Try.underlying69 rfl (infoNd.trans rfl)) rfl ⟨_, _, rfl, ?_, ?_, ?_⟩
        · exact (((ST.out.r.far (fun k hk e => by have h1 := (ST.out.r.lt k hk).1; have h2 : k = w.heap.size := e; omega) (fun _ hk => hk.elim) _).far (fun k hk e => by have h1 := (ST.out.r.lt k hk).1; have h2 : k = w.heap.size := e; omega) (fun _ hk => hk.elim) _).far (fun k hk e => by have h1 := (ST.out.r.lt k hk).1; have h2 : k = w.heap.size := e; omega) (fun _ hk => hk.elim) _).lower (Nat.le_succ _)
        · exact (((ST.out.k.far (fun k hk e => by have h1 := (ST.out.k.lt k hk).1; have h2 : k = w.heap.size := e; omega) (fun _ hk => hk.elim) _).far (fun k hk e => by have h1 := (ST.out.k.lt k hk).1; have h2 : k = w.heap.size := e; omega) (fun _ hk => hk.elim) _).far (fun k hk e => by have h1 := (ST.out.k.lt k hk).1; have h2 : k = w.heap.size := e; omega) (fun _ hk => hk.elim) _).lower (Nat.le_succ _)
        · exact (((readB B1.out ST.out.b S1.out).setCell (Nat.le_refl _) _).setCell (Nat.le_refl _) _).setCell (Nat.le_refl _) _
  · go_wp2_with fail
    rw [← hw1]
    obtain ⟨w3, hw3⟩ : ∃ w3, w3 = (w1.alloc (.cells #[.slice (some ⟨g, o, none⟩) 1024 c, .int .i64 1] 127)).alloc (.cells #[.bool false, .slice none 0 0, .slice none 0 0] 69) := ⟨_, rfl⟩
    rw [← hw3]
    have ST3 := put (readStart hw3 S1.out)
    have B3 := put (readB B1.out ST3.out.b S1.out)
    clear hw1 hw3
    refine (C0.out w3 ST3.out.i B3.out).mono ?_
    rintro e w4 ⟨rfl, hi4, k4⟩
    have ST4 := put (ST3.out.step hi4 k4)
    have B4 := put (readB B1.out ST4.out.b S1.out)
    have y4 := cell_at y1 B4.out
    clear hi4 k4
    go_wp2_with fail
    clear y4
    go_loopg [24] (m + 1) (fun kx s24 wr => ∃ (i : Nat) (vk : Value), s24 = .int .i64 i ∧ i ≤ m + 1 ∧ m + 1 - i ≤ kx ∧ Kp (RSt (w.heap.size + 1) (w.heap.size + 1) (w.heap.size + 1 + 1) w1 wr (some ⟨g, o, none⟩) c (3 + 4 * i) false (.slice none 0 0) vk [] (kints (n.kids.take i))))
    case atStart => exact ⟨0, _, rfl, Nat.zero_le _, Nat.le_refl _, ST4⟩
    case round =>
      obtain ⟨i, vk, rfl, hi, hkx, ST⟩ := hrel
      by_cases hlt : i < m + 1
      · have hlz : (i : Int) < (m : Int) + 1 := by omega
        obtain ⟨k, hk⟩ : ∃ k, n.kids[i]? = some k := ⟨_, List.getElem?_eq_getElem (by rw [← HQ.out]; exact hlt)⟩
        have hk2 := HS.out.kids k (List.mem_of_getElem? hk)
        obtain ⟨hk3, hk4⟩ := enc_kid n hk (by omega)
        rw [HL.out] at hk4
        have BR := put (readB B1.out ST.out.b S1.out)
        have C4 : Kp (∀ W, Below wr.heap.size wr W → Calls Try.prog 89 #[.pointer (some ⟨w.heap.size + 1, 0, none⟩)] W fun e w' => e = .returned (.int .i64 k) ∧ RSt (w.heap.size + 1) (w.heap.size + 1) (w.heap.size + 1 + 1) w1 w' (some ⟨g, o, none⟩) c (3 + 4 * (i + 1)) false (.slice none 0 0) vk [] (kints (n.kids.take i))) := put fun W hb => by
          have st := ST.out.below hb
          have := fourIn (fun k => k < w.heap.size) (w.heap.size + 1) c (3 + 4 * i) (some ⟨g, o, none⟩) (enc n) W st.i (HR.out.below (readB B1.out st.b S1.out)) (by omega) hk4 HL.out
          rw [hk3] at this
          exact this.mono (by
            rintro e w' ⟨he, hi', hk'⟩
            exact ⟨he, st.step (by rw [show 3 + 4 * (i + 1) = 3 + 4 * i + 4 by omega]; exact hi') hk'⟩)
        have HKS : Kp (kints (n.kids.take (i + 1)) = kints (n.kids.take i) ++ [(k : Int)]) := put (by unfold kints; rw [take_one hk, List.map_append]; rfl)
        obtain ⟨Ak, ck, rfl, hck, hck2⟩ := ST.out.k.form
        have hKL : (kints (n.kids.take i)).length = i := by rw [kints_len, List.length_take, ← HQ.out]; omega
        rw [hKL] at hck ST C4
        obtain ⟨x0, x1, x2, f1, f2⟩ := ST.out.cells
        have HKL := put hKL
        clear hk hk2 hk3 hk4 hKL x0 x1 f1 f2
        go_wp2_with fail
        refine wp_region_noPanic ?_
        go_region_law (first | (go_simp; go_at_call 89; refine (C4.out _ (by (repeat (first | with_reducible exact (Below.refl _ _) | with_reducible apply Below.drew | with_reducible refine balloc ?_ _)))).mono ?_; rintro e w5 ⟨rfl, h5⟩; have z2 := h5.cells.2.2.1; have z3 := h5.cells.2.2.2.2; have zs := h5.lt.1; have ST5 := put h5; clear h5; go_wp2_with fail) | (refine step_push1 (tInt .i64) (w.heap.size + 1) rfl _ _ 53 3 _ 8 rfl Try.underlying53 infoInt rfl (by decide) (by decide) (.slice Ak i ck) _ (kints (n.kids.take i)) (k : Int) _ no rfl rfl (by first | exact heap_alloc_new _ _ | (simp only [heap_alloc_get] <;> simp <;> done)) rfl (ST5.out.k.below (by (repeat (first | with_reducible exact (Below.refl _ _) | with_reducible apply Below.drew | with_reducible refine balloc ?_ _)))) (Nat.le_trans (by have := ST5.out.lt.2; omega) (bsize (w := w5) (by (repeat (first | with_reducible exact (Below.refl _ _) | with_reducible apply Below.drew | with_reducible refine balloc ?_ _))))) (by have := HKL.out; omega) ?_; intro v1 w7 ho hg hat; obtain ⟨V1, c1, e1, q1, q2⟩ := ho.form; rw [List.length_append, HKL.out, List.length_singleton] at e1; subst e1; clear q1 q2; have hg7 : w5.grownBy w7 (Value.slice Ak i ck).ownBlock := World.grownBy.trans (grown_of_below (by (repeat (first | with_reducible exact (Below.refl _ _) | with_reducible apply Below.drew | with_reducible refine balloc ?_ _)))) hg; have z7 : w7.cell? ⟨w.heap.size + 1 + 1, 2, none⟩ = some (.slice Ak i ck) := (World.cell?_of_block (a := ⟨w.heap.size + 1 + 1, 2, none⟩) (hg7.block _ ST5.out.lt.1 (ST5.out.k.ne_block ST5.out.n (by decide)))).trans z2; have z8 : w7.frozen? ⟨w.heap.size + 1 + 1, 2, none⟩ = false := ST5.out.frozen7 hg7; have ST7 := put (ST5.out.pushK hg7 ho); clear ho hg hat hg7))
        all_goals
          refine NoPanic.normal ?_
          clear z2 z3 zs z7 z8
          go_wp2_with fail
          go_roundg (m + 1 - (i + 1))
          case measure => omega
          case rel => exact ⟨i + 1, _, rfl, by omega, Nat.le_refl _, put (by rw [HKS.out]; exact ST7.out)⟩
      · have hlz : ¬ (i : Int) < (m : Int) + 1 := by omega
        obtain rfl : i = m + 1 := by omega
        have ST5 : Kp (RSt (w.heap.size + 1) (w.heap.size + 1) (w.heap.size + 1 + 1) w1 wr (some ⟨g, o, none⟩) c (3 + 4 * (m + 1)) false (.slice none 0 0) vk [] (kints n.kids)) := put (by have := ST.out; rwa [List.take_of_length_le (by rw [← HQ.out]; exact Nat.le_refl _)] at this)
        go_wp2_with fail
        go_wp2_with fail
        clear y1
        go_loopg [6, 7, 35] m (fun kx s6 s7 s35 wr => ∃ (i : Nat) (vr : Value), s35 = .int .i64 i ∧ i ≤ m ∧ m - i ≤ kx ∧ Kp (RSt (w.heap.size + 1) (w.heap.size + 1) (w.heap.size + 1 + 1) w1 wr (some ⟨g, o, none⟩) c ((3 + 4 * (m + 1)) + 4 * i) false vr vk (n.recs.take i) (kints n.kids)))
        case atStart => exact ⟨0, _, rfl, Nat.zero_le _, Nat.le_refl _, ST5⟩
        case round =>
          obtain ⟨i, vr, rfl, hi, hkx, ST⟩ := hrel
          by_cases hlt : i < m
          · have hlz : (i : Int) < (m : Int) := by omega
            obtain ⟨s, hk⟩ : ∃ s, n.recs[i]? = some s := ⟨_, List.getElem?_eq_getElem (by rw [← HM.out]; exact hlt)⟩
            have hs1 := HS.out.recs s (List.mem_of_getElem? hk)
            obtain ⟨e1, e2, e3, e4, e5⟩ := enc_rec n HZ.out hk
            rw [← HQ.out] at e1 e2 e3
            rw [HL.out] at e3
            obtain ⟨en, hen⟩ : ∃ en, en = endAt n.recs (i + 1) := ⟨_, rfl⟩
            rw [← hen] at e1 e4 e5
            have C2 : Kp (∀ W, RSt (w.heap.size + 1) (w.heap.size + 1) (w.heap.size + 1 + 1) w1 W (some ⟨g, o, none⟩) c ((3 + 4 * (m + 1)) + 4 * i) false vr vk (n.recs.take i) (kints n.kids) → Calls Try.prog 88 #[.pointer (some ⟨w.heap.size + 1, 0, none⟩)] W fun e w' => e = .returned (.int .i64 en) ∧ RSt (w.heap.size + 1) (w.heap.size + 1) (w.heap.size + 1 + 1) w1 w' (some ⟨g, o, none⟩) c ((3 + 4 * (m + 1)) + 4 * i + 2) false vr vk (n.recs.take i) (kints n.kids)) := put fun W st => by
              have := twoIn (fun k => k < w.heap.size) (w.heap.size + 1) c ((3 + 4 * (m + 1)) + 4 * i) (some ⟨g, o, none⟩) (enc n) W st.i (HR.out.below (readB B1.out st.b S1.out)) (by omega) (by omega) HL.out
              rw [e1] at this
              exact this.mono (by
                rintro e w' ⟨he, hi', hk'⟩
                exact ⟨he, st.step hi' hk'⟩)
            have C3 : Kp (∀ W, RSt (w.heap.size + 1) (w.heap.size + 1) (w.heap.size + 1 + 1) w1 W (some ⟨g, o, none⟩) c ((3 + 4 * (m + 1)) + 4 * i + 2) false vr vk (n.recs.take i) (kints n.kids) → Calls Try.prog 88 #[.pointer (some ⟨w.heap.size + 1, 0, none⟩)] W fun e w' => e = .returned (.int .i64 s.size) ∧ RSt (w.heap.size + 1) (w.heap.size + 1) (w.heap.size + 1 + 1) w1 w' (some ⟨g, o, none⟩) c ((3 + 4 * (m + 1)) + 4 * (i + 1)) false vr vk (n.recs.take i) (kints n.kids)) := put fun W st => by
              have := twoIn (fun k => k < w.heap.size) (w.heap.size + 1) c ((3 + 4 * (m + 1)) + 4 * i + 2) (some ⟨g, o, none⟩) (enc n) W st.i (HR.out.below (readB B1.out st.b S1.out)) (by omega) (by omega) HL.out
              rw [e2] at this
              exact this.mono (by
                rintro e w' ⟨he, hi', hk'⟩
                exact ⟨he, st.step (by rw [show (3 + 4 * (m + 1)) + 4 * (i + 1) = (3 + 4 * (m + 1)) + 4 * i + 2 + 2 by omega]; exact hi') hk'⟩)
            have HKS : Kp (n.recs.take (i + 1) = n.recs.take i ++ [s]) := put (take_one hk)
            have HB : Kp (∀ W, Below w.heap.size w W → (convert 96 9 (.slice (some ⟨g, o + en, none⟩) s.size (c - en))).run Try.prog W = .ok (.string s) W) := put fun W hb => recBytes (HR.out.below hb) e5 HL.out
            obtain ⟨Ar, cr, rfl, hcr, hcr2⟩ := ST.out.r.form
            have hKL : (n.recs.take i).length = i := by rw [List.length_take, ← HM.out]; omega
            rw [hKL] at hcr ST C2 C3
            have HKL := put hKL
            obtain ⟨sz, hsz⟩ : ∃ sz, sz = s.size := ⟨_, rfl⟩
            rw [← hsz] at C3 HB e4 hs1
            clear hk hKL e1 e2 e3 e5 hen hsz
            go_wp2_with fail
            refine (C2.out wr ST.out).mono ?_
            rintro e w5 ⟨rfl, h5⟩
            have ST5' := put h5
            clear h5
            go_wp2_with fail
            refine (C3.out w5 ST5'.out).mono ?_
            rintro e w6 ⟨rfl, h6⟩
            have ST6 := put h6
            clear h6
            have i1 : ¬ (en : Int) > 1024 - (sz : Int) := by omega
            go_wp2_with fail
            obtain ⟨x0, x1, x2, f1, f2⟩ := ST6.out.cells
            have zs := ST6.out.lt.1
            have B6 := put (readB B1.out ST6.out.b S1.out)
            have k1 := HB.out w6 B6.out
            have k2 := HB.out w6.drew B6.out.drew
            have i2 : IntKind.i64.wrap ((en : Int) + (sz : Int)) = (en : Int) + (sz : Int) := IntWalk.i64_in _ (by omega)
            have j1 : 0 ≤ (en : Int) + (sz : Int) := by omega
            have j2 : (en : Int) + (sz : Int) ≤ (c : Int) := by have := HC.out; omega
            have j3 : ((en : Int) + (sz : Int)).toNat = en + sz := by omega
            have j4 : ¬ c = en := by have := HC.out; omega
            refine wp_region_noPanic ?_
            go_region_law (first | (refine step_push1 tStr (w.heap.size + 1) rfl _ _ 33 9 _ 16 rfl Try.underlying33 infoStr rfl (by decide) (by decide) (.slice Ar i cr) _ (n.recs.take i) s _ no rfl rfl (by first | exact heap_alloc_new _ _ | (simp only [heap_alloc_get] <;> simp <;> done)) rfl (ST6.out.r.below (by (repeat (first | with_reducible exact (Below.refl _ _) | with_reducible apply Below.drew | with_reducible refine balloc ?_ _)))) (Nat.le_trans (by have := ST6.out.lt.2; omega) (bsize (w := w6) (by (repeat (first | with_reducible exact (Below.refl _ _) | with_reducible apply Below.drew | with_reducible refine balloc ?_ _))))) (by have := HKL.out; omega) ?_; intro v1 w7 ho hg hat; obtain ⟨V1, c1, e1, q1, q2⟩ := ho.form; rw [List.length_append, HKL.out, List.length_singleton] at e1; subst e1; clear q1 q2; have hg7 : w6.grownBy w7 (Value.slice Ar i cr).ownBlock := World.grownBy.trans (grown_of_below (by (repeat (first | with_reducible exact (Below.refl _ _) | with_reducible apply Below.drew | with_reducible refine balloc ?_ _)))) hg; have z7 : w7.cell? ⟨w.heap.size + 1 + 1, 1, none⟩ = some (.slice Ar i cr) := (World.cell?_of_block (a := ⟨w.heap.size + 1 + 1, 1, none⟩) (hg7.block _ ST6.out.lt.1 (ST6.out.r.ne_block ST6.out.n (by decide)))).trans x1; have z8 : w7.frozen? ⟨w.heap.size + 1 + 1, 1, none⟩ = false := ST6.out.frozenR hg7; have ST7 := put (ST6.out.pushR hg7 ho); clear ho hg hat hg7))
            all_goals
              refine NoPanic.normal ?_
              clear z7 z8 x0 x1 x2 f1 f2 k1 k2 zs j1 j2 j3 j4 i1 i2
              go_wp2_with fail
              go_roundg (m - (i + 1))
              case measure => omega
              case rel => exact ⟨i + 1, _, rfl, by omega, Nat.le_refl _, put (by rw [HKS.out]; exact ST7.out)⟩
          · have hlz : ¬ (i : Int) < (m : Int) := by omega
            obtain rfl : i = m := by omega
            have hall : n.recs.take i = n.recs := List.take_of_length_le (by rw [← HM.out]; exact Nat.le_refl _)
            rw [hall] at ST
            clear hall
            obtain ⟨Ar, cr, rfl, hcr, hcr2⟩ := ST.out.r.form
            obtain ⟨Ak, ck, ek, hck, hck2⟩ := ST.out.k.form
            first | subst ek | clear ek
            obtain ⟨x0, x1, x2, f1, f2⟩ := ST.out.cells
            have hR := (ST.out.b.block w.heap.size (Nat.lt_succ_self _)).trans R1.out
            obtain ⟨z0, z1, z2⟩ := c3 hR
            have z3 : wr.frozen? ⟨w.heap.size, 0, none⟩ = false := by simp [World.frozen?, hR]
            have z4 : wr.frozen? ⟨w.heap.size, 1, none⟩ = false := by simp [World.frozen?, hR]
            have z5 : wr.frozen? ⟨w.heap.size, 2, none⟩ = false := by simp [World.frozen?, hR]
            have HRR := put hR
            clear hR f1 f2
            go_wp2_with fail
            refine bodyPost_ret (results_cell_row rfl _ _ _ _ _ _ _ rfl ((setCell_heap (setCell_heap (setCell_heap HRR.out 0 _) 1 _) 2 _).trans rfl) Try.underlying69 rfl (infoNd.trans rfl)) rfl ⟨_, _, rfl, ?_, ?_, ?_⟩
            · exact (((ST.out.r.far (fun k hk e => by have h1 := (ST.out.r.lt k hk).1; have h2 : k = w.heap.size := e; omega) (fun _ hk => hk.elim) _).far (fun k hk e => by have h1 := (ST.out.r.lt k hk).1; have h2 : k = w.heap.size := e; omega) (fun _ hk => hk.elim) _).far (fun k hk e => by have h1 := (ST.out.r.lt k hk).1; have h2 : k = w.heap.size := e; omega) (fun _ hk => hk.elim) _).lower (Nat.le_succ _)
            · exact (((ST.out.k.far (fun k hk e => by have h1 := (ST.out.k.lt k hk).1; have h2 : k = w.heap.size := e; omega) (fun _ hk => hk.elim) _).far (fun k hk e => by have h1 := (ST.out.k.lt k hk).1; have h2 : k = w.heap.size := e; omega) (fun _ hk => hk.elim) _).far (fun k hk e => by have h1 := (ST.out.k.lt k hk).1; have h2 : k = w.heap.size := e; omega) (fun _ hk => hk.elim) _).lower (Nat.le_succ _)
            · exact (((readB B1.out ST.out.b S1.out).setCell (Nat.le_refl _) _).setCell (Nat.le_refl _) _).setCell (Nat.le_refl _) _
end Go.Proofs.Ytcpahknlabnnbaa.T

namespace Go.Proofs.Ytcpahknlabnnbaa.T
open Go Go.RowKit Go.Sort Go.Proofs.Ytcpahknlabnnbaa.Mem

/-- A page under way. -/
def pgu (pre : List UInt8) (z : Nat) (post : List UInt8) : List UInt8 := pre ++ (List.replicate z 0 ++ post)
theorem pgu_len (pre : List UInt8) (z : Nat) (post : List UInt8) : (pgu pre z post).length = pre.length + z + post.length := by
  unfold pgu; simp only [List.length_append, List.length_replicate]; omega
theorem pg_set (bs : List UInt8) (o : Nat) (x : UInt8) : (pgCells bs).setIfInBounds o (u8 x) = pgCells (bs.set o x) := by
  unfold pgCells; rw [List.map_set]; simp
theorem set_app {pre post : List UInt8} {z : Nat} (x : UInt8) : (pre ++ (List.replicate (z + 1) 0 ++ post)).set pre.length x = (pre ++ [x]) ++ (List.replicate z 0 ++ post) := by
  rw [List.set_append_right _ _ (Nat.le_refl _), Nat.sub_self, List.replicate_succ, List.cons_append, List.set_cons_zero, List.append_assoc, List.singleton_append]
theorem pgu_set (pre post : List UInt8) (z : Nat) (x : UInt8) : (pgu pre (z + 1) post).set pre.length x = pgu (pre ++ [x]) z post := set_app x
theorem pgu_two (pre post : List UInt8) (z n : Nat) : ((pgu pre (z + 2) post).set pre.length (UInt8.ofNat (n / 256))).set (pre.length + 1) (UInt8.ofNat n) = pgu (pre ++ be2 n) z post := by
  rw [show z + 2 = (z + 1) + 1 from rfl, pgu_set, show pre.length + 1 = (pre ++ [UInt8.ofNat (n / 256)]).length by simp, pgu_set]
  unfold be2; rw [List.append_assoc]; rfl

/-- What two leaves. -/
structure TwoFin (O P at' n : Nat) (bs : List UInt8) (w w' : World) : Prop where
  o : w'.heap[O]? = some (.cells #[.slice (some ⟨P, 0, none⟩) 1024 1024, .int .i64 ((at' : Int) + 2)] 119 (0, 0))
  p : w'.heap[P]? = some (.cells (pgCells ((bs.set at' (UInt8.ofNat (n / 256))).set (at' + 1) (UInt8.ofNat n))) 5 (0, 0))
  k : Kps (fun k => k = O ∨ k = P) w w'
theorem wrapHi (n : Nat) : Value.int .u8 ((n : Int) / 256 % 256) = u8 (UInt8.ofNat (n / 256)) := by
  unfold u8; rw [UInt8.toNat_ofNat']; congr 1
theorem wrapLo (n : Nat) : Value.int .u8 ((n : Int) % 256) = u8 (UInt8.ofNat n) := by
  unfold u8; rw [UInt8.toNat_ofNat']; congr 1
theorem two_ne {O P : Nat} {bs : List UInt8} {w : World} {a b : Value} (ho : w.heap[O]? = some (.cells #[a, b] 119 (0, 0))) (hp : w.heap[P]? = some (.cells (pgCells bs) 5 (0, 0))) : O ≠ P := by
  rintro rfl
  rw [hp] at ho
  injection ho with ho
  injection ho with ho1 ho2 ho3
  exact absurd ho2 (by decide)
theorem two_fin {O P at' n : Nat} {bs : List UInt8} {w : World} (ho : w.heap[O]? = some (.cells #[.slice (some ⟨P, 0, none⟩) 1024 1024, .int .i64 at'] 119 (0, 0))) (hp : w.heap[P]? = some (.cells (pgCells bs) 5 (0, 0))) (W : World)
    (h : W.heap = (((w.setCell ⟨P, at', none⟩ (.int .u8 ((n : Int) / 256 % 256))).setCell ⟨P, at' + 1, none⟩ (.int .u8 ((n : Int) % 256))).setCell ⟨O, 1, none⟩ (.int .i64 ((at' : Int) + 2))).heap) (h1 : W.os = w.os) (h2 : W.tape = w.tape) (h3 : W.output = w.output) : TwoFin O P at' n bs w W := by
  rw [wrapHi, wrapLo] at h
  have hne := two_ne ho hp
  have p1 := setCell_heap hp at' (u8 (UInt8.ofNat (n / 256)))
  rw [pg_set] at p1
  have p2 := setCell_heap p1 (at' + 1) (u8 (UInt8.ofNat n))
  rw [pg_set] at p2
  have K := (((Kps.refl (fun k => k = O ∨ k = P) w).set (Or.inl (Or.inr rfl)) at' (u8 (UInt8.ofNat (n / 256)))).set (Or.inl (Or.inr rfl)) (at' + 1) (u8 (UInt8.ofNat n)))
  have o2 := (Below.heap_setCell _ ⟨P, at' + 1, none⟩ (u8 (UInt8.ofNat n)) O hne).trans ((Below.heap_setCell _ ⟨P, at', none⟩ (u8 (UInt8.ofNat (n / 256))) O hne).trans ho)
  have o3 := setCell_heap o2 1 (.int .i64 ((at' : Int) + 2))
  have p3 := (Below.heap_setCell _ ⟨O, 1, none⟩ (.int .i64 ((at' : Int) + 2)) P (Ne.symm hne)).trans p2
  have K3 := K.set (X := O) (Or.inl (Or.inl rfl)) 1 (.int .i64 ((at' : Int) + 2))
  refine ⟨?_, ?_, ⟨h1, h2, h3, ?_, ?_⟩⟩
  · rw [h, o3]; rfl
  · rw [h]; exact p3
  · rw [h]; exact K3.size
  · rw [h]; exact K3.block

set_option maxHeartbeats 4000000 in
set_option maxRecDepth 100000 in
theorem twoCalls0 (O P at' n : Nat) (bs : List UInt8) (w : World) (ho : w.heap[O]? = some (.cells #[.slice (some ⟨P, 0, none⟩) 1024 1024, .int .i64 at'] 119 (0, 0))) (hp : w.heap[P]? = some (.cells (pgCells bs) 5 (0, 0))) (hl : bs.length = 1024) (ha : at' + 2 ≤ 1024) :
    Calls Try.prog 78 #[.pointer (some ⟨O, 0, none⟩), .int .i64 n] w fun e w' => (∃ v, e = .returned v) ∧ TwoFin O P at' n bs w w' := by
  have FIN : Kp (∀ W, W.heap = (((w.setCell ⟨P, at', none⟩ (.int .u8 ((n : Int) / 256 % 256))).setCell ⟨P, at' + 1, none⟩ (.int .u8 ((n : Int) % 256))).setCell ⟨O, 1, none⟩ (.int .i64 ((at' : Int) + 2))).heap → W.os = w.os → W.tape = w.tape → W.output = w.output → TwoFin O P at' n bs w W) := put (two_fin ho hp)
  obtain ⟨x0, x1⟩ := c2 ho
  have x2 : w.frozen? ⟨O, 1, none⟩ = false := by simp [World.frozen?, ho]
  have zz : ∀ j, j < 1024 → ∃ v, w.cell? ⟨P, j, none⟩ = some v ∧ w.frozen? ⟨P, j, none⟩ = false := fun j hj => by
    have h0 : j < (pgCells bs).size := by rw [pg_size, hl]; exact hj
    refine ⟨(pgCells bs)[j], ?_, ?_⟩
    · simp [World.cell?, hp, h0]
    · simp [World.frozen?, hp]
  obtain ⟨v0, z0, f0⟩ := zz at' (by omega)
  obtain ⟨v1, z1, f1⟩ := zz (at' + 1) (by omega)
  have hne : O ≠ P := two_ne ho hp
  have a1 : (at' : Int) < 1024 := by omega
  have a2 : (at' : Int) + 1 < 1024 := by omega
  have a0 : 0 ≤ (at' : Int) := by omega
  have e1 : IntKind.i64.wrap ((at' : Int) + 1) = (at' : Int) + 1 := IntWalk.i64_in _ (by omega)
  have e2 : ((at' : Int) + 1).toNat = at' + 1 := by omega
  have a3 : 0 ≤ (at' : Int) + 1 := by omega
  clear ho hp
  go_enter Try.func78, Try.ntmps78
  go_wp2_with fail
  go_region_law (fail)
  all_goals
    go_wp2_with fail
    exact bodyPost_end (results_none rfl _ _ _) rfl ⟨⟨_, rfl⟩, FIN.out _ rfl rfl rfl rfl⟩
end Go.Proofs.Ytcpahknlabnnbaa.T

namespace Go.Proofs.Ytcpahknlabnnbaa.T
open Go Go.RowKit Go.Sort Go.Proofs.Ytcpahknlabnnbaa.Mem

/-- A page under way, with who writes it. -/
structure OutR (O P : Nat) (w : World) (pre : List UInt8) (z : Nat) (post : List UInt8) : Prop where
  o : w.heap[O]? = some (.cells #[.slice (some ⟨P, 0, none⟩) 1024 1024, .int .i64 (pre.length : Int)] 119 (0, 0))
  p : w.heap[P]? = some (.cells (pgCells (pgu pre z post)) 5 (0, 0))
  len : pre.length + z + post.length = 1024
def opS (O P k : Nat) : Prop := k = O ∨ k = P
theorem OutR.below {O P z : Nat} {w w' : World} {pre post : List UInt8} (h : OutR O P w pre z post) (hb : Below w.heap.size w w') : OutR O P w' pre z post :=
  ⟨(hb.block O (Array.getElem?_eq_some_iff.1 h.o).1).trans h.o, (hb.block P (Array.getElem?_eq_some_iff.1 h.p).1).trans h.p, h.len⟩
theorem twoCalls (O P : Nat) (pre : List UInt8) (z n : Nat) (post : List UInt8) (w : World) (h : OutR O P w pre (z + 2) post) :
    Calls Try.prog 78 #[.pointer (some ⟨O, 0, none⟩), .int .i64 n] w fun e w' => (∃ v, e = .returned v) ∧ OutR O P w' (pre ++ be2 n) z post ∧ Kps (opS O P) w w' := by
  have hl := h.len
  refine (twoCalls0 O P pre.length n _ w h.o h.p (by rw [pgu_len]; exact hl) (by omega)).mono ?_
  rintro e w' ⟨he, h1, h2, h3⟩
  refine ⟨he, ⟨?_, ?_, ?_⟩, h3⟩
  · rw [h1, List.length_append, be2_len]; rfl
  · rw [h2, pgu_two]
  · rw [List.length_append, be2_len]; omega

set_option maxHeartbeats 4000000 in
set_option maxRecDepth 100000 in
theorem fourCalls (O P : Nat) (pre : List UInt8) (z n : Nat) (post : List UInt8) (w : World) (h : OutR O P w pre (z + 4) post) :
    Calls Try.prog 79 #[.pointer (some ⟨O, 0, none⟩), .int .i64 n] w fun e w' => (∃ v, e = .returned v) ∧ OutR O P w' (pre ++ be4 n) z post ∧ Kps (opS O P) w w' := by
  have C1 := put (twoCalls O P pre (z + 2) (n / 65536) post w h)
  have C2 : Kp (∀ W, OutR O P W (pre ++ be2 (n / 65536)) (z + 2) post → _) := put fun W hW => twoCalls O P _ z n post W hW
  clear h
  go_enter Try.func79, Try.ntmps79
  go_wp2_with fail
  refine C1.out.mono ?_
  rintro e w2 ⟨⟨v2, rfl⟩, h2, k2⟩
  have H2 := put h2
  have K2 := put k2
  clear h2 k2
  go_wp2_with fail
  refine (C2.out w2 H2.out).mono ?_
  rintro e w3 ⟨⟨v3, rfl⟩, h3, k3⟩
  have H3 := put h3
  have K3 := put k3
  clear h3 k3
  go_wp2_with fail
  refine bodyPost_end (results_none rfl _ _ _) rfl ⟨⟨_, rfl⟩, ?_, K2.out.trans K3.out⟩
  have := H3.out
  rwa [List.append_assoc] at this
end Go.Proofs.Ytcpahknlabnnbaa.T

namespace Go.Proofs.Ytcpahknlabnnbaa.T
open Go Go.RowKit Go.Sort Go.Proofs.Ytcpahknlabnnbaa.Mem

theorem pg_list (bs : List UInt8) : (pgCells bs).toList = bs.map u8 := by unfold pgCells; simp
theorem pgu_copy (pre post b : List UInt8) (a : Nat) : (((pgCells (pgu pre (a + b.length) post)).toList.take (pre.length + a) ++ Lib.byteCells b) ++ (pgCells (pgu pre (a + b.length) post)).toList.drop (pre.length + a + b.length)).toArray = pgCells (pgu pre a (b ++ post)) := by
  rw [pg_list, ← List.map_take, ← List.map_drop]
  have e : pgu pre (a + b.length) post = (pre ++ List.replicate a 0) ++ (List.replicate b.length 0 ++ post) := by
    unfold pgu; rw [show List.replicate (a + b.length) (0 : UInt8) = List.replicate a 0 ++ List.replicate b.length 0 from by rw [List.replicate_append_replicate]]; simp only [List.append_assoc]
  have l1 : (pre ++ List.replicate a (0 : UInt8)).length = pre.length + a := by simp
  have e1 : (pgu pre (a + b.length) post).take (pre.length + a) = pre ++ List.replicate a 0 := by rw [e, ← l1, List.take_left]
  have e2 : (pgu pre (a + b.length) post).drop (pre.length + a + b.length) = post := by
    rw [e, ← List.drop_drop, ← l1, List.drop_left]
    exact List.drop_left' (by simp)
  rw [e1, e2]
  unfold pgCells pgu
  congr 1
  rw [List.map_append, List.map_append, List.map_append, List.map_append]
  simp [Lib.byteCells, u8]

theorem sizeU8 : (Try.prog.info? 5).map (·.size) = some 1 := by kernel_rfl
theorem wpList_copyPg {ops : Array Oper} {rest : List Oper} {o : Oper} {a : Act} {w : World} {Q : Exit → Act → World → Prop} (hgd : o.guard = none) (d s : Operand)
    (ho : o.op = .call { callee := .builtin .copy, args := #[d, s], argTypes := #[96, 9] }) (O P z : Nat) (pre post : List UInt8) (x : ByteArray) (l c : Nat)
    (hd : a.eval d = .slice (some ⟨P, pre.length + z, none⟩) l c) (hs : a.eval s = .string x) (hl : x.size ≤ l) (hP : OutR O P w pre (z + x.size) post)
    (h : OutR O P (w.setRow P (pgCells (pgu pre z (x.data.toList ++ post)))) pre z (x.data.toList ++ post) → Kps (opS O P) w (w.setRow P (pgCells (pgu pre z (x.data.toList ++ post)))) → wpList Try.prog ops Q rest (a.put o.dst (goInt x.size)) (w.setRow P (pgCells (pgu pre z (x.data.toList ++ post))))) : wpList Try.prog ops Q (o :: rest) a w := by
  have hne := two_ne hP.o hP.p
  have hsz := size_toList x
  have hp := hP.p
  rw [← hsz] at hp
  have hlen := hP.len
  have hrun := Lib.run_copy_row_string (P := Try.prog) w 96 9 o.type 5 P (pre.length + z) l c x _ 5 Try.underlying96 sizeU8 hp hl (by rw [pg_size, pgu_len, hsz]; omega)
  rw [← hsz, pgu_copy] at hrun
  have hK : Kps (opS O P) w (w.setRow P (pgCells (pgu pre z (x.data.toList ++ post)))) := ⟨rfl, rfl, rfl, by rw [setRow_size]; exact Nat.le_refl _, fun k _ hn => setRow_other _ _ _ _ (fun e => hn (.inr e))⟩
  have hO : OutR O P (w.setRow P (pgCells (pgu pre z (x.data.toList ++ post)))) pre z (x.data.toList ++ post) := ⟨(setRow_other _ _ _ _ hne).trans hP.o, setRow_heap _ _ _ _ _ _ hP.p, by rw [List.length_append, hsz]; omega⟩
  refine wpList_plain hgd fun K hK' => ?_
  unfold Oper.wp
  simp only [execOp, ho, resolve, invoke, builtin]
  simp [hd, hs, hrun, Result.andThen]
  exact hK' _ _ (h hO hK)

/-! ### what is laid -/
theorem slots_append : ∀ (e : Nat) (a b : List ByteArray), slots e (a ++ b) = slots e a ++ slots (e - dl a) b
  | e, [], b => by simp [slots, dl]
  | e, s :: a, b => by
    rw [List.cons_append, slots, slots, slots_append (e - s.size) a b, show dl (s :: a) = s.size + dl a by unfold dl; simp, Nat.sub_sub]
    simp only [List.append_assoc]
theorem slots_take {l : List ByteArray} {i : Nat} {s : ByteArray} (h : l[i]? = some s) : slots 1024 (l.take (i + 1)) = slots 1024 (l.take i) ++ (be2 (endAt l (i + 1)) ++ be2 s.size) := by
  have e3 : endAt l (i + 1) = 1024 - dl (l.take i) - s.size := by unfold endAt; rw [dl_take_succ h]; omega
  rw [take_one h, slots_append, slots, slots, List.append_nil, e3]
theorem datas_take {l : List ByteArray} {i : Nat} {s : ByteArray} (h : l[i]? = some s) : datas (l.take (i + 1)) = s.data.toList ++ datas (l.take i) := by
  rw [take_one h, datas_append]
  simp [datas]
theorem kidsB_take {l : List Nat} {i k : Nat} (h : l[i]? = some k) : kidsB (l.take (i + 1)) = kidsB (l.take i) ++ be4 k := by
  rw [take_one h]; unfold kidsB; rw [List.flatMap_append]; simp
end Go.Proofs.Ytcpahknlabnnbaa.T

namespace Go.Proofs.Ytcpahknlabnnbaa.T
open Go Go.RowKit Go.Sort Go.Proofs.Ytcpahknlabnnbaa.Mem

theorem infoU8 : (Try.prog.info? 5).map (fun i => (i.zero, i.size, i.bytes)) = some (some (.int .u8 0), 1, 1) := by kernel_rfl
theorem made_rep (z : Value) (n : Nat) : madeCells #[z] n = (List.replicate n z).toArray := by
  apply Array.ext
  · simp [size_madeCells]
  · intro i h1 h2
    simp [madeCells, Nat.mod_one]
theorem made_pg : madeCells (Value.int .u8 0).cells 1024 = pgCells zeroPg := by
  rw [show (Value.int .u8 0).cells = #[Value.int .u8 0] from rfl, made_rep]
  unfold pgCells zeroPg
  rw [List.map_replicate]
  rfl
theorem run_mkPg (w : World) : (Instr.makeSlice 96 (.int .i64 1024) (.int .i64 1024)).run Try.prog w = .ok (.slice (some ⟨w.heap.size, 0, none⟩) 1024 1024) (w.alloc (.cells (pgCells zeroPg) 5)) := by
  obtain ⟨i, hi, hz⟩ := Option.map_eq_some_iff.1 infoU8
  simp only [Prod.mk.injEq] at hz
  obtain ⟨h1, h2, h3⟩ := hz
  have := run_makeSlice (P := Try.prog) w 96 5 i (.int .u8 0) Try.underlying96 hi h1 .i64 .i64 1024 1024 (by omega) (by omega) (by rw [h2]; decide) (by rw [h3]; decide) (by omega)
  rw [h2] at this
  rw [this]
  rw [show ((1024 : Int).toNat * 1) = 1024 from rfl, made_pg]
  rfl

theorem wpList_copyPg' {ops : Array Oper} {rest : List Oper} {o : Oper} {a : Act} {w : World} {Q : Exit → Act → World → Prop} (hgd : o.guard = none) (d s : Operand)
    (ho : o.op = .call { callee := .builtin .copy, args := #[d, s], argTypes := #[96, 9] }) (O P z : Nat) (pre post : List UInt8) (x : ByteArray) (l c en : Nat) (he : en = pre.length + z)
    (hd : a.eval d = .slice (some ⟨P, en, none⟩) l c) (hs : a.eval s = .string x) (hl : x.size ≤ l) (hP : OutR O P w pre (z + x.size) post)
    (h : ∀ W, OutR O P W pre z (x.data.toList ++ post) → Kps (opS O P) w W → wpList Try.prog ops Q rest (a.put o.dst (goInt x.size)) W) : wpList Try.prog ops Q (o :: rest) a w := by
  subst he
  exact wpList_copyPg hgd d s ho O P z pre post x l c hd hs hl hP (h _)
theorem encStart {w3 w4 : World} (b : UInt8) (h : w4 = (w3.alloc (.cells ((pgCells zeroPg).setIfInBounds 0 (u8 b)) 5)).alloc (.cells #[.slice (some ⟨w3.heap.size, 0, none⟩) 1024 1024, .int .i64 1] 119)) : OutR (w3.heap.size + 1) w3.heap.size w4 [b] 1023 [] := by
  have e : zeroPg = pgu [] (1023 + 1) [] := by unfold pgu zeroPg; rw [List.nil_append, List.append_nil]
  have h2 : (pgu [] (1023 + 1) []).set 0 b = pgu [b] 1023 [] := pgu_set [] [] 1023 b
  refine ⟨?_, ?_, rfl⟩
  · rw [h, hag, if_pos (by rw [alloc_size])]; rfl
  · rw [h, hag, if_neg (by rw [alloc_size]; omega), hag, if_pos rfl, pg_set, e, h2]
theorem opBelow {w3 W W' : World} (h : Below w3.heap.size w3 W) (k : Kps (opS (w3.heap.size + 1) w3.heap.size) W W') : Below w3.heap.size w3 W' :=
  h.trans (k.below (fun j hj => by rcases hj with rfl | rfl <;> omega) h.size)

set_option maxHeartbeats 4000000 in
set_option maxRecDepth 100000 in
theorem encodeCalls (ok : Nat → Prop) (vr vk : Value) (n : Nd) (w : World) (h : NdV ok w vr vk n) (hf : n.Fair) (hs : n.Shp) (hz : n.size ≤ 1024) :
    Calls Try.prog 62 #[.agg #[.bool n.leaf, vr, vk]] w fun e w' => ∃ b, e = .returned (.tuple #[.slice (some ⟨b, 0, none⟩) 1024 1024, .int .i64 0]) ∧ w'.heap[b]? = some (.cells (pgCells (enc n)) 5 (0, 0)) ∧ w.heap.size ≤ b ∧ Below w.heap.size w w' := by
  have C1 : Kp (∀ W, Below w.heap.size w W → Calls Try.prog 70 #[.agg #[.bool n.leaf, vr, vk]] W fun e w' => e = .returned (.bool true) ∧ Below W.heap.size W w') := put fun W hb => shapedCalls ok vr vk n W (h.below hb) hf hs
  have C2 : Kp (∀ W, Below w.heap.size w W → Calls Try.prog 53 #[.agg #[.bool n.leaf, vr, vk]] W fun e w' => e = .returned (.bool true) ∧ Below W.heap.size W w') := put fun W hb => by
    have := rightCalls ok vr vk n W (h.below hb) hf hs
    rwa [decide_eq_true hz] at this
  obtain ⟨Ak, ck, rfl, k1, k2, k3⟩ := h.kids.shape
  obtain ⟨Ar, cr, rfl, r1, r2, r3⟩ := h.recs.shape
  rw [kints_len] at k1 C1 C2 ⊢
  have HR : Kp (RdE Value.string ok w (.slice Ar n.recs.length cr) n.recs) := put h.recs
  have HK : Kp (RdE (.int .i64) ok w (.slice Ak n.kids.length ck) (kints n.kids)) := put (by have := h.kids; rwa [kints_len] at this)
  have HZ := put hz
  have HS := put hs
  obtain ⟨m, hm⟩ : ∃ m, m = n.recs.length := ⟨_, rfl⟩
  obtain ⟨q, hq⟩ : ∃ q, q = n.kids.length := ⟨_, rfl⟩
  have hmq : m ≤ 256 ∧ 4 * q + 4 * m ≤ 1021 := by
    have := wt_dl n.recs
    unfold Nd.size at hz; omega
  have HM := put hm
  have HQ := put hq
  rw [← hm, ← hq] at C1 C2 ⊢
  rw [← hm] at HR r1
  rw [← hq] at HK k1
  clear k3 r3 hs hz hm hq h hf
  obtain ⟨w1, hw1⟩ : ∃ w1, w1 = w.alloc (.cells #[.bool n.leaf, .slice Ar m cr, .slice Ak q ck] 69) := ⟨_, rfl⟩
  have HB1 : Kp (Below w.heap.size w w1) := put (by rw [hw1]; exact balloc (Below.refl _ _) _)
  have hn1 : w1.heap[w.heap.size]? = some (.cells #[.bool n.leaf, .slice Ar m cr, .slice Ak q ck] 69 (0, 0)) := by rw [hw1]; exact heap_alloc_new _ _
  obtain ⟨x0, x1, x2⟩ := c3 hn1
  have HN1 := put hn1
  have HW1 := put hw1
  clear hw1 hn1
  go_enter Try.func62, Try.ntmps62
  generalize hL : n.leaf = L at *
  have HLF := put hL
  clear hL
  go_wp2_with fail
  rw [← HW1.out]
  refine (C1.out w1 HB1.out).mono ?_
  rintro e w2 ⟨rfl, hb2⟩
  have HB2 := put hb2
  have z0 := cell_at x0 hb2
  have z1 := cell_at x1 hb2
  have z2 := cell_at x2 hb2
  clear hb2 x0 x1 x2
  go_wp2_with fail
  refine (C2.out w2 (bt HB1.out HB2.out)).mono ?_
  rintro e w3 ⟨rfl, hb3⟩
  have HB3 := put hb3
  have x0 := cell_at z0 hb3
  have x1 := cell_at z1 hb3
  have x2 := cell_at z2 hb3
  clear hb3 z0 z1 z2
  have mk := run_mkPg w3
  have hsz : w.heap.size < w3.heap.size := by
    have h1 := (Array.getElem?_eq_some_iff.1 HN1.out).1
    exact Nat.lt_of_lt_of_le h1 (Nat.le_trans HB2.out.size HB3.out.size)
  have HSZ := put hsz
  have B3 : Kp (Below w.heap.size w w3) := put (bt (bt HB1.out HB2.out) HB3.out)
  have z1 := x1
  cases L with
  | true =>
    go_wp2_with fail
    obtain ⟨w4, hw4⟩ : ∃ w4, w4 = (w3.alloc (.cells ((pgCells zeroPg).setIfInBounds 0 (.int .u8 1)) 5)).alloc (.cells #[.slice (some ⟨w3.heap.size, 0, none⟩) 1024 1024, .int .i64 1] 119) := ⟨_, rfl⟩
    rw [← hw4]
    have O4 : Kp (OutR (w3.heap.size + 1) w3.heap.size w4 [1] 1023 []) := put (encStart 1 hw4)
    have B4 : Kp (Below w3.heap.size w3 w4) := put (by rw [hw4]; exact balloc (balloc (Below.refl _ _) _) _)
    clear hw4 mk
    refine (twoCalls (w3.heap.size + 1) w3.heap.size [1] 1021 m [] w4 O4.out).mono ?_
    rintro e w5 ⟨⟨v5, rfl⟩, o5, k5⟩
    have O5 := put o5
    have B5 := put (opBelow B4.out k5)
    have y1 := cell_at x1 B5.out
    have y2 := cell_at x2 B5.out
    clear o5 k5 x0 x1 x2 O4 B4
    go_wp2_with fail
    clear y1 y2
    go_loopg [6, 41] q (fun kx s6 s41 wr => ∃ (i : Nat), s41 = .int .i64 i ∧ i ≤ q ∧ q - i ≤ kx ∧ Kp (OutR (w3.heap.size + 1) w3.heap.size wr (([1] ++ be2 m) ++ kidsB (n.kids.take i)) (1021 - 4 * i) []) ∧ Kp (Below w3.heap.size w3 wr))
    case atStart => exact ⟨0, rfl, Nat.zero_le _, Nat.le_refl _, O5, B5⟩
    case round =>
      obtain ⟨i, rfl, hi, hkx, OR, BR⟩ := hrel
      by_cases hlt : i < q
      · have hlz : (i : Int) < (q : Int) := by omega
        have i0 : (0 : Int) ≤ (i : Int) := by omega
        obtain ⟨k, hk⟩ : ∃ k, n.kids[i]? = some k := ⟨_, List.getElem?_eq_getElem (by rw [← HQ.out]; exact hlt)⟩
        obtain ⟨g, o, rfl, hg, e0⟩ := (HK.out.below (bt B3.out BR.out)).get (kints_get hk)
        have OR2 : Kp (OutR (w3.heap.size + 1) w3.heap.size wr (([1] ++ be2 m) ++ kidsB (n.kids.take i)) (1021 - 4 * (i + 1) + 4) []) := put (by rw [show 1021 - 4 * (i + 1) + 4 = 1021 - 4 * i by omega]; exact OR.out)
        have HKT : Kp (([1] ++ be2 m) ++ kidsB (n.kids.take (i + 1)) = (([1] ++ be2 m) ++ kidsB (n.kids.take i)) ++ be4 k) := put (by rw [kidsB_take hk]; simp only [List.append_assoc])
        clear hk
        go_wp2_with fail
        refine (fourCalls (w3.heap.size + 1) w3.heap.size _ _ k [] wr OR2.out).mono ?_
        rintro e w6 ⟨⟨v6, rfl⟩, o6, k6⟩
        have O6 := put o6
        have B6 := put (opBelow BR.out k6)
        clear o6 k6
        go_wp2_with fail
        go_roundg (q - (i + 1))
        case measure => omega
        case rel => exact ⟨i + 1, rfl, by omega, Nat.le_refl _, put (by rw [HKT.out]; exact O6.out), B6⟩
      · have hlz : ¬ (i : Int) < (q : Int) := by omega
        obtain rfl : i = q := by omega
        have OQ : Kp (OutR (w3.heap.size + 1) w3.heap.size wr ((([1] ++ be2 m) ++ kidsB n.kids) ++ slots 1024 (n.recs.take 0)) (1021 - 4 * i - wt (n.recs.take 0)) (datas (n.recs.take 0))) := put (by have := OR.out; rw [List.take_of_length_le (by rw [← HQ.out]; exact Nat.le_refl _)] at this; simpa [slots, wt, datas] using this)
        have x1 : wr.cell? ⟨w.heap.size, 1, none⟩ = some (.slice Ar m cr) := cell_at z1 BR.out
        go_wp2_with fail
        clear x1
        go_loopg [7, 9, 52] m (fun kx s7 s9 s52 wr => ∃ (j en : Nat), s52 = .int .i64 j ∧ s7 = .int .i64 en ∧ Kp (en = endAt n.recs j) ∧ j ≤ m ∧ m - j ≤ kx ∧ Kp (OutR (w3.heap.size + 1) w3.heap.size wr ((([1] ++ be2 m) ++ kidsB n.kids) ++ slots 1024 (n.recs.take j)) (1021 - 4 * i - wt (n.recs.take j)) (datas (n.recs.take j))) ∧ Kp (Below w3.heap.size w3 wr))
        case atStart => exact ⟨0, 1024, rfl, rfl, put rfl, Nat.zero_le _, Nat.le_refl _, OQ, BR⟩
        case round =>
          obtain ⟨j, en, rfl, rfl, HEN, hj, hkx2, OS, BS⟩ := hrel
          by_cases hlt2 : j < m
          · have hlz2 : (j : Int) < (m : Int) := by omega
            have j0 : (0 : Int) ≤ (j : Int) := by omega
            obtain ⟨x, g, o, hk, rfl, hg, e0⟩ := (HR.out.below (bt B3.out BS.out)).at' (i := j) (by rw [← HM.out]; exact hlt2)
            have hx := HS.out.recs x (List.mem_of_getElem? hk)
            have hw1 := wt_take hk
            have hw2 := wt_le (l := n.recs) (j + 1)
            have hd1 := dl_take_succ hk
            have hd2 := wt_dl n.recs
            have hz := HZ.out
            have hq := HQ.out
            unfold Nd.size at hz
            have he := HEN.out
            have hl := OS.out.len
            rw [datas_len] at hl
            unfold endAt at he
            obtain ⟨z, hzz⟩ : ∃ z, z = 1021 - 4 * i - wt (n.recs.take (j + 1)) := ⟨_, rfl⟩
            have HKT : Kp (((([1] ++ be2 m) ++ kidsB n.kids) ++ slots 1024 (n.recs.take j) ++ be2 (en - x.size)) ++ be2 x.size = (([1] ++ be2 m) ++ kidsB n.kids) ++ slots 1024 (n.recs.take (j + 1))) := put (by rw [slots_take hk, show endAt n.recs (j + 1) = en - x.size by unfold endAt; omega]; simp only [List.append_assoc])
            have HDT : Kp (datas (n.recs.take (j + 1)) = x.data.toList ++ datas (n.recs.take j)) := put (datas_take hk)
            have OS2 : Kp (OutR (w3.heap.size + 1) w3.heap.size wr ((([1] ++ be2 m) ++ kidsB n.kids) ++ slots 1024 (n.recs.take j)) (z + 2 + 2 + x.size) (datas (n.recs.take j))) := put (by rw [show z + 2 + 2 + x.size = 1021 - 4 * i - wt (n.recs.take j) by omega]; exact OS.out)
            have HEN2 : Kp (en - x.size = endAt n.recs (j + 1)) := put (by unfold endAt; omega)
            have HZ2 := put hzz
            obtain ⟨en', hen⟩ : ∃ e, e = en - x.size := ⟨_, rfl⟩
            have HOF : Kp (en' = (((([1] ++ be2 m) ++ kidsB n.kids) ++ slots 1024 (n.recs.take j)).length + (z + 2 + 2))) := put (by omega)
            rw [← hen] at HKT HEN2
            have f1 : (en : Int) - (x.size : Int) = (en' : Int) := by omega
            have f2 : ¬ 1024 = en' := by omega
            have f3 : (0 : Int) ≤ (en' : Int) := by omega
            have f4 : (en' : Int) ≤ 1024 := by omega
            have f6 : (x.size : Int) ≤ 1024 := by omega
            have HF5 : Kp (x.size ≤ 1024 - en') := put (by omega)
            have p1 : w3.heap.size < wr.heap.size := (Array.getElem?_eq_some_iff.1 OS2.out.p).1
            obtain ⟨p2, p3⟩ := c2 OS2.out.o
            clear hk hx hw1 hw2 hd1 hd2 hz hq he hl hzz hen
            go_wp2_with (first | (refine wpList_copyPg' rfl _ _ rfl (w3.heap.size + 1) w3.heap.size (z + 2 + 2) _ _ x _ _ en' HOF.out rfl rfl HF5.out OS2.out ?_; intro w6 o6 k6; have O6 := put o6; have B6 := put (opBelow BS.out k6); clear o6 k6))
            clear p1 p2 p3 e0 f1 f2 f3 f4
            refine (twoCalls (w3.heap.size + 1) w3.heap.size _ _ en' _ w6 O6.out).mono ?_
            rintro e w7 ⟨⟨v7, rfl⟩, o7, k7⟩
            have O7 := put o7
            have B7 := put (opBelow B6.out k7)
            clear o7 k7
            go_wp2_with fail
            refine (twoCalls (w3.heap.size + 1) w3.heap.size _ _ x.size _ w7 O7.out).mono ?_
            rintro e w8 ⟨⟨v8, rfl⟩, o8, k8⟩
            have O8 := put o8
            have B8 := put (opBelow B7.out k8)
            clear o8 k8
            go_wp2_with fail
            go_roundg (m - (j + 1))
            case measure => omega
            case rel => exact ⟨j + 1, en', rfl, rfl, HEN2, by omega, Nat.le_refl _, put (by rw [← HZ2.out, ← HKT.out, HDT.out]; exact O8.out), B8⟩
          · have hlz2 : ¬ (j : Int) < (m : Int) := by omega
            obtain rfl : j = m := by omega
            have HE : Kp (pgu ((([1] ++ be2 j) ++ kidsB n.kids) ++ slots 1024 (n.recs.take j)) (1021 - 4 * i - wt (n.recs.take j)) (datas (n.recs.take j)) = enc n) := put (by rw [List.take_of_length_le (by rw [← HM.out]; exact Nat.le_refl _)]; unfold pgu enc Nd.head; rw [HLF.out, ← HM.out, HQ.out, show 1021 - 4 * n.kids.length - wt n.recs = 1024 - n.size by unfold Nd.size; omega]; simp)
            obtain ⟨p2, p3⟩ := c2 OS.out.o
            go_wp2_with fail
            go_ret2
            refine ⟨_, rfl, ?_, ?_, bt B3.out BS.out⟩
            · rw [← HE.out]; exact OS.out.p
            · have := HSZ.out; omega
  | false =>
    go_wp2_with fail
    obtain ⟨w4, hw4⟩ : ∃ w4, w4 = (w3.alloc (.cells ((pgCells zeroPg).setIfInBounds 0 (.int .u8 2)) 5)).alloc (.cells #[.slice (some ⟨w3.heap.size, 0, none⟩) 1024 1024, .int .i64 1] 119) := ⟨_, rfl⟩
    rw [← hw4]
    have O4 : Kp (OutR (w3.heap.size + 1) w3.heap.size w4 [2] 1023 []) := put (encStart 2 hw4)
    have B4 : Kp (Below w3.heap.size w3 w4) := put (by rw [hw4]; exact balloc (balloc (Below.refl _ _) _) _)
    clear hw4 mk
    refine (twoCalls (w3.heap.size + 1) w3.heap.size [2] 1021 m [] w4 O4.out).mono ?_
    rintro e w5 ⟨⟨v5, rfl⟩, o5, k5⟩
    have O5 := put o5
    have B5 := put (opBelow B4.out k5)
    have y1 := cell_at x1 B5.out
    have y2 := cell_at x2 B5.out
    clear o5 k5 x0 x1 x2 O4 B4
    go_wp2_with fail
    clear y1 y2
    go_loopg [6, 41] q (fun kx s6 s41 wr => ∃ (i : Nat), s41 = .int .i64 i ∧ i ≤ q ∧ q - i ≤ kx ∧ Kp (OutR (w3.heap.size + 1) w3.heap.size wr (([2] ++ be2 m) ++ kidsB (n.kids.take i)) (1021 - 4 * i) []) ∧ Kp (Below w3.heap.size w3 wr))
    case atStart => exact ⟨0, rfl, Nat.zero_le _, Nat.le_refl _, O5, B5⟩
    case round =>
      obtain ⟨i, rfl, hi, hkx, OR, BR⟩ := hrel
      by_cases hlt : i < q
      · have hlz : (i : Int) < (q : Int) := by omega
        have i0 : (0 : Int) ≤ (i : Int) := by omega
        obtain ⟨k, hk⟩ : ∃ k, n.kids[i]? = some k := ⟨_, List.getElem?_eq_getElem (by rw [← HQ.out]; exact hlt)⟩
        obtain ⟨g, o, rfl, hg, e0⟩ := (HK.out.below (bt B3.out BR.out)).get (kints_get hk)
        have OR2 : Kp (OutR (w3.heap.size + 1) w3.heap.size wr (([2] ++ be2 m) ++ kidsB (n.kids.take i)) (1021 - 4 * (i + 1) + 4) []) := put (by rw [show 1021 - 4 * (i + 1) + 4 = 1021 - 4 * i by omega]; exact OR.out)
        have HKT : Kp (([2] ++ be2 m) ++ kidsB (n.kids.take (i + 1)) = (([2] ++ be2 m) ++ kidsB (n.kids.take i)) ++ be4 k) := put (by rw [kidsB_take hk]; simp only [List.append_assoc])
        clear hk
        go_wp2_with fail
        refine (fourCalls (w3.heap.size + 1) w3.heap.size _ _ k [] wr OR2.out).mono ?_
        rintro e w6 ⟨⟨v6, rfl⟩, o6, k6⟩
        have O6 := put o6
        have B6 := put (opBelow BR.out k6)
        clear o6 k6
        go_wp2_with fail
        go_roundg (q - (i + 1))
        case measure => omega
        case rel => exact ⟨i + 1, rfl, by omega, Nat.le_refl _, put (by rw [HKT.out]; exact O6.out), B6⟩
      · have hlz : ¬ (i : Int) < (q : Int) := by omega
        obtain rfl : i = q := by omega
        have OQ : Kp (OutR (w3.heap.size + 1) w3.heap.size wr ((([2] ++ be2 m) ++ kidsB n.kids) ++ slots 1024 (n.recs.take 0)) (1021 - 4 * i - wt (n.recs.take 0)) (datas (n.recs.take 0))) := put (by have := OR.out; rw [List.take_of_length_le (by rw [← HQ.out]; exact Nat.le_refl _)] at this; simpa [slots, wt, datas] using this)
        have x1 : wr.cell? ⟨w.heap.size, 1, none⟩ = some (.slice Ar m cr) := cell_at z1 BR.out
        go_wp2_with fail
        clear x1
        go_loopg [7, 9, 52] m (fun kx s7 s9 s52 wr => ∃ (j en : Nat), s52 = .int .i64 j ∧ s7 = .int .i64 en ∧ Kp (en = endAt n.recs j) ∧ j ≤ m ∧ m - j ≤ kx ∧ Kp (OutR (w3.heap.size + 1) w3.heap.size wr ((([2] ++ be2 m) ++ kidsB n.kids) ++ slots 1024 (n.recs.take j)) (1021 - 4 * i - wt (n.recs.take j)) (datas (n.recs.take j))) ∧ Kp (Below w3.heap.size w3 wr))
        case atStart => exact ⟨0, 1024, rfl, rfl, put rfl, Nat.zero_le _, Nat.le_refl _, OQ, BR⟩
        case round =>
          obtain ⟨j, en, rfl, rfl, HEN, hj, hkx2, OS, BS⟩ := hrel
          by_cases hlt2 : j < m
          · have hlz2 : (j : Int) < (m : Int) := by omega
            have j0 : (0 : Int) ≤ (j : Int) := by omega
            obtain ⟨x, g, o, hk, rfl, hg, e0⟩ := (HR.out.below (bt B3.out BS.out)).at' (i := j) (by rw [← HM.out]; exact hlt2)
            have hx := HS.out.recs x (List.mem_of_getElem? hk)
            have hw1 := wt_take hk
            have hw2 := wt_le (l := n.recs) (j + 1)
            have hd1 := dl_take_succ hk
            have hd2 := wt_dl n.recs
            have hz := HZ.out
            have hq := HQ.out
            unfold Nd.size at hz
            have he := HEN.out
            have hl := OS.out.len
            rw [datas_len] at hl
            unfold endAt at he
            obtain ⟨z, hzz⟩ : ∃ z, z = 1021 - 4 * i - wt (n.recs.take (j + 1)) := ⟨_, rfl⟩
            have HKT : Kp (((([2] ++ be2 m) ++ kidsB n.kids) ++ slots 1024 (n.recs.take j) ++ be2 (en - x.size)) ++ be2 x.size = (([2] ++ be2 m) ++ kidsB n.kids) ++ slots 1024 (n.recs.take (j + 1))) := put (by rw [slots_take hk, show endAt n.recs (j + 1) = en - x.size by unfold endAt; omega]; simp only [List.append_assoc])
            have HDT : Kp (datas (n.recs.take (j + 1)) = x.data.toList ++ datas (n.recs.take j)) := put (datas_take hk)
            have OS2 : Kp (OutR (w3.heap.size + 1) w3.heap.size wr ((([2] ++ be2 m) ++ kidsB n.kids) ++ slots 1024 (n.recs.take j)) (z + 2 + 2 + x.size) (datas (n.recs.take j))) := put (by rw [show z + 2 + 2 + x.size = 1021 - 4 * i - wt (n.recs.take j) by omega]; exact OS.out)
            have HEN2 : Kp (en - x.size = endAt n.recs (j + 1)) := put (by unfold endAt; omega)
            have HZ2 := put hzz
            obtain ⟨en', hen⟩ : ∃ e, e = en - x.size := ⟨_, rfl⟩
            have HOF : Kp (en' = (((([2] ++ be2 m) ++ kidsB n.kids) ++ slots 1024 (n.recs.take j)).length + (z + 2 + 2))) := put (by omega)
            rw [← hen] at HKT HEN2
            have f1 : (en : Int) - (x.size : Int) = (en' : Int) := by omega
            have f2 : ¬ 1024 = en' := by omega
            have f3 : (0 : Int) ≤ (en' : Int) := by omega
            have f4 : (en' : Int) ≤ 1024 := by omega
            have f6 : (x.size : Int) ≤ 1024 := by omega
            have HF5 : Kp (x.size ≤ 1024 - en') := put (by omega)
            have p1 : w3.heap.size < wr.heap.size := (Array.getElem?_eq_some_iff.1 OS2.out.p).1
            obtain ⟨p2, p3⟩ := c2 OS2.out.o
            clear hk hx hw1 hw2 hd1 hd2 hz hq he hl hzz hen
            go_wp2_with (first | (refine wpList_copyPg' rfl _ _ rfl (w3.heap.size + 1) w3.heap.size (z + 2 + 2) _ _ x _ _ en' HOF.out rfl rfl HF5.out OS2.out ?_; intro w6 o6 k6; have O6 := put o6; have B6 := put (opBelow BS.out k6); clear o6 k6))
            clear p1 p2 p3 e0 f1 f2 f3 f4
            refine (twoCalls (w3.heap.size + 1) w3.heap.size _ _ en' _ w6 O6.out).mono ?_
            rintro e w7 ⟨⟨v7, rfl⟩, o7, k7⟩
            have O7 := put o7
            have B7 := put (opBelow B6.out k7)
            clear o7 k7
            go_wp2_with fail
            refine (twoCalls (w3.heap.size + 1) w3.heap.size _ _ x.size _ w7 O7.out).mono ?_
            rintro e w8 ⟨⟨v8, rfl⟩, o8, k8⟩
            have O8 := put o8
            have B8 := put (opBelow B7.out k8)
            clear o8 k8
            go_wp2_with fail
            go_roundg (m - (j + 1))
            case measure => omega
            case rel => exact ⟨j + 1, en', rfl, rfl, HEN2, by omega, Nat.le_refl _, put (by rw [← HZ2.out, ← HKT.out, HDT.out]; exact O8.out), B8⟩
          · have hlz2 : ¬ (j : Int) < (m : Int) := by omega
            obtain rfl : j = m := by omega
            have HE : Kp (pgu ((([2] ++ be2 j) ++ kidsB n.kids) ++ slots 1024 (n.recs.take j)) (1021 - 4 * i - wt (n.recs.take j)) (datas (n.recs.take j)) = enc n) := put (by rw [List.take_of_length_le (by rw [← HM.out]; exact Nat.le_refl _)]; unfold pgu enc Nd.head; rw [HLF.out, ← HM.out, HQ.out, show 1021 - 4 * n.kids.length - wt n.recs = 1024 - n.size by unfold Nd.size; omega]; simp)
            obtain ⟨p2, p3⟩ := c2 OS.out.o
            go_wp2_with fail
            go_ret2
            refine ⟨_, rfl, ?_, ?_, bt B3.out BS.out⟩
            · rw [← HE.out]; exact OS.out.p
            · have := HSZ.out; omega
end Go.Proofs.Ytcpahknlabnnbaa.T

namespace Go.Proofs.Ytcpahknlabnnbaa.T
open Go Go.RowKit Go.Sort Go.Proofs.Ytcpahknlabnnbaa.Mem

/-- It gave up with a code. -/
def stopE (c : Int) : Ending := .panicked [{ v := .iface 65 (.agg #[.int .i64 c, .int .i64 0]), recovered := false }]

set_option maxHeartbeats 4000000 in
set_option maxRecDepth 100000 in
theorem stopNone  (w : World) : Calls Try.prog 60 #[.int .i64 0, .int .i64 0] w fun e w' => e = .returned (.tuple #[]) ∧ w' = w := by
  go_enter Try.func60, Try.ntmps60
  go_wp2_with fail
  go_end0
  exact ⟨rfl, rfl⟩

set_option maxHeartbeats 4000000 in
set_option maxRecDepth 100000 in
theorem stopSome (c : Int) (w : World) (hc : c ≠ 0) : Calls Try.prog 60 #[.int .i64 c, .int .i64 0] w fun e w' => e = stopE c ∧ w' = w := by
  have h1 : (c != 0) = true := by simp [hc]
  clear hc
  go_enter Try.func60, Try.ntmps60
  go_wp2_with fail
  exact ⟨rfl, rfl, rfl⟩

set_option maxHeartbeats 4000000 in
set_option maxRecDepth 100000 in
theorem checkNone  (w : World) : Calls Try.prog 41 #[.int .i64 0] w fun e w' => e = .returned (.tuple #[]) ∧ w' = w := by
  go_enter Try.func41, Try.ntmps41
  go_wp2_with fail
  refine (stopNone _).mono ?_
  rintro e w1 ⟨rfl, rfl⟩
  go_wp2_with fail
  go_end0
  exact ⟨rfl, rfl⟩

set_option maxHeartbeats 4000000 in
set_option maxRecDepth 100000 in
theorem checkSome (c : Int) (w : World) (hc : c ≠ 0) : Calls Try.prog 41 #[.int .i64 c] w fun e w' => e = stopE c ∧ w' = w := by
  have HC := put hc
  clear hc
  go_enter Try.func41, Try.ntmps41
  go_wp2_with fail
  refine (stopSome _ _ HC.out).mono ?_
  rintro e w1 ⟨rfl, rfl⟩
  exact ⟨rfl, rfl, rfl⟩

def faultV (c : Int) : Value := .iface 65 (.agg #[.int .i64 c, .int .i64 0])

set_option maxHeartbeats 4000000 in
set_option maxRecDepth 100000 in
theorem catch_panicking (X : Nat) (c : Int) (older : List PanicEntry) (w : World) (a0 a1 : Value) (hx : w.heap[X]? = some (.cells #[a0, a1] 65 (0, 0))) :
    CallsD Try.prog 43 #[.pointer (some ⟨X, 0, none⟩)] (.panicking ({ v := faultV c, recovered := false } :: older)) w fun e u' w' =>
      e = .returned (.tuple #[]) ∧ u' = .panicking ({ v := faultV c, recovered := true } :: older) ∧ w' = (((w.setCell ⟨X, 0, none⟩ (.int .i64 c)).setCell ⟨X, 1, none⟩ (.int .i64 0)).alloc (.cells #[.int .i64 c, .int .i64 0] 65)) := by
  have hX : X < w.heap.size := (Array.getElem?_eq_some_iff.1 hx).1
  refine callsD_of_wpS Try.func43 rfl fun c₀ cs hu => ?_
  apply wpS_seq
  apply wpS_region
  simp [wpOpsS, go_sem, recoverD, hu, Try.ntmps43, Exit.thenS, faultV]
  have hta : ∀ (t : TypeId) (w : World), (Instr.typeAssert (.iface 65 (.agg #[.int .i64 c, .int .i64 0])) t 65 true).run Try.prog w = .ok (.tuple #[.agg #[.int .i64 c, .int .i64 0], .bool true]) w := fun t w => by rfl
  have y0 : w.cell? ⟨X, 0, none⟩ = some a0 := by simp [World.cell?, hx]
  have y1 : w.cell? ⟨X, 1, none⟩ = some a1 := by simp [World.cell?, hx]
  have f0 : w.frozen? ⟨X, 0, none⟩ = false := by simp [World.frozen?, hx]
  have f1 : w.frozen? ⟨X, 1, none⟩ = false := by simp [World.frozen?, hx]
  refine wpS_of_wp ?_
  show Code.wp _ _ _ { tmps := #[.pointer (some ⟨X, 0, none⟩), faultV c, undef, undef, faultV c, undef, undef, undef, undef, undef, undef, undef, undef, undef, undef, undef], defers := [] } w
  unfold faultV
  go_wp2_with fail
  exact ⟨rfl, _, rfl, _, by simp [results, Try.results43], rfl, rfl, rfl⟩

set_option maxHeartbeats 4000000 in
set_option maxRecDepth 100000 in
theorem catch_idle (X : Nat) (w : World) :
    CallsD Try.prog 43 #[.pointer (some ⟨X, 0, none⟩)] .returning w fun e u' w' => e = .returned (.tuple #[]) ∧ u' = .returning ∧ w' = w := by
  refine callsD_of_wpS Try.func43 rfl fun c₀ cs hu => ?_
  apply wpS_seq
  apply wpS_region
  simp [wpOpsS, go_sem, recoverD, hu, Try.ntmps43, Exit.thenS]
  refine wpS_of_wp ?_
  go_wp2_with fail
  cases c₀
  simp_all [bodyPostS, results, Try.results43]
/-- How a function ends that may stop. -/
def endC (c : Int) : Ending := if c = 0 then .returned (.tuple #[]) else stopE c

set_option maxHeartbeats 4000000 in
set_option maxRecDepth 100000 in
theorem catchCalls (g : Nat) (cb : Array Value) (eg : ∀ w, (callFunc g cb).run Try.prog w = .ok (.enter g cb) w) (w : World) (S : Int → World → Prop)
    (hf : Calls Try.prog g cb (w.alloc (.cells #[.int .i64 0, .int .i64 0] 65)) fun e w' => ∃ c, e = endC c ∧ S c w' ∧ w'.heap[w.heap.size]? = some (.cells #[.int .i64 0, .int .i64 0] 65 (0, 0)))
    (hS1 : ∀ c w' o, S c w' → S c (w'.alloc o)) (hS2 : ∀ c w' j u, S c w' → S c (w'.setCell ⟨w.heap.size, j, none⟩ u)) :
    Calls Try.prog 25 #[.func (.func g) #[] cb] w fun e w' => ∃ c, e = .returned (.agg #[.int .i64 c, .int .i64 0]) ∧ S c w' := by
  have hmf : ∀ (fn : Fn) (first cap : Array Value) (w : World), (Instr.makeFunc fn first cap).run Try.prog w = .ok (.func fn first cap) w := fun _ _ _ _ => rfl
  have HF := put hf
  have H1 := put hS1
  have H2 := put hS2
  clear hf hS1 hS2
  go_enter_defers Try.func25, Try.ntmps25
  go_wp2_with fail
  refine HF.out.mono ?_
  rintro e w5 ⟨c, rfl, hS, hx⟩
  have HS := put hS
  have HX := put hx
  clear hS
  by_cases hc : c = 0
  · subst hc
    have he : endC 0 = .returned (.tuple #[]) := rfl
    rw [he]
    have y0 : w5.cell? ⟨w.heap.size, 0, none⟩ = some (.int .i64 0) := by simp [World.cell?, hx]
    have y1 : w5.cell? ⟨w.heap.size, 1, none⟩ = some (.int .i64 0) := by simp [World.cell?, hx]
    have f0 : w5.frozen? ⟨w.heap.size, 0, none⟩ = false := by simp [World.frozen?, hx]
    have f1 : w5.frozen? ⟨w.heap.size, 1, none⟩ = false := by simp [World.frozen?, hx]
    clear he hx
    go_wp2_with fail
    refine leaves_cons (f := 43) (args := #[.pointer (some ⟨w.heap.size, 0, none⟩)]) (by simp) (by simp [go_sem]) ?_
    refine (catch_idle w.heap.size _).mono ?_
    rintro e u' w'' ⟨rfl, rfl, rfl⟩
    have s0 : ((w5.setCell ⟨w.heap.size, 0, none⟩ (.int .i64 0)).setCell ⟨w.heap.size, 1, none⟩ (.int .i64 0)).cell? ⟨w.heap.size, 0, none⟩ = some (.int .i64 0) := by simp [World.cell?, World.setCell, Array.getElem?_modify, HX.out]
    have s1 : ((w5.setCell ⟨w.heap.size, 0, none⟩ (.int .i64 0)).setCell ⟨w.heap.size, 1, none⟩ (.int .i64 0)).cell? ⟨w.heap.size, 1, none⟩ = some (.int .i64 0) := by simp [World.cell?, World.setCell, Array.getElem?_modify, HX.out]
    have hS9 := H2.out _ _ 1 (.int .i64 0) (H2.out _ _ 0 (.int .i64 0) HS.out)
    simp [Leaves, settle, results, Try.results25, go_sem, s0, s1]
    exact hS9
  · have he : endC c = stopE c := by rw [endC, if_neg hc]
    rw [he]
    clear he hx
    unfold stopE
    refine leaves_cons (f := 43) (args := #[.pointer (some ⟨w.heap.size, 0, none⟩)]) (by simp) (by simp [go_sem]) ?_
    refine (catch_panicking w.heap.size c [] w5 _ _ HX.out).mono ?_
    rintro e u' w'' ⟨rfl, rfl, rfl⟩
    have hXl : w.heap.size < w5.heap.size := (Array.getElem?_eq_some_iff.1 HX.out).1
    have hh : (((w5.setCell ⟨w.heap.size, 0, none⟩ (.int .i64 c)).setCell ⟨w.heap.size, 1, none⟩ (.int .i64 0)).alloc (.cells #[.int .i64 c, .int .i64 0] 65)).heap[w.heap.size]? = some (.cells #[.int .i64 c, .int .i64 0] 65 (0, 0)) := by
      refine (Below.heap_alloc _ _ _ ?_).trans ?_
      · simpa using hXl
      · simp [World.setCell, Array.getElem?_modify, HX.out]
    obtain ⟨s0, s1⟩ := c2 hh
    have hS9 := H1.out _ _ (.cells #[.int .i64 c, .int .i64 0] 65) (H2.out _ _ 1 (.int .i64 0) (H2.out _ _ 0 (.int .i64 c) HS.out))
    simp [Leaves, settle, results, Try.results25, go_sem, s0, s1]
    exact hS9
end Go.Proofs.Ytcpahknlabnnbaa.T

namespace Go.Proofs.Ytcpahknlabnnbaa.T
open Go Go.RowKit Go.Sort Go.Proofs.Ytcpahknlabnnbaa.Mem

/-- A node in the memory of the call's own. -/
structure NdO (base : Nat) (w : World) (vr vk : Value) (n : Nd) : Prop where
  r : Own tStr 9 no w base vr n.recs
  k : Own (tInt .i64) 3 no w base vk (kints n.kids)
section
variable {base : Nat} {w w' : World} {vr vk : Value} {n : Nd}
theorem NdO.below (h : NdO base w vr vk n) (hb : Below w.heap.size w w') : NdO base w' vr vk n := ⟨h.r.below hb, h.k.below hb⟩
theorem NdO.lower {b2 : Nat} (h : NdO base w vr vk n) (hb : b2 ≤ base) : NdO b2 w vr vk n := ⟨h.r.lower hb, h.k.lower hb⟩
theorem NdO.far (h : NdO base w vr vk n) {X : Nat} (hX : X < base) (j : Nat) (u : Value) : NdO base (w.setCell ⟨X, j, none⟩ u) vr vk n :=
  ⟨h.r.far (fun k hk e => by have h1 := (h.r.lt k hk).1; have h2 : k = X := e; omega) (fun _ hk => hk.elim) _, h.k.far (fun k hk e => by have h1 := (h.k.lt k hk).1; have h2 : k = X := e; omega) (fun _ hk => hk.elim) _⟩
theorem NdO.v (h : NdO base w vr vk n) : NdV (fun k => base ≤ k) w vr vk n :=
  ⟨(own_rd strD rfl h.r).mono fun k hk => (h.r.lt k hk).1, (own_rd intD rfl h.k).mono fun k hk => (h.k.lt k hk).1⟩
theorem NdO.form (h : NdO base w vr vk n) : (∃ A c, vr = .slice A n.recs.length c) ∧ ∃ A c, vk = .slice A n.kids.length c := by
  obtain ⟨A, c, e, _⟩ := h.r.form
  obtain ⟨A2, c2, e2, _⟩ := h.k.form
  rw [kints_len] at e2
  exact ⟨⟨A, c, e⟩, ⟨A2, c2, e2⟩⟩
end
/-- What Decode's closure leaves. -/
structure DecS (N X : Nat) (n : Nd) (w2 : World) (c : Int) (w' : World) : Prop where
  c0 : c = 0
  k : Kps (fun k => k = N) w2 w'
  n : ∃ vr vk, w'.heap[N]? = some (.cells #[.bool n.leaf, vr, vk] 69 (0, 0)) ∧ NdO (X + 1) w' vr vk n

set_option maxHeartbeats 4000000 in
set_option maxRecDepth 100000 in
theorem decodeFun (ok : Nat → Prop) (A : Option Addr) (c B N : Nat) (n : Nd) (w : World) (h : RdE u8 ok w (.slice A 1024 c) (enc n)) (hs : n.Shp) (hz : n.size ≤ 1024)
    (hB : w.heap[B]? = some (.cells #[.slice A 1024 c] 96 (0, 0))) (hN : w.heap[N]? = some (.cells #[.bool false, .slice none 0 0, .slice none 0 0] 69 (0, 0))) :
    Calls Try.prog 76 #[.pointer (some ⟨B, 0, none⟩), .pointer (some ⟨N, 0, none⟩)] w fun e w' => e = .returned (.tuple #[]) ∧ Kps (fun k => k = N) w w' ∧ ∃ vr vk, w'.heap[N]? = some (.cells #[.bool n.leaf, vr, vk] 69 (0, 0)) ∧ NdO w.heap.size w' vr vk n := by
  have C := put (readCalls ok A c n w h hs hz)
  have x0 : w.cell? ⟨B, 0, none⟩ = some (.slice A 1024 c) := by simp [World.cell?, hB]
  have HN := put hN
  have hNl := (Array.getElem?_eq_some_iff.1 hN).1
  clear h hs hz hB hN
  go_enter Try.func76, Try.ntmps76
  go_wp2_with fail
  refine C.out.mono ?_
  rintro e w2 ⟨vr, vk, rfl, hr, hk, hb⟩
  have HO : Kp (NdO w.heap.size w2 vr vk n) := put ⟨hr, hk⟩
  obtain ⟨⟨A1, c1, rfl⟩, ⟨A2, c2', rfl⟩⟩ := HO.out.form
  have HB := put hb
  have hn2 := (hb.block N hNl).trans HN.out
  obtain ⟨y0, y1, y2⟩ := c3 hn2
  have f0 : w2.frozen? ⟨N, 0, none⟩ = false := by simp [World.frozen?, hn2]
  have f1 : w2.frozen? ⟨N, 1, none⟩ = false := by simp [World.frozen?, hn2]
  have f2 : w2.frozen? ⟨N, 2, none⟩ = false := by simp [World.frozen?, hn2]
  have HN2 := put hn2
  clear hr hk hb hn2
  go_wp2_with fail
  refine bodyPost_end (results_none rfl _ _ _) rfl ⟨rfl, (((below_kps HB.out (fun k => k = N)).set (.inl rfl) _ _).set (.inl rfl) _ _).set (.inl rfl) _ _, _, _, (setCell_heap (setCell_heap (setCell_heap HN2.out 0 _) 1 _) 2 _).trans rfl, ((HO.out.far hNl 0 _).far hNl 1 _).far hNl 2 _⟩
theorem results_ct {fn : Func} {p u : Tmp} {ty : TypeId} (h : fn.results = #[.cell p ty, .tmp u]) (tmps : Array Value) (w : World) (g : Nat) (v : Value)
    (hp : tmps.getD p undef = .pointer (some ⟨g, 0, none⟩)) (hl : (loadVar ty ⟨g, 0, none⟩).run Try.prog w = .ok v w) :
    (results fn tmps).run Try.prog w = .ok (.tuple #[v, tmps.getD u undef]) w := by
  rw [results_cell_tmp h, hp]
  simp [asAddr, Result.andThen, hl]
theorem pg_cell {w : World} {b : Nat} {bs : List UInt8} {t : TypeId} (h : w.heap[b]? = some (.cells (pgCells bs) t (0, 0))) {i : Nat} {x : UInt8} (hx : bs[i]? = some x) : w.cell? ⟨b, i, none⟩ = some (u8 x) := by
  obtain ⟨hi, rfl⟩ := List.getElem?_eq_some_iff.1 hx
  simp [World.cell?, h, pgCells, hi]
theorem wholeBytes {w : World} {g o c : Nat} {bs : List UInt8} (hy : ∀ (i : Nat) (x : UInt8), bs[i]? = some x → w.cell? ⟨g, o + i, none⟩ = some (u8 x)) (hl : bs.length = 1024) : (convert 96 9 (.slice (some ⟨g, o, none⟩) 1024 c)).run Try.prog w = .ok (.string ⟨bs.toArray⟩) w := by
  have := run_convert_bytes_back (P := Try.prog) w 96 9 5 ⟨g, o, none⟩ c bs Try.underlying96 Try.underlying5 Try.underlying9 (fun j hj => by
    have := hy j _ (List.getElem?_eq_getElem hj)
    rw [show ((⟨g, o, none⟩ : Addr).add j) = ⟨g, o + j, none⟩ from by simp [Addr.add], this]
    rfl)
  rw [hl] at this
  exact this

set_option maxHeartbeats 4000000 in
set_option maxRecDepth 100000 in
theorem decodeCalls (ok : Nat → Prop) (A : Option Addr) (c : Nat) (n : Nd) (w : World) (h : RdE u8 ok w (.slice A 1024 c) (enc n)) (hf : n.Fair) (hs : n.Shp) (hz : n.size ≤ 1024) :
    Calls Try.prog 59 #[.slice A 1024 c] w fun e w' => ∃ vr vk, e = .returned (.tuple #[.agg #[.bool n.leaf, vr, vk], .int .i64 0]) ∧ NdO w.heap.size w' vr vk n ∧ Below w.heap.size w w' := by
  obtain ⟨w1, hw1⟩ : ∃ w1, w1 = w.alloc (.cells #[.slice A 1024 c] 96) := ⟨_, rfl⟩
  obtain ⟨w2, hw2⟩ : ∃ w2, w2 = w1.alloc (.cells #[.bool false, .slice none 0 0, .slice none 0 0] 69) := ⟨_, rfl⟩
  have s1 : w1.heap.size = w.heap.size + 1 := by rw [hw1, alloc_size]
  have s2 : w2.heap.size = w.heap.size + 1 + 1 := by rw [hw2, alloc_size, s1]
  have B2 : Kp (Below w.heap.size w w2) := put (by rw [hw2, hw1]; exact balloc (balloc (Below.refl _ _) _) _)
  have hb2 : w2.heap[w.heap.size]? = some (.cells #[.slice A 1024 c] 96 (0, 0)) := by rw [hw2, hag, if_neg (by omega), hw1]; exact heap_alloc_new _ _
  have hn2 : w2.heap[w.heap.size + 1]? = some (.cells #[.bool false, .slice none 0 0, .slice none 0 0] 69 (0, 0)) := by rw [hw2, hag, if_pos s1.symm]
  have HD : Kp (Calls Try.prog 25 #[.func (.func 76) #[] #[.pointer (some ⟨w.heap.size, 0, none⟩), .pointer (some ⟨w.heap.size + 1, 0, none⟩)]] w2 fun e w' => ∃ c, e = .returned (.agg #[.int .i64 c, .int .i64 0]) ∧ DecS (w.heap.size + 1) w2.heap.size n w2 c w') := put (by
    have ha : Below w2.heap.size w2 (w2.alloc (.cells #[.int .i64 0, .int .i64 0] 65)) := balloc (Below.refl _ _) _
    refine catchCalls 76 _ (enters_of Try.func76 (by kernel_rfl) rfl _) w2 (DecS (w.heap.size + 1) w2.heap.size n w2) ?_ ?_ ?_
    · refine (decodeFun ok A c w.heap.size (w.heap.size + 1) n _ (h.below (bt B2.out ha)) hs hz ((ha.block _ (by omega)).trans hb2) ((ha.block _ (by omega)).trans hn2)).mono ?_
      rintro e w' ⟨rfl, k, vr, vk, h1, h2⟩
      refine ⟨0, rfl, ⟨rfl, ((Kps.refl _ w2).alloc _).trans k, vr, vk, h1, by rw [alloc_size] at h2; exact h2⟩, ?_⟩
      exact (k.block _ (by rw [alloc_size]; omega) (by omega)).trans (heap_alloc_new _ _)
    · rintro c w' o ⟨h1, h2, vr, vk, h3, h4⟩
      exact ⟨h1, h2.alloc o, vr, vk, (Below.heap_alloc _ _ _ (Array.getElem?_eq_some_iff.1 h3).1).trans h3, h4.below (balloc (Below.refl _ _) _)⟩
    · rintro c w' j u ⟨h1, h2, vr, vk, h3, h4⟩
      exact ⟨h1, h2.set (.inr (Nat.le_refl _)) j u, vr, vk, (Below.heap_setCell _ ⟨w2.heap.size, j, none⟩ _ _ (show w.heap.size + 1 ≠ w2.heap.size by omega)).trans h3, h4.far (Nat.lt_succ_self _) j u⟩)
  have hl := enc_len n hz
  obtain ⟨g, o, rfl, hg1, hg, hy⟩ := h.atk (by omega)
  have HY := put hy
  have HL := put hl
  have HF := put hf
  have HS := put hs
  have HZ := put hz
  have HB2 := put hb2
  have HN2 := put hn2
  have S2 := put s2
  have HW : Kp (w2 = (w.alloc (.cells #[.slice (some ⟨g, o, none⟩) 1024 c] 96)).alloc (.cells #[.bool false, .slice none 0 0, .slice none 0 0] 69)) := put (by rw [hw2, hw1])
  clear h hy hl hf hs hz hb2 hn2 s1 s2 hw1 hw2 hg1
  clear w1
  go_enter Try.func59, Try.ntmps59
  go_wp2_with fail
  rw [← HW.out]
  refine HD.out.mono ?_
  rintro e w3 ⟨c', rfl, ⟨rfl, k3, vr, vk, hn3, ho3⟩⟩
  obtain ⟨⟨A1, c1, rfl⟩, ⟨A2, c2', rfl⟩⟩ := ho3.form
  have HN3 := put hn3
  have B3 : Kp (Below w.heap.size w w3) := put (B2.out.trans (k3.below (fun k hk => by omega) B2.out.size))
  have O3 : Kp (NdO (w.heap.size + 1 + 1) w3 (.slice A1 n.recs.length c1) (.slice A2 n.kids.length c2') n) := put (ho3.lower (by have := S2.out; omega))
  have b3 : w3.cell? ⟨w.heap.size, 0, none⟩ = some (.slice (some ⟨g, o, none⟩) 1024 c) := by
    have h1 := (k3.block w.heap.size (by have := S2.out; omega) (by omega)).trans HB2.out
    simp [World.cell?, h1]
  obtain ⟨x0, x1, x2⟩ := c3 hn3
  have n3 : w.heap.size + 1 < w3.heap.size := (Array.getElem?_eq_some_iff.1 hn3).1
  have n4 : w.heap.size < w3.heap.size := by omega
  clear k3 hn3 ho3
  go_wp2_with fail
  obtain ⟨w4, hw4⟩ : ∃ w4, w4 = w3.alloc (.cells #[.int .i64 0, .int .i64 0] 65) := ⟨_, rfl⟩
  rw [← hw4]
  have B4 : Kp (Below w3.heap.size w3 w4) := put (by rw [hw4]; exact balloc (Below.refl _ _) _)
  clear hw4
  have y0 := cell_at x0 B4.out
  have y1 := cell_at x1 B4.out
  have y2 := cell_at x2 B4.out
  have y3 := cell_at b3 B4.out
  have HN4 := put ((B4.out.block _ n3).trans HN3.out)
  clear x0 x1 x2 b3 n3 n4
  have CR := rightCalls _ _ _ n w4 (O3.out.below B4.out).v HF.out HS.out
  rw [decide_eq_true HZ.out] at CR
  refine CR.mono ?_
  clear CR
  rintro e w5 ⟨rfl, hb5⟩
  have B5 := put hb5
  have x0 := cell_at y0 hb5
  have x1 := cell_at y1 hb5
  have x2 := cell_at y2 hb5
  have x3 := cell_at y3 hb5
  have HN5 := put ((hb5.block _ (Array.getElem?_eq_some_iff.1 HN4.out).1).trans HN4.out)
  clear hb5 y0 y1 y2 y3
  go_wp2_with fail
  have CE := encodeCalls _ _ _ n w5 ((O3.out.below B4.out).below B5.out).v HF.out HS.out HZ.out
  refine CE.mono ?_
  clear CE
  rintro e w6 ⟨b, rfl, hb6, hbb, hw6⟩
  have B6 := put (bt B4.out (bt B5.out hw6))
  have BB := put (bt B3.out B6.out)
  have y0 := cell_at x0 hw6
  have y1 := cell_at x1 hw6
  have y2 := cell_at x2 hw6
  have y3 := cell_at x3 hw6
  have hn6 := (hw6.block _ (Array.getElem?_eq_some_iff.1 HN5.out).1).trans HN5.out
  have f0 : w6.frozen? ⟨w.heap.size + 1, 0, none⟩ = false := by simp [World.frozen?, hn6]
  have f1 : w6.frozen? ⟨w.heap.size + 1, 1, none⟩ = false := by simp [World.frozen?, hn6]
  have f2 : w6.frozen? ⟨w.heap.size + 1, 2, none⟩ = false := by simp [World.frozen?, hn6]
  have HN6 := put hn6
  have k1 : (convert 96 9 (.slice (some ⟨b, 0, none⟩) 1024 1024)).run Try.prog w6 = .ok (.string ⟨(enc n).toArray⟩) w6 := wholeBytes (fun i x hx => by rw [Nat.zero_add]; exact pg_cell hb6 hx) HL.out
  have k2 : (convert 96 9 (.slice (some ⟨g, o, none⟩) 1024 c)).run Try.prog w6 = .ok (.string ⟨(enc n).toArray⟩) w6 := wholeBytes (fun i x hx => cell_at (HY.out i x hx) BB.out) HL.out
  clear hb6 hbb hw6 x0 x1 x2 x3 hn6
  go_wp2_with fail
  have HG : w.heap.size ≤ w.heap.size + 1 := Nat.le_succ _
  refine bodyPost_ret (results_ct rfl _ _ _ _ rfl (run_loadVar_row _ _ _ _ _ _ _ ((setCell_heap (setCell_heap (setCell_heap HN6.out 0 _) 1 _) 2 _).trans rfl) Try.underlying69 rfl (infoNd.trans rfl))) rfl ⟨_, _, rfl, ?_, ?_⟩
  · exact ((((O3.out.below B6.out).far (Nat.lt_succ_self _) 0 _).far (Nat.lt_succ_self _) 1 _).far (Nat.lt_succ_self _) 2 _).lower (by omega)
  · exact ((BB.out.setCell HG _).setCell HG _).setCell HG _
end Go.Proofs.Ytcpahknlabnnbaa.T

namespace Go.Proofs.Ytcpahknlabnnbaa.T
open Go Go.RowKit Go.Sort Go.Proofs.Ytcpahknlabnnbaa.Mem

theorem bel_drewN {w : World} (q : Nat) : Below w.heap.size w (w.drewN q) := bdr w q

set_option maxHeartbeats 4000000 in
set_option maxRecDepth 100000 in
theorem findCalls (ok : Nat → Prop) (L : Bool) (vr vk : Value) (l : List ByteArray) (s : ByteArray) (w : World) (h : RdE Value.string ok w vr l) (hl : l.length ≤ 100000) :
    Calls Try.prog 47 #[.agg #[.bool L, vr, vk], .string s] w fun e w' => e = .returned (.tuple #[.int .i64 (posS l s), .bool (decide (l[posS l s]? = some s))]) ∧ Below w.heap.size w w' := by
  obtain ⟨w1, hw1⟩ : ∃ w1, w1 = w.alloc (.cells #[.bool L, vr, vk] 69) := ⟨_, rfl⟩
  have HB1 : Kp (Below w.heap.size w w1) := put (by rw [hw1]; exact balloc (Below.refl _ _) _)
  obtain ⟨x0, x1, x2⟩ := c3 (w := w1) (X := w.heap.size) (t := 69) (by rw [hw1]; exact heap_alloc_new _ _)
  have HW := put hw1
  have C := put (binS ok vr l s w1 (h.below HB1.out) (by omega))
  clear hw1 h hl x0 x2
  generalize decide (l[posS l s]? = some s) = b at *
  generalize posS l s = i at *
  go_enter Try.func47, Try.ntmps47
  go_wp2_with fail
  rw [← HW.out]
  refine C.out.mono ?_
  rintro e w2 ⟨rfl, q, rfl⟩
  go_wp2_with fail
  go_ret2
  exact ⟨rfl, bdr' HB1.out q⟩
/-- Below which kid s stands. -/
def kidAt (l : List ByteArray) (s : ByteArray) : Nat := if l[posS l s]? = some s then posS l s + 1 else posS l s

set_option maxHeartbeats 4000000 in
set_option maxRecDepth 100000 in
theorem kidCalls (ok : Nat → Prop) (L : Bool) (vr vk : Value) (l : List ByteArray) (s : ByteArray) (w : World) (h : RdE Value.string ok w vr l) (hl : l.length ≤ 100000) (hp : posS l s ≤ l.length) :
    Calls Try.prog 49 #[.agg #[.bool L, vr, vk], .string s] w fun e w' => e = .returned (.int .i64 (kidAt l s)) ∧ Below w.heap.size w w' := by
  obtain ⟨w1, hw1⟩ : ∃ w1, w1 = w.alloc (.cells #[.bool L, vr, vk] 69) := ⟨_, rfl⟩
  have HB1 : Kp (Below w.heap.size w w1) := put (by rw [hw1]; exact balloc (Below.refl _ _) _)
  obtain ⟨x0, x1, x2⟩ := c3 (w := w1) (X := w.heap.size) (t := 69) (by rw [hw1]; exact heap_alloc_new _ _)
  have HW := put hw1
  have C := put (findCalls ok L vr vk l s w1 (h.below HB1.out) hl)
  have hi : posS l s ≤ 100000 := by omega
  clear hw1 h hl hp
  unfold kidAt
  by_cases hb : l[posS l s]? = some s
  · rw [if_pos hb]
    rw [decide_eq_true hb] at C
    clear hb
    generalize posS l s = i at *
    go_enter Try.func49, Try.ntmps49
    go_wp2_with fail
    rw [← HW.out]
    refine C.out.mono ?_
    rintro e w2 ⟨rfl, hb2⟩
    have HB2 := put (bt HB1.out hb2)
    clear hb2
    go_wp2_with fail
    go_ret
    exact ⟨rfl, HB2.out⟩
  · rw [if_neg hb]
    rw [decide_eq_false hb] at C
    clear hb
    generalize posS l s = i at *
    go_enter Try.func49, Try.ntmps49
    go_wp2_with fail
    rw [← HW.out]
    refine C.out.mono ?_
    rintro e w2 ⟨rfl, hb2⟩
    have HB2 := put (bt HB1.out hb2)
    clear hb2
    go_wp2_with fail
    go_ret
    exact ⟨rfl, HB2.out⟩

theorem useIt {P Q : Prop} (h : P) (k : P → Q) : Q := k h
theorem f3 {w : World} {X : Nat} {a0 a1 a2 : Value} {t : TypeId} (h : w.heap[X]? = some (.cells #[a0, a1, a2] t (0, 0))) : w.frozen? ⟨X, 0, none⟩ = false ∧ w.frozen? ⟨X, 1, none⟩ = false ∧ w.frozen? ⟨X, 2, none⟩ = false := by simp [World.frozen?, h]
theorem RdE.row {α : Type} {enc : α → Value} {ok : Nat → Prop} {w : World} {v : Value} {xs : List α} (h : RdE enc ok w v xs) (hn : 0 < xs.length) : ∃ g o c, v = .slice (some ⟨g, o, none⟩) xs.length c ∧ xs.length ≤ c ∧ c ≤ maxLen := by
  rcases h with ⟨_, rfl⟩ | ⟨g, o, c, h1, _, _, h2, h3, _⟩
  · exact absurd hn (by simp)
  · exact ⟨g, o, c, h1, h2, h3⟩
theorem RdE.sub {α : Type} {enc : α → Value} {ok : Nat → Prop} {w : World} {xs : List α} {g o n c a b : Nat} (h : RdE enc ok w (.slice (some ⟨g, o, none⟩) n c) xs) (hab : a < b) (hb : b ≤ xs.length) : RdE enc ok w (.slice (some ⟨g, o + a, none⟩) (b - a) (c - a)) ((xs.drop a).take (b - a)) := by
  rcases h with ⟨h1, _⟩ | ⟨g', o', c', h1, h2, h3, h4, h5, h6⟩
  · exact absurd h1 (by simp)
  · injection h1 with h1 hn hc
    injection h1 with h1
    injection h1 with hg ho _
    subst hg ho hc
    have hlen : ((xs.drop a).take (b - a)).length = b - a := by rw [List.length_take, List.length_drop]; omega
    refine .inr ⟨g, o + a, c - a, by rw [hlen], h2, h3, by omega, by omega, fun j x hx => ?_⟩
    have hj := (List.getElem?_eq_some_iff.1 hx).1
    rw [List.getElem?_take_of_lt (by omega), List.getElem?_drop] at hx
    rw [Nat.add_assoc]
    exact h6 _ _ hx
/-- A part of a node. -/
def Nd.some (n : Nd) (a b : Nat) : Nd := ⟨n.leaf, (n.recs.drop a).take (b - a), if n.leaf = true then [] else (n.kids.drop a).take (b + 1 - a)⟩
theorem kints_sub (l : List Nat) (a m : Nat) : kints ((l.drop a).take m) = ((kints l).drop a).take m := by
  unfold kints; rw [List.map_take, List.map_drop]

/-- some under way: the new node lies at N. -/
structure SmS (base N : Nat) (w W : World) (L : Bool) (u vk v : Value) (l : List ByteArray) : Prop where
  n : W.heap[N]? = some (.cells #[.bool L, v, .slice none 0 0] 69 (0, 0))
  b : W.heap[base]? = some (.cells #[.bool L, u, vk] 69 (0, 0))
  r : W.heap[base + 1]? = some (.cells #[.bool false, .slice none 0 0, .slice none 0 0] 69 (0, 0))
  o : Own tStr 9 no W (base + 1 + 1) v l
  nb : base + 1 + 1 ≤ N
  bl : Below base w W
theorem own_far3 {α : Type} {d : Ty α} {E base : Nat} {W : World} {v : Value} {l : List α} (h : Own d E no W (base + 1) v l) (x y z : Value) : Own d E no (((W.setCell ⟨base, 0, none⟩ x).setCell ⟨base, 1, none⟩ y).setCell ⟨base, 2, none⟩ z) (base + 1) v l := by
  have hf : ∀ {w' : World} (j : Nat) (x : Value), Own d E no w' (base + 1) v l → Own d E no (w'.setCell ⟨base, j, none⟩ x) (base + 1) v l := fun j x h => h.far (fun k hk e => by have h1 := (h.lt k hk).1; have h2 : k = base := e; omega) (fun _ hk => hk.elim) _
  exact hf _ _ (hf _ _ (hf _ _ h))
theorem sm1 {base N : Nat} {w w2 w5 W : World} {L : Bool} {u vk v : Value} {l : List ByteArray} (hN : N = w5.heap.size) (hW : W = w5.alloc (.cells #[.bool L, v, .slice none 0 0] 69)) (hb : w2.heap[base]? = some (.cells #[.bool L, u, vk] 69 (0, 0))) (hr : w2.heap[base + 1]? = some (.cells #[.bool false, .slice none 0 0, .slice none 0 0] 69 (0, 0))) (h2 : w2.heap.size = base + 1 + 1) {b' : Nat} (hb' : base + 1 + 1 ≤ b') (ho : Own tStr 9 no w5 b' v l) (h5 : Below w2.heap.size w2 w5) (hw : Below base w w2) : SmS base N w W L u vk v l := by
  have hs := h5.size
  subst hN hW
  exact ⟨heap_alloc_new _ _, (Below.heap_alloc _ _ _ (by omega)).trans ((h5.block _ (by omega)).trans hb), (Below.heap_alloc _ _ _ (by omega)).trans ((h5.block _ (by omega)).trans hr), (ho.lower hb').alloc _, by omega, (hw.trans (h5.mono (by omega))).alloc (by have := hw.size; omega) _⟩
theorem sm2 {base N : Nat} {w w2 w5 W : World} {L : Bool} {u vk v : Value} {l : List ByteArray} (hN : N = w2.heap.size) (hW : W = ((w5.setCell ⟨N, 0, none⟩ (.bool L)).setCell ⟨N, 1, none⟩ v).setCell ⟨N, 2, none⟩ (.slice none 0 0)) (hb : w2.heap[base]? = some (.cells #[.bool L, u, vk] 69 (0, 0))) (hr : w2.heap[base + 1]? = some (.cells #[.bool false, .slice none 0 0, .slice none 0 0] 69 (0, 0))) (h2 : w2.heap.size = base + 1 + 1) {b' : Nat} (hb' : base + 1 + 1 < b') (ho : Own tStr 9 no w5 b' v l) (h5 : Below w2.heap.size w2 w5) (hw : Below base w w2) (hz : w5.heap[w2.heap.size]? = some (.cells #[.bool false, .slice none 0 0, .slice none 0 0] 69 (0, 0))) : SmS base N w W L u vk v l := by
  have hs := h5.size
  subst hN hW
  have hf : ∀ {w' : World} (j : Nat) (x : Value), Own tStr 9 no w' b' v l → Own tStr 9 no (w'.setCell ⟨w2.heap.size, j, none⟩ x) b' v l := fun j x h => h.far (fun k hk e => by have h1 := (h.lt k hk).1; have h2 : k = w2.heap.size := e; omega) (fun _ hk => hk.elim) _
  have hk : ∀ (k : Nat), k < w2.heap.size → (((w5.setCell ⟨w2.heap.size, 0, none⟩ (.bool L)).setCell ⟨w2.heap.size, 1, none⟩ v).setCell ⟨w2.heap.size, 2, none⟩ (.slice none 0 0)).heap[k]? = w5.heap[k]? := fun k hk => by
    rw [Below.heap_setCell _ ⟨w2.heap.size, 2, none⟩ _ k (show k ≠ w2.heap.size by omega), Below.heap_setCell _ ⟨w2.heap.size, 1, none⟩ _ k (show k ≠ w2.heap.size by omega), Below.heap_setCell _ ⟨w2.heap.size, 0, none⟩ _ k (show k ≠ w2.heap.size by omega)]
  refine ⟨(setCell_heap (setCell_heap (setCell_heap hz 0 _) 1 _) 2 _).trans rfl, (hk _ (by omega)).trans ((h5.block _ (by omega)).trans hb), (hk _ (by omega)).trans ((h5.block _ (by omega)).trans hr), (hf _ _ (hf _ _ (hf _ _ ho))).lower (by omega), by omega, ?_⟩
  have hB : base ≤ w2.heap.size := by omega
  exact (((hw.trans (h5.mono hB)).setCell hB _).setCell hB _).setCell hB _

set_option maxHeartbeats 4000000 in
set_option maxRecDepth 100000 in
theorem someCalls (ok : Nat → Prop) (vr vk : Value) (n : Nd) (a b : Nat) (w : World) (h : NdV ok w vr vk n) (hf : n.Fair) (hab : a < b) (hb : b ≤ n.recs.length) (hk : n.leaf = false → b + 1 ≤ n.kids.length) :
    Calls Try.prog 72 #[.agg #[.bool n.leaf, vr, vk], .int .i64 a, .int .i64 b] w fun e w' => ∃ vr' vk', e = .returned (.agg #[.bool n.leaf, vr', vk']) ∧ NdO w.heap.size w' vr' vk' (n.some a b) ∧ Below w.heap.size w w' := by
  obtain ⟨gr, or, cr, rfl, r1, r2⟩ := h.recs.row (by omega)
  have HRS : Kp (∀ W, Below w.heap.size w W → RdE Value.string ok W (.slice (some ⟨gr, or + a, none⟩) (b - a) (cr - a)) ((n.recs.drop a).take (b - a))) := put fun W hb' => (h.recs.below hb').sub hab hb
  have HK := put h.kids
  have HF := put hf
  obtain ⟨m, hm⟩ : ∃ m, m = n.recs.length := ⟨_, rfl⟩
  have hm2 := hf.recs
  rw [← hm] at hb r1 hm2 ⊢
  have HM := put hm
  obtain ⟨w1, hw1⟩ : ∃ w1, w1 = w.alloc (.cells #[.bool n.leaf, .slice (some ⟨gr, or, none⟩) m cr, vk] 69) := ⟨_, rfl⟩
  obtain ⟨w2, hw2⟩ : ∃ w2, w2 = w1.alloc (.cells #[.bool false, .slice none 0 0, .slice none 0 0] 69) := ⟨_, rfl⟩
  have s1 : w1.heap.size = w.heap.size + 1 := by rw [hw1, alloc_size]
  have s2 : w2.heap.size = w.heap.size + 1 + 1 := by rw [hw2, alloc_size, s1]
  have B2 : Kp (Below w.heap.size w w2) := put (by rw [hw2, hw1]; exact balloc (balloc (Below.refl _ _) _) _)
  have hb2 : w2.heap[w.heap.size]? = some (.cells #[.bool n.leaf, .slice (some ⟨gr, or, none⟩) m cr, vk] 69 (0, 0)) := by rw [hw2, hag, if_neg (by omega), hw1]; exact heap_alloc_new _ _
  have hn2 : w2.heap[w.heap.size + 1]? = some (.cells #[.bool false, .slice none 0 0, .slice none 0 0] 69 (0, 0)) := by rw [hw2, hag, if_pos s1.symm]
  have HB2 := put hb2
  have HN2 := put hn2
  have S2 := put s2
  obtain ⟨x0, x1, x2⟩ := c3 hb2
  have HW : Kp (w2 = (w.alloc (.cells #[.bool n.leaf, .slice (some ⟨gr, or, none⟩) m cr, vk] 69)).alloc (.cells #[.bool false, .slice none 0 0, .slice none 0 0] 69)) := put (by rw [hw2, hw1])
  clear hm hf h s1 s2 hw1 hw2 hb2 hn2
  clear w1
  have HLEN : Kp (((n.recs.drop a).take (b - a)).length = b - a) := put (by rw [List.length_take, List.length_drop, ← HM.out]; omega)
  have hne1 : w.heap.size ≠ w2.heap.size := by have := S2.out; omega
  have hne2 : w2.heap.size ≠ w.heap.size := by have := S2.out; omega
  have ha0 : (0 : Int) ≤ (a : Int) := by omega
  have ha1 : (a : Int) ≤ (b : Int) := by omega
  have ha2 : (b : Int) ≤ (cr : Int) := by omega
  have ha3 : ¬ cr = a := by omega
  have ha4 : a ≤ b := by omega
  generalize hL : n.leaf = L at *
  go_enter Try.func72, Try.ntmps72
  have HLF := put hL
  cases L with
  | true =>
    clear hk
    go_wp2_with fail
    rw [← HW.out]
    go_region_held3 (fun w' => w'.cell? ⟨w.heap.size, 0, none⟩ = some (.bool true) ∧ w'.cell? ⟨w.heap.size, 1, none⟩ = some (.slice (some ⟨gr, or, none⟩) m cr)) (first | go_keep | exact ⟨x0, x1⟩ | exact ⟨y0, y1⟩) (first | (go_at_call 85; refine (cloneS ok no _ _ _ (HRS.out _ (bt B2.out (by (repeat (first | with_reducible exact (Below.refl _ _) | with_reducible apply Below.drew | with_reducible refine balloc ?_ _))))) (by rw [HLEN.out]; omega)).mono ?_; rintro e w5 ⟨v5, rfl, ho5, hb5⟩; have hb5' : Below w2.heap.size w2 w5 := bt (by (repeat (first | with_reducible exact (Below.refl _ _) | with_reducible apply Below.drew | with_reducible refine balloc ?_ _))) hb5; have y0 := cell_at x0 hb5'; have y1 := cell_at x1 hb5'; obtain ⟨A5, c5, e5, q1, q2⟩ := ho5.form; rw [HLEN.out] at e5; subst e5; clear q1 q2; have B5 := put hb5'; have O5 := put ho5; refine useIt (P := w5.heap[w2.heap.size]? = some (.cells #[.bool false, .slice none 0 0, .slice none 0 0] 69 (0, 0))) ?_ (fun hz => ?_); (refine (hb5.block _ ?_).trans ?_; (show w2.heap.size < (w2.alloc _).heap.size; rw [alloc_size]; exact Nat.lt_succ_self _); (exact heap_alloc_new _ _)); obtain ⟨z0, z1, z2⟩ := c3 hz; obtain ⟨z3, z4, z5⟩ := f3 hz; have HZ5 := put hz; clear ho5 hb5 hb5' hz) | (go_at_call 85; refine (cloneS ok no _ _ _ (HRS.out _ (bt B2.out (by (repeat (first | with_reducible exact (Below.refl _ _) | with_reducible apply Below.drew | with_reducible refine balloc ?_ _))))) (by rw [HLEN.out]; omega)).mono ?_; rintro e w5 ⟨v5, rfl, ho5, hb5⟩; have hb5' : Below w2.heap.size w2 w5 := bt (by (repeat (first | with_reducible exact (Below.refl _ _) | with_reducible apply Below.drew | with_reducible refine balloc ?_ _))) hb5; have y0 := cell_at x0 hb5'; have y1 := cell_at x1 hb5'; obtain ⟨A5, c5, e5, q1, q2⟩ := ho5.form; rw [HLEN.out] at e5; subst e5; clear q1 q2; have B5 := put hb5'; have O5 := put ho5; clear ho5 hb5 hb5'))
    all_goals
      first | (obtain ⟨N, hN⟩ : ∃ N, N = w5.heap.size := ⟨_, rfl⟩; obtain ⟨W, hW⟩ : ∃ W, W = w5.alloc (.cells #[.bool true, .slice A5 (b - a) c5, .slice none 0 0] 69) := ⟨_, rfl⟩; rw [← hN, ← hW]; have ST := put (sm1 hN hW HB2.out HN2.out S2.out (by have := S2.out; exact Nat.le_of_eq (by simpa using this.symm)) O5.out B5.out B2.out); clear hN hW y0 y1) | (obtain ⟨N, hN⟩ : ∃ N, N = w2.heap.size := ⟨_, rfl⟩; rw [← hN]; obtain ⟨W, hW⟩ : ∃ W, W = ((w5.setCell ⟨N, 0, none⟩ (.bool true)).setCell ⟨N, 1, none⟩ (.slice A5 (b - a) c5)).setCell ⟨N, 2, none⟩ (.slice none 0 0) := ⟨_, rfl⟩; rw [← hW]; have ST := put (sm2 hN hW HB2.out HN2.out S2.out (by have := S2.out; simp; omega) O5.out B5.out B2.out HZ5.out); clear hN hW y0 y1 z0 z1 z2 z3 z4 z5)
      clear x0 x1 x2
      obtain ⟨x0, x1, x2⟩ := c3 ST.out.b
      obtain ⟨p0, p1, p2⟩ := c3 ST.out.n
      obtain ⟨p3, p4, p5⟩ := f3 ST.out.n
      obtain ⟨g0, g1, g2⟩ := c3 ST.out.r
      obtain ⟨g3, g4, g5⟩ := f3 ST.out.r
      have n1 := ST.out.nb
      have n2 : N ≠ w.heap.size := by omega
      have n3 : N ≠ w.heap.size + 1 := by omega
      go_wp2_with fail
      refine bodyPost_ret (results_cell_row rfl _ _ _ _ _ _ _ rfl ((setCell_heap (setCell_heap (setCell_heap ST.out.r 0 _) 1 _) 2 _).trans rfl) Try.underlying69 rfl (infoNd.trans rfl)) rfl ⟨_, _, rfl, ⟨?_, ?_⟩, ?_⟩
      · exact (own_far3 ST.out.o _ _ _).lower (by omega)
      · have e : (n.some a b).kids = [] := by unfold Nd.some; rw [HLF.out]; rfl
        rw [e]
        exact Own.nil _ _ _ _ _
      · exact ((ST.out.bl.setCell (Nat.le_succ _) _).setCell (Nat.le_succ _) _).setCell (Nat.le_succ _) _
  | false =>
    obtain ⟨gk, ok', ck, rfl, k1, k2⟩ := HK.out.row (by rw [kints_len]; have := hk rfl; omega)
    rw [kints_len] at k1
    have hkk := hk rfl
    have HKS : Kp (∀ W, Below w.heap.size w W → RdE (.int .i64) ok W (.slice (some ⟨gk, ok' + a, none⟩) (b + 1 - a) (ck - a)) (((kints n.kids).drop a).take (b + 1 - a))) := put fun W hb' => by
      have h1 := HK.out.below hb'
      rw [kints_len] at h1
      exact h1.sub (by omega) (by rw [kints_len]; exact hkk)
    have HLK : Kp ((((kints n.kids).drop a).take (b + 1 - a)).length = b + 1 - a) := put (by rw [List.length_take, List.length_drop, kints_len]; omega)
    have hb1 : (b : Int) + 1 ≤ (ck : Int) := by omega
    have hb2 : ¬ ck = a := by omega
    have hb3 : (a : Int) ≤ (b : Int) + 1 := by omega
    have hb4 : (0 : Int) ≤ (b : Int) + 1 := by omega
    have hb5 : ((b : Int) + 1).toNat = b + 1 := by omega
    have hb6 : a ≤ b + 1 := by omega
    have hkf := HF.out.kids
    rw [kints_len] at HB2 HW x2 ⊢
    generalize n.kids.length = nk at *
    go_wp2_with fail
    rw [← HW.out]
    go_region_held3 (fun w' => w'.cell? ⟨w.heap.size, 0, none⟩ = some (.bool false) ∧ w'.cell? ⟨w.heap.size, 1, none⟩ = some (.slice (some ⟨gr, or, none⟩) m cr)) (first | go_keep | exact ⟨x0, x1⟩ | exact ⟨y0, y1⟩) (first | (go_at_call 85; refine (cloneS ok no _ _ _ (HRS.out _ (bt B2.out (by (repeat (first | with_reducible exact (Below.refl _ _) | with_reducible apply Below.drew | with_reducible refine balloc ?_ _))))) (by rw [HLEN.out]; omega)).mono ?_; rintro e w5 ⟨v5, rfl, ho5, hb5⟩; have hb5' : Below w2.heap.size w2 w5 := bt (by (repeat (first | with_reducible exact (Below.refl _ _) | with_reducible apply Below.drew | with_reducible refine balloc ?_ _))) hb5; have y0 := cell_at x0 hb5'; have y1 := cell_at x1 hb5'; obtain ⟨A5, c5, e5, q1, q2⟩ := ho5.form; rw [HLEN.out] at e5; subst e5; clear q1 q2; have B5 := put hb5'; have O5 := put ho5; refine useIt (P := w5.heap[w2.heap.size]? = some (.cells #[.bool false, .slice none 0 0, .slice none 0 0] 69 (0, 0))) ?_ (fun hz => ?_); (refine (hb5.block _ ?_).trans ?_; (show w2.heap.size < (w2.alloc _).heap.size; rw [alloc_size]; exact Nat.lt_succ_self _); (exact heap_alloc_new _ _)); obtain ⟨z0, z1, z2⟩ := c3 hz; obtain ⟨z3, z4, z5⟩ := f3 hz; have HZ5 := put hz; clear ho5 hb5 hb5' hz) | (go_at_call 85; refine (cloneS ok no _ _ _ (HRS.out _ (bt B2.out (by (repeat (first | with_reducible exact (Below.refl _ _) | with_reducible apply Below.drew | with_reducible refine balloc ?_ _))))) (by rw [HLEN.out]; omega)).mono ?_; rintro e w5 ⟨v5, rfl, ho5, hb5⟩; have hb5' : Below w2.heap.size w2 w5 := bt (by (repeat (first | with_reducible exact (Below.refl _ _) | with_reducible apply Below.drew | with_reducible refine balloc ?_ _))) hb5; have y0 := cell_at x0 hb5'; have y1 := cell_at x1 hb5'; obtain ⟨A5, c5, e5, q1, q2⟩ := ho5.form; rw [HLEN.out] at e5; subst e5; clear q1 q2; have B5 := put hb5'; have O5 := put ho5; clear ho5 hb5 hb5'))
    all_goals
      first | (obtain ⟨N, hN⟩ : ∃ N, N = w5.heap.size := ⟨_, rfl⟩; obtain ⟨W, hW⟩ : ∃ W, W = w5.alloc (.cells #[.bool false, .slice A5 (b - a) c5, .slice none 0 0] 69) := ⟨_, rfl⟩; rw [← hN, ← hW]; have ST := put (sm1 hN hW HB2.out HN2.out S2.out (by have := S2.out; exact Nat.le_of_eq (by simpa using this.symm)) O5.out B5.out B2.out); clear hN hW y0 y1) | (obtain ⟨N, hN⟩ : ∃ N, N = w2.heap.size := ⟨_, rfl⟩; rw [← hN]; obtain ⟨W, hW⟩ : ∃ W, W = ((w5.setCell ⟨N, 0, none⟩ (.bool false)).setCell ⟨N, 1, none⟩ (.slice A5 (b - a) c5)).setCell ⟨N, 2, none⟩ (.slice none 0 0) := ⟨_, rfl⟩; rw [← hW]; have ST := put (sm2 hN hW HB2.out HN2.out S2.out (by have := S2.out; simp; omega) O5.out B5.out B2.out HZ5.out); clear hN hW y0 y1 z0 z1 z2 z3 z4 z5)
      clear x0 x1 x2
      obtain ⟨x0, x1, x2⟩ := c3 ST.out.b
      obtain ⟨p0, p1, p2⟩ := c3 ST.out.n
      obtain ⟨p3, p4, p5⟩ := f3 ST.out.n
      obtain ⟨g0, g1, g2⟩ := c3 ST.out.r
      obtain ⟨g3, g4, g5⟩ := f3 ST.out.r
      have n1 := ST.out.nb
      have n2 : N ≠ w.heap.size := by omega
      have n3 : N ≠ w.heap.size + 1 := by omega
      go_wp2_with fail
      refine (cloneI ok no _ _ W (HKS.out W ST.out.bl) (by rw [HLK.out]; omega)).mono ?_
      rintro e w6 ⟨v6, rfl, ho6, hb6⟩
      obtain ⟨A6, c6, e6, q1, q2⟩ := ho6.form
      rw [HLK.out] at e6
      subst e6
      have O6 := put ho6
      have B6 := put hb6
      have hs6 := hb6.size
      have hlt := (Array.getElem?_eq_some_iff.1 ST.out.n).1
      have hn6 := (hb6.block N hlt).trans ST.out.n
      have hr6 := (hb6.block (w.heap.size + 1) (by omega)).trans ST.out.r
      clear x0 x1 x2 p0 p1 p2 p3 p4 p5 g0 g1 g2 g3 g4 g5 q1 q2
      obtain ⟨p0, p1, p2⟩ := c3 hn6
      obtain ⟨p3, p4, p5⟩ := f3 hn6
      obtain ⟨g0, g1, g2⟩ := c3 hr6
      obtain ⟨g3, g4, g5⟩ := f3 hr6
      have HR6 := put hr6
      have HLT := put hlt
      clear ho6 hb6 hn6 hr6
      go_wp2_with fail
      have n3' : w.heap.size + 1 ≠ N := Ne.symm n3
      refine bodyPost_ret (results_cell_row rfl _ _ _ _ _ _ _ rfl ((setCell_heap (setCell_heap (setCell_heap ((Below.heap_setCell _ ⟨N, 2, none⟩ _ _ n3').trans HR6.out) 0 _) 1 _) 2 _).trans rfl) Try.underlying69 rfl (infoNd.trans rfl)) rfl ⟨_, _, rfl, ⟨?_, ?_⟩, ?_⟩
      · exact (own_far3 ((ST.out.o.below B6.out).far (fun k hk e => by obtain ⟨cs, hc⟩ := own_heap ST.out.o hk; rw [show k = N from e, ST.out.n] at hc; injection hc with hc; injection hc with _ hc _; exact absurd hc (by decide)) (fun _ hk => hk.elim) _) _ _ _).lower (by omega)
      · have e : kints (n.some a b).kids = ((kints n.kids).drop a).take (b + 1 - a) := by unfold Nd.some; rw [HLF.out]; exact kints_sub _ _ _
        rw [e]
        have o7 := O6.out.far (p := ⟨N, 2, none⟩) (fun k hk e => by have h1 := (O6.out.lt k hk).1; have h2 : k = N := e; have := HLT.out; omega) (fun _ hk => hk.elim) (.slice A6 (b + 1 - a) c6)
        exact (own_far3 (o7.lower (by have := HLT.out; omega)) _ _ _).lower (by omega)
      · have bb := ST.out.bl.trans (B6.out.mono ST.out.bl.size)
        exact (((bb.setCell (show w.heap.size ≤ N by omega) _).setCell (Nat.le_succ _) _).setCell (Nat.le_succ _) _).setCell (Nat.le_succ _) _
end Go.Proofs.Ytcpahknlabnnbaa.T
