/- slices.swapRangeCmpFunc at tripwire/delta.Change: it exchanges two ranges. -/
import Derived.Test.YtkfoknjflpklpaaProg
import Derived.Test.YtkfoknjflpklpaaStabPure
import Derived.Shelf.SlSortCmp.KitK
import Derived.Sort.WalkB2
import Derived.Sort.WalkB12
import Derived.Deep.LoopGhost
namespace Go.Proofs.Ytkfoknjflpklpaa.StabChg
open Go.Shelf Go.RowKit Go.Lib Go.Sort Go.Proofs Go.Proofs.Ytkfoknjflpklpaa.Stab

/-- What the walks lean on of the program. -/
structure Lay (P : Program) (k : Nat) : Prop where
  mixed : P.follows .mixedOrders = true
  fswp : P.funcs[145]? = some Try.f145
  frot : P.funcs[135]? = some Try.f135
  fsym : P.funcs[111]? = some Try.f111
  fins : P.funcs[110]? = some Try.f110
  fsta : P.funcs[80]? = some Try.f80
  ftop : P.funcs[54]? = some Try.f54
  t0 : P.underlying 0 = some (.tuple #[])
  a0 : ∀ w, (isAgg 0).run P w = .ok false w
  z0 : ∀ w, (Go.sizeOf 0).run P w = .ok 1 w
  v0 : ∀ w, (zeroValue 0).run P w = .ok (.tuple #[]) w
  t3 : P.underlying 3 = some (.int .i64)
  a3 : ∀ w, (isAgg 3).run P w = .ok false w
  z3 : ∀ w, (Go.sizeOf 3).run P w = .ok 1 w
  v3 : ∀ w, (zeroValue 3).run P w = .ok (.int .i64 0) w
  t4 : P.underlying 4 = some .bool
  a4 : ∀ w, (isAgg 4).run P w = .ok false w
  z4 : ∀ w, (Go.sizeOf 4).run P w = .ok 1 w
  v4 : ∀ w, (zeroValue 4).run P w = .ok (.bool false) w
  tu : P.underlying 209 = some (.int .u64)
  au : ∀ w, (isAgg 209).run P w = .ok false w
  zu : ∀ w, (Go.sizeOf 209).run P w = .ok 1 w
  vu : ∀ w, (zeroValue 209).run P w = .ok (.int .u64 0) w
  ts : P.underlying 27 = some (.slice 40)
  aS : ∀ w, (isAgg 27).run P w = .ok false w
  zs : ∀ w, (Go.sizeOf 27).run P w = .ok 1 w
  vs : ∀ w, (zeroValue 27).run P w = .ok (.slice none 0 0) w
  tf : P.underlying 113 = some (.func #[40, 40] #[3] false)
  af : ∀ w, (isAgg 113).run P w = .ok false w
  zf : ∀ w, (Go.sizeOf 113).run P w = .ok 1 w
  vf : ∀ w, (zeroValue 113).run P w = .ok .nilFunc w
  aE : ∀ w, (isAgg 40).run P w = .ok true w
  zE : ∀ w, (Go.sizeOf 40).run P w = .ok k w

theorem laid : Lay Try.prog 4 := {
  mixed := by kernel_rfl,
  fswp := Try.func145,
  frot := Try.func135,
  fsym := Try.func111,
  fins := Try.func110,
  fsta := Try.func80,
  ftop := Try.func54,
  t0 := Try.underlying0,
  a0 := fun _ => by kernel_rfl,
  z0 := fun _ => by kernel_rfl,
  v0 := fun _ => by kernel_rfl,
  t3 := Try.underlying3,
  a3 := fun _ => by kernel_rfl,
  z3 := fun _ => by kernel_rfl,
  v3 := fun _ => by kernel_rfl,
  t4 := Try.underlying4,
  a4 := fun _ => by kernel_rfl,
  z4 := fun _ => by kernel_rfl,
  v4 := fun _ => by kernel_rfl,
  tu := Try.underlying209,
  au := fun _ => by kernel_rfl,
  zu := fun _ => by kernel_rfl,
  vu := fun _ => by kernel_rfl,
  ts := Try.underlying27,
  aS := fun _ => by kernel_rfl,
  zs := fun _ => by kernel_rfl,
  vs := fun _ => by kernel_rfl,
  tf := Try.underlying113,
  af := fun _ => by kernel_rfl,
  zf := fun _ => by kernel_rfl,
  vf := fun _ => by kernel_rfl,
  aE := fun _ => by kernel_rfl,
  zE := fun _ => by kernel_rfl }

variable {P : Program} {α : Type} [Inhabited α]

set_option maxHeartbeats 4000000 in
set_option maxRecDepth 1000000 in
theorem swapRange {k : Nat} (L : Lay P k) (enc : α → List Value) (g : Nat) (cb : Array Value) (blk off cap a b n : Nat) (d0 d : Array α) (w0 w : World)
    (R : RowK enc k w0 blk off d0) (hs : d0.size = d.size) (S : SWK enc k w0 blk off d w) (hab : a + n ≤ d.size) (hb : b + n ≤ d.size) (hsz : d.size < 4611686018427387904) :
    Calls P 145 #[.slice (some ⟨blk, off, none⟩) d.size cap, .int .i64 a, .int .i64 b, .int .i64 n, .func (.func g) #[] cb] w fun e w' => e = .returned (.tuple #[]) ∧ SWK enc k w0 blk off (swapFrom a b n 0 d) w' := by
  have mixed := L.mixed; have t0 := L.t0; have a0 := L.a0; have z0 := L.z0; have v0 := L.v0; have t3 := L.t3; have a3 := L.a3; have z3 := L.z3; have v3 := L.v3; have t4 := L.t4; have a4 := L.a4; have z4 := L.z4; have v4 := L.v4; have ts := L.ts; have as' := L.aS; have zs := L.zs; have vs := L.vs; have tf := L.tf; have af := L.af; have zf := L.zf; have vf := L.vf; have aE := L.aE; have zE := L.zE
  have FG := L.fswp
  have S0 : Aside (SWK enc k w0 blk off d w) := S
  clear S L
  go_enter FG, Try.ntmps145
  go_wp2
  go_loopg [10] n (fun kx s10 wr => ∃ (i : Nat) (dk : Array α), s10 = .int .i64 i ∧ i ≤ n ∧ n - i ≤ kx ∧ dk.size = d.size ∧ Aside (SWK enc k w0 blk off dk wr) ∧ Hid (swapFrom a b n i dk = swapFrom a b n 0 d))
  case atStart => exact ⟨0, d, rfl, by omega, by omega, rfl, S0, rfl⟩
  case round =>
    clear S0
    obtain ⟨i, dk, rfl, hin, hkx, hds, S1, heq⟩ := hrel
    by_cases hlt : i < n
    · have hltz : (i : Int) < (n : Int) := by omega
      go_wp2_with fail
      have ea : ((a : Int) + (i : Int)).toNat = a + i := by omega
      have pa : (0 : Int) ≤ (a : Int) + (i : Int) := by omega
      have ba : (a : Int) + (i : Int) < (d.size : Int) := by omega
      have ra : IntKind.i64.wrap ((a : Int) + (i : Int)) = (a : Int) + (i : Int) := by rw [IntKind.wrap_i64]; omega
      have eb : ((b : Int) + (i : Int)).toNat = b + i := by omega
      have pb : (0 : Int) ≤ (b : Int) + (i : Int) := by omega
      have bb : (b : Int) + (i : Int) < (d.size : Int) := by omega
      have rb : IntKind.i64.wrap ((b : Int) + (i : Int)) = (b : Int) + (i : Int) := by rw [IntKind.wrap_i64]; omega
      have S2 : Aside (SWK enc k w0 blk off (swp dk (a + i) (b + i)) ((wr.drew.setCells blk (off + (a + i) * k) (enc dk[b + i]!)).setCells blk (off + (b + i) * k) (enc dk[a + i]!))) := S1.out.swapped R (a + i) (b + i) (by omega) (by omega)
      have l44a := S1.out.ld1 R (by omega) P (a + i) (by omega)
      have l44b := S1.out.ld1 R (by omega) P (b + i) (by omega)
      have s44a := S1.out.st1 R (by omega) P (a + i) (by omega) dk[b + i]!
      have s44b := S1.out.st2 R (by omega) P (a + i) (b + i) (by omega) (by omega) dk[b + i]! dk[a + i]!
      have n44a : (enc dk[a + i]!).length = k := R.hk _
      have n44b : (enc dk[b + i]!).length = k := R.hk _
      generalize enc dk[a + i]! = cI44 at S2 l44a s44b n44a
      generalize enc dk[b + i]! = cJ44 at S2 l44b s44a s44b n44b
      clear S1
      go_wp2_with fail
      go_big_region_o
      clear l44a l44b s44a s44b
      generalize (wr.drew.setCells blk (off + (a + i) * k) cJ44).setCells blk (off + (b + i) * k) cI44 = w2 at S2 ⊢
      go_wp2
      go_roundg (n - (i + 1))
      case measure => omega
      case rel => exact ⟨i + 1, swp dk (a + i) (b + i), by go_num, by omega, Nat.le_refl _, by rw [size_swp]; exact hds, S2, by
        show _ = _
        rw [← heq.out, swapFrom.eq_def a b n i dk, if_pos hlt]⟩
    · have hltz : ¬ (i : Int) < (n : Int) := by omega
      go_wp2
      go_end0
      refine ⟨rfl, ?_⟩
      rw [← heq.out, swapFrom, if_neg hlt]
      exact S1.out

end Go.Proofs.Ytkfoknjflpklpaa.StabChg
