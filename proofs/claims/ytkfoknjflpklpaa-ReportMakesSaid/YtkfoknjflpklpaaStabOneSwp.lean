/- slices.swapRangeCmpFunc at []tripwire/api.Value: it exchanges two ranges. -/
import Derived.Test.YtkfoknjflpklpaaProg
import Derived.Test.YtkfoknjflpklpaaStabPure
import Derived.Shelf.SlSortCmp.Kit1
import Derived.Sort.WalkB2
import Derived.Sort.WalkB12
import Derived.Deep.LoopGhost
namespace Go.Proofs.Ytkfoknjflpklpaa.StabOne
open Go.Shelf Go.RowKit Go.Lib Go.Sort Go.Proofs Go.Proofs.Ytkfoknjflpklpaa.Stab

/-- What the walks lean on of the program. -/
structure Lay (P : Program) : Prop where
  mixed : P.follows .mixedOrders = true
  fswp : P.funcs[150]? = some Try.f150
  frot : P.funcs[143]? = some Try.f143
  fsym : P.funcs[133]? = some Try.f133
  fins : P.funcs[132]? = some Try.f132
  fsta : P.funcs[106]? = some Try.f106
  ftop : P.funcs[77]? = some Try.f77
  t0 : P.underlying 0 = some (.tuple #[])
  a0 : ∀ w, (isAgg 0).run P w = .ok false w
  z0 : ∀ w, (Go.sizeOf 0).run P w = .ok 1 w
  v0 : ∀ w, (zeroValue 0).run P w = .ok (.tuple #[]) w
  t3 : P.underlying 3 = some (.int .i64)
  a3 : ∀ w, (isAgg 3).run P w = .ok false w
  z3 : ∀ w, (Go.sizeOf 3).run P w = .ok 1 w
  v3 : ∀ w, (zeroValue 3).run P w = .ok (.int .i64 0) w
  t4 : P.underlying 4 = some .bool
  a4 : ∀ w, (isAgg 4).run P w = .ok false w
  z4 : ∀ w, (Go.sizeOf 4).run P w = .ok 1 w
  v4 : ∀ w, (zeroValue 4).run P w = .ok (.bool false) w
  tu : P.underlying 209 = some (.int .u64)
  au : ∀ w, (isAgg 209).run P w = .ok false w
  zu : ∀ w, (Go.sizeOf 209).run P w = .ok 1 w
  vu : ∀ w, (zeroValue 209).run P w = .ok (.int .u64 0) w
  ts : P.underlying 78 = some (.slice 30)
  aS : ∀ w, (isAgg 78).run P w = .ok false w
  zs : ∀ w, (Go.sizeOf 78).run P w = .ok 1 w
  vs : ∀ w, (zeroValue 78).run P w = .ok (.slice none 0 0) w
  tf : P.underlying 148 = some (.func #[30, 30] #[3] false)
  af : ∀ w, (isAgg 148).run P w = .ok false w
  zf : ∀ w, (Go.sizeOf 148).run P w = .ok 1 w
  vf : ∀ w, (zeroValue 148).run P w = .ok .nilFunc w
  tE : P.underlying 30 = some (.slice 55)
  aE : ∀ w, (isAgg 30).run P w = .ok false w
  zE : ∀ w, (Go.sizeOf 30).run P w = .ok 1 w

theorem laid : Lay Try.prog := {
  mixed := by kernel_rfl,
  fswp := Try.func150,
  frot := Try.func143,
  fsym := Try.func133,
  fins := Try.func132,
  fsta := Try.func106,
  ftop := Try.func77,
  t0 := Try.underlying0,
  a0 := fun _ => by kernel_rfl,
  z0 := fun _ => by kernel_rfl,
  v0 := fun _ => by kernel_rfl,
  t3 := Try.underlying3,
  a3 := fun _ => by kernel_rfl,
  z3 := fun _ => by kernel_rfl,
  v3 := fun _ => by kernel_rfl,
  t4 := Try.underlying4,
  a4 := fun _ => by kernel_rfl,
  z4 := fun _ => by kernel_rfl,
  v4 := fun _ => by kernel_rfl,
  tu := Try.underlying209,
  au := fun _ => by kernel_rfl,
  zu := fun _ => by kernel_rfl,
  vu := fun _ => by kernel_rfl,
  ts := Try.underlying78,
  aS := fun _ => by kernel_rfl,
  zs := fun _ => by kernel_rfl,
  vs := fun _ => by kernel_rfl,
  tf := Try.underlying148,
  af := fun _ => by kernel_rfl,
  zf := fun _ => by kernel_rfl,
  vf := fun _ => by kernel_rfl,
  tE := Try.underlying30,
  aE := fun _ => by kernel_rfl,
  zE := fun _ => by kernel_rfl }

variable {P : Program} {α : Type} [Inhabited α]

/-- What is asked of a comparison with a bound receiver: it hands back 'cf x y'; it may draw, it may lay blocks; it turns nothing. -/
def CmpLaysF (P : Program) (g : Nat) (o : Value) (cb : Array Value) (enc : α → Value) (cf : α → α → Int) (blk off size : Nat) (w : World) : Prop :=
  ∀ (m : Nat) (os : Array Obj) (dk : Array α), dk.size = size → ∀ x y : α,
    Calls P g (#[o, enc x, enc y] ++ cb) (sortWorld enc w blk off m dk os) fun e w' => e = .returned (.int .i64 (cf x y)) ∧ ∃ q os', w' = grow ((sortWorld enc w blk off m dk os).drewN q) os'
theorem SW.cmpF {enc : α → Value} {w0 W : World} {blk off : Nat} {dk : Array α} {g : Nat} {o : Value} {cb : Array Value} {cf : α → α → Int} {size : Nat} (h : SW enc w0 blk off dk W) (hC : CmpLaysF P g o cb enc cf blk off size w0) (hs : dk.size = size) (x y : α) (n : Nat) (os : Array Obj) :
    Calls P g (#[o, enc x, enc y] ++ cb) (grow (W.drewN n) os) fun e w' => e = .returned (.int .i64 (cf x y)) ∧ ∃ q os', w' = grow ((grow (W.drewN n) os).drewN q) os' := by
  obtain ⟨m, os0, hw⟩ := h.grown n os
  rw [hw]
  exact hC m os0 dk hs x y

set_option maxHeartbeats 4000000 in
set_option maxRecDepth 1000000 in
theorem swapRange (L : Lay P) (enc : α → Value) (g : Nat) (o : Value) (cb : Array Value) (blk off cap a b n : Nat) (d0 d : Array α) (w0 w : World)
    (R : Row1 enc w0 blk off d0) (hs : d0.size = d.size) (S : SW enc w0 blk off d w) (hab : a + n ≤ d.size) (hb : b + n ≤ d.size) (hsz : d.size < 4611686018427387904) :
    Calls P 150 #[.slice (some ⟨blk, off, none⟩) d.size cap, .int .i64 a, .int .i64 b, .int .i64 n, .func (.func g) #[o] cb] w fun e w' => e = .returned (.tuple #[]) ∧ SW enc w0 blk off (swapFrom a b n 0 d) w' := by
  have mixed := L.mixed; have t0 := L.t0; have a0 := L.a0; have z0 := L.z0; have v0 := L.v0; have t3 := L.t3; have a3 := L.a3; have z3 := L.z3; have v3 := L.v3; have t4 := L.t4; have a4 := L.a4; have z4 := L.z4; have v4 := L.v4; have ts := L.ts; have as' := L.aS; have zs := L.zs; have vs := L.vs; have tE := L.tE; have uE := run_underlying L.tE; have tf := L.tf; have af := L.af; have zf := L.zf; have vf := L.vf; have aE := L.aE; have zE := L.zE
  have hcl0 := R.hO.cells
  simp only [Value.cells] at hcl0
  have hst := R.hO.store P
  have FG := L.fswp
  have S0 : Aside (SW enc w0 blk off d w) := S
  clear S L
  go_enter FG, Try.ntmps150
  go_wp2
  go_loopg [10] n (fun kx s10 wr => ∃ (i : Nat) (dk : Array α), s10 = .int .i64 i ∧ i ≤ n ∧ n - i ≤ kx ∧ dk.size = d.size ∧ Aside (SW enc w0 blk off dk wr) ∧ Hid (swapFrom a b n i dk = swapFrom a b n 0 d))
  case atStart => exact ⟨0, d, rfl, by omega, by omega, rfl, S0, rfl⟩
  case round =>
    clear S0
    obtain ⟨i, dk, rfl, hin, hkx, hds, S1, heq⟩ := hrel
    by_cases hlt : i < n
    · have hltz : (i : Int) < (n : Int) := by omega
      go_wp2_with fail
      have ea : ((a : Int) + (i : Int)).toNat = a + i := by omega
      have pa : (0 : Int) ≤ (a : Int) + (i : Int) := by omega
      have ba : (a : Int) + (i : Int) < (d.size : Int) := by omega
      have ra : IntKind.i64.wrap ((a : Int) + (i : Int)) = (a : Int) + (i : Int) := by rw [IntKind.wrap_i64]; omega
      have eb : ((b : Int) + (i : Int)).toNat = b + i := by omega
      have pb : (0 : Int) ≤ (b : Int) + (i : Int) := by omega
      have bb : (b : Int) + (i : Int) < (d.size : Int) := by omega
      have rb : IntKind.i64.wrap ((b : Int) + (i : Int)) = (b : Int) + (i : Int) := by rw [IntKind.wrap_i64]; omega
      have S2 : Aside (SW enc w0 blk off (swp dk (a + i) (b + i)) ((wr.setCell ⟨blk, off + (a + i), none⟩ (enc dk[b + i]!)).setCell ⟨blk, off + (b + i), none⟩ (enc dk[a + i]!)).drew) := S1.out.swapped R (a + i) (b + i) (by omega) (by omega)
      have c44a := S1.out.c1 R (by omega) (a + i) (by omega)
      have c44b := S1.out.c1 R (by omega) (b + i) (by omega)
      have f44a := S1.out.f1 R (by omega) (a + i) (by omega)
      have f44b := S1.out.f1 R (by omega) (b + i) (by omega)
      obtain ⟨u44, c44c⟩ := S1.out.c2 R (by omega) (a + i) (b + i) (by omega) (by omega) (enc dk[b + i]!)
      generalize dk[a + i]! = x44 at S2 c44a
      generalize dk[b + i]! = y44 at S2 c44b c44c
      clear S1
      go_wp2_with fail
      go_big_region_o
      clear c44a c44b c44c f44a f44b
      generalize ((wr.setCell ⟨blk, off + (a + i), none⟩ (enc y44)).setCell ⟨blk, off + (b + i), none⟩ (enc x44)).drew = w2 at S2 ⊢
      go_wp2
      go_roundg (n - (i + 1))
      case measure => omega
      case rel => exact ⟨i + 1, swp dk (a + i) (b + i), by go_num, by omega, Nat.le_refl _, by rw [size_swp]; exact hds, S2, by
        show _ = _
        rw [← heq.out, swapFrom.eq_def a b n i dk, if_pos hlt]⟩
    · have hltz : ¬ (i : Int) < (n : Int) := by omega
      go_wp2
      go_end0
      refine ⟨rfl, ?_⟩
      rw [← heq.out, swapFrom, if_neg hlt]
      exact S1.out

end Go.Proofs.Ytkfoknjflpklpaa.StabOne
