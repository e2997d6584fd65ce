/- The walk of the law ReportSorts. -/
import Derived.Test.YtkfoknjflpklpaaPAwakeW
import Derived.Test.YtkfoknjflpklpaaPGreat
import Derived.Test.YtkfoknjflpklpaaPRSort
import Derived.Test.YtkfoknjflpklpaaPSame
namespace Go.Proofs.Ytkfoknjflpklpaa.P
open Go Go.RowKit Go.Sort Go.Proofs.Ytkfoknjflpklpaa.Mem Go.Proofs.Ytkfoknjflpklpaa.Cmp Go.Proofs.Ytkfoknjflpklpaa.D

set_option maxHeartbeats 16000000 in
set_option maxRecDepth 100000 in
theorem reportSortsCalls (ok : Nat → Prop) (v vk : Value) (rows : List (List Val)) (ks : List Key) (w : World) (h : Sl tRow ok w v rows) (hk : Sl tKey ok w vk ks) :
    Calls Try.prog 10 #[v, vk] w fun e w' => e = .returned (.bool true) ∧ Below w.heap.size w w' := by
  obtain ⟨A, c, rfl, _, _, k3⟩ := h.shape
  obtain ⟨A2, c2, rfl, _, _, k23⟩ := hk.shape
  have HROWS := put h
  have HKEYS := put hk
  have K23 := put k23
  have HSS := put (sortR_sortR ks rows)
  clear h hk
  go_enter Try.func10, Try.ntmps10
  go_wp2_with fail
  refine (awakeCalls28 _).mono ?_
  rintro e w1 ⟨rfl, hb1⟩
  have HB1 := put hb1
  clear hb1
  go_wp2_with fail
  refine (greatCalls ok _ none none A2 0 0 c2 0 0 ks.length _ rows _ (HROWS.out.below HB1.out) (by decide) (by decide) K23.out).mono ?_
  rintro e w4 ⟨⟨b, rfl, hg⟩, hb4⟩
  have HB4 : Kp (Below w.heap.size w w4) := put (HB1.out.trans (hb4.mono HB1.out.size))
  have HG := put hg
  clear hb4 hg
  cases b with
  | true =>
    go_wp2_with fail
    go_ret
    exact ⟨rfl, HB4.out⟩
  | false =>
    obtain ⟨g1, ⟨_, _, g2⟩, g4⟩ := HG.out rfl
    have GL := put (And.intro g1 g2)
    have G4 := put g4
    go_wp2_with fail
    refine (rightRows ok _ rows w4 (HROWS.out.below HB4.out) (by omega) (fun r hr => by have := g4 r hr; omega)).mono ?_
    rintro e w5 ⟨⟨b, rfl, _⟩, hb5⟩
    have HB5 : Kp (Below w.heap.size w w5) := put (HB4.out.trans (hb5.mono HB4.out.size))
    clear g1 g2 g4 HG hb5
    cases b with
    | false =>
      go_wp2_with fail
      go_ret
      exact ⟨rfl, HB5.out⟩
    | true =>
      have hlr : rows.length ≤ 1000 := by have := GL.out.1; omega
      have hlk : ks.length ≤ 1000 := by have := GL.out.2; omega
      have hrr : ∀ r ∈ rows, r.length ≤ 1000 := fun r hr => by have := G4.out r hr; omega
      have hSp : (sortR ks rows).Perm rows := Stab.isort_perm rows
      have hsl : (sortR ks rows).length ≤ 1000 := by rw [hSp.length_eq]; exact hlr
      have hsr : ∀ r ∈ sortR ks rows, r.length ≤ 1000 := fun r hr => hrr r (hSp.subset hr)
      have C1 := put (sortCalls ok ok _ _ rows ks w5 (HROWS.out.below HB5.out) (HKEYS.out.below HB5.out) hlr hrr hlk)
      have HLR := put (And.intro hlr hlk)
      have HSL := put (And.intro hsl hsr)
      clear hlr hlk hrr hSp hsl hsr k3 k23
      go_wp2_with fail
      refine C1.out.mono ?_
      rintro e w6 ⟨vs, rfl, ho6, hb6⟩
      have HB6 : Kp (Below w.heap.size w w6) := put (HB5.out.trans (hb6.mono HB5.out.size))
      have HS : Kp (Sl tRow (fun _ => True) w6 vs (sortR ks rows)) := put (tRowU_sl (ho6.sl (fun _ _ => trivial) (fun _ _ => trivial) (by have := HSL.out.1; omega)))
      clear ho6 hb6 C1
      go_wp2_with fail
      refine (plainKeysCalls ok _ ks w6 (HKEYS.out.below HB6.out) HLR.out.2).mono ?_
      rintro e w7 ⟨vp, rfl, ho7, hb7⟩
      have HS7 := put (HS.out.below hb7)
      have HB7 : Kp (Below w.heap.size w w7) := put (HB6.out.trans (hb7.mono HB6.out.size))
      have HP : Kp (Sl tKey (fun _ => True) w7 vp ks) := put (ho7.sl (fun _ _ => trivial) (fun _ _ => trivial) (by have := HLR.out.2; omega))
      clear ho7 hb7 HS
      go_wp2_with fail
      refine (refSortCalls ok (fun _ => True) _ _ rows ks w7 (HROWS.out.below HB7.out) HP.out HLR.out.1 HLR.out.2).mono ?_
      rintro e w8 ⟨vr, rfl, ho8, hb8⟩
      have HS8 := put (HS7.out.below hb8)
      have HB8 : Kp (Below w.heap.size w w8) := put (HB7.out.trans (hb8.mono HB7.out.size))
      have HR8 : Kp (Sl tRow (fun _ => True) w8 vr (sortR ks rows)) := put (ho8.sl (fun _ _ => trivial) (fun _ _ => trivial) (by have := HSL.out.1; omega))
      clear ho8 hb8 HS7 HP
      go_wp2_with fail
      refine (sameCalls _ _ _ _ _ _ w8 HS8.out HR8.out HSL.out.1 HSL.out.2).mono ?_
      rintro e w9 ⟨rfl, hg9⟩
      rw [show decide (sortR ks rows = sortR ks rows) = true by simp]
      have HS9 := put (HS8.out.below hg9.below)
      have HB9 : Kp (Below w.heap.size w w9) := put (HB8.out.trans (hg9.below.mono HB8.out.size))
      clear hg9 HS8 HR8
      go_wp2_with fail
      refine (sortCalls (fun _ => True) ok _ _ (sortR ks rows) ks w9 HS9.out (HKEYS.out.below HB9.out) HSL.out.1 HSL.out.2 HLR.out.2).mono ?_
      rintro e w10 ⟨vt, rfl, ho10, hb10⟩
      rw [HSS.out] at ho10
      have HS10 := put (HS9.out.below hb10)
      have HB10 : Kp (Below w.heap.size w w10) := put (HB9.out.trans (hb10.mono HB9.out.size))
      have HT : Kp (Sl tRow (fun _ => True) w10 vt (sortR ks rows)) := put (tRowU_sl (ho10.sl (fun _ _ => trivial) (fun _ _ => trivial) (by have := HSL.out.1; omega)))
      clear ho10 hb10 HS9
      go_wp2_with fail
      refine (sameCalls _ _ _ _ _ _ w10 HT.out HS10.out HSL.out.1 HSL.out.2).mono ?_
      rintro e w11 ⟨rfl, hg11⟩
      rw [show decide (sortR ks rows = sortR ks rows) = true by simp]
      have HB11 : Kp (Below w.heap.size w w11) := put (HB10.out.trans (hg11.below.mono HB10.out.size))
      clear hg11
      go_wp2_with fail
      go_ret
      exact ⟨rfl, HB11.out⟩
end Go.Proofs.Ytkfoknjflpklpaa.P
