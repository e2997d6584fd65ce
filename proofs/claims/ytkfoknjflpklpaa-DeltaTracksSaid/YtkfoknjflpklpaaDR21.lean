/- Region 21 of the document's Net: out with c put in, in new memory. -/
import Derived.Test.YtkfoknjflpklpaaDRefB
namespace Go.Proofs.Ytkfoknjflpklpaa.D
open Go Go.RowKit Go.Proofs.Ytkfoknjflpklpaa.Mem Go.Proofs.Ytkfoknjflpklpaa.Cmp

def findRegion (id : Nat) : Code → Option Code
  | .region i ops b => if i = id then some (.region i ops b) else none
  | .seq a b => (findRegion id a).or (findRegion id b)
  | .cond _ a b => (findRegion id a).or (findRegion id b)
  | .block _ c => findRegion id c
  | .loop c => findRegion id c
  | _ => none

set_option maxHeartbeats 16000000 in
set_option maxRecDepth 100000 in
theorem region21 (s0 s1 s2 s4 s5 s6 s8 s10 s11 s12 s13 s14 s15 s16 s17 s18 s19 s20 s21 s22 s23 s24 s25 s26 s27 s28 s29 s30 s31 s32 s33 s34 s35 s36 s37 s38 s39 s40 s41 s42 s43 s44 s45 s46 s47 s48 s49 s50 s51 s52 s53 s54 s55 s56 s57 s58 s59 s60 s61 s62 s63 s64 s65 s66 s67 s68 s69 s70 s71 s72 s73 s74 s75 s76 s77 s78 s79 s80 s81 s82 s83 s84 s85 s86 s87 s88 s89 s90 s91 s92 s93 s94 s95 s96 s97 s98 s99 s100 s101 s102 s103 s104 s105 s106 s107 s108 s109 s110 s111 s112 s113 s114 s115 s116 s117 s118 s119 s120 s121 s122 s123 s124 s125 s126 s127 s128 s129 s130 s131 s132 s133 s134 s135 s136 s137 s138 : Value) (B mo co a : Nat) (ga : Addr) (cc : Chg) (out : List Chg) (A2 N3 : Option Addr) (k2 kn : Nat) (w6 : World) (Q : Exit → Act → World → Prop)
    (f0 : w6.cell? ⟨B, 0, none⟩ = some (.string cc.table)) (f1 : w6.cell? ⟨B, 1, none⟩ = some (.int .i64 cc.id)) (f2 : w6.cell? ⟨B, 2, none⟩ = some (.slice A2 cc.old.length k2)) (f3 : w6.cell? ⟨B, 3, none⟩ = some (.slice N3 cc.new.length kn)) (hB6 : B < w6.heap.size)
    (CR : Kp (∀ W, Below w6.heap.size w6 W → tChg.R (fun k => k < w6.heap.size) W cc [.string cc.table, .int .i64 cc.id, .slice A2 cc.old.length k2, .slice N3 cc.new.length kn]))
    (OS : Sl tChg (fun k => k < w6.heap.size) w6 (.slice (some ga) mo co) out) (HMO : Kp (mo = out.length)) (ha : a ≤ mo) (hmc : mo ≤ co) (hm : mo ≤ 1000)
    (hQ : ∀ (r126 r127 r128 r129 r130 r131 r132 r133 r134 r135 r136 r137 : Value) (g3 c3 : Nat) (w9 : World), mo + 1 ≤ c3 → Below w6.heap.size w6 w9 → Own tChg 43 (fun _ => True) w9 w6.heap.size (.slice (some ⟨g3, 0, none⟩) (mo + 1) c3) (out.take a ++ [cc] ++ out.drop a) → Q .normal { tmps := #[s0, s1, s2, .slice (some ⟨g3, 0, none⟩) (mo + 1) c3, s4, s5, s6, .pointer (some ⟨B, 0, none⟩), s8, .int .i64 a, s10, s11, s12, s13, s14, s15, s16, s17, s18, s19, s20, s21, s22, s23, s24, s25, s26, s27, s28, s29, s30, s31, s32, s33, s34, s35, s36, s37, s38, s39, s40, s41, s42, s43, s44, s45, s46, s47, s48, s49, s50, s51, s52, s53, s54, s55, s56, s57, s58, s59, s60, s61, s62, s63, s64, s65, s66, s67, s68, s69, s70, s71, s72, s73, s74, s75, s76, s77, s78, s79, s80, s81, s82, s83, s84, s85, s86, s87, s88, s89, s90, s91, s92, s93, s94, s95, s96, s97, s98, s99, s100, s101, s102, s103, s104, s105, s106, s107, s108, s109, s110, s111, s112, s113, s114, s115, s116, s117, s118, s119, s120, s121, s122, s123, s124, s125, r126, r127, r128, r129, r130, r131, r132, r133, r134, r135, r136, r137, s138], defers := [] } w9) :
    ∀ code, (Try.f23.body.bind (findRegion 21)) = some code → Code.wp Try.prog code Q { tmps := #[s0, s1, s2, .slice (some ga) mo co, s4, s5, s6, .pointer (some ⟨B, 0, none⟩), s8, .int .i64 a, s10, s11, s12, s13, s14, s15, s16, s17, s18, s19, s20, s21, s22, s23, s24, s25, s26, s27, s28, s29, s30, s31, s32, s33, s34, s35, s36, s37, s38, s39, s40, s41, s42, s43, s44, s45, s46, s47, s48, s49, s50, s51, s52, s53, s54, s55, s56, s57, s58, s59, s60, s61, s62, s63, s64, s65, s66, s67, s68, s69, s70, s71, s72, s73, s74, s75, s76, s77, s78, s79, s80, s81, s82, s83, s84, s85, s86, s87, s88, s89, s90, s91, s92, s93, s94, s95, s96, s97, s98, s99, s100, s101, s102, s103, s104, s105, s106, s107, s108, s109, s110, s111, s112, s113, s114, s115, s116, s117, s118, s119, s120, s121, s122, s123, s124, s125, s126, s127, s128, s129, s130, s131, s132, s133, s134, s135, s136, s137, s138], defers := [] } w6 := by
  intro code hcode
  have h : (Try.f23.body.bind (findRegion 21)) = some (Code.region 21 _ true) := rfl
  rw [h] at hcode
  injection hcode with hcode
  subst hcode
  clear h
  have HQ := put hQ
  clear hQ
  have hao : a ≤ co := by omega
  have OT : Kp (∀ W, Below w6.heap.size w6 W → Sl tChg (fun k => k < w6.heap.size) W (.slice (some ga) a co) (out.take a)) := ⟨fun W hb => (OS.take (n := a) ha).below hb⟩
  have OD := OS.drop (n := a) ha
  have hac : (a : Int) ≤ (co : Int) := by omega
  have hac0 : (0 : Int) ≤ (a : Int) := by omega
  have ham : (a : Int) ≤ (mo : Int) := by omega
  have htl : Kp ((out.take a).length = a) := ⟨by rw [List.length_take, ← HMO.out]; omega⟩
  have hdl : Kp ((out.drop a).length = mo - a) := ⟨by rw [List.length_drop, ← HMO.out]⟩
  have LN1 : Kp ((([] : List Chg).length + (out.take a).length) * 72 ≤ 140737488355328) := ⟨by rw [htl.out]; simp only [List.length_nil]; omega⟩
  have LN2 : Kp (((out.take a).length + [cc].length) * 72 ≤ 140737488355328) := ⟨by rw [htl.out]; simp only [List.length_singleton]; omega⟩
  have LN3 : Kp (((out.take a ++ [cc]).length + (out.drop a).length) * 72 ≤ 140737488355328) := ⟨by rw [List.length_append, htl.out, hdl.out]; simp only [List.length_singleton]; omega⟩
  clear OS
  have ODD := put OD
  clear OD
  go_region_held3 (fun w' => w'.cell? ⟨B, 0, none⟩ = some (.string cc.table) ∧ w'.cell? ⟨B, 1, none⟩ = some (.int .i64 cc.id) ∧ w'.cell? ⟨B, 2, none⟩ = some (.slice A2 cc.old.length k2) ∧ w'.cell? ⟨B, 3, none⟩ = some (.slice N3 cc.new.length kn)) (first | exact ⟨f0, f1, f2, f3⟩ | exact ⟨g0, g1, g2, g3⟩ | exact ⟨h0, h1, h2, h3⟩ | exact ⟨i'0, i'1, i'2, i'3⟩ | go_keep)
    (first | (refine step_pushes tChg w6.heap.size rfl _ _ 32 43 _ 72 rfl Try.underlying32 infoRef rfl (by decide) (by decide) (.slice (some ⟨_, 0, none⟩) 0 0) (.slice (some ga) a co) [] (out.take a) (fun _ => True) (fun k => k < w6.heap.size) rfl rfl (OT.out _ (by (repeat (first | with_reducible exact (Below.refl _ _) | with_reducible apply Below.drew | with_reducible refine balloc ?_ _)))) (fun k hk => ⟨trivial, ne_new hk (by (first | exact Nat.le_refl _ | exact Nat.le_succ _))⟩) (Own.lit' _ (by (simp only [heap_alloc_get, heap_drew_get] <;> simp <;> done)) (by (first | exact Nat.le_refl _ | exact Nat.le_succ _))) (bsize (by (repeat (first | with_reducible exact (Below.refl _ _) | with_reducible apply Below.drew | with_reducible refine balloc ?_ _)))) LN1.out ?_; intro v1 w7 ho1 hg1 hat1; rw [List.nil_append] at ho1; obtain ⟨V1, c1, e1, _, _⟩ := ho1.form; rw [htl.out] at e1; subst e1; have hb7 : Below w6.heap.size w6 w7 := Below.grown (by (repeat (first | with_reducible exact (Below.refl _ _) | with_reducible apply Below.drew | with_reducible refine balloc ?_ _))) hg1 (bsize (by (repeat (first | with_reducible exact (Below.refl _ _) | with_reducible apply Below.drew | with_reducible refine balloc ?_ _)))) (lit_block (by (first | exact Nat.le_refl _ | exact Nat.le_succ _))); have g0 := ((hb7).cell (p := ⟨B, 0, none⟩) hB6).trans f0; have g1 := ((hb7).cell (p := ⟨B, 1, none⟩) hB6).trans f1; have g2 := ((hb7).cell (p := ⟨B, 2, none⟩) hB6).trans f2; have g3 := ((hb7).cell (p := ⟨B, 3, none⟩) hB6).trans f3; have OW1 := put ho1; have HB7 := put hb7; have HG1 := put hg1; have HAT1 := put hat1; clear ho1 hg1 hat1 hb7) | (refine step_pushes tChg w6.heap.size rfl _ _ 32 43 _ 72 rfl Try.underlying32 infoRef rfl (by decide) (by decide) (.slice V1 a c1) (.slice (some ⟨_, 0, none⟩) 1 1) (out.take a) [cc] (fun _ => True) (fun k => some k ≠ (Value.slice V1 a c1).ownBlock) rfl rfl (lit_sl (E := 43) (by first | (simp only [heap_alloc_get] <;> simp <;> done) | (refine Eq.trans (HG1.out.block _ ?_ (ne_lit (by simp))) ?_; rotate_left; (simp only [heap_alloc_get, heap_drew_get] <;> simp <;> done); (simp <;> omega))) (tChg.mono (fun k hk => ne_own OW1.out hk) (CR.out _ (by (repeat (first | with_reducible exact HB7.out | with_reducible apply Below.drew | with_reducible refine balloc ?_ _))))) (by first | exact ne_fresh OW1.out | exact ne_grown HAT1.out (ne_lit (by simp)) (by simp <;> omega))) (fun k hk => ⟨trivial, hk⟩) (OW1.out.below (by (repeat (first | with_reducible exact (Below.refl _ _) | with_reducible apply Below.drew | with_reducible refine balloc ?_ _)))) (bsize (w := w6) (by (repeat (first | with_reducible exact HB7.out | with_reducible apply Below.drew | with_reducible refine balloc ?_ _)))) LN2.out ?_; intro v2 w8 ho2 hg2 hat2; obtain ⟨V2, c2, e2, _, _⟩ := ho2.form; rw [List.length_append, htl.out, List.length_singleton] at e2; subst e2; have hb8 : Below w6.heap.size w6 w8 := Below.grown (by (repeat (first | with_reducible exact HB7.out | with_reducible apply Below.drew | with_reducible refine balloc ?_ _))) hg2 (bsize (w := w6) (by (repeat (first | with_reducible exact HB7.out | with_reducible apply Below.drew | with_reducible refine balloc ?_ _)))) (fun k hk => (OW1.out.lt k hk).1); have h0 := ((hb8).cell (p := ⟨B, 0, none⟩) hB6).trans f0; have h1 := ((hb8).cell (p := ⟨B, 1, none⟩) hB6).trans f1; have h2 := ((hb8).cell (p := ⟨B, 2, none⟩) hB6).trans f2; have h3 := ((hb8).cell (p := ⟨B, 3, none⟩) hB6).trans f3; have OW2 := put ho2; have HB8 := put hb8; clear ho2 hg2 hat2 hb8) | (refine step_pushes tChg w6.heap.size rfl _ _ 32 43 _ 72 rfl Try.underlying32 infoRef rfl (by decide) (by decide) (.slice V2 (a + 1) c2) _ (out.take a ++ [cc]) (out.drop a) (fun _ => True) (fun k => k < w6.heap.size) rfl rfl (by first | exact ODD.out.below (by (repeat (first | with_reducible exact HB8.out | with_reducible apply Below.drew | with_reducible refine balloc ?_ _))) | (simp only [Act.eval, Act.put]; exact ODD.out.below (by (repeat (first | with_reducible exact HB8.out | with_reducible apply Below.drew | with_reducible refine balloc ?_ _))))) (fun k hk => ⟨trivial, ne_own OW2.out hk⟩) (OW2.out.below (by (repeat (first | with_reducible exact (Below.refl _ _) | with_reducible apply Below.drew | with_reducible refine balloc ?_ _)))) (bsize (w := w6) (by (repeat (first | with_reducible exact HB8.out | with_reducible apply Below.drew | with_reducible refine balloc ?_ _)))) LN3.out ?_; intro v3 w9 ho3 hg3 hat3; have hb9 : Below w6.heap.size w6 w9 := Below.grown (by (repeat (first | with_reducible exact HB8.out | with_reducible apply Below.drew | with_reducible refine balloc ?_ _))) hg3 (bsize (w := w6) (by (repeat (first | with_reducible exact HB8.out | with_reducible apply Below.drew | with_reducible refine balloc ?_ _)))) (fun k hk => (OW2.out.lt k hk).1); obtain ⟨V3, c3, e3, hcap3, _⟩ := ho3.form; have i'0 := ((hb9).cell (p := ⟨B, 0, none⟩) hB6).trans f0; have i'1 := ((hb9).cell (p := ⟨B, 1, none⟩) hB6).trans f1; have i'2 := ((hb9).cell (p := ⟨B, 2, none⟩) hB6).trans f2; have i'3 := ((hb9).cell (p := ⟨B, 3, none⟩) hB6).trans f3; have OW3 := put ho3; have HB9 := put hb9; have HE3 := put e3; have HC3 := put hcap3; clear ho3 hg3 hat3 hb9 e3 hcap3))
  all_goals
    have hln : (out.take a ++ [cc] ++ out.drop a).length = mo + 1 := by rw [List.length_append, List.length_append, htl.out, hdl.out, List.length_singleton]; omega
    rcases OW3.out.shape with ⟨_, hx⟩ | ⟨g, cap, e, _, _, hc, _⟩
    · rw [hx] at hln; simp at hln
    · rw [hln] at e hc
      have how := OW3.out
      have hbw := HB9.out
      clear OW3 HE3 HC3
      subst e
      exact HQ.out _ _ _ _ _ _ _ _ _ _ _ _ g cap _ hc hbw how

end Go.Proofs.Ytkfoknjflpklpaa.D
