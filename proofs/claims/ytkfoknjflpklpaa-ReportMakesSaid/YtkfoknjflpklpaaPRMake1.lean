/- Two drawn regions of tripwireref28.Make. -/
import Derived.Test.YtkfoknjflpklpaaPRGroups
import Derived.Test.YtkfoknjflpklpaaPReckon
import Derived.Test.YtkfoknjflpklpaaPRSort
namespace Go.Proofs.Ytkfoknjflpklpaa.P
open Go Go.RowKit Go.Sort Go.Proofs.Ytkfoknjflpklpaa.Mem Go.Proofs.Ytkfoknjflpklpaa.Cmp Go.Proofs.Ytkfoknjflpklpaa.D

set_option maxHeartbeats 16000000 in
set_option maxRecDepth 100000 in
theorem makePut (s1 s2 s4 s5 s6 s11 s12 s13 s14 s15 s16 s17 s18 s19 s20 s21 s22 s23 s24 s25 s26 s27 s28 s29 s30 s31 s32 s33 s34 s35 s36 s37 s38 s39 s40 s41 s42 s43 s44 s45 s46 s47 s48 s49 s50 s51 s52 s53 s54 s55 s56 s57 s58 s59 s60 s61 s62 s63 s64 s65 s66 s67 s68 s69 s70 s71 s72 s73 s74 s75 s76 s77 s78 s79 s80 s81 s82 s83 s84 s85 s86 s87 s88 s89 s90 s91 s92 s93 s94 s95 s96 s97 s98 s99 s100 s101 s102 s103 s104 s105 s106 s107 s108 s109 s110 s111 s112 s113 s114 s115 s116 s117 s118 s119 s120 s121 s122 s123 s124 s125 s126 s127 : Value) (ad ld gd rd cd : Addr) (A9 : Option Addr) (m c nl cl ng cg nr cr n3 c3 X i j k l9 c9 col : Nat) (xs : List Val) (y : Val) (w5 wk : World) (Q : Exit → Act → World → Prop)
    (hb : Below w5.heap.size w5 wk) (hi : i < nl) (hg : 0 < ng) (hj : j < m) (hk : k < n3) (hc : col < nr)
    (x0 : w5.cell? (ld.add i) = some (.slice (some gd) ng cg)) (x1 : w5.cell? gd = some (.int .i64 (j : Int))) (x2 : w5.cell? (ad.add j) = some (.slice (some rd) nr cr)) (x3 : w5.cell? ⟨X, 0, none⟩ = some (.slice (some cd) n3 c3)) (x4 : w5.cell? (cd.add k) = some (.int .i64 (col : Int)))
    (y0 : w5.cell? (rd.add (col * 3)) = some (.int .i64 y.kind)) (y1 : w5.cell? ⟨(rd.add (col * 3)).block, (rd.add (col * 3)).off + 1, none⟩ = some (.int .i64 y.n)) (y2 : w5.cell? ⟨(rd.add (col * 3)).block, (rd.add (col * 3)).off + 2, none⟩ = some (.string y.s))
    (ho : Own tVal 55 (fun _ => True) wk w5.heap.size (.slice A9 l9 c9) xs) (hl : xs.length = l9) (hl9 : l9 ≤ 2000)
    (hQ : ∀ (r58 r59 r60 r61 r62 r63 r64 r65 r66 r67 r68 r69 r70 r71 r72 r73 r74 r75 r76 : Value) (V1 : Option Addr) (d9 : Nat) (w9 : World), Own tVal 55 (fun _ => True) w9 w5.heap.size (.slice V1 (l9 + 1) d9) (xs ++ [y]) → Below w5.heap.size w5 w9 → Q .normal { tmps := #[.slice (some ad) m c, s1, s2, .pointer (some ⟨X, 0, none⟩), s4, s5, s6, .slice (some ld) nl cl, .int .i64 (i : Int), .slice V1 (l9 + 1) d9, .int .i64 (k : Int), s11, s12, s13, s14, s15, s16, s17, s18, s19, s20, s21, s22, s23, s24, s25, s26, s27, s28, s29, s30, s31, s32, s33, s34, s35, s36, s37, s38, s39, s40, s41, s42, s43, s44, s45, s46, s47, s48, s49, s50, s51, s52, s53, s54, s55, s56, s57, r58, r59, r60, r61, r62, r63, r64, r65, r66, r67, r68, r69, r70, r71, r72, r73, r74, r75, r76, s77, s78, s79, s80, s81, s82, s83, s84, s85, s86, s87, s88, s89, s90, s91, s92, s93, s94, s95, s96, s97, s98, s99, s100, s101, s102, s103, s104, s105, s106, s107, s108, s109, s110, s111, s112, s113, s114, s115, s116, s117, s118, s119, s120, s121, s122, s123, s124, s125, s126, s127], defers := [] } w9) :
    ∀ code, (Try.f44.body.bind (regionAt 16)) = some code → Code.wp Try.prog code Q { tmps := #[.slice (some ad) m c, s1, s2, .pointer (some ⟨X, 0, none⟩), s4, s5, s6, .slice (some ld) nl cl, .int .i64 (i : Int), .slice A9 l9 c9, .int .i64 (k : Int), s11, s12, s13, s14, s15, s16, s17, s18, s19, s20, s21, s22, s23, s24, s25, s26, s27, s28, s29, s30, s31, s32, s33, s34, s35, s36, s37, s38, s39, s40, s41, s42, s43, s44, s45, s46, s47, s48, s49, s50, s51, s52, s53, s54, s55, s56, s57, s58, s59, s60, s61, s62, s63, s64, s65, s66, s67, s68, s69, s70, s71, s72, s73, s74, s75, s76, s77, s78, s79, s80, s81, s82, s83, s84, s85, s86, s87, s88, s89, s90, s91, s92, s93, s94, s95, s96, s97, s98, s99, s100, s101, s102, s103, s104, s105, s106, s107, s108, s109, s110, s111, s112, s113, s114, s115, s116, s117, s118, s119, s120, s121, s122, s123, s124, s125, s126, s127], defers := [] } wk := by
  intro code hcode
  have h : (Try.f44.body.bind (regionAt 16)) = some (Code.region 16 _ true) := rfl
  rw [h] at hcode
  injection hcode with hcode
  subst hcode
  clear h
  have HQ := put hQ
  have X0 := put (And.intro x0 (World.block_lt_of_cell? _ _ x0))
  have X1 := put (And.intro x1 (World.block_lt_of_cell? _ _ x1))
  have X2 := put (And.intro x2 (World.block_lt_of_cell? _ _ x2))
  have X3 := put (And.intro x3 (World.block_lt_of_cell? _ _ x3))
  have X4 := put (And.intro x4 (World.block_lt_of_cell? _ _ x4))
  have Y0 := put (And.intro y0 (World.block_lt_of_cell? _ _ y0))
  have Y1 := put (And.intro y1 (World.block_lt_of_cell? _ _ y1))
  have Y2 := put (And.intro y2 (World.block_lt_of_cell? _ _ y2))
  have HO := put ho
  have HL9 := put hl
  have LN : Kp ((xs.length + [y].length) * 32 ≤ 140737488355328) := put (by rw [hl]; simp only [List.length_singleton]; omega)
  have i0 : (0 : Int) ≤ (i : Int) := by omega
  have iz : (i : Int) < (nl : Int) := by omega
  have gz : (0 : Int) < (ng : Int) := by omega
  have j0 : (0 : Int) ≤ (j : Int) := by omega
  have jz : (j : Int) < (m : Int) := by omega
  have k0 : (0 : Int) ≤ (k : Int) := by omega
  have kz : (k : Int) < (n3 : Int) := by omega
  have c0 : (0 : Int) ≤ (col : Int) := by omega
  have cz : (col : Int) < (nr : Int) := by omega
  have g0 : ng ≠ 0 := by omega
  clear hQ x0 x1 x2 x3 x4 y0 y1 y2 ho hl
  refine wp_region_noPanic ?_
  refine wp_region_held_drew (S := (fun w2 => Below w5.heap.size w5 w2)) (by kernel_rfl) hb.drew (fun hHeld => ?_)
  refine wpAnyH_take (i := 0) (v := ?_) rfl (by kernel_rfl) (by kernel_rfl) (by kernel_rfl) (fun _ _ _ h => h) (Or.inl ⟨by kernel_rfl, ?_⟩) (by assumption) ?_
  rotate_left
  focus (intro w hSw; (try dsimp only at hSw); go_simp; (try with_reducible rfl); done)
  try simp only [List.getElem_toArray, List.getElem_cons_zero, Act.put, List.setIfInBounds_toArray, List.set_cons_zero, List.set_cons_succ]
  refine wpAnyH_take (i := 1) (v := ?_) rfl (by kernel_rfl) (by kernel_rfl) (by kernel_rfl) (fun _ _ _ h => h) (Or.inl ⟨by kernel_rfl, ?_⟩) (by assumption) ?_
  rotate_left
  focus (intro w hSw; (try dsimp only at hSw); go_simp; (try with_reducible rfl); done)
  try simp only [List.getElem_toArray, List.getElem_cons_succ, List.getElem_cons_zero, Act.put, List.setIfInBounds_toArray, List.set_cons_zero, List.set_cons_succ]
  refine wpAnyH_take (i := 2) (v := ?_) rfl (by kernel_rfl) (by kernel_rfl) (by kernel_rfl) (fun _ _ _ h => h) (Or.inl ⟨by kernel_rfl, ?_⟩) (by assumption) ?_
  rotate_left
  focus (intro w hSw; (try dsimp only at hSw); go_simp; (try with_reducible rfl); done)
  try simp only [List.getElem_toArray, List.getElem_cons_succ, List.getElem_cons_zero, Act.put, List.setIfInBounds_toArray, List.set_cons_zero, List.set_cons_succ]
  refine wpAnyH_take (i := 3) (v := ?_) rfl (by kernel_rfl) (by kernel_rfl) (by kernel_rfl) (fun _ _ _ h => h) (Or.inl ⟨by kernel_rfl, ?_⟩) (by assumption) ?_
  rotate_left
  focus (intro w hSw; (try dsimp only at hSw); go_simp; (try with_reducible rfl); done)
  try simp only [List.getElem_toArray, List.getElem_cons_succ, List.getElem_cons_zero, Act.put, List.setIfInBounds_toArray, List.set_cons_zero, List.set_cons_succ]
  refine wpAnyH_take (i := 4) (v := ?_) rfl (by kernel_rfl) (by kernel_rfl) (by kernel_rfl) (fun _ _ _ h => h) (Or.inl ⟨by kernel_rfl, ?_⟩) (by assumption) ?_
  rotate_left
  focus (intro w hSw; (try dsimp only at hSw); go_simp; (try with_reducible rfl); done)
  try simp only [List.getElem_toArray, List.getElem_cons_succ, List.getElem_cons_zero, Act.put, List.setIfInBounds_toArray, List.set_cons_zero, List.set_cons_succ]
  refine wpAnyH_take (i := 5) (v := ?_) rfl (by kernel_rfl) (by kernel_rfl) (by kernel_rfl) (fun _ _ _ h => h) (Or.inl ⟨by kernel_rfl, ?_⟩) (by assumption) ?_
  rotate_left
  focus (intro w hSw; (try dsimp only at hSw); have z0 := (Below.cell hSw X0.out.2).trans X0.out.1; have z1 := (Below.cell hSw X1.out.2).trans X1.out.1; have z2 := (Below.cell hSw X2.out.2).trans X2.out.1; have z3 := (Below.cell hSw X3.out.2).trans X3.out.1; have z4 := (Below.cell hSw X4.out.2).trans X4.out.1; have z5 := (Below.cell hSw Y0.out.2).trans Y0.out.1; have z6 := (Below.cell hSw Y1.out.2).trans Y1.out.1; have z7 := (Below.cell hSw Y2.out.2).trans Y2.out.1; go_simp; (try with_reducible rfl); done)
  try simp only [List.getElem_toArray, List.getElem_cons_succ, List.getElem_cons_zero, Act.put, List.setIfInBounds_toArray, List.set_cons_zero, List.set_cons_succ]
  refine wpAnyH_take (i := 6) (v := ?_) rfl (by kernel_rfl) (by kernel_rfl) (by kernel_rfl) (fun _ _ _ h => h) (Or.inl ⟨by kernel_rfl, ?_⟩) (by assumption) ?_
  rotate_left
  focus (intro w hSw; (try dsimp only at hSw); go_simp; (try with_reducible rfl); done)
  try simp only [List.getElem_toArray, List.getElem_cons_succ, List.getElem_cons_zero, Act.put, List.setIfInBounds_toArray, List.set_cons_zero, List.set_cons_succ]
  refine wpAnyH_take (i := 7) (v := ?_) rfl (by kernel_rfl) (by kernel_rfl) (by kernel_rfl) (fun _ _ _ h => h) (Or.inl ⟨by kernel_rfl, ?_⟩) (by assumption) ?_
  rotate_left
  focus (intro w hSw; (try dsimp only at hSw); have z0 := (Below.cell hSw X0.out.2).trans X0.out.1; have z1 := (Below.cell hSw X1.out.2).trans X1.out.1; have z2 := (Below.cell hSw X2.out.2).trans X2.out.1; have z3 := (Below.cell hSw X3.out.2).trans X3.out.1; have z4 := (Below.cell hSw X4.out.2).trans X4.out.1; have z5 := (Below.cell hSw Y0.out.2).trans Y0.out.1; have z6 := (Below.cell hSw Y1.out.2).trans Y1.out.1; have z7 := (Below.cell hSw Y2.out.2).trans Y2.out.1; go_simp; (try with_reducible rfl); done)
  try simp only [List.getElem_toArray, List.getElem_cons_succ, List.getElem_cons_zero, Act.put, List.setIfInBounds_toArray, List.set_cons_zero, List.set_cons_succ]
  refine wpAnyH_take (i := 8) (v := ?_) rfl (by kernel_rfl) (by kernel_rfl) (by kernel_rfl) (fun _ _ _ h => h) (Or.inl ⟨by kernel_rfl, ?_⟩) (by assumption) ?_
  rotate_left
  focus (intro w hSw; (try dsimp only at hSw); go_simp; (try with_reducible rfl); done)
  try simp only [List.getElem_toArray, List.getElem_cons_succ, List.getElem_cons_zero, Act.put, List.setIfInBounds_toArray, List.set_cons_zero, List.set_cons_succ]
  refine wpAnyH_take (i := 9) (v := ?_) rfl (by kernel_rfl) (by kernel_rfl) (by kernel_rfl) (fun _ _ _ h => h) (Or.inl ⟨by kernel_rfl, ?_⟩) (by assumption) ?_
  rotate_left
  focus (intro w hSw; (try dsimp only at hSw); have z0 := (Below.cell hSw X0.out.2).trans X0.out.1; have z1 := (Below.cell hSw X1.out.2).trans X1.out.1; have z2 := (Below.cell hSw X2.out.2).trans X2.out.1; have z3 := (Below.cell hSw X3.out.2).trans X3.out.1; have z4 := (Below.cell hSw X4.out.2).trans X4.out.1; have z5 := (Below.cell hSw Y0.out.2).trans Y0.out.1; have z6 := (Below.cell hSw Y1.out.2).trans Y1.out.1; have z7 := (Below.cell hSw Y2.out.2).trans Y2.out.1; go_simp; (try with_reducible rfl); done)
  try simp only [List.getElem_toArray, List.getElem_cons_succ, List.getElem_cons_zero, Act.put, List.setIfInBounds_toArray, List.set_cons_zero, List.set_cons_succ]
  refine wpAnyH_take (i := 10) (v := ?_) rfl (by kernel_rfl) (by kernel_rfl) (by kernel_rfl) (fun _ _ _ h => h) (Or.inl ⟨by kernel_rfl, ?_⟩) (by assumption) ?_
  rotate_left
  focus (intro w hSw; (try dsimp only at hSw); go_simp; (try with_reducible rfl); done)
  try simp only [List.getElem_toArray, List.getElem_cons_succ, List.getElem_cons_zero, Act.put, List.setIfInBounds_toArray, List.set_cons_zero, List.set_cons_succ]
  refine wpAnyH_take (i := 11) (v := ?_) rfl (by kernel_rfl) (by kernel_rfl) (by kernel_rfl) (fun _ _ _ h => h) (Or.inl ⟨by kernel_rfl, ?_⟩) (by assumption) ?_
  rotate_left
  focus (intro w hSw; (try dsimp only at hSw); have z0 := (Below.cell hSw X0.out.2).trans X0.out.1; have z1 := (Below.cell hSw X1.out.2).trans X1.out.1; have z2 := (Below.cell hSw X2.out.2).trans X2.out.1; have z3 := (Below.cell hSw X3.out.2).trans X3.out.1; have z4 := (Below.cell hSw X4.out.2).trans X4.out.1; have z5 := (Below.cell hSw Y0.out.2).trans Y0.out.1; have z6 := (Below.cell hSw Y1.out.2).trans Y1.out.1; have z7 := (Below.cell hSw Y2.out.2).trans Y2.out.1; go_simp; (try with_reducible rfl); done)
  try simp only [List.getElem_toArray, List.getElem_cons_succ, List.getElem_cons_zero, Act.put, List.setIfInBounds_toArray, List.set_cons_zero, List.set_cons_succ]
  refine wpAnyH_take (i := 12) (v := ?_) rfl (by kernel_rfl) (by kernel_rfl) (by kernel_rfl) (fun _ _ _ h => h) (Or.inl ⟨by kernel_rfl, ?_⟩) (by assumption) ?_
  rotate_left
  focus (intro w hSw; (try dsimp only at hSw); go_simp; (try with_reducible rfl); done)
  try simp only [List.getElem_toArray, List.getElem_cons_succ, List.getElem_cons_zero, Act.put, List.setIfInBounds_toArray, List.set_cons_zero, List.set_cons_succ]
  refine wpAnyH_take (i := 13) (v := ?_) rfl (by kernel_rfl) (by kernel_rfl) (by kernel_rfl) (fun _ _ _ h => h) (Or.inl ⟨by kernel_rfl, ?_⟩) (by assumption) ?_
  rotate_left
  focus (intro w hSw; (try dsimp only at hSw); go_simp; (try with_reducible rfl); done)
  try simp only [List.getElem_toArray, List.getElem_cons_succ, List.getElem_cons_zero, Act.put, List.setIfInBounds_toArray, List.set_cons_zero, List.set_cons_succ]
  refine wpAnyH_take (i := 14) (v := ?_) rfl (by kernel_rfl) (by kernel_rfl) (by kernel_rfl) (fun _ _ _ h => h) (Or.inl ⟨by kernel_rfl, ?_⟩) (by assumption) ?_
  rotate_left
  focus (intro w hSw; (try dsimp only at hSw); have z0 := (Below.cell hSw X0.out.2).trans X0.out.1; have z1 := (Below.cell hSw X1.out.2).trans X1.out.1; have z2 := (Below.cell hSw X2.out.2).trans X2.out.1; have z3 := (Below.cell hSw X3.out.2).trans X3.out.1; have z4 := (Below.cell hSw X4.out.2).trans X4.out.1; have z5 := (Below.cell hSw Y0.out.2).trans Y0.out.1; have z6 := (Below.cell hSw Y1.out.2).trans Y1.out.1; have z7 := (Below.cell hSw Y2.out.2).trans Y2.out.1; go_simp; (try with_reducible rfl); done)
  try simp only [List.getElem_toArray, List.getElem_cons_succ, List.getElem_cons_zero, Act.put, List.setIfInBounds_toArray, List.set_cons_zero, List.set_cons_succ]
  refine wpAnyH_take (i := 15) (v := ?_) rfl (by kernel_rfl) (by kernel_rfl) (by kernel_rfl) (fun _ _ _ h => h) (Or.inl ⟨by kernel_rfl, ?_⟩) (by assumption) ?_
  rotate_left
  focus (intro w hSw; (try dsimp only at hSw); go_simp; (try with_reducible rfl); done)
  try simp only [List.getElem_toArray, List.getElem_cons_succ, List.getElem_cons_zero, Act.put, List.setIfInBounds_toArray, List.set_cons_zero, List.set_cons_succ]
  refine wpAnyH_take (i := 16) (v := ?_) rfl (by kernel_rfl) (by kernel_rfl) (by kernel_rfl) (fun _ _ _ h => h) (Or.inl ⟨by kernel_rfl, ?_⟩) (by assumption) ?_
  rotate_left
  focus (intro w hSw; (try dsimp only at hSw); have z0 := (Below.cell hSw X0.out.2).trans X0.out.1; have z1 := (Below.cell hSw X1.out.2).trans X1.out.1; have z2 := (Below.cell hSw X2.out.2).trans X2.out.1; have z3 := (Below.cell hSw X3.out.2).trans X3.out.1; have z4 := (Below.cell hSw X4.out.2).trans X4.out.1; have z5 := (Below.cell hSw Y0.out.2).trans Y0.out.1; have z6 := (Below.cell hSw Y1.out.2).trans Y1.out.1; have z7 := (Below.cell hSw Y2.out.2).trans Y2.out.1; go_simp; (try with_reducible rfl); done)
  try simp only [List.getElem_toArray, List.getElem_cons_succ, List.getElem_cons_zero, Act.put, List.setIfInBounds_toArray, List.set_cons_zero, List.set_cons_succ]
  refine wpAnyH_ready (rs := [17]) (by kernel_rfl) (by simp) ?_
  refine AllReadyH.cons rfl (fun JJ hJJ => ?_) AllReadyH.nil
  go_simp
  refine hJJ.out _ _ ?_ (fun hHeld2 => ?_)
  · exact hHeld.alloc hHeld.size _
  clear hJJ JJ hHeld
  have hHeld := hHeld2
  clear hHeld2
  try simp only [List.getElem_toArray, List.getElem_cons_succ, List.getElem_cons_zero, Act.put, List.setIfInBounds_toArray, List.set_cons_zero, List.set_cons_succ]
  refine wpAnyH_ready (rs := [18]) (by kernel_rfl) (by simp) ?_
  refine AllReadyH.cons rfl (fun JJ hJJ => ?_) AllReadyH.nil
  (refine step_pushes tVal w5.heap.size rfl _ _ 30 55 _ 32 rfl Try.underlying30 infoVal rfl (by decide) (by decide) (.slice A9 l9 c9) (.slice (some ⟨_, 0, none⟩) 1 1) xs [y] (fun _ => True) (fun k => some k ≠ (Value.slice A9 l9 c9).ownBlock) rfl rfl (lit_sl (E := 55) (cs := [.int .i64 y.kind, .int .i64 y.n, .string y.s]) (by (simp only [heap_alloc_get, heap_drew_get] <;> simp <;> done)) rfl (ne_fresh HO.out)) (fun k hk => ⟨trivial, hk⟩) (HO.out.below (by (repeat (first | with_reducible exact (Below.refl _ _) | with_reducible apply Below.drew | with_reducible refine balloc ?_ _)))) hHeld.size LN.out ?_; intro v1 w9 ho1 hg1 hat1; obtain ⟨V1, d9, e1, _, _⟩ := ho1.form; rw [List.length_append, HL9.out, List.length_singleton] at e1; subst e1; have hb9 : Below w5.heap.size w5 w9 := Below.grown hHeld hg1 hHeld.size (fun k hk => (HO.out.lt k hk).1); have HO9 := put ho1; have HB9 := put hb9; clear ho1 hg1 hat1 hb9)
  refine hJJ.out _ _ ?_ (fun hHeld2 => ?_)
  · exact HB9.out
  clear hJJ JJ hHeld
  have hHeld := hHeld2
  clear hHeld2
  try simp only [List.getElem_toArray, List.getElem_cons_succ, List.getElem_cons_zero, Act.put, List.setIfInBounds_toArray, List.set_cons_zero, List.set_cons_succ]
  refine wpAnyH_take (i := 19) (v := ?_) rfl (by kernel_rfl) (by kernel_rfl) (by kernel_rfl) (fun _ _ _ h => h) (Or.inl ⟨by kernel_rfl, ?_⟩) (by assumption) ?_
  rotate_left
  focus (intro w hSw; (try dsimp only at hSw); go_simp; (try with_reducible rfl); done)
  try simp only [List.getElem_toArray, List.getElem_cons_succ, List.getElem_cons_zero, Act.put, List.setIfInBounds_toArray, List.set_cons_zero, List.set_cons_succ]
  refine wpAnyH_done (by kernel_rfl) ?_ _
  refine NoPanic.normal ?_
  exact HQ.out _ _ _ _ _ _ _ _ _ _ _ _ _ _ _ _ _ _ _ V1 d9 _ HO9.out hHeld


set_option maxHeartbeats 16000000 in
set_option maxRecDepth 100000 in
theorem makeSum (s1 s2 s4 s5 s6 s9 s10 s12 s13 s14 s15 s16 s17 s18 s19 s20 s21 s22 s23 s24 s25 s26 s27 s28 s29 s30 s31 s32 s33 s34 s35 s36 s37 s38 s39 s40 s41 s42 s43 s44 s45 s46 s47 s48 s49 s50 s51 s52 s53 s54 s55 s56 s57 s58 s59 s60 s61 s62 s63 s64 s65 s66 s67 s68 s69 s70 s71 s72 s73 s74 s75 s76 s77 s78 s79 s80 s81 s82 s83 s84 s85 s86 s87 s88 s89 s90 s91 s92 s93 s94 s95 s96 s97 s98 s99 s100 s101 s102 s103 s104 s105 s106 s107 s108 s109 s110 s111 s112 s113 s114 s115 s116 s117 s118 s119 s120 s121 s122 s123 s124 s125 s126 s127 : Value) (ld sd : Addr) (A Ag : Option Addr) (m c nl cl ng cg n1 c1 X i k : Nat) (x : Smm) (v : Val) (er : Int) (wk : World) (Q : Exit → Act → World → Prop)
    (hi : i < nl) (hk : k < n1)
    (x0 : wk.cell? (ld.add i) = some (.slice Ag ng cg)) (x1 : wk.cell? ⟨X, 1, none⟩ = some (.slice (some sd) n1 c1)) (y0 : wk.cell? (sd.add (k * 2)) = some (.int .i64 x.kind)) (y1 : wk.cell? ⟨(sd.add (k * 2)).block, (sd.add (k * 2)).off + 1, none⟩ = some (.int .i64 x.col))
    (RK : Kp (∀ W, Below wk.heap.size wk W → Calls Try.prog 74 #[.slice A m c, .slice Ag ng cg, .agg #[.int .i64 x.kind, .int .i64 x.col]] W fun e w' => e = .returned (.tuple #[.agg #[.int .i64 v.kind, .int .i64 v.n, .string v.s], .int .i64 er]) ∧ Below W.heap.size W w'))
    (hQ : ∀ (r84 r85 r86 r87 r88 r89 r90 r91 r92 r93 r94 r95 r96 r97 : Value) (b : Nat) (w9 : World), Below wk.heap.size wk w9 → w9.heap[b]? = some (.cells #[.int .i64 v.kind, .int .i64 v.n, .string v.s] 55 (0, 0)) → Q .normal { tmps := #[.slice A m c, s1, s2, .pointer (some ⟨X, 0, none⟩), s4, s5, s6, .slice (some ld) nl cl, .int .i64 (i : Int), s9, s10, .int .i64 (k : Int), .pointer (some ⟨b, 0, none⟩), .int .i64 er, s14, s15, s16, s17, s18, s19, s20, s21, s22, s23, s24, s25, s26, s27, s28, s29, s30, s31, s32, s33, s34, s35, s36, s37, s38, s39, s40, s41, s42, s43, s44, s45, s46, s47, s48, s49, s50, s51, s52, s53, s54, s55, s56, s57, s58, s59, s60, s61, s62, s63, s64, s65, s66, s67, s68, s69, s70, s71, s72, s73, s74, s75, s76, s77, s78, s79, s80, s81, s82, s83, r84, r85, r86, r87, r88, r89, r90, r91, r92, r93, r94, r95, r96, r97, s98, s99, s100, s101, s102, s103, s104, s105, s106, s107, s108, s109, s110, s111, s112, s113, s114, s115, s116, s117, s118, s119, s120, s121, s122, s123, s124, s125, s126, s127], defers := [] } w9) :
    ∀ code, (Try.f44.body.bind (regionAt 20)) = some code → Code.wp Try.prog code Q { tmps := #[.slice A m c, s1, s2, .pointer (some ⟨X, 0, none⟩), s4, s5, s6, .slice (some ld) nl cl, .int .i64 (i : Int), s9, s10, .int .i64 (k : Int), s12, s13, s14, s15, s16, s17, s18, s19, s20, s21, s22, s23, s24, s25, s26, s27, s28, s29, s30, s31, s32, s33, s34, s35, s36, s37, s38, s39, s40, s41, s42, s43, s44, s45, s46, s47, s48, s49, s50, s51, s52, s53, s54, s55, s56, s57, s58, s59, s60, s61, s62, s63, s64, s65, s66, s67, s68, s69, s70, s71, s72, s73, s74, s75, s76, s77, s78, s79, s80, s81, s82, s83, s84, s85, s86, s87, s88, s89, s90, s91, s92, s93, s94, s95, s96, s97, s98, s99, s100, s101, s102, s103, s104, s105, s106, s107, s108, s109, s110, s111, s112, s113, s114, s115, s116, s117, s118, s119, s120, s121, s122, s123, s124, s125, s126, s127], defers := [] } wk := by
  intro code hcode
  have h : (Try.f44.body.bind (regionAt 20)) = some (Code.region 20 _ true) := rfl
  rw [h] at hcode
  injection hcode with hcode
  subst hcode
  clear h
  have HQ := put hQ
  have X0 := put (And.intro x0 (World.block_lt_of_cell? _ _ x0))
  have X1 := put (And.intro x1 (World.block_lt_of_cell? _ _ x1))
  have Y0 := put (And.intro y0 (World.block_lt_of_cell? _ _ y0))
  have Y1 := put (And.intro y1 (World.block_lt_of_cell? _ _ y1))
  have i0 : (0 : Int) ≤ (i : Int) := by omega
  have iz : (i : Int) < (nl : Int) := by omega
  have k0 : (0 : Int) ≤ (k : Int) := by omega
  have kz : (k : Int) < (n1 : Int) := by omega
  clear hQ x0 x1 y0 y1
  refine wp_region_noPanic ?_
  refine wp_region_held_drew (S := (fun w2 => Below wk.heap.size wk w2)) (by kernel_rfl) (Below.refl _ _).drew (fun hHeld => ?_)
  refine wpAnyH_take (i := 0) (v := ?_) rfl (by kernel_rfl) (by kernel_rfl) (by kernel_rfl) (fun _ _ _ h => h) (Or.inl ⟨by kernel_rfl, ?_⟩) (by assumption) ?_
  rotate_left
  focus (intro w hSw; (try dsimp only at hSw); go_simp; (try with_reducible rfl); done)
  try simp only [List.getElem_toArray, List.getElem_cons_zero, Act.put, List.setIfInBounds_toArray, List.set_cons_zero, List.set_cons_succ]
  refine wpAnyH_take (i := 1) (v := ?_) rfl (by kernel_rfl) (by kernel_rfl) (by kernel_rfl) (fun _ _ _ h => h) (Or.inl ⟨by kernel_rfl, ?_⟩) (by assumption) ?_
  rotate_left
  focus (intro w hSw; (try dsimp only at hSw); go_simp; (try with_reducible rfl); done)
  try simp only [List.getElem_toArray, List.getElem_cons_succ, List.getElem_cons_zero, Act.put, List.setIfInBounds_toArray, List.set_cons_zero, List.set_cons_succ]
  refine wpAnyH_take (i := 2) (v := ?_) rfl (by kernel_rfl) (by kernel_rfl) (by kernel_rfl) (fun _ _ _ h => h) (Or.inl ⟨by kernel_rfl, ?_⟩) (by assumption) ?_
  rotate_left
  focus (intro w hSw; (try dsimp only at hSw); go_simp; (try with_reducible rfl); done)
  try simp only [List.getElem_toArray, List.getElem_cons_succ, List.getElem_cons_zero, Act.put, List.setIfInBounds_toArray, List.set_cons_zero, List.set_cons_succ]
  refine wpAnyH_take (i := 3) (v := ?_) rfl (by kernel_rfl) (by kernel_rfl) (by kernel_rfl) (fun _ _ _ h => h) (Or.inl ⟨by kernel_rfl, ?_⟩) (by assumption) ?_
  rotate_left
  focus (intro w hSw; (try dsimp only at hSw); go_simp; (try with_reducible rfl); done)
  try simp only [List.getElem_toArray, List.getElem_cons_succ, List.getElem_cons_zero, Act.put, List.setIfInBounds_toArray, List.set_cons_zero, List.set_cons_succ]
  refine wpAnyH_take (i := 4) (v := ?_) rfl (by kernel_rfl) (by kernel_rfl) (by kernel_rfl) (fun _ _ _ h => h) (Or.inl ⟨by kernel_rfl, ?_⟩) (by assumption) ?_
  rotate_left
  focus (intro w hSw; (try dsimp only at hSw); have z0 := (Below.cell hSw X0.out.2).trans X0.out.1; have z1 := (Below.cell hSw X1.out.2).trans X1.out.1; have z2 := (Below.cell hSw Y0.out.2).trans Y0.out.1; have z3 := (Below.cell hSw Y1.out.2).trans Y1.out.1; go_simp; (try with_reducible rfl); done)
  try simp only [List.getElem_toArray, List.getElem_cons_succ, List.getElem_cons_zero, Act.put, List.setIfInBounds_toArray, List.set_cons_zero, List.set_cons_succ]
  refine wpAnyH_take (i := 5) (v := ?_) rfl (by kernel_rfl) (by kernel_rfl) (by kernel_rfl) (fun _ _ _ h => h) (Or.inl ⟨by kernel_rfl, ?_⟩) (by assumption) ?_
  rotate_left
  focus (intro w hSw; (try dsimp only at hSw); go_simp; (try with_reducible rfl); done)
  try simp only [List.getElem_toArray, List.getElem_cons_succ, List.getElem_cons_zero, Act.put, List.setIfInBounds_toArray, List.set_cons_zero, List.set_cons_succ]
  refine wpAnyH_take (i := 6) (v := ?_) rfl (by kernel_rfl) (by kernel_rfl) (by kernel_rfl) (fun _ _ _ h => h) (Or.inl ⟨by kernel_rfl, ?_⟩) (by assumption) ?_
  rotate_left
  focus (intro w hSw; (try dsimp only at hSw); have z0 := (Below.cell hSw X0.out.2).trans X0.out.1; have z1 := (Below.cell hSw X1.out.2).trans X1.out.1; have z2 := (Below.cell hSw Y0.out.2).trans Y0.out.1; have z3 := (Below.cell hSw Y1.out.2).trans Y1.out.1; go_simp; (try with_reducible rfl); done)
  try simp only [List.getElem_toArray, List.getElem_cons_succ, List.getElem_cons_zero, Act.put, List.setIfInBounds_toArray, List.set_cons_zero, List.set_cons_succ]
  refine wpAnyH_take (i := 7) (v := ?_) rfl (by kernel_rfl) (by kernel_rfl) (by kernel_rfl) (fun _ _ _ h => h) (Or.inl ⟨by kernel_rfl, ?_⟩) (by assumption) ?_
  rotate_left
  focus (intro w hSw; (try dsimp only at hSw); go_simp; (try with_reducible rfl); done)
  try simp only [List.getElem_toArray, List.getElem_cons_succ, List.getElem_cons_zero, Act.put, List.setIfInBounds_toArray, List.set_cons_zero, List.set_cons_succ]
  refine wpAnyH_take (i := 8) (v := ?_) rfl (by kernel_rfl) (by kernel_rfl) (by kernel_rfl) (fun _ _ _ h => h) (Or.inl ⟨by kernel_rfl, ?_⟩) (by assumption) ?_
  rotate_left
  focus (intro w hSw; (try dsimp only at hSw); go_simp; (try with_reducible rfl); done)
  try simp only [List.getElem_toArray, List.getElem_cons_succ, List.getElem_cons_zero, Act.put, List.setIfInBounds_toArray, List.set_cons_zero, List.set_cons_succ]
  refine wpAnyH_take (i := 9) (v := ?_) rfl (by kernel_rfl) (by kernel_rfl) (by kernel_rfl) (fun _ _ _ h => h) (Or.inl ⟨by kernel_rfl, ?_⟩) (by assumption) ?_
  rotate_left
  focus (intro w hSw; (try dsimp only at hSw); have z0 := (Below.cell hSw X0.out.2).trans X0.out.1; have z1 := (Below.cell hSw X1.out.2).trans X1.out.1; have z2 := (Below.cell hSw Y0.out.2).trans Y0.out.1; have z3 := (Below.cell hSw Y1.out.2).trans Y1.out.1; go_simp; (try with_reducible rfl); done)
  try simp only [List.getElem_toArray, List.getElem_cons_succ, List.getElem_cons_zero, Act.put, List.setIfInBounds_toArray, List.set_cons_zero, List.set_cons_succ]
  refine wpAnyH_ready (rs := [10, 14]) (by kernel_rfl) (by simp) ?_
  refine AllReadyH.cons rfl (fun JJ hJJ => ?_) ?_
  · go_simp
    ((try clear hb); go_at_call 74; refine (RK.out _ hHeld).mono ?_; rintro e w6 ⟨rfl, hg⟩; have hb := hHeld.trans (hg.mono hHeld.size); clear hg)
    refine hJJ.out _ _ ?_ (fun hHeld2 => ?_)
    · exact hb
    clear hJJ JJ hHeld
    have hHeld := hHeld2
    clear hHeld2
    try simp only [List.getElem_toArray, List.getElem_cons_succ, List.getElem_cons_zero, Act.put, List.setIfInBounds_toArray, List.set_cons_zero, List.set_cons_succ]
    refine wpAnyH_take (i := 11) (v := ?_) rfl (by kernel_rfl) (by kernel_rfl) (by kernel_rfl) (fun _ _ _ h => h) (Or.inl ⟨by kernel_rfl, ?_⟩) (by assumption) ?_
    rotate_left
    focus (intro w hSw; (try dsimp only at hSw); go_simp; (try with_reducible rfl); done)
    try simp only [List.getElem_toArray, List.getElem_cons_succ, List.getElem_cons_zero, Act.put, List.setIfInBounds_toArray, List.set_cons_zero, List.set_cons_succ]
    refine wpAnyH_take (i := 12) (v := ?_) rfl (by kernel_rfl) (by kernel_rfl) (by kernel_rfl) (fun _ _ _ h => h) (Or.inl ⟨by kernel_rfl, ?_⟩) (by assumption) ?_
    rotate_left
    focus (intro w hSw; (try dsimp only at hSw); go_simp; (try with_reducible rfl); done)
    try simp only [List.getElem_toArray, List.getElem_cons_succ, List.getElem_cons_zero, Act.put, List.setIfInBounds_toArray, List.set_cons_zero, List.set_cons_succ]
    refine wpAnyH_take (i := 13) (v := ?_) rfl (by kernel_rfl) (by kernel_rfl) (by kernel_rfl) (fun _ _ _ h => h) (Or.inl ⟨by kernel_rfl, ?_⟩) (by assumption) ?_
    rotate_left
    focus (intro w hSw; (try dsimp only at hSw); go_simp; (try with_reducible rfl); done)
    try simp only [List.getElem_toArray, List.getElem_cons_succ, List.getElem_cons_zero, Act.put, List.setIfInBounds_toArray, List.set_cons_zero, List.set_cons_succ]
    refine wpAnyH_ready (rs := [14]) (by kernel_rfl) (by simp) ?_
    refine AllReadyH.cons rfl (fun JJ hJJ => ?_) AllReadyH.nil
    go_simp
    refine hJJ.out _ _ ?_ (fun hHeld2 => ?_)
    · exact hHeld.alloc hHeld.size _
    clear hJJ JJ hHeld
    have hHeld := hHeld2
    clear hHeld2
    try simp only [List.getElem_toArray, List.getElem_cons_succ, List.getElem_cons_zero, Act.put, List.setIfInBounds_toArray, List.set_cons_zero, List.set_cons_succ]
    refine wpAnyH_ready (rs := [15]) (by kernel_rfl) (by simp) ?_
    refine AllReadyH.cons rfl (fun JJ hJJ => ?_) AllReadyH.nil
    go_simp
    refine hJJ.out _ _ ?_ (fun hHeld2 => ?_)
    · first | exact (fun _ => below_set (below_set (below_set hb (Nat.le_refl _)) (Nat.le_refl _)) (Nat.le_refl _)) HV | exact hb.alloc hb.size _
    clear hJJ JJ hHeld
    have hHeld := hHeld2
    clear hHeld2
    try simp only [List.getElem_toArray, List.getElem_cons_succ, List.getElem_cons_zero, Act.put, List.setIfInBounds_toArray, List.set_cons_zero, List.set_cons_succ]
    refine wpAnyH_take (i := 16) (v := ?_) rfl (by kernel_rfl) (by kernel_rfl) (by kernel_rfl) (fun _ _ _ h => h) (Or.inl ⟨by kernel_rfl, ?_⟩) (by assumption) ?_
    rotate_left
    focus (intro w hSw; (try dsimp only at hSw); go_simp; (try with_reducible rfl); done)
    try simp only [List.getElem_toArray, List.getElem_cons_succ, List.getElem_cons_zero, Act.put, List.setIfInBounds_toArray, List.set_cons_zero, List.set_cons_succ]
    refine wpAnyH_done (by kernel_rfl) ?_ _
    refine NoPanic.normal ?_
    first | exact HQ.out _ _ _ _ _ _ _ _ _ _ _ _ _ _ _ _ hHeld HV.out | exact HQ.out _ _ _ _ _ _ _ _ _ _ _ _ _ _ _ _ hHeld (heap_alloc_new _ _)
  refine AllReadyH.cons rfl (fun JJ hJJ => ?_) AllReadyH.nil
  go_simp
  refine hJJ.out _ _ ?_ (fun hHeld2 => ?_)
  · exact hHeld.alloc hHeld.size _
  clear hJJ JJ hHeld
  have hHeld := hHeld2
  clear hHeld2
  try simp only [List.getElem_toArray, List.getElem_cons_succ, List.getElem_cons_zero, Act.put, List.setIfInBounds_toArray, List.set_cons_zero, List.set_cons_succ]
  refine wpAnyH_ready (rs := [10]) (by kernel_rfl) (by simp) ?_
  refine AllReadyH.cons rfl (fun JJ hJJ => ?_) AllReadyH.nil
  go_simp
  ((try clear hb); go_at_call 74; refine (RK.out _ hHeld).mono ?_; rintro e w6 ⟨rfl, hg⟩; have hb := hHeld.trans (hg.mono hHeld.size); have hz : w6.heap[wk.heap.size]? = some (.cells #[.int .i64 0, .int .i64 0, .string { data := #[] }] 55 (0, 0)) := (hg.block _ (by simp)).trans (by (first | exact heap_alloc_new _ _ | (simp only [heap_alloc_get, heap_drew_get] <;> simp <;> done))); obtain ⟨t0, t1, t2⟩ := v_cells hz; obtain ⟨f0, f1, f2⟩ := v_fr hz; have HV := put (v_stored hz (.int .i64 v.kind) (.int .i64 v.n) (.string v.s)); clear hg hz)
  refine hJJ.out _ _ ?_ (fun hHeld2 => ?_)
  · exact hb
  clear hJJ JJ hHeld
  have hHeld := hHeld2
  clear hHeld2
  try simp only [List.getElem_toArray, List.getElem_cons_succ, List.getElem_cons_zero, Act.put, List.setIfInBounds_toArray, List.set_cons_zero, List.set_cons_succ]
  refine wpAnyH_take (i := 11) (v := ?_) rfl (by kernel_rfl) (by kernel_rfl) (by kernel_rfl) (fun _ _ _ h => h) (Or.inl ⟨by kernel_rfl, ?_⟩) (by assumption) ?_
  rotate_left
  focus (intro w hSw; (try dsimp only at hSw); go_simp; (try with_reducible rfl); done)
  try simp only [List.getElem_toArray, List.getElem_cons_succ, List.getElem_cons_zero, Act.put, List.setIfInBounds_toArray, List.set_cons_zero, List.set_cons_succ]
  refine wpAnyH_take (i := 12) (v := ?_) rfl (by kernel_rfl) (by kernel_rfl) (by kernel_rfl) (fun _ _ _ h => h) (Or.inl ⟨by kernel_rfl, ?_⟩) (by assumption) ?_
  rotate_left
  focus (intro w hSw; (try dsimp only at hSw); go_simp; (try with_reducible rfl); done)
  try simp only [List.getElem_toArray, List.getElem_cons_succ, List.getElem_cons_zero, Act.put, List.setIfInBounds_toArray, List.set_cons_zero, List.set_cons_succ]
  refine wpAnyH_take (i := 13) (v := ?_) rfl (by kernel_rfl) (by kernel_rfl) (by kernel_rfl) (fun _ _ _ h => h) (Or.inl ⟨by kernel_rfl, ?_⟩) (by assumption) ?_
  rotate_left
  focus (intro w hSw; (try dsimp only at hSw); go_simp; (try with_reducible rfl); done)
  try simp only [List.getElem_toArray, List.getElem_cons_succ, List.getElem_cons_zero, Act.put, List.setIfInBounds_toArray, List.set_cons_zero, List.set_cons_succ]
  refine wpAnyH_ready (rs := [15]) (by kernel_rfl) (by simp) ?_
  refine AllReadyH.cons rfl (fun JJ hJJ => ?_) AllReadyH.nil
  go_simp
  refine hJJ.out _ _ ?_ (fun hHeld2 => ?_)
  · first | exact (fun _ => below_set (below_set (below_set hb (Nat.le_refl _)) (Nat.le_refl _)) (Nat.le_refl _)) HV | exact hb.alloc hb.size _
  clear hJJ JJ hHeld
  have hHeld := hHeld2
  clear hHeld2
  try simp only [List.getElem_toArray, List.getElem_cons_succ, List.getElem_cons_zero, Act.put, List.setIfInBounds_toArray, List.set_cons_zero, List.set_cons_succ]
  refine wpAnyH_take (i := 16) (v := ?_) rfl (by kernel_rfl) (by kernel_rfl) (by kernel_rfl) (fun _ _ _ h => h) (Or.inl ⟨by kernel_rfl, ?_⟩) (by assumption) ?_
  rotate_left
  focus (intro w hSw; (try dsimp only at hSw); go_simp; (try with_reducible rfl); done)
  try simp only [List.getElem_toArray, List.getElem_cons_succ, List.getElem_cons_zero, Act.put, List.setIfInBounds_toArray, List.set_cons_zero, List.set_cons_succ]
  refine wpAnyH_done (by kernel_rfl) ?_ _
  refine NoPanic.normal ?_
  first | exact HQ.out _ _ _ _ _ _ _ _ _ _ _ _ _ _ _ _ hHeld HV.out | exact HQ.out _ _ _ _ _ _ _ _ _ _ _ _ _ _ _ _ hHeld (heap_alloc_new _ _)

end Go.Proofs.Ytkfoknjflpklpaa.P
