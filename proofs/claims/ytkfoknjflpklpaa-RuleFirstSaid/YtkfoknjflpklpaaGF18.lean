/- The law RuleFirst: its regions behind Next: a rule that stands ahead is looked at. The law RuleFirst: its regions behind Next: what was told is looked at. The law RuleFirst: what comes behind Next. -/
import Derived.Test.YtkfoknjflpklpaaGF13
import Derived.Test.YtkfoknjflpklpaaGF6
import Derived.Test.YtkfoknjflpklpaaGF5
import Derived.Test.YtkfoknjflpklpaaGF14
import Derived.Test.YtkfoknjflpklpaaGF12

namespace Go.Proofs.Ytkfoknjflpklpaa.D
open Go Go.RowKit Go.Sort Go.Proofs.Ytkfoknjflpklpaa.Mem Go.Proofs.Ytkfoknjflpklpaa.Stab

theorem seen_le (mk : ByteArray → Int) (log : List Chg) (x : Rl) : (seen mk log x).length ≤ log.length := by
  unfold seen
  have h1 := rnet_le (log.drop (markOf (mk x.name) log.length))
  rw [List.length_drop] at h1
  omega

set_option maxHeartbeats 16000000 in
set_option maxRecDepth 100000 in
theorem firstLook (s0 s1 s2 s3 s4 s5 s6 s7 s8 s9 s10 s13 s14 s15 s16 s17 s18 s19 s20 s23 s24 s25 s26 s27 s28 s29 s30 s31 s32 s33 s34 s35 s36 s37 s38 s39 s40 s41 s42 s43 s44 s45 s46 s47 s48 s49 s50 s51 s52 s53 s54 s55 s56 s57 s58 s59 s60 s61 s62 s63 s64 s65 s66 s67 s68 s69 s70 s71 s72 s73 s74 s75 s76 s77 s78 s79 s80 s81 s82 s83 s84 s85 s86 s87 s88 s89 s90 s91 s92 s93 s94 s95 s96 s97 s98 s99 s100 s101 s102 s103 s104 s105 s106 s107 s108 s109 s110 s111 s112 s113 s114 s115 s116 s117 s118 s119 s120 s121 s122 s123 s124 s125 s126 s127 s128 s129 s130 s131 s132 s133 s134 s135 s136 s137 s138 s139 s140 s141 s142 s143 s144 s145 s146 s147 s148 s149 s150 s151 s152 s153 s154 s155 s156 s157 s158 v0 : Value) (d : Nat) (okr okl : Nat → Prop) (a mb T K k nT cT : Nat) (AT : Option Addr) (x : Rl) (f : ByteArray → Option Int) (log : List Chg) (kd' : Int) (col' : ByteArray) (rl' : Bool) (Ac' A1' A2' A3' A4' A5' A6' : Option Addr) (nc' cc' n1' c1' n2' c2' n3' c3' n4' c4' n5' c5' n6' c6' : Nat) (wk : World) (Q : Exit → Act → World → Prop)
    (hA : AgAt wk a v0 mb) (hM : Marks wk mb k f) (hT : wk.cell? ⟨T, 0, none⟩ = some (.slice AT nT cT)) (hL : Sl tChg okl wk (.slice AT nT cT) log) (hl : log.length ≤ 1000) (hlb : ∀ x ∈ log, x.old.length ≤ 1000 ∧ x.new.length ≤ 1000)
    (hK : wk.heap[K]? = some (.cells #[.int .i64 kd', .string x.name, .string x.table, .string col', .slice Ac' nc' cc', .slice A1' n1' c1', .slice A2' n2' c2', .slice A3' n3' c3', .slice A4' n4' c4', .slice A5' n5' c5', .int .i64 x.prio, .int .i64 x.event, .bool x.deferred, .bool rl', .slice A6' n6' c6'] 67 (0, 0))) (hr : (tSt d).R okr wk x [.int .i64 kd', .string x.name, .string x.table, .string col', .slice Ac' nc' cc', .slice A1' n1' c1', .slice A2' n2' c2', .slice A3' n3' c3', .slice A4' n4' c4', .slice A5' n5' c5', .int .i64 x.prio, .int .i64 x.event, .bool x.deferred, .bool rl', .slice A6' n6' c6'])
    (htr : trig (fun s => (f s).getD 0) log x = false)
    (hQ : ∀ (r147 r148 r149 r150 r151 r152 r153 r154 r155 r156 : Value) (w' : World), Below wk.heap.size wk w' → Q .normal { tmps := #[s0, s1, s2, s3, s4, s5, s6, s7, s8, s9, s10, .pointer (some ⟨a, 0, none⟩), .pointer (some ⟨T, 0, none⟩), s13, s14, s15, s16, s17, s18, s19, s20, .pointer (some ⟨K, 0, none⟩), .bool true, s23, s24, s25, s26, s27, s28, s29, s30, s31, s32, s33, s34, s35, s36, s37, s38, s39, s40, s41, s42, s43, s44, s45, s46, s47, s48, s49, s50, s51, s52, s53, s54, s55, s56, s57, s58, s59, s60, s61, s62, s63, s64, s65, s66, s67, s68, s69, s70, s71, s72, s73, s74, s75, s76, s77, s78, s79, s80, s81, s82, s83, s84, s85, s86, s87, s88, s89, s90, s91, s92, s93, s94, s95, s96, s97, s98, s99, s100, s101, s102, s103, s104, s105, s106, s107, s108, s109, s110, s111, s112, s113, s114, s115, s116, s117, s118, s119, s120, s121, s122, s123, s124, s125, s126, s127, s128, s129, s130, s131, s132, s133, s134, s135, s136, s137, s138, s139, s140, s141, s142, s143, s144, s145, s146, r147, r148, r149, r150, r151, r152, r153, r154, r155, r156, .bool false, s158], defers := [] } w') :
    ∀ code, (Try.f8.body.bind (regionAt 37)) = some code → Code.wp Try.prog code Q { tmps := #[s0, s1, s2, s3, s4, s5, s6, s7, s8, s9, s10, .pointer (some ⟨a, 0, none⟩), .pointer (some ⟨T, 0, none⟩), s13, s14, s15, s16, s17, s18, s19, s20, .pointer (some ⟨K, 0, none⟩), .bool true, s23, s24, s25, s26, s27, s28, s29, s30, s31, s32, s33, s34, s35, s36, s37, s38, s39, s40, s41, s42, s43, s44, s45, s46, s47, s48, s49, s50, s51, s52, s53, s54, s55, s56, s57, s58, s59, s60, s61, s62, s63, s64, s65, s66, s67, s68, s69, s70, s71, s72, s73, s74, s75, s76, s77, s78, s79, s80, s81, s82, s83, s84, s85, s86, s87, s88, s89, s90, s91, s92, s93, s94, s95, s96, s97, s98, s99, s100, s101, s102, s103, s104, s105, s106, s107, s108, s109, s110, s111, s112, s113, s114, s115, s116, s117, s118, s119, s120, s121, s122, s123, s124, s125, s126, s127, s128, s129, s130, s131, s132, s133, s134, s135, s136, s137, s138, s139, s140, s141, s142, s143, s144, s145, s146, s147, s148, s149, s150, s151, s152, s153, s154, s155, s156, s157, s158], defers := [] } wk := by
  intro code hcode
  have h : (Try.f8.body.bind (regionAt 37)) = some (Code.region 37 _ true) := rfl
  rw [h] at hcode
  injection hcode with hcode
  subst hcode
  clear h
  have HQ := put hQ
  have HTR := put htr
  clear hQ htr
  have HT := put hT
  have HNT : Kp (nT = log.length) := put hL.row.2.1
  have HL := put (And.intro hL (And.intro hl hlb))
  have HK := put hK
  have HKs : Kp (K < wk.heap.size) := put (Array.getElem?_eq_some_iff.1 hK).1
  have KR := put hr
  have HA := put hA
  have HM := put hM
  have MK : Kp (∀ W, Below wk.heap.size wk W → Calls Try.prog 39 #[.pointer (some ⟨a, 0, none⟩), .string x.name] W fun e w' => e = .returned (.int .i64 ((f x.name).getD 0)) ∧ w' = W) := put (fun W hb => agMarkCalls W a mb k _ f x.name (HA.out.below hb) (HM.out.below hb) (st_name KR.out))
  have SC : Kp (∀ W, Below wk.heap.size wk W → Calls Try.prog 29 #[.pointer (some ⟨T, 0, none⟩), .int .i64 ((f x.name).getD 0)] W fun e w' => ∃ vo, e = .returned vo ∧ Kp (Sl tChg (fun q => q < w'.heap.size) w' vo (seen (fun s => (f s).getD 0) log x)) ∧ Below W.heap.size W w') := put (fun W hb => (sinceCalls okl W T nT cT AT _ log (hb.cell (p := ⟨T, 0, none⟩) (cell_lt HT.out) |>.trans HT.out) (HL.out.1.below hb) HL.out.2.1 HL.out.2.2).mono (fun e w' h => by
    obtain ⟨vo, e1, ho, hb2⟩ := h
    refine ⟨vo, e1, put ?_, hb2⟩
    have hln := seen_le (fun s => (f s).getD 0) log x
    have e2 : net (log.drop (markOf ((f x.name).getD 0) nT)) = seen (fun s => (f s).getD 0) log x := by unfold seen; rw [HNT.out]
    rw [e2] at ho
    exact ((Own.bnd (Own.plainer ho)).sl (ok' := fun q => q < w'.heap.size) (fun q hq => ((Own.plainer ho).lt q hq).2) (fun q hq => hq.2) (by have := HL.out.2.1; omega))))
  have HSB : Kp ((seen (fun s => (f s).getD 0) log x).length ≤ 1000 ∧ ∀ c ∈ seen (fun s => (f s).getD 0) log x, c.old.length ≤ 1000 ∧ c.new.length ≤ 1000) := put ⟨Nat.le_trans (seen_le _ _ _) HL.out.2.1, fun c hc => net_bound (fun c hc => HL.out.2.2 c (List.mem_of_mem_drop hc)) c hc⟩
  have TR : Kp (∀ W W0 ok vn, Below wk.heap.size wk W → Below W0.heap.size W0 W → Sl tChg ok W0 vn (seen (fun s => (f s).getD 0) log x) → Calls Try.prog 38 #[.agg #[.int .i64 kd', .string x.name, .string x.table, .string col', .slice Ac' nc' cc', .slice A1' n1' c1', .slice A2' n2' c2', .slice A3' n3' c3', .slice A4' n4' c4', .slice A5' n5' c5', .int .i64 x.prio, .int .i64 x.event, .bool x.deferred, .bool rl', .slice A6' n6' c6'], vn] W fun e w' => e = .returned (.bool false) ∧ Below W.heap.size W w') := put (fun W W0 ok vn hb hb0 hn => (trigCalls d okr ok x _ vn _ W (Ty.below KR.out hb) (hn.below hb0) HSB.out.1 HSB.out.2).mono (fun e w' h => ⟨by rw [h.1, ← HTR.out]; rfl, h.2⟩))
  clear hT hL hl hlb hK hr hA hM
  refine wp_region_noPanic ?_
  refine wp_region_held_drew (S := (fun w' => Below wk.heap.size wk w')) (by kernel_rfl) (Below.refl _ _).drew (fun hHeld => ?_)
  refine wpAnyH_take (i := 0) (v := ?_) rfl (by kernel_rfl) (by kernel_rfl) (by kernel_rfl) (fun _ _ _ h => h) (Or.inl ⟨by kernel_rfl, ?_⟩) (by assumption) ?_
  rotate_left
  · intro w hSw; (try dsimp only at hSw); go_simp; try with_reducible rfl
  try simp only [List.getElem_toArray, List.getElem_cons_zero, Act.put, List.setIfInBounds_toArray, List.set_cons_zero, List.set_cons_succ]
  refine wpAnyH_take (i := 1) (v := ?_) rfl (by kernel_rfl) (by kernel_rfl) (by kernel_rfl) (fun _ _ _ h => h) (Or.inl ⟨by kernel_rfl, ?_⟩) (by assumption) ?_
  rotate_left
  · intro w hSw; (try dsimp only at hSw); go_simp; try with_reducible rfl
  try simp only [List.getElem_toArray, List.getElem_cons_succ, List.getElem_cons_zero, Act.put, List.setIfInBounds_toArray, List.set_cons_zero, List.set_cons_succ]
  refine wpAnyH_take (i := 2) (v := ?_) rfl (by kernel_rfl) (by kernel_rfl) (by kernel_rfl) (fun _ _ _ h => h) (Or.inl ⟨by kernel_rfl, ?_⟩) (by assumption) ?_
  rotate_left
  · intro w hSw; (try dsimp only at hSw); obtain ⟨k0, k1, k2, k3, k4, k5, k6, k7, k8, k9, k10, k11, k12, k13, k14⟩ := st_all ((Below.block hSw _ HKs.out).trans HK.out); go_simp; try with_reducible rfl
  try simp only [List.getElem_toArray, List.getElem_cons_succ, List.getElem_cons_zero, Act.put, List.setIfInBounds_toArray, List.set_cons_zero, List.set_cons_succ]
  refine wpAnyH_take (i := 3) (v := ?_) rfl (by kernel_rfl) (by kernel_rfl) (by kernel_rfl) (fun _ _ _ h => h) (Or.inl ⟨by kernel_rfl, ?_⟩) (by assumption) ?_
  rotate_left
  · intro w hSw; (try dsimp only at hSw); go_simp; try with_reducible rfl
  try simp only [List.getElem_toArray, List.getElem_cons_succ, List.getElem_cons_zero, Act.put, List.setIfInBounds_toArray, List.set_cons_zero, List.set_cons_succ]
  refine wpAnyH_take (i := 4) (v := ?_) rfl (by kernel_rfl) (by kernel_rfl) (by kernel_rfl) (fun _ _ _ h => h) (Or.inl ⟨by kernel_rfl, ?_⟩) (by assumption) ?_
  rotate_left
  · intro w hSw; (try dsimp only at hSw); go_simp; try with_reducible rfl
  try simp only [List.getElem_toArray, List.getElem_cons_succ, List.getElem_cons_zero, Act.put, List.setIfInBounds_toArray, List.set_cons_zero, List.set_cons_succ]
  refine wpAnyH_take (i := 5) (v := ?_) rfl (by kernel_rfl) (by kernel_rfl) (by kernel_rfl) (fun _ _ _ h => h) (Or.inl ⟨by kernel_rfl, ?_⟩) (by assumption) ?_
  rotate_left
  · intro w hSw; (try dsimp only at hSw); go_simp; try with_reducible rfl
  try simp only [List.getElem_toArray, List.getElem_cons_succ, List.getElem_cons_zero, Act.put, List.setIfInBounds_toArray, List.set_cons_zero, List.set_cons_succ]
  refine wpAnyH_take (i := 6) (v := ?_) rfl (by kernel_rfl) (by kernel_rfl) (by kernel_rfl) (fun _ _ _ h => h) (Or.inl ⟨by kernel_rfl, ?_⟩) (by assumption) ?_
  rotate_left
  · intro w hSw; (try dsimp only at hSw); obtain ⟨k0, k1, k2, k3, k4, k5, k6, k7, k8, k9, k10, k11, k12, k13, k14⟩ := st_all ((Below.block hSw _ HKs.out).trans HK.out); go_simp; try with_reducible rfl
  try simp only [List.getElem_toArray, List.getElem_cons_succ, List.getElem_cons_zero, Act.put, List.setIfInBounds_toArray, List.set_cons_zero, List.set_cons_succ]
  refine wpAnyH_ready (rs := [7]) (by kernel_rfl) (by simp) ?_
  refine AllReadyH.cons rfl (fun JJ hJJ => ?_) AllReadyH.nil
  go_simp
  ((try clear hb); go_at_call 39; refine (MK.out _ hHeld).mono ?_; rintro e _ ⟨rfl, rfl⟩; have hb := hHeld)
  refine hJJ.out _ _ ?_ (fun hHeld2 => ?_)
  · exact hb
  clear hJJ JJ hHeld
  have hHeld := hHeld2
  clear hHeld2
  try simp only [List.getElem_toArray, List.getElem_cons_succ, List.getElem_cons_zero, Act.put, List.setIfInBounds_toArray, List.set_cons_zero, List.set_cons_succ]
  refine wpAnyH_ready (rs := [8]) (by kernel_rfl) (by simp) ?_
  refine AllReadyH.cons rfl (fun JJ hJJ => ?_) AllReadyH.nil
  go_simp
  ((try clear hb); go_at_call 29; refine (SC.out _ hHeld).mono ?_; rintro e w5 ⟨vo, rfl, hs5, hb5⟩; have HS5 := put hs5; clear hs5; have hb := Below.trans hHeld (hb5.mono (Below.size hHeld)); clear hb5)
  refine hJJ.out _ _ ?_ (fun hHeld2 => ?_)
  · exact hb
  clear hJJ JJ hHeld
  have hHeld := hHeld2
  clear hHeld2
  try simp only [List.getElem_toArray, List.getElem_cons_succ, List.getElem_cons_zero, Act.put, List.setIfInBounds_toArray, List.set_cons_zero, List.set_cons_succ]
  refine wpAnyH_ready (rs := [9]) (by kernel_rfl) (by simp) ?_
  refine AllReadyH.cons rfl (fun JJ hJJ => ?_) AllReadyH.nil
  go_simp
  ((try clear hb); go_at_call 38; refine (TR.out _ _ _ _ hHeld (Below.refl _ _) HS5.out.out).mono ?_; rintro e w6 ⟨rfl, hb6⟩; have hb := Below.trans hHeld (hb6.mono (Below.size hHeld)); clear hb6)
  refine hJJ.out _ _ ?_ (fun hHeld2 => ?_)
  · exact hb
  clear hJJ JJ hHeld
  have hHeld := hHeld2
  clear hHeld2
  try simp only [List.getElem_toArray, List.getElem_cons_succ, List.getElem_cons_zero, Act.put, List.setIfInBounds_toArray, List.set_cons_zero, List.set_cons_succ]
  refine wpAnyH_take (i := 10) (v := ?_) rfl (by kernel_rfl) (by kernel_rfl) (by kernel_rfl) (fun _ _ _ h => h) (Or.inl ⟨by kernel_rfl, ?_⟩) (by assumption) ?_
  rotate_left
  · intro w hSw; (try dsimp only at hSw); go_simp; try with_reducible rfl
  try simp only [List.getElem_toArray, List.getElem_cons_succ, List.getElem_cons_zero, Act.put, List.setIfInBounds_toArray, List.set_cons_zero, List.set_cons_succ]
  refine wpAnyH_done (by kernel_rfl) ?_ _
  refine NoPanic.normal ?_
  exact HQ.out _ _ _ _ _ _ _ _ _ _ _ hHeld

set_option maxHeartbeats 16000000 in
set_option maxRecDepth 100000 in
theorem firstPass (s0 s1 s2 s3 s4 s5 s6 s7 s8 s9 s10 s13 s14 s15 s16 s17 s18 s19 s20 s23 s24 s25 s26 s27 s28 s29 s30 s31 s32 s33 s34 s35 s36 s37 s38 s39 s40 s41 s42 s43 s44 s45 s46 s47 s48 s49 s50 s51 s52 s53 s54 s55 s56 s57 s58 s59 s60 s61 s62 s63 s64 s65 s66 s67 s68 s69 s70 s71 s72 s73 s74 s75 s76 s77 s78 s79 s80 s81 s82 s83 s84 s85 s86 s87 s88 s89 s90 s91 s92 s93 s94 s95 s96 s97 s98 s99 s100 s101 s102 s103 s104 s105 s106 s107 s108 s109 s110 s111 s112 s113 s114 s115 s116 s117 s118 s119 s120 s121 s122 s123 s124 s125 s126 s127 s128 s129 s130 s131 s132 s133 s134 s135 s136 s137 s138 s139 s140 s141 s142 s143 s144 s145 s146 s147 s148 s149 s150 s151 s152 s153 s154 s155 s156 s157 s158 : Value) (a T K : Nat) (wk : World) (Q : Exit → Act → World → Prop)
    (hQ : ∀ (r147 r148 r149 r150 r151 r152 r153 r154 r155 r156 : Value) (w' : World), Below wk.heap.size wk w' → Q .normal { tmps := #[s0, s1, s2, s3, s4, s5, s6, s7, s8, s9, s10, .pointer (some ⟨a, 0, none⟩), .pointer (some ⟨T, 0, none⟩), s13, s14, s15, s16, s17, s18, s19, s20, .pointer (some ⟨K, 0, none⟩), .bool false, s23, s24, s25, s26, s27, s28, s29, s30, s31, s32, s33, s34, s35, s36, s37, s38, s39, s40, s41, s42, s43, s44, s45, s46, s47, s48, s49, s50, s51, s52, s53, s54, s55, s56, s57, s58, s59, s60, s61, s62, s63, s64, s65, s66, s67, s68, s69, s70, s71, s72, s73, s74, s75, s76, s77, s78, s79, s80, s81, s82, s83, s84, s85, s86, s87, s88, s89, s90, s91, s92, s93, s94, s95, s96, s97, s98, s99, s100, s101, s102, s103, s104, s105, s106, s107, s108, s109, s110, s111, s112, s113, s114, s115, s116, s117, s118, s119, s120, s121, s122, s123, s124, s125, s126, s127, s128, s129, s130, s131, s132, s133, s134, s135, s136, s137, s138, s139, s140, s141, s142, s143, s144, s145, s146, r147, r148, r149, r150, r151, r152, r153, r154, r155, r156, .bool false, s158], defers := [] } w') :
    ∀ code, (Try.f8.body.bind (regionAt 37)) = some code → Code.wp Try.prog code Q { tmps := #[s0, s1, s2, s3, s4, s5, s6, s7, s8, s9, s10, .pointer (some ⟨a, 0, none⟩), .pointer (some ⟨T, 0, none⟩), s13, s14, s15, s16, s17, s18, s19, s20, .pointer (some ⟨K, 0, none⟩), .bool false, s23, s24, s25, s26, s27, s28, s29, s30, s31, s32, s33, s34, s35, s36, s37, s38, s39, s40, s41, s42, s43, s44, s45, s46, s47, s48, s49, s50, s51, s52, s53, s54, s55, s56, s57, s58, s59, s60, s61, s62, s63, s64, s65, s66, s67, s68, s69, s70, s71, s72, s73, s74, s75, s76, s77, s78, s79, s80, s81, s82, s83, s84, s85, s86, s87, s88, s89, s90, s91, s92, s93, s94, s95, s96, s97, s98, s99, s100, s101, s102, s103, s104, s105, s106, s107, s108, s109, s110, s111, s112, s113, s114, s115, s116, s117, s118, s119, s120, s121, s122, s123, s124, s125, s126, s127, s128, s129, s130, s131, s132, s133, s134, s135, s136, s137, s138, s139, s140, s141, s142, s143, s144, s145, s146, s147, s148, s149, s150, s151, s152, s153, s154, s155, s156, s157, s158], defers := [] } wk := by
  intro code hcode
  have h : (Try.f8.body.bind (regionAt 37)) = some (Code.region 37 _ true) := rfl
  rw [h] at hcode
  injection hcode with hcode
  subst hcode
  clear h
  have HQ := put hQ
  clear hQ
  refine wp_region_noPanic ?_
  refine wp_region_held_drew (S := (fun w' => Below wk.heap.size wk w')) (by kernel_rfl) (Below.refl _ _).drew (fun hHeld => ?_)
  refine wpAnyH_take (i := 0) (v := ?_) rfl (by kernel_rfl) (by kernel_rfl) (by kernel_rfl) (fun _ _ _ h => h) (Or.inl ⟨by kernel_rfl, ?_⟩) (by assumption) ?_
  rotate_left
  · intro w hSw; (try dsimp only at hSw); go_simp; try with_reducible rfl
  try simp only [List.getElem_toArray, List.getElem_cons_zero, Act.put, List.setIfInBounds_toArray, List.set_cons_zero, List.set_cons_succ]
  refine wpAnyH_take (i := 1) (v := ?_) rfl (by kernel_rfl) (by kernel_rfl) (by kernel_rfl) (fun _ _ _ h => h) (Or.inl ⟨by kernel_rfl, ?_⟩) (by assumption) ?_
  rotate_left
  · intro w hSw; (try dsimp only at hSw); go_simp; try with_reducible rfl
  try simp only [List.getElem_toArray, List.getElem_cons_succ, List.getElem_cons_zero, Act.put, List.setIfInBounds_toArray, List.set_cons_zero, List.set_cons_succ]
  refine wpAnyH_take (i := 2) (v := undef) rfl (by kernel_rfl) (by kernel_rfl) (by kernel_rfl) (fun _ _ _ h => h) (Or.inr ⟨by kernel_rfl, rfl⟩) (by assumption) ?_
  try simp only [List.getElem_toArray, List.getElem_cons_succ, List.getElem_cons_zero, Act.put, List.setIfInBounds_toArray, List.set_cons_zero, List.set_cons_succ]
  refine wpAnyH_take (i := 3) (v := undef) rfl (by kernel_rfl) (by kernel_rfl) (by kernel_rfl) (fun _ _ _ h => h) (Or.inr ⟨by kernel_rfl, rfl⟩) (by assumption) ?_
  try simp only [List.getElem_toArray, List.getElem_cons_succ, List.getElem_cons_zero, Act.put, List.setIfInBounds_toArray, List.set_cons_zero, List.set_cons_succ]
  refine wpAnyH_take (i := 4) (v := undef) rfl (by kernel_rfl) (by kernel_rfl) (by kernel_rfl) (fun _ _ _ h => h) (Or.inr ⟨by kernel_rfl, rfl⟩) (by assumption) ?_
  try simp only [List.getElem_toArray, List.getElem_cons_succ, List.getElem_cons_zero, Act.put, List.setIfInBounds_toArray, List.set_cons_zero, List.set_cons_succ]
  refine wpAnyH_take (i := 5) (v := undef) rfl (by kernel_rfl) (by kernel_rfl) (by kernel_rfl) (fun _ _ _ h => h) (Or.inr ⟨by kernel_rfl, rfl⟩) (by assumption) ?_
  try simp only [List.getElem_toArray, List.getElem_cons_succ, List.getElem_cons_zero, Act.put, List.setIfInBounds_toArray, List.set_cons_zero, List.set_cons_succ]
  refine wpAnyH_take (i := 6) (v := undef) rfl (by kernel_rfl) (by kernel_rfl) (by kernel_rfl) (fun _ _ _ h => h) (Or.inr ⟨by kernel_rfl, rfl⟩) (by assumption) ?_
  try simp only [List.getElem_toArray, List.getElem_cons_succ, List.getElem_cons_zero, Act.put, List.setIfInBounds_toArray, List.set_cons_zero, List.set_cons_succ]
  refine wpAnyH_take (i := 7) (v := undef) rfl (by kernel_rfl) (by kernel_rfl) (by kernel_rfl) (fun _ _ _ h => h) (Or.inr ⟨by kernel_rfl, rfl⟩) (by assumption) ?_
  try simp only [List.getElem_toArray, List.getElem_cons_succ, List.getElem_cons_zero, Act.put, List.setIfInBounds_toArray, List.set_cons_zero, List.set_cons_succ]
  refine wpAnyH_take (i := 8) (v := undef) rfl (by kernel_rfl) (by kernel_rfl) (by kernel_rfl) (fun _ _ _ h => h) (Or.inr ⟨by kernel_rfl, rfl⟩) (by assumption) ?_
  try simp only [List.getElem_toArray, List.getElem_cons_succ, List.getElem_cons_zero, Act.put, List.setIfInBounds_toArray, List.set_cons_zero, List.set_cons_succ]
  refine wpAnyH_take (i := 9) (v := undef) rfl (by kernel_rfl) (by kernel_rfl) (by kernel_rfl) (fun _ _ _ h => h) (Or.inr ⟨by kernel_rfl, rfl⟩) (by assumption) ?_
  try simp only [List.getElem_toArray, List.getElem_cons_succ, List.getElem_cons_zero, Act.put, List.setIfInBounds_toArray, List.set_cons_zero, List.set_cons_succ]
  refine wpAnyH_take (i := 10) (v := ?_) rfl (by kernel_rfl) (by kernel_rfl) (by kernel_rfl) (fun _ _ _ h => h) (Or.inl ⟨by kernel_rfl, ?_⟩) (by assumption) ?_
  rotate_left
  · intro w hSw; (try dsimp only at hSw); go_simp; try with_reducible rfl
  try simp only [List.getElem_toArray, List.getElem_cons_succ, List.getElem_cons_zero, Act.put, List.setIfInBounds_toArray, List.set_cons_zero, List.set_cons_succ]
  refine wpAnyH_done (by kernel_rfl) ?_ _
  refine NoPanic.normal ?_
  exact HQ.out _ _ _ _ _ _ _ _ _ _ _ hHeld

end Go.Proofs.Ytkfoknjflpklpaa.D

namespace Go.Proofs.Ytkfoknjflpklpaa.D
open Go Go.RowKit Go.Sort Go.Proofs.Ytkfoknjflpklpaa.Mem Go.Proofs.Ytkfoknjflpklpaa.Stab

set_option maxHeartbeats 16000000 in
set_option maxRecDepth 100000 in
theorem firstSame (s0 s1 s2 s3 s4 s5 s6 s7 s8 s9 s10 s13 s14 s15 s16 s20 s21 s22 s23 s24 s25 s26 s27 s28 s29 s30 s31 s32 s33 s34 s35 s36 s37 s38 s39 s40 s41 s42 s43 s44 s45 s46 s47 s48 s49 s50 s51 s52 s53 s54 s55 s56 s57 s58 s59 s60 s61 s62 s63 s64 s65 s66 s67 s68 s69 s70 s71 s72 s73 s74 s75 s76 s77 s78 s79 s80 s81 s82 s83 s84 s85 s86 s87 s88 s89 s90 s91 s92 s93 s94 s95 s96 s97 s98 s99 s100 s101 s102 s103 s104 s105 s106 s107 s108 s109 s110 s111 s112 s113 s114 s115 s116 s117 s118 s119 s120 s121 s122 s123 s124 s125 s126 s127 s128 s129 s130 s131 s132 s133 s134 s135 s136 s137 s138 s139 s140 s141 s142 s143 s144 s145 s146 s147 s148 s149 s150 s151 s152 s153 s154 s155 s156 s157 s158 vn v0 : Value) (d : Nat) (okr okl okn : Nat → Prop) (a mb T K k nT cT : Nat) (AT : Option Addr) (x : Rl) (f : ByteArray → Option Int) (log : List Chg) (kd' : Int) (col' : ByteArray) (rl' : Bool) (Ac' A1' A2' A3' A4' A5' A6' : Option Addr) (nc' cc' n1' c1' n2' c2' n3' c3' n4' c4' n5' c5' n6' c6' : Nat) (wk : World) (Q : Exit → Act → World → Prop)
    (hA : AgAt wk a v0 mb) (hM : Marks wk mb k f) (hT : wk.cell? ⟨T, 0, none⟩ = some (.slice AT nT cT)) (hL : Sl tChg okl wk (.slice AT nT cT) log) (hl : log.length ≤ 1000) (hlb : ∀ x ∈ log, x.old.length ≤ 1000 ∧ x.new.length ≤ 1000)
    (hK : wk.heap[K]? = some (.cells #[.int .i64 kd', .string x.name, .string x.table, .string col', .slice Ac' nc' cc', .slice A1' n1' c1', .slice A2' n2' c2', .slice A3' n3' c3', .slice A4' n4' c4', .slice A5' n5' c5', .int .i64 x.prio, .int .i64 x.event, .bool x.deferred, .bool rl', .slice A6' n6' c6'] 67 (0, 0))) (hr : (tSt d).R okr wk x [.int .i64 kd', .string x.name, .string x.table, .string col', .slice Ac' nc' cc', .slice A1' n1' c1', .slice A2' n2' c2', .slice A3' n3' c3', .slice A4' n4' c4', .slice A5' n5' c5', .int .i64 x.prio, .int .i64 x.event, .bool x.deferred, .bool rl', .slice A6' n6' c6'])
    (hn : Sl tChg okn wk vn (seen (fun s => (f s).getD 0) log x)) (htr : trig (fun s => (f s).getD 0) log x = true)
    (hQ : ∀ (r98 r99 r100 r101 r102 r103 r104 r105 r106 r107 r108 r109 r110 r111 r112 r113 r114 r115 r116 : Value) (w' : World), Below wk.heap.size wk w' → Q .normal { tmps := #[s0, s1, s2, s3, s4, s5, s6, s7, s8, s9, s10, .pointer (some ⟨a, 0, none⟩), .pointer (some ⟨T, 0, none⟩), s13, s14, s15, s16, .pointer (some ⟨K, 0, none⟩), vn, .bool true, s20, s21, s22, s23, s24, s25, s26, s27, s28, s29, s30, s31, s32, s33, s34, s35, s36, s37, s38, s39, s40, s41, s42, s43, s44, s45, s46, s47, s48, s49, s50, s51, s52, s53, s54, s55, s56, s57, s58, s59, s60, s61, s62, s63, s64, s65, s66, s67, s68, s69, s70, s71, s72, s73, s74, s75, s76, s77, s78, s79, s80, s81, s82, s83, s84, s85, s86, s87, s88, s89, s90, s91, s92, s93, s94, s95, s96, s97, r98, r99, r100, r101, r102, r103, r104, r105, r106, r107, r108, r109, r110, r111, r112, r113, r114, r115, r116, .bool false, s118, s119, s120, s121, s122, s123, s124, s125, s126, s127, s128, s129, s130, s131, s132, s133, s134, s135, s136, s137, s138, s139, s140, s141, s142, s143, s144, s145, s146, s147, s148, s149, s150, s151, s152, s153, s154, s155, s156, s157, s158], defers := [] } w') :
    ∀ code, (Try.f8.body.bind (regionAt 31)) = some code → Code.wp Try.prog code Q { tmps := #[s0, s1, s2, s3, s4, s5, s6, s7, s8, s9, s10, .pointer (some ⟨a, 0, none⟩), .pointer (some ⟨T, 0, none⟩), s13, s14, s15, s16, .pointer (some ⟨K, 0, none⟩), vn, .bool true, s20, s21, s22, s23, s24, s25, s26, s27, s28, s29, s30, s31, s32, s33, s34, s35, s36, s37, s38, s39, s40, s41, s42, s43, s44, s45, s46, s47, s48, s49, s50, s51, s52, s53, s54, s55, s56, s57, s58, s59, s60, s61, s62, s63, s64, s65, s66, s67, s68, s69, s70, s71, s72, s73, s74, s75, s76, s77, s78, s79, s80, s81, s82, s83, s84, s85, s86, s87, s88, s89, s90, s91, s92, s93, s94, s95, s96, s97, s98, s99, s100, s101, s102, s103, s104, s105, s106, s107, s108, s109, s110, s111, s112, s113, s114, s115, s116, s117, s118, s119, s120, s121, s122, s123, s124, s125, s126, s127, s128, s129, s130, s131, s132, s133, s134, s135, s136, s137, s138, s139, s140, s141, s142, s143, s144, s145, s146, s147, s148, s149, s150, s151, s152, s153, s154, s155, s156, s157, s158], defers := [] } wk := by
  intro code hcode
  have h : (Try.f8.body.bind (regionAt 31)) = some (Code.region 31 _ true) := rfl
  rw [h] at hcode
  injection hcode with hcode
  subst hcode
  clear h
  have HQ := put hQ
  have HTR := put htr
  have HVN := put hn
  clear hQ htr hn
  have HT := put hT
  have HNT : Kp (nT = log.length) := put hL.row.2.1
  have HL := put (And.intro hL (And.intro hl hlb))
  have HK := put hK
  have HKs : Kp (K < wk.heap.size) := put (Array.getElem?_eq_some_iff.1 hK).1
  have KR := put hr
  have HA := put hA
  have HM := put hM
  have MK : Kp (∀ W, Below wk.heap.size wk W → Calls Try.prog 39 #[.pointer (some ⟨a, 0, none⟩), .string x.name] W fun e w' => e = .returned (.int .i64 ((f x.name).getD 0)) ∧ w' = W) := put (fun W hb => agMarkCalls W a mb k _ f x.name (HA.out.below hb) (HM.out.below hb) (st_name KR.out))
  have SC : Kp (∀ W, Below wk.heap.size wk W → Calls Try.prog 29 #[.pointer (some ⟨T, 0, none⟩), .int .i64 ((f x.name).getD 0)] W fun e w' => ∃ vo, e = .returned vo ∧ Kp (Sl tChg (fun q => q < w'.heap.size) w' vo (seen (fun s => (f s).getD 0) log x)) ∧ Below W.heap.size W w') := put (fun W hb => (sinceCalls okl W T nT cT AT _ log (hb.cell (p := ⟨T, 0, none⟩) (cell_lt HT.out) |>.trans HT.out) (HL.out.1.below hb) HL.out.2.1 HL.out.2.2).mono (fun e w' h => by
    obtain ⟨vo, e1, ho, hb2⟩ := h
    refine ⟨vo, e1, put ?_, hb2⟩
    have hln := seen_le (fun s => (f s).getD 0) log x
    have e2 : net (log.drop (markOf ((f x.name).getD 0) nT)) = seen (fun s => (f s).getD 0) log x := by unfold seen; rw [HNT.out]
    rw [e2] at ho
    exact ((Own.bnd (Own.plainer ho)).sl (ok' := fun q => q < w'.heap.size) (fun q hq => ((Own.plainer ho).lt q hq).2) (fun q hq => hq.2) (by have := HL.out.2.1; omega))))
  have HSB : Kp ((seen (fun s => (f s).getD 0) log x).length ≤ 1000 ∧ ∀ c ∈ seen (fun s => (f s).getD 0) log x, c.old.length ≤ 1000 ∧ c.new.length ≤ 1000) := put ⟨Nat.le_trans (seen_le _ _ _) HL.out.2.1, fun c hc => net_bound (fun c hc => HL.out.2.2 c (List.mem_of_mem_drop hc)) c hc⟩
  have TR : Kp (∀ W W0 ok vn, Below wk.heap.size wk W → Below W0.heap.size W0 W → Sl tChg ok W0 vn (seen (fun s => (f s).getD 0) log x) → Calls Try.prog 38 #[.agg #[.int .i64 kd', .string x.name, .string x.table, .string col', .slice Ac' nc' cc', .slice A1' n1' c1', .slice A2' n2' c2', .slice A3' n3' c3', .slice A4' n4' c4', .slice A5' n5' c5', .int .i64 x.prio, .int .i64 x.event, .bool x.deferred, .bool rl', .slice A6' n6' c6'], vn] W fun e w' => e = .returned (.bool true) ∧ Below W.heap.size W w') := put (fun W W0 ok vn hb hb0 hn => (trigCalls d okr ok x _ vn _ W (Ty.below KR.out hb) (hn.below hb0) HSB.out.1 HSB.out.2).mono (fun e w' h => ⟨by rw [h.1, ← HTR.out]; rfl, h.2⟩))
  clear hT hL hl hlb hK hr hA hM
  have PL : Kp (∀ W W0 ok v, Below wk.heap.size wk W → Below W0.heap.size W0 W → Sl tChg ok W0 v (seen (fun s => (f s).getD 0) log x) → Calls Try.prog 17 #[v] W fun e w' => ∃ vo, e = .returned vo ∧ Kp (Sl tChg (fun q => q < w'.heap.size) w' vo (seen (fun s => (f s).getD 0) log x)) ∧ Below W.heap.size W w') := put (fun W W0 ok v hb hb0 hn => (plainCalls ok v _ W (hn.below hb0) (by have := HSB.out.1; omega)).mono (fun e w' h => by
    obtain ⟨vo, e1, ho, hb2⟩ := h
    refine ⟨vo, e1, put ?_, hb2⟩
    exact ((Own.bnd ho).sl (ok' := fun q => q < w'.heap.size) (fun q hq => (ho.lt q hq).2) (fun q hq => hq.2) (by have := HSB.out.1; omega))))
  have SM : Kp (∀ W W1 W2 ok1 ok2 u v, Below W1.heap.size W1 W → Below W2.heap.size W2 W → Sl tChg ok1 W1 u (seen (fun s => (f s).getD 0) log x) → Sl tChg ok2 W2 v (seen (fun s => (f s).getD 0) log x) → Calls Try.prog 16 #[u, v] W fun e w' => e = .returned (.bool true) ∧ ∃ q, w' = W.drewN q) := put (fun W W1 W2 ok1 ok2 u v hb1 hb2 h1 h2 => (refSameCalls ok1 ok2 u v _ _ W (h1.below hb1) (h2.below hb2)).mono (fun e w' h => ⟨by rw [h.1]; simp, h.2⟩))
  refine wp_region_noPanic ?_
  refine wp_region_held_drew (S := (fun w' => Below wk.heap.size wk w')) (by kernel_rfl) (Below.refl _ _).drew (fun hHeld => ?_)
  refine wpAnyH_take (i := 0) (v := ?_) rfl (by kernel_rfl) (by kernel_rfl) (by kernel_rfl) (fun _ _ _ h => h) (Or.inl ⟨by kernel_rfl, ?_⟩) (by assumption) ?_
  rotate_left
  · intro w hSw; (try dsimp only at hSw); go_simp; try with_reducible rfl
  try simp only [List.getElem_toArray, List.getElem_cons_zero, Act.put, List.setIfInBounds_toArray, List.set_cons_zero, List.set_cons_succ]
  refine wpAnyH_take (i := 1) (v := ?_) rfl (by kernel_rfl) (by kernel_rfl) (by kernel_rfl) (fun _ _ _ h => h) (Or.inl ⟨by kernel_rfl, ?_⟩) (by assumption) ?_
  rotate_left
  · intro w hSw; (try dsimp only at hSw); go_simp; try with_reducible rfl
  try simp only [List.getElem_toArray, List.getElem_cons_succ, List.getElem_cons_zero, Act.put, List.setIfInBounds_toArray, List.set_cons_zero, List.set_cons_succ]
  refine wpAnyH_take (i := 2) (v := ?_) rfl (by kernel_rfl) (by kernel_rfl) (by kernel_rfl) (fun _ _ _ h => h) (Or.inl ⟨by kernel_rfl, ?_⟩) (by assumption) ?_
  rotate_left
  · intro w hSw; (try dsimp only at hSw); obtain ⟨k0, k1, k2, k3, k4, k5, k6, k7, k8, k9, k10, k11, k12, k13, k14⟩ := st_all ((Below.block hSw _ HKs.out).trans HK.out); go_simp; try with_reducible rfl
  try simp only [List.getElem_toArray, List.getElem_cons_succ, List.getElem_cons_zero, Act.put, List.setIfInBounds_toArray, List.set_cons_zero, List.set_cons_succ]
  refine wpAnyH_take (i := 3) (v := ?_) rfl (by kernel_rfl) (by kernel_rfl) (by kernel_rfl) (fun _ _ _ h => h) (Or.inl ⟨by kernel_rfl, ?_⟩) (by assumption) ?_
  rotate_left
  · intro w hSw; (try dsimp only at hSw); go_simp; try with_reducible rfl
  try simp only [List.getElem_toArray, List.getElem_cons_succ, List.getElem_cons_zero, Act.put, List.setIfInBounds_toArray, List.set_cons_zero, List.set_cons_succ]
  refine wpAnyH_ready (rs := [4]) (by kernel_rfl) (by simp) ?_
  refine AllReadyH.cons rfl (fun JJ hJJ => ?_) AllReadyH.nil
  go_simp
  ((try clear hb); go_at_call 38; refine (TR.out _ _ _ _ hHeld (Below.trans (Below.refl _ _) hHeld) HVN.out).mono ?_; rintro e w4 ⟨rfl, hb4⟩; have hb := Below.trans hHeld (hb4.mono (Below.size hHeld)); clear hb4)
  refine hJJ.out _ _ ?_ (fun hHeld2 => ?_)
  · exact hb
  clear hJJ JJ hHeld
  have hHeld := hHeld2
  clear hHeld2
  try simp only [List.getElem_toArray, List.getElem_cons_succ, List.getElem_cons_zero, Act.put, List.setIfInBounds_toArray, List.set_cons_zero, List.set_cons_succ]
  refine wpAnyH_take (i := 5) (v := ?_) rfl (by kernel_rfl) (by kernel_rfl) (by kernel_rfl) (fun _ _ _ h => h) (Or.inl ⟨by kernel_rfl, ?_⟩) (by assumption) ?_
  rotate_left
  · intro w hSw; (try dsimp only at hSw); go_simp; try with_reducible rfl
  try simp only [List.getElem_toArray, List.getElem_cons_succ, List.getElem_cons_zero, Act.put, List.setIfInBounds_toArray, List.set_cons_zero, List.set_cons_succ]
  refine wpAnyH_take (i := 6) (v := ?_) rfl (by kernel_rfl) (by kernel_rfl) (by kernel_rfl) (fun _ _ _ h => h) (Or.inl ⟨by kernel_rfl, ?_⟩) (by assumption) ?_
  rotate_left
  · intro w hSw; (try dsimp only at hSw); go_simp; try with_reducible rfl
  try simp only [List.getElem_toArray, List.getElem_cons_succ, List.getElem_cons_zero, Act.put, List.setIfInBounds_toArray, List.set_cons_zero, List.set_cons_succ]
  refine wpAnyH_take (i := 7) (v := ?_) rfl (by kernel_rfl) (by kernel_rfl) (by kernel_rfl) (fun _ _ _ h => h) (Or.inl ⟨by kernel_rfl, ?_⟩) (by assumption) ?_
  rotate_left
  · intro w hSw; (try dsimp only at hSw); go_simp; try with_reducible rfl
  try simp only [List.getElem_toArray, List.getElem_cons_succ, List.getElem_cons_zero, Act.put, List.setIfInBounds_toArray, List.set_cons_zero, List.set_cons_succ]
  refine wpAnyH_take (i := 9) (v := ?_) rfl (by kernel_rfl) (by kernel_rfl) (by kernel_rfl) (fun _ _ _ h => h) (Or.inl ⟨by kernel_rfl, ?_⟩) (by assumption) ?_
  rotate_left
  · intro w hSw; (try dsimp only at hSw); go_simp; try with_reducible rfl
  try simp only [List.getElem_toArray, List.getElem_cons_succ, List.getElem_cons_zero, Act.put, List.setIfInBounds_toArray, List.set_cons_zero, List.set_cons_succ]
  refine wpAnyH_take (i := 10) (v := ?_) rfl (by kernel_rfl) (by kernel_rfl) (by kernel_rfl) (fun _ _ _ h => h) (Or.inl ⟨by kernel_rfl, ?_⟩) (by assumption) ?_
  rotate_left
  · intro w hSw; (try dsimp only at hSw); go_simp; try with_reducible rfl
  try simp only [List.getElem_toArray, List.getElem_cons_succ, List.getElem_cons_zero, Act.put, List.setIfInBounds_toArray, List.set_cons_zero, List.set_cons_succ]
  refine wpAnyH_take (i := 11) (v := ?_) rfl (by kernel_rfl) (by kernel_rfl) (by kernel_rfl) (fun _ _ _ h => h) (Or.inl ⟨by kernel_rfl, ?_⟩) (by assumption) ?_
  rotate_left
  · intro w hSw; (try dsimp only at hSw); go_simp; try with_reducible rfl
  try simp only [List.getElem_toArray, List.getElem_cons_succ, List.getElem_cons_zero, Act.put, List.setIfInBounds_toArray, List.set_cons_zero, List.set_cons_succ]
  refine wpAnyH_take (i := 12) (v := ?_) rfl (by kernel_rfl) (by kernel_rfl) (by kernel_rfl) (fun _ _ _ h => h) (Or.inl ⟨by kernel_rfl, ?_⟩) (by assumption) ?_
  rotate_left
  · intro w hSw; (try dsimp only at hSw); obtain ⟨k0, k1, k2, k3, k4, k5, k6, k7, k8, k9, k10, k11, k12, k13, k14⟩ := st_all ((Below.block hSw _ HKs.out).trans HK.out); go_simp; try with_reducible rfl
  try simp only [List.getElem_toArray, List.getElem_cons_succ, List.getElem_cons_zero, Act.put, List.setIfInBounds_toArray, List.set_cons_zero, List.set_cons_succ]
  refine wpAnyH_ready (rs := [8]) (by kernel_rfl) (by simp) ?_
  refine AllReadyH.cons rfl (fun JJ hJJ => ?_) AllReadyH.nil
  go_simp
  ((try clear hb); go_at_call 17; refine (PL.out _ _ _ _ hHeld hHeld HVN.out).mono ?_; rintro e w8 ⟨v8, rfl, hs8, hb8⟩; have HS8 := put hs8; clear hs8; have HB8 := put hb8; have hb := Below.trans hHeld (hb8.mono (Below.size hHeld)); clear hb8)
  refine hJJ.out _ _ ?_ (fun hHeld2 => ?_)
  · exact hb
  clear hJJ JJ hHeld
  have hHeld := hHeld2
  clear hHeld2
  try simp only [List.getElem_toArray, List.getElem_cons_succ, List.getElem_cons_zero, Act.put, List.setIfInBounds_toArray, List.set_cons_zero, List.set_cons_succ]
  refine wpAnyH_ready (rs := [13]) (by kernel_rfl) (by simp) ?_
  refine AllReadyH.cons rfl (fun JJ hJJ => ?_) AllReadyH.nil
  go_simp
  ((try clear hb); go_at_call 39; refine (MK.out _ hHeld).mono ?_; rintro e _ ⟨rfl, rfl⟩; have hb := hHeld)
  refine hJJ.out _ _ ?_ (fun hHeld2 => ?_)
  · exact hb
  clear hJJ JJ hHeld
  have hHeld := hHeld2
  clear hHeld2
  try simp only [List.getElem_toArray, List.getElem_cons_succ, List.getElem_cons_zero, Act.put, List.setIfInBounds_toArray, List.set_cons_zero, List.set_cons_succ]
  refine wpAnyH_ready (rs := [14]) (by kernel_rfl) (by simp) ?_
  refine AllReadyH.cons rfl (fun JJ hJJ => ?_) AllReadyH.nil
  go_simp
  ((try clear hb); go_at_call 29; refine (SC.out _ hHeld).mono ?_; rintro e w14 ⟨v14, rfl, hs14, hb14⟩; have HS14 := put hs14; clear hs14; have HB14 := put hb14; have hb := Below.trans hHeld (hb14.mono (Below.size hHeld)); clear hb14)
  refine hJJ.out _ _ ?_ (fun hHeld2 => ?_)
  · exact hb
  clear hJJ JJ hHeld
  have hHeld := hHeld2
  clear hHeld2
  try simp only [List.getElem_toArray, List.getElem_cons_succ, List.getElem_cons_zero, Act.put, List.setIfInBounds_toArray, List.set_cons_zero, List.set_cons_succ]
  refine wpAnyH_ready (rs := [15]) (by kernel_rfl) (by simp) ?_
  refine AllReadyH.cons rfl (fun JJ hJJ => ?_) AllReadyH.nil
  go_simp
  ((try clear hb); go_at_call 17; refine (PL.out _ _ _ _ hHeld (by first | exact Below.refl _ _ | exact HB8.out) HS14.out.out).mono ?_; rintro e w15 ⟨v15, rfl, hs15, hb15⟩; have HS15 := put hs15; clear hs15; have HB15 := put hb15; have hb := Below.trans hHeld (hb15.mono (Below.size hHeld)); clear hb15)
  refine hJJ.out _ _ ?_ (fun hHeld2 => ?_)
  · exact hb
  clear hJJ JJ hHeld
  have hHeld := hHeld2
  clear hHeld2
  try simp only [List.getElem_toArray, List.getElem_cons_succ, List.getElem_cons_zero, Act.put, List.setIfInBounds_toArray, List.set_cons_zero, List.set_cons_succ]
  refine wpAnyH_ready (rs := [16]) (by kernel_rfl) (by simp) ?_
  refine AllReadyH.cons rfl (fun JJ hJJ => ?_) AllReadyH.nil
  go_simp
  ((try clear hb); go_at_call 16; refine (SM.out _ _ _ _ _ _ _ (by first | exact Below.refl _ _ | exact HB15.out | exact HB14.out.trans (HB15.out.mono (Below.size HB14.out)) | exact HB14.out.trans ((Below.refl _ _).trans (HB15.out.mono (Below.size HB14.out)))) (by first | exact Below.refl _ _ | exact HB8.out) HS8.out.out HS15.out.out).mono ?_; rintro e w16 ⟨rfl, q, rfl⟩; have hb := Below.drewn (n := q) hHeld)
  refine hJJ.out _ _ ?_ (fun hHeld2 => ?_)
  · exact hb
  clear hJJ JJ hHeld
  have hHeld := hHeld2
  clear hHeld2
  try simp only [List.getElem_toArray, List.getElem_cons_succ, List.getElem_cons_zero, Act.put, List.setIfInBounds_toArray, List.set_cons_zero, List.set_cons_succ]
  refine wpAnyH_take (i := 17) (v := ?_) rfl (by kernel_rfl) (by kernel_rfl) (by kernel_rfl) (fun _ _ _ h => h) (Or.inl ⟨by kernel_rfl, ?_⟩) (by assumption) ?_
  rotate_left
  · intro w hSw; (try dsimp only at hSw); go_simp; try with_reducible rfl
  try simp only [List.getElem_toArray, List.getElem_cons_succ, List.getElem_cons_zero, Act.put, List.setIfInBounds_toArray, List.set_cons_zero, List.set_cons_succ]
  refine wpAnyH_take (i := 18) (v := ?_) rfl (by kernel_rfl) (by kernel_rfl) (by kernel_rfl) (fun _ _ _ h => h) (Or.inl ⟨by kernel_rfl, ?_⟩) (by assumption) ?_
  rotate_left
  · intro w hSw; (try dsimp only at hSw); go_simp; try with_reducible rfl
  try simp only [List.getElem_toArray, List.getElem_cons_succ, List.getElem_cons_zero, Act.put, List.setIfInBounds_toArray, List.set_cons_zero, List.set_cons_succ]
  refine wpAnyH_take (i := 19) (v := ?_) rfl (by kernel_rfl) (by kernel_rfl) (by kernel_rfl) (fun _ _ _ h => h) (Or.inl ⟨by kernel_rfl, ?_⟩) (by assumption) ?_
  rotate_left
  · intro w hSw; (try dsimp only at hSw); go_simp; try with_reducible rfl
  try simp only [List.getElem_toArray, List.getElem_cons_succ, List.getElem_cons_zero, Act.put, List.setIfInBounds_toArray, List.set_cons_zero, List.set_cons_succ]
  refine wpAnyH_done (by kernel_rfl) ?_ _
  refine NoPanic.normal ?_
  exact HQ.out _ _ _ _ _ _ _ _ _ _ _ _ _ _ _ _ _ _ _ _ hHeld

set_option maxHeartbeats 16000000 in
set_option maxRecDepth 100000 in
theorem firstNone (s0 s1 s2 s3 s4 s5 s6 s7 s8 s9 s10 s13 s14 s15 s16 s18 s20 s21 s22 s23 s24 s25 s26 s27 s28 s29 s30 s31 s32 s33 s34 s35 s36 s37 s38 s39 s40 s41 s42 s43 s44 s45 s46 s47 s48 s49 s50 s51 s52 s53 s54 s55 s56 s57 s58 s59 s60 s61 s62 s63 s64 s65 s66 s67 s68 s69 s70 s71 s72 s73 s74 s75 s76 s77 s78 s79 s80 s81 s82 s83 s84 s85 s86 s87 s88 s89 s90 s91 s92 s93 s94 s95 s96 s97 s98 s99 s100 s101 s102 s103 s104 s105 s106 s107 s108 s109 s110 s111 s112 s113 s114 s115 s116 s117 s118 s119 s120 s121 s122 s123 s124 s125 s126 s127 s128 s129 s130 s131 s132 s133 s134 s135 s136 s137 s138 s139 s140 s141 s142 s143 s144 s145 s146 s147 s148 s149 s150 s151 s152 s153 s154 s155 s156 s157 s158 : Value) (a T K : Nat) (wk : World) (Q : Exit → Act → World → Prop)
    (hQ : ∀ (r98 r99 r100 r101 r102 r103 r104 r105 r106 r107 r108 r109 r110 r111 r112 r113 r114 r115 r116 : Value) (w' : World), Below wk.heap.size wk w' → Q .normal { tmps := #[s0, s1, s2, s3, s4, s5, s6, s7, s8, s9, s10, .pointer (some ⟨a, 0, none⟩), .pointer (some ⟨T, 0, none⟩), s13, s14, s15, s16, .pointer (some ⟨K, 0, none⟩), s18, .bool false, s20, s21, s22, s23, s24, s25, s26, s27, s28, s29, s30, s31, s32, s33, s34, s35, s36, s37, s38, s39, s40, s41, s42, s43, s44, s45, s46, s47, s48, s49, s50, s51, s52, s53, s54, s55, s56, s57, s58, s59, s60, s61, s62, s63, s64, s65, s66, s67, s68, s69, s70, s71, s72, s73, s74, s75, s76, s77, s78, s79, s80, s81, s82, s83, s84, s85, s86, s87, s88, s89, s90, s91, s92, s93, s94, s95, s96, s97, r98, r99, r100, r101, r102, r103, r104, r105, r106, r107, r108, r109, r110, r111, r112, r113, r114, r115, r116, .bool false, s118, s119, s120, s121, s122, s123, s124, s125, s126, s127, s128, s129, s130, s131, s132, s133, s134, s135, s136, s137, s138, s139, s140, s141, s142, s143, s144, s145, s146, s147, s148, s149, s150, s151, s152, s153, s154, s155, s156, s157, s158], defers := [] } w') :
    ∀ code, (Try.f8.body.bind (regionAt 31)) = some code → Code.wp Try.prog code Q { tmps := #[s0, s1, s2, s3, s4, s5, s6, s7, s8, s9, s10, .pointer (some ⟨a, 0, none⟩), .pointer (some ⟨T, 0, none⟩), s13, s14, s15, s16, .pointer (some ⟨K, 0, none⟩), s18, .bool false, s20, s21, s22, s23, s24, s25, s26, s27, s28, s29, s30, s31, s32, s33, s34, s35, s36, s37, s38, s39, s40, s41, s42, s43, s44, s45, s46, s47, s48, s49, s50, s51, s52, s53, s54, s55, s56, s57, s58, s59, s60, s61, s62, s63, s64, s65, s66, s67, s68, s69, s70, s71, s72, s73, s74, s75, s76, s77, s78, s79, s80, s81, s82, s83, s84, s85, s86, s87, s88, s89, s90, s91, s92, s93, s94, s95, s96, s97, s98, s99, s100, s101, s102, s103, s104, s105, s106, s107, s108, s109, s110, s111, s112, s113, s114, s115, s116, s117, s118, s119, s120, s121, s122, s123, s124, s125, s126, s127, s128, s129, s130, s131, s132, s133, s134, s135, s136, s137, s138, s139, s140, s141, s142, s143, s144, s145, s146, s147, s148, s149, s150, s151, s152, s153, s154, s155, s156, s157, s158], defers := [] } wk := by
  intro code hcode
  have h : (Try.f8.body.bind (regionAt 31)) = some (Code.region 31 _ true) := rfl
  rw [h] at hcode
  injection hcode with hcode
  subst hcode
  clear h
  have HQ := put hQ
  clear hQ
  refine wp_region_noPanic ?_
  refine wp_region_held_drew (S := (fun w' => Below wk.heap.size wk w')) (by kernel_rfl) (Below.refl _ _).drew (fun hHeld => ?_)
  refine wpAnyH_take (i := 0) (v := ?_) rfl (by kernel_rfl) (by kernel_rfl) (by kernel_rfl) (fun _ _ _ h => h) (Or.inl ⟨by kernel_rfl, ?_⟩) (by assumption) ?_
  rotate_left
  · intro w hSw; (try dsimp only at hSw); go_simp; try with_reducible rfl
  try simp only [List.getElem_toArray, List.getElem_cons_zero, Act.put, List.setIfInBounds_toArray, List.set_cons_zero, List.set_cons_succ]
  refine wpAnyH_take (i := 1) (v := ?_) rfl (by kernel_rfl) (by kernel_rfl) (by kernel_rfl) (fun _ _ _ h => h) (Or.inl ⟨by kernel_rfl, ?_⟩) (by assumption) ?_
  rotate_left
  · intro w hSw; (try dsimp only at hSw); go_simp; try with_reducible rfl
  try simp only [List.getElem_toArray, List.getElem_cons_succ, List.getElem_cons_zero, Act.put, List.setIfInBounds_toArray, List.set_cons_zero, List.set_cons_succ]
  refine wpAnyH_take (i := 2) (v := undef) rfl (by kernel_rfl) (by kernel_rfl) (by kernel_rfl) (fun _ _ _ h => h) (Or.inr ⟨by kernel_rfl, rfl⟩) (by assumption) ?_
  try simp only [List.getElem_toArray, List.getElem_cons_succ, List.getElem_cons_zero, Act.put, List.setIfInBounds_toArray, List.set_cons_zero, List.set_cons_succ]
  refine wpAnyH_take (i := 3) (v := undef) rfl (by kernel_rfl) (by kernel_rfl) (by kernel_rfl) (fun _ _ _ h => h) (Or.inr ⟨by kernel_rfl, rfl⟩) (by assumption) ?_
  try simp only [List.getElem_toArray, List.getElem_cons_succ, List.getElem_cons_zero, Act.put, List.setIfInBounds_toArray, List.set_cons_zero, List.set_cons_succ]
  refine wpAnyH_take (i := 4) (v := undef) rfl (by kernel_rfl) (by kernel_rfl) (by kernel_rfl) (fun _ _ _ h => h) (Or.inr ⟨by kernel_rfl, rfl⟩) (by assumption) ?_
  try simp only [List.getElem_toArray, List.getElem_cons_succ, List.getElem_cons_zero, Act.put, List.setIfInBounds_toArray, List.set_cons_zero, List.set_cons_succ]
  refine wpAnyH_take (i := 5) (v := undef) rfl (by kernel_rfl) (by kernel_rfl) (by kernel_rfl) (fun _ _ _ h => h) (Or.inr ⟨by kernel_rfl, rfl⟩) (by assumption) ?_
  try simp only [List.getElem_toArray, List.getElem_cons_succ, List.getElem_cons_zero, Act.put, List.setIfInBounds_toArray, List.set_cons_zero, List.set_cons_succ]
  refine wpAnyH_take (i := 6) (v := undef) rfl (by kernel_rfl) (by kernel_rfl) (by kernel_rfl) (fun _ _ _ h => h) (Or.inr ⟨by kernel_rfl, rfl⟩) (by assumption) ?_
  try simp only [List.getElem_toArray, List.getElem_cons_succ, List.getElem_cons_zero, Act.put, List.setIfInBounds_toArray, List.set_cons_zero, List.set_cons_succ]
  refine wpAnyH_take (i := 7) (v := undef) rfl (by kernel_rfl) (by kernel_rfl) (by kernel_rfl) (fun _ _ _ h => h) (Or.inr ⟨by kernel_rfl, rfl⟩) (by assumption) ?_
  try simp only [List.getElem_toArray, List.getElem_cons_succ, List.getElem_cons_zero, Act.put, List.setIfInBounds_toArray, List.set_cons_zero, List.set_cons_succ]
  refine wpAnyH_take (i := 8) (v := undef) rfl (by kernel_rfl) (by kernel_rfl) (by kernel_rfl) (fun _ _ _ h => h) (Or.inr ⟨by kernel_rfl, rfl⟩) (by assumption) ?_
  try simp only [List.getElem_toArray, List.getElem_cons_succ, List.getElem_cons_zero, Act.put, List.setIfInBounds_toArray, List.set_cons_zero, List.set_cons_succ]
  refine wpAnyH_take (i := 9) (v := undef) rfl (by kernel_rfl) (by kernel_rfl) (by kernel_rfl) (fun _ _ _ h => h) (Or.inr ⟨by kernel_rfl, rfl⟩) (by assumption) ?_
  try simp only [List.getElem_toArray, List.getElem_cons_succ, List.getElem_cons_zero, Act.put, List.setIfInBounds_toArray, List.set_cons_zero, List.set_cons_succ]
  refine wpAnyH_take (i := 10) (v := undef) rfl (by kernel_rfl) (by kernel_rfl) (by kernel_rfl) (fun _ _ _ h => h) (Or.inr ⟨by kernel_rfl, rfl⟩) (by assumption) ?_
  try simp only [List.getElem_toArray, List.getElem_cons_succ, List.getElem_cons_zero, Act.put, List.setIfInBounds_toArray, List.set_cons_zero, List.set_cons_succ]
  refine wpAnyH_take (i := 11) (v := undef) rfl (by kernel_rfl) (by kernel_rfl) (by kernel_rfl) (fun _ _ _ h => h) (Or.inr ⟨by kernel_rfl, rfl⟩) (by assumption) ?_
  try simp only [List.getElem_toArray, List.getElem_cons_succ, List.getElem_cons_zero, Act.put, List.setIfInBounds_toArray, List.set_cons_zero, List.set_cons_succ]
  refine wpAnyH_take (i := 12) (v := undef) rfl (by kernel_rfl) (by kernel_rfl) (by kernel_rfl) (fun _ _ _ h => h) (Or.inr ⟨by kernel_rfl, rfl⟩) (by assumption) ?_
  try simp only [List.getElem_toArray, List.getElem_cons_succ, List.getElem_cons_zero, Act.put, List.setIfInBounds_toArray, List.set_cons_zero, List.set_cons_succ]
  refine wpAnyH_take (i := 13) (v := undef) rfl (by kernel_rfl) (by kernel_rfl) (by kernel_rfl) (fun _ _ _ h => h) (Or.inr ⟨by kernel_rfl, rfl⟩) (by assumption) ?_
  try simp only [List.getElem_toArray, List.getElem_cons_succ, List.getElem_cons_zero, Act.put, List.setIfInBounds_toArray, List.set_cons_zero, List.set_cons_succ]
  refine wpAnyH_take (i := 14) (v := undef) rfl (by kernel_rfl) (by kernel_rfl) (by kernel_rfl) (fun _ _ _ h => h) (Or.inr ⟨by kernel_rfl, rfl⟩) (by assumption) ?_
  try simp only [List.getElem_toArray, List.getElem_cons_succ, List.getElem_cons_zero, Act.put, List.setIfInBounds_toArray, List.set_cons_zero, List.set_cons_succ]
  refine wpAnyH_take (i := 15) (v := undef) rfl (by kernel_rfl) (by kernel_rfl) (by kernel_rfl) (fun _ _ _ h => h) (Or.inr ⟨by kernel_rfl, rfl⟩) (by assumption) ?_
  try simp only [List.getElem_toArray, List.getElem_cons_succ, List.getElem_cons_zero, Act.put, List.setIfInBounds_toArray, List.set_cons_zero, List.set_cons_succ]
  refine wpAnyH_take (i := 16) (v := undef) rfl (by kernel_rfl) (by kernel_rfl) (by kernel_rfl) (fun _ _ _ h => h) (Or.inr ⟨by kernel_rfl, rfl⟩) (by assumption) ?_
  try simp only [List.getElem_toArray, List.getElem_cons_succ, List.getElem_cons_zero, Act.put, List.setIfInBounds_toArray, List.set_cons_zero, List.set_cons_succ]
  refine wpAnyH_take (i := 17) (v := undef) rfl (by kernel_rfl) (by kernel_rfl) (by kernel_rfl) (fun _ _ _ h => h) (Or.inr ⟨by kernel_rfl, rfl⟩) (by assumption) ?_
  try simp only [List.getElem_toArray, List.getElem_cons_succ, List.getElem_cons_zero, Act.put, List.setIfInBounds_toArray, List.set_cons_zero, List.set_cons_succ]
  refine wpAnyH_take (i := 18) (v := undef) rfl (by kernel_rfl) (by kernel_rfl) (by kernel_rfl) (fun _ _ _ h => h) (Or.inr ⟨by kernel_rfl, rfl⟩) (by assumption) ?_
  try simp only [List.getElem_toArray, List.getElem_cons_succ, List.getElem_cons_zero, Act.put, List.setIfInBounds_toArray, List.set_cons_zero, List.set_cons_succ]
  refine wpAnyH_take (i := 19) (v := ?_) rfl (by kernel_rfl) (by kernel_rfl) (by kernel_rfl) (fun _ _ _ h => h) (Or.inl ⟨by kernel_rfl, ?_⟩) (by assumption) ?_
  rotate_left
  · intro w hSw; (try dsimp only at hSw); go_simp; try with_reducible rfl
  try simp only [List.getElem_toArray, List.getElem_cons_succ, List.getElem_cons_zero, Act.put, List.setIfInBounds_toArray, List.set_cons_zero, List.set_cons_succ]
  refine wpAnyH_done (by kernel_rfl) ?_ _
  refine NoPanic.normal ?_
  exact HQ.out _ _ _ _ _ _ _ _ _ _ _ _ _ _ _ _ _ _ _ _ hHeld

end Go.Proofs.Ytkfoknjflpklpaa.D

namespace Go.Proofs.Ytkfoknjflpklpaa.D
open Go Go.RowKit Go.Sort Go.Proofs.Ytkfoknjflpklpaa.Mem Go.Proofs.Ytkfoknjflpklpaa.Cmp Go.Proofs.Ytkfoknjflpklpaa.Stab

def afterAt (id : Nat) : Code → Option Code
  | .seq (.seq (.region i _ _) q) r => if i = id then some r else (afterAt id q).or (afterAt id r)
  | .seq a b => (afterAt id a).or (afterAt id b)
  | .cond _ a b => (afterAt id a).or (afterAt id b)
  | .block _ c => afterAt id c
  | .loop c => afterAt id c
  | _ => none

def Rl.ahead (x : Rl) (pr : Int) (nr : ByteArray) : Bool := decide (pr < x.prio) || (decide (x.prio = pr) && ltS x.name nr)

set_option maxHeartbeats 16000000 in
set_option maxRecDepth 100000 in
theorem firstTail (s1 s2 s3 s4 s5 s6 s7 s8 s9 s10 s13 s14 s15 s16 s20 s21 s22 s23 s24 s25 s26 s27 s28 s29 s30 s31 s32 s33 s34 s35 s36 s37 s38 s39 s40 s41 s42 s43 s44 s45 s46 s47 s48 s49 s50 s51 s52 s53 s54 s55 s56 s57 s58 s59 s60 s61 s62 s63 s64 s65 s66 s67 s68 s69 s70 s71 s72 s73 s74 s75 s76 s77 s78 s79 s80 s81 s82 s83 s84 s85 s86 s87 s88 s89 s90 s91 s92 s93 s94 s95 s96 s97 s98 s99 s100 s101 s102 s103 s104 s105 s106 s107 s108 s109 s110 s111 s112 s113 s114 s115 s116 s117 s118 s119 s120 s121 s122 s123 s124 s125 s126 s127 s128 s129 s130 s131 s132 s133 s134 s135 s136 s137 s138 s139 s140 s141 s142 s143 s144 s145 s146 s147 s148 s149 s150 s151 s152 s153 s154 s155 s156 s157 s158 vn v0 : Value) (ok : Bool) (d : Nat) (ok1 okl : Nat → Prop) (a mb T F k nT cT m c1 : Nat) (A1 AT : Option Addr) (rs : List Rl) (f : ByteArray → Option Int) (log : List Chg) (f0 f2 f3 f4 f5 f6 f7 f8 f9 f11 f12 f13 f14 : Value) (pr : Int) (nr : ByteArray) (wk : World) (Q : Exit → Act → World → Prop)
    (hA : AgAt wk a v0 mb) (hM : Marks wk mb k f) (hT : wk.cell? ⟨T, 0, none⟩ = some (.slice AT nT cT)) (hL : Sl tChg okl wk (.slice AT nT cT) log) (hl : log.length ≤ 1000) (hlb : ∀ x ∈ log, x.old.length ≤ 1000 ∧ x.new.length ≤ 1000)
    (hF : wk.heap[F]? = some (.cells #[f0, .string nr, f2, f3, f4, f5, f6, f7, f8, f9, .int .i64 pr, f11, f12, f13, f14] 67 (0, 0))) (hR : Sl (tSt d) ok1 wk (.slice A1 m c1) rs)
    (hlaw : ∀ x ∈ rs, (ok = true → x.ahead pr nr = true) → trig (fun s => (f s).getD 0) log x = false)
    (h31 : ∀ code, (Try.f8.body.bind (regionAt 31)) = some code → ∀ Q' : Exit → Act → World → Prop, (∀ (r98 r99 r100 r101 r102 r103 r104 r105 r106 r107 r108 r109 r110 r111 r112 r113 r114 r115 r116 : Value) (w' : World), Below wk.heap.size wk w' → Q' .normal { tmps := #[.slice A1 m c1, s1, s2, s3, s4, s5, s6, s7, s8, s9, s10, .pointer (some ⟨a, 0, none⟩), .pointer (some ⟨T, 0, none⟩), s13, s14, s15, s16, .pointer (some ⟨F, 0, none⟩), vn, .bool ok, s20, s21, s22, s23, s24, s25, s26, s27, s28, s29, s30, s31, s32, s33, s34, s35, s36, s37, s38, s39, s40, s41, s42, s43, s44, s45, s46, s47, s48, s49, s50, s51, s52, s53, s54, s55, s56, s57, s58, s59, s60, s61, s62, s63, s64, s65, s66, s67, s68, s69, s70, s71, s72, s73, s74, s75, s76, s77, s78, s79, s80, s81, s82, s83, s84, s85, s86, s87, s88, s89, s90, s91, s92, s93, s94, s95, s96, s97, r98, r99, r100, r101, r102, r103, r104, r105, r106, r107, r108, r109, r110, r111, r112, r113, r114, r115, r116, .bool false, s118, s119, s120, s121, s122, s123, s124, s125, s126, s127, s128, s129, s130, s131, s132, s133, s134, s135, s136, s137, s138, s139, s140, s141, s142, s143, s144, s145, s146, s147, s148, s149, s150, s151, s152, s153, s154, s155, s156, s157, s158], defers := [] } w') → Code.wp Try.prog code Q' { tmps := #[.slice A1 m c1, s1, s2, s3, s4, s5, s6, s7, s8, s9, s10, .pointer (some ⟨a, 0, none⟩), .pointer (some ⟨T, 0, none⟩), s13, s14, s15, s16, .pointer (some ⟨F, 0, none⟩), vn, .bool ok, s20, s21, s22, s23, s24, s25, s26, s27, s28, s29, s30, s31, s32, s33, s34, s35, s36, s37, s38, s39, s40, s41, s42, s43, s44, s45, s46, s47, s48, s49, s50, s51, s52, s53, s54, s55, s56, s57, s58, s59, s60, s61, s62, s63, s64, s65, s66, s67, s68, s69, s70, s71, s72, s73, s74, s75, s76, s77, s78, s79, s80, s81, s82, s83, s84, s85, s86, s87, s88, s89, s90, s91, s92, s93, s94, s95, s96, s97, s98, s99, s100, s101, s102, s103, s104, s105, s106, s107, s108, s109, s110, s111, s112, s113, s114, s115, s116, s117, s118, s119, s120, s121, s122, s123, s124, s125, s126, s127, s128, s129, s130, s131, s132, s133, s134, s135, s136, s137, s138, s139, s140, s141, s142, s143, s144, s145, s146, s147, s148, s149, s150, s151, s152, s153, s154, s155, s156, s157, s158], defers := [] } wk)
    (hQ : ∀ (t : Array Value) (w' : World), t[6]? = some (.bool true) → Below wk.heap.size wk w' → Q .ret { tmps := t, defers := [] } w') :
    ∀ code rest rest2, (Try.f8.body.bind (regionAt 31)) = some code → (Try.f8.body.bind (restAt 31)) = some rest → (Try.f8.body.bind (afterAt 31)) = some rest2 → ∀ KJ KK : Act → World → Prop, (∀ a w, Code.wp Try.prog rest (Exit.then KK Q) a w → KJ a w) → (∀ a w, Code.wp Try.prog rest2 Q a w → KK a w) → Code.wp Try.prog code (Exit.then KJ (Exit.then KK Q)) { tmps := #[.slice A1 m c1, s1, s2, s3, s4, s5, s6, s7, s8, s9, s10, .pointer (some ⟨a, 0, none⟩), .pointer (some ⟨T, 0, none⟩), s13, s14, s15, s16, .pointer (some ⟨F, 0, none⟩), vn, .bool ok, s20, s21, s22, s23, s24, s25, s26, s27, s28, s29, s30, s31, s32, s33, s34, s35, s36, s37, s38, s39, s40, s41, s42, s43, s44, s45, s46, s47, s48, s49, s50, s51, s52, s53, s54, s55, s56, s57, s58, s59, s60, s61, s62, s63, s64, s65, s66, s67, s68, s69, s70, s71, s72, s73, s74, s75, s76, s77, s78, s79, s80, s81, s82, s83, s84, s85, s86, s87, s88, s89, s90, s91, s92, s93, s94, s95, s96, s97, s98, s99, s100, s101, s102, s103, s104, s105, s106, s107, s108, s109, s110, s111, s112, s113, s114, s115, s116, s117, s118, s119, s120, s121, s122, s123, s124, s125, s126, s127, s128, s129, s130, s131, s132, s133, s134, s135, s136, s137, s138, s139, s140, s141, s142, s143, s144, s145, s146, s147, s148, s149, s150, s151, s152, s153, s154, s155, s156, s157, s158], defers := [] } wk := by
  intro code rest rest2 hcode hrest hrest2 KJ KK hKJ hKK
  have h : (Try.f8.body.bind (restAt 31)) = some _ := rfl
  rw [h] at hrest
  injection hrest with hrest
  subst hrest
  clear h
  have h : (Try.f8.body.bind (afterAt 31)) = some _ := rfl
  rw [h] at hrest2
  injection hrest2 with hrest2
  subst hrest2
  clear h
  have HA := put hA
  have HM := put hM
  have HT := put hT
  have HL := put (And.intro hL (And.intro hl hlb))
  have HF := put hF
  have HFs : Kp (F < wk.heap.size) := put (Array.getElem?_eq_some_iff.1 hF).1
  have HR := put hR
  have HLAW := put hlaw
  have HQ := put hQ
  obtain ⟨hm, l1, l2⟩ : rs.length = m ∧ m ≤ c1 ∧ c1 ≤ 9223372036854775807 := by obtain ⟨_, h1, h2, h3, _, _⟩ := hR.row; exact ⟨h1.symm, h2, by omega⟩
  have HMM := put hm
  refine h31 code hcode _ ?_
  clear hA hM hT hL hl hlb hF hR hlaw hQ hm h31 hcode
  intro r98 r99 r100 r101 r102 r103 r104 r105 r106 r107 r108 r109 r110 r111 r112 r113 r114 r115 r116 w9 hb9
  have HB9 := put hb9
  clear hb9
  go_wp2_with fail
  go_loopg [120] m (fun kx s120 wr => ∃ (i : Nat), s120 = .int .i64 i ∧ i ≤ m ∧ m - i ≤ kx ∧ Kp (Below wk.heap.size wk wr))
  case atStart => exact ⟨0, rfl, Nat.zero_le _, Nat.le_refl _, HB9⟩
  case round =>
    obtain ⟨i, rfl, hi, hkx, KB⟩ := hrel
    by_cases hlt : i < m
    · have hlz : (i : Int) < (m : Int) := by omega
      have i0 : (0 : Int) ≤ (i : Int) := by omega
      obtain ⟨ad, kd', x, col', rl', Ac', nc', cc', A1', n1', c1', A2', n2', c2', A3', n3', c3', A4', n4', c4', A5', n5', c5', A6', n6', c6', rfl, hx, u0, u1, u2, u3, u4, u5, u6, u7, u8, u9, u10, u11, u12, u13, u14, hr⟩ := sts_at (HR.out.below KB.out).row.1 i (by rw [HMM.out]; exact hlt)
      have KX : Kp (x ∈ rs) := put (List.mem_of_getElem? hx)
      have KR := put hr
      clear hx hr
      have y1 : ∀ o, (wr.alloc o).cell? ⟨F, 1, none⟩ = some (.string nr) := fun o => st_c1 (keepA ((KB.out.block F HFs.out).trans HF.out) o)
      have y10 : ∀ o, (wr.alloc o).cell? ⟨F, 10, none⟩ = some (.int .i64 pr) := fun o => st_c10 (keepA ((KB.out.block F HFs.out).trans HF.out) o)
      cases ok with
      | false =>
        have HTRF : Kp (trig (fun s => (f s).getD 0) log x = false) := put (HLAW.out x KX.out (fun h => by cases h))
        go_wp2_with fail
        obtain ⟨wk2, hwk⟩ : ∃ wk2, wk2 = wr.alloc (.cells #[.int .i64 kd', .string x.name, .string x.table, .string col', .slice Ac' nc' cc', .slice A1' n1' c1', .slice A2' n2' c2', .slice A3' n3' c3', .slice A4' n4' c4', .slice A5' n5' c5', .int .i64 x.prio, .int .i64 x.event, .bool x.deferred, .bool rl', .slice A6' n6' c6'] 67) := ⟨_, rfl⟩
        have hK : wk2.heap[wr.heap.size]? = some (.cells #[.int .i64 kd', .string x.name, .string x.table, .string col', .slice Ac' nc' cc', .slice A1' n1' c1', .slice A2' n2' c2', .slice A3' n3' c3', .slice A4' n4' c4', .slice A5' n5' c5', .int .i64 x.prio, .int .i64 x.event, .bool x.deferred, .bool rl', .slice A6' n6' c6'] 67 (0, 0)) := by rw [hwk]; exact heap_alloc_new _ _
        have hbk : Below wr.heap.size wr wk2 := by rw [hwk]; exact balloc (Below.refl _ _) _
        rw [← hwk]
        have HBK := put hbk
        have HBW : Kp (Below wk.heap.size wk wk2) := put (KB.out.trans (hbk.mono KB.out.size))
        have HK := put hK
        clear hwk hK hbk u0 u1 u2 u3 u4 u5 u6 u7 u8 u9 u10 u11 u12 u13 u14 y1 y10
        refine firstLook _ _ _ _ _ _ _ _ _ _ _ _ _ _ _ _ _ _ _ _ _ _ _ _ _ _ _ _ _ _ _ _ _ _ _ _ _ _ _ _ _ _ _ _ _ _ _ _ _ _ _ _ _ _ _ _ _ _ _ _ _ _ _ _ _ _ _ _ _ _ _ _ _ _ _ _ _ _ _ _ _ _ _ _ _ _ _ _ _ _ _ _ _ _ _ _ _ _ _ _ _ _ _ _ _ _ _ _ _ _ _ _ _ _ _ _ _ _ _ _ _ _ _ _ _ _ _ _ _ _ _ _ _ _ _ _ _ _ _ _ _ _ _ _ _ _ _ _ _ _ _ _ _ _ _ v0 d _ okl a mb T _ k nT cT AT x f log kd' col' rl' Ac' A1' A2' A3' A4' A5' A6' nc' cc' n1' c1' n2' c2' n3' c3' n4' c4' n5' c5' n6' c6' wk2 _ (HA.out.below HBW.out) (HM.out.below HBW.out) ((HBW.out.cell (p := ⟨T, 0, none⟩) (cell_lt HT.out)).trans HT.out) (HL.out.1.below HBW.out) HL.out.2.1 HL.out.2.2 HK.out (Ty.below KR.out HBK.out) HTRF.out ?_ _ rfl
        intro r147 r148 r149 r150 r151 r152 r153 r154 r155 r156 w7 hb7
        have HB7 := put (HBW.out.trans (hb7.mono HBW.out.size))
        clear hb7
        go_wp2_with fail
        go_roundg (m - (i + 1))
        case measure => omega
        case rel => exact ⟨i + 1, by go_num, by omega, Nat.le_refl _, HB7⟩
      | true =>
        by_cases p1 : x.prio > pr
        · have HTRF : Kp (trig (fun s => (f s).getD 0) log x = false) := put (HLAW.out x KX.out (fun _ => by unfold Rl.ahead; rw [decide_eq_true p1]; rfl))
          go_wp2_with fail
          obtain ⟨wk2, hwk⟩ : ∃ wk2, wk2 = wr.alloc (.cells #[.int .i64 kd', .string x.name, .string x.table, .string col', .slice Ac' nc' cc', .slice A1' n1' c1', .slice A2' n2' c2', .slice A3' n3' c3', .slice A4' n4' c4', .slice A5' n5' c5', .int .i64 x.prio, .int .i64 x.event, .bool x.deferred, .bool rl', .slice A6' n6' c6'] 67) := ⟨_, rfl⟩
          have hK : wk2.heap[wr.heap.size]? = some (.cells #[.int .i64 kd', .string x.name, .string x.table, .string col', .slice Ac' nc' cc', .slice A1' n1' c1', .slice A2' n2' c2', .slice A3' n3' c3', .slice A4' n4' c4', .slice A5' n5' c5', .int .i64 x.prio, .int .i64 x.event, .bool x.deferred, .bool rl', .slice A6' n6' c6'] 67 (0, 0)) := by rw [hwk]; exact heap_alloc_new _ _
          have hbk : Below wr.heap.size wr wk2 := by rw [hwk]; exact balloc (Below.refl _ _) _
          rw [← hwk]
          have HBK := put hbk
          have HBW : Kp (Below wk.heap.size wk wk2) := put (KB.out.trans (hbk.mono KB.out.size))
          have HK := put hK
          clear hwk hK hbk u0 u1 u2 u3 u4 u5 u6 u7 u8 u9 u10 u11 u12 u13 u14 y1 y10
          refine firstLook _ _ _ _ _ _ _ _ _ _ _ _ _ _ _ _ _ _ _ _ _ _ _ _ _ _ _ _ _ _ _ _ _ _ _ _ _ _ _ _ _ _ _ _ _ _ _ _ _ _ _ _ _ _ _ _ _ _ _ _ _ _ _ _ _ _ _ _ _ _ _ _ _ _ _ _ _ _ _ _ _ _ _ _ _ _ _ _ _ _ _ _ _ _ _ _ _ _ _ _ _ _ _ _ _ _ _ _ _ _ _ _ _ _ _ _ _ _ _ _ _ _ _ _ _ _ _ _ _ _ _ _ _ _ _ _ _ _ _ _ _ _ _ _ _ _ _ _ _ _ _ _ _ _ _ v0 d _ okl a mb T _ k nT cT AT x f log kd' col' rl' Ac' A1' A2' A3' A4' A5' A6' nc' cc' n1' c1' n2' c2' n3' c3' n4' c4' n5' c5' n6' c6' wk2 _ (HA.out.below HBW.out) (HM.out.below HBW.out) ((HBW.out.cell (p := ⟨T, 0, none⟩) (cell_lt HT.out)).trans HT.out) (HL.out.1.below HBW.out) HL.out.2.1 HL.out.2.2 HK.out (Ty.below KR.out HBK.out) HTRF.out ?_ _ rfl
          intro r147 r148 r149 r150 r151 r152 r153 r154 r155 r156 w7 hb7
          have HB7 := put (HBW.out.trans (hb7.mono HBW.out.size))
          clear hb7
          go_wp2_with fail
          go_roundg (m - (i + 1))
          case measure => omega
          case rel => exact ⟨i + 1, by go_num, by omega, Nat.le_refl _, HB7⟩
        · by_cases p2 : x.prio = pr
          · have P2 := put p2
            have p2b : (x.prio == pr) = true := by rw [p2]; simp
            clear p2
            cases p3 : ltS x.name nr with
            | true =>
              have HTRF : Kp (trig (fun s => (f s).getD 0) log x = false) := put (HLAW.out x KX.out (fun _ => by unfold Rl.ahead; rw [decide_eq_true P2.out, p3]; simp))
              unfold ltS at p3
              go_wp2_with fail
              obtain ⟨wk2, hwk⟩ : ∃ wk2, wk2 = wr.alloc (.cells #[.int .i64 kd', .string x.name, .string x.table, .string col', .slice Ac' nc' cc', .slice A1' n1' c1', .slice A2' n2' c2', .slice A3' n3' c3', .slice A4' n4' c4', .slice A5' n5' c5', .int .i64 x.prio, .int .i64 x.event, .bool x.deferred, .bool rl', .slice A6' n6' c6'] 67) := ⟨_, rfl⟩
              have hK : wk2.heap[wr.heap.size]? = some (.cells #[.int .i64 kd', .string x.name, .string x.table, .string col', .slice Ac' nc' cc', .slice A1' n1' c1', .slice A2' n2' c2', .slice A3' n3' c3', .slice A4' n4' c4', .slice A5' n5' c5', .int .i64 x.prio, .int .i64 x.event, .bool x.deferred, .bool rl', .slice A6' n6' c6'] 67 (0, 0)) := by rw [hwk]; exact heap_alloc_new _ _
              have hbk : Below wr.heap.size wr wk2 := by rw [hwk]; exact balloc (Below.refl _ _) _
              rw [← hwk]
              have HBK := put hbk
              have HBW : Kp (Below wk.heap.size wk wk2) := put (KB.out.trans (hbk.mono KB.out.size))
              have HK := put hK
              clear hwk hK hbk u0 u1 u2 u3 u4 u5 u6 u7 u8 u9 u10 u11 u12 u13 u14 y1 y10
              refine firstLook _ _ _ _ _ _ _ _ _ _ _ _ _ _ _ _ _ _ _ _ _ _ _ _ _ _ _ _ _ _ _ _ _ _ _ _ _ _ _ _ _ _ _ _ _ _ _ _ _ _ _ _ _ _ _ _ _ _ _ _ _ _ _ _ _ _ _ _ _ _ _ _ _ _ _ _ _ _ _ _ _ _ _ _ _ _ _ _ _ _ _ _ _ _ _ _ _ _ _ _ _ _ _ _ _ _ _ _ _ _ _ _ _ _ _ _ _ _ _ _ _ _ _ _ _ _ _ _ _ _ _ _ _ _ _ _ _ _ _ _ _ _ _ _ _ _ _ _ _ _ _ _ _ _ _ v0 d _ okl a mb T _ k nT cT AT x f log kd' col' rl' Ac' A1' A2' A3' A4' A5' A6' nc' cc' n1' c1' n2' c2' n3' c3' n4' c4' n5' c5' n6' c6' wk2 _ (HA.out.below HBW.out) (HM.out.below HBW.out) ((HBW.out.cell (p := ⟨T, 0, none⟩) (cell_lt HT.out)).trans HT.out) (HL.out.1.below HBW.out) HL.out.2.1 HL.out.2.2 HK.out (Ty.below KR.out HBK.out) HTRF.out ?_ _ rfl
              intro r147 r148 r149 r150 r151 r152 r153 r154 r155 r156 w7 hb7
              have HB7 := put (HBW.out.trans (hb7.mono HBW.out.size))
              clear hb7
              go_wp2_with fail
              go_roundg (m - (i + 1))
              case measure => omega
              case rel => exact ⟨i + 1, by go_num, by omega, Nat.le_refl _, HB7⟩
            | false =>
              unfold ltS at p3
              go_wp2_with fail
              obtain ⟨wk2, hwk⟩ : ∃ wk2, wk2 = wr.alloc (.cells #[.int .i64 kd', .string x.name, .string x.table, .string col', .slice Ac' nc' cc', .slice A1' n1' c1', .slice A2' n2' c2', .slice A3' n3' c3', .slice A4' n4' c4', .slice A5' n5' c5', .int .i64 x.prio, .int .i64 x.event, .bool x.deferred, .bool rl', .slice A6' n6' c6'] 67) := ⟨_, rfl⟩
              have hK : wk2.heap[wr.heap.size]? = some (.cells #[.int .i64 kd', .string x.name, .string x.table, .string col', .slice Ac' nc' cc', .slice A1' n1' c1', .slice A2' n2' c2', .slice A3' n3' c3', .slice A4' n4' c4', .slice A5' n5' c5', .int .i64 x.prio, .int .i64 x.event, .bool x.deferred, .bool rl', .slice A6' n6' c6'] 67 (0, 0)) := by rw [hwk]; exact heap_alloc_new _ _
              have hbk : Below wr.heap.size wr wk2 := by rw [hwk]; exact balloc (Below.refl _ _) _
              rw [← hwk]
              have HBK := put hbk
              have HBW : Kp (Below wk.heap.size wk wk2) := put (KB.out.trans (hbk.mono KB.out.size))
              have HK := put hK
              clear hwk hK hbk u0 u1 u2 u3 u4 u5 u6 u7 u8 u9 u10 u11 u12 u13 u14 y1 y10
              refine firstPass _ _ _ _ _ _ _ _ _ _ _ _ _ _ _ _ _ _ _ _ _ _ _ _ _ _ _ _ _ _ _ _ _ _ _ _ _ _ _ _ _ _ _ _ _ _ _ _ _ _ _ _ _ _ _ _ _ _ _ _ _ _ _ _ _ _ _ _ _ _ _ _ _ _ _ _ _ _ _ _ _ _ _ _ _ _ _ _ _ _ _ _ _ _ _ _ _ _ _ _ _ _ _ _ _ _ _ _ _ _ _ _ _ _ _ _ _ _ _ _ _ _ _ _ _ _ _ _ _ _ _ _ _ _ _ _ _ _ _ _ _ _ _ _ _ _ _ _ _ _ _ _ _ _ _ a T _ wk2 _ ?_ _ rfl
              intro r147 r148 r149 r150 r151 r152 r153 r154 r155 r156 w7 hb7
              have HB7 := put (HBW.out.trans (hb7.mono HBW.out.size))
              clear hb7
              go_wp2_with fail
              go_roundg (m - (i + 1))
              case measure => omega
              case rel => exact ⟨i + 1, by go_num, by omega, Nat.le_refl _, HB7⟩
          · have p2b : (x.prio == pr) = false := by simpa using p2
            clear p2
            go_wp2_with fail
            obtain ⟨wk2, hwk⟩ : ∃ wk2, wk2 = wr.alloc (.cells #[.int .i64 kd', .string x.name, .string x.table, .string col', .slice Ac' nc' cc', .slice A1' n1' c1', .slice A2' n2' c2', .slice A3' n3' c3', .slice A4' n4' c4', .slice A5' n5' c5', .int .i64 x.prio, .int .i64 x.event, .bool x.deferred, .bool rl', .slice A6' n6' c6'] 67) := ⟨_, rfl⟩
            have hK : wk2.heap[wr.heap.size]? = some (.cells #[.int .i64 kd', .string x.name, .string x.table, .string col', .slice Ac' nc' cc', .slice A1' n1' c1', .slice A2' n2' c2', .slice A3' n3' c3', .slice A4' n4' c4', .slice A5' n5' c5', .int .i64 x.prio, .int .i64 x.event, .bool x.deferred, .bool rl', .slice A6' n6' c6'] 67 (0, 0)) := by rw [hwk]; exact heap_alloc_new _ _
            have hbk : Below wr.heap.size wr wk2 := by rw [hwk]; exact balloc (Below.refl _ _) _
            rw [← hwk]
            have HBK := put hbk
            have HBW : Kp (Below wk.heap.size wk wk2) := put (KB.out.trans (hbk.mono KB.out.size))
            have HK := put hK
            clear hwk hK hbk u0 u1 u2 u3 u4 u5 u6 u7 u8 u9 u10 u11 u12 u13 u14 y1 y10
            refine firstPass _ _ _ _ _ _ _ _ _ _ _ _ _ _ _ _ _ _ _ _ _ _ _ _ _ _ _ _ _ _ _ _ _ _ _ _ _ _ _ _ _ _ _ _ _ _ _ _ _ _ _ _ _ _ _ _ _ _ _ _ _ _ _ _ _ _ _ _ _ _ _ _ _ _ _ _ _ _ _ _ _ _ _ _ _ _ _ _ _ _ _ _ _ _ _ _ _ _ _ _ _ _ _ _ _ _ _ _ _ _ _ _ _ _ _ _ _ _ _ _ _ _ _ _ _ _ _ _ _ _ _ _ _ _ _ _ _ _ _ _ _ _ _ _ _ _ _ _ _ _ _ _ _ _ _ a T _ wk2 _ ?_ _ rfl
            intro r147 r148 r149 r150 r151 r152 r153 r154 r155 r156 w7 hb7
            have HB7 := put (HBW.out.trans (hb7.mono HBW.out.size))
            clear hb7
            go_wp2_with fail
            go_roundg (m - (i + 1))
            case measure => omega
            case rel => exact ⟨i + 1, by go_num, by omega, Nat.le_refl _, HB7⟩
    · have hlz : ¬ (i : Int) < (m : Int) := by omega
      go_wp2_with fail
      exact HQ.out _ _ (by rfl) KB.out

end Go.Proofs.Ytkfoknjflpklpaa.D
