/- report.Groups: which rows are in which group. -/
import Derived.Test.YtkfoknjflpklpaaPGrp
namespace Go.Proofs.Ytkfoknjflpklpaa.P
open Go Go.RowKit Go.Sort Go.Proofs.Ytkfoknjflpklpaa.Mem Go.Proofs.Ytkfoknjflpklpaa.Cmp Go.Proofs.Ytkfoknjflpklpaa.D

theorem idxOf_map {α β : Type} (f : α → β) (p : β → Bool) : ∀ l : List α, idxOf p (l.map f) = idxOf (fun x => p (f x)) l
  | [] => rfl
  | x :: l => by rw [List.map_cons, idxOf, idxOf, idxOf_map f p l]
theorem idxOf_congr {α : Type} {p q : α → Bool} : ∀ {l : List α}, (∀ x ∈ l, p x = q x) → idxOf p l = idxOf q l
  | [], _ => rfl
  | x :: l, h => by rw [idxOf, idxOf, h x List.mem_cons_self, idxOf_congr (fun y hy => h y (List.mem_cons_of_mem _ hy))]
theorem insG_none {p : Nat → Nat → Bool} {n : Nat} : ∀ {gs : List (List Nat)}, idxOf (fun g => p (g.headD 0) n) gs < 0 → insG p n gs = gs ++ [[n]]
  | [], _ => rfl
  | g :: gs, h => by
    rw [idxOf] at h
    split at h
    · omega
    · rename_i hp
      have h2 : idxOf (fun g => p (g.headD 0) n) gs < 0 := by
        split at h
        · assumption
        · rename_i h3; omega
      rw [insG, if_neg hp, insG_none h2]; rfl
theorem insG_some {p : Nat → Nat → Bool} {n : Nat} : ∀ {gs : List (List Nat)} {j : Nat}, idxOf (fun g => p (g.headD 0) n) gs = (j : Int) → ∃ g, gs[j]? = some g ∧ insG p n gs = gs.set j (g ++ [n])
  | [], j, h => by rw [idxOf] at h; omega
  | g :: gs, j, h => by
    rw [idxOf] at h
    split at h
    · rename_i hp
      obtain rfl : j = 0 := by omega
      exact ⟨g, rfl, by rw [insG, if_pos hp]; rfl⟩
    · rename_i hp
      split at h
      · omega
      · obtain ⟨k, rfl⟩ : ∃ k, j = k + 1 := ⟨j - 1, by omega⟩
        obtain ⟨g', h1, h2⟩ := insG_some (p := p) (n := n) (gs := gs) (j := k) (by omega)
        exact ⟨g', by simpa using h1, by rw [insG, if_neg hp, h2]; rfl⟩
theorem nats_snoc (g : List Nat) (i : Nat) : nats (g ++ [i]) = nats g ++ [(i : Int)] := by unfold nats; rw [List.map_append]; rfl
theorem insG_len {p : Nat → Nat → Bool} (n : Nat) : ∀ gs : List (List Nat), (insG p n gs).length ≤ gs.length + 1
  | [] => Nat.le_refl _
  | g :: gs => by
    unfold insG
    split
    · simp
    · have := insG_len (p := p) n gs; simp; omega
theorem groupsN_len {p : Nat → Nat → Bool} : ∀ n, (groupsN p n).length ≤ n
  | 0 => Nat.le_refl _
  | n + 1 => by rw [groupsN_succ]; have h1 := insG_len (p := p) n (groupsN p n); have h2 := groupsN_len (p := p) n; omega
theorem groupsN_glen {p : Nat → Nat → Bool} {n : Nat} {g : List Nat} (hg : g ∈ groupsN p n) : g.length ≤ n := by
  have h1 := (groupsN_flat (p := p) n).length_eq
  rw [List.length_range] at h1
  have h2 : g.length ≤ (groupsN p n).flatten.length := (List.sublist_flatten_of_mem hg).length_le
  omega

set_option maxHeartbeats 8000000 in
set_option maxRecDepth 100000 in
theorem groupsCalls (ok okc : Nat → Prop) (v vc : Value) (rows : List (List Val)) (cols : List Int) (w : World) (h : Sl tRow ok w v rows) (hc : Sl (tInt .i64) okc w vc cols) (hl : rows.length ≤ 1000) (hcl : cols.length ≤ 1000) (hin : ∀ r ∈ rows, ∀ i ∈ cols, inC r.length i = true) :
    Calls Try.prog 101 #[v, vc] w fun e w' => ∃ vo, e = .returned vo ∧ Sl (tSl (tInt .i64)) (fun k => w.heap.size ≤ k) w' vo ((groupsR rows cols).map nats) ∧ Below w.heap.size w w' := by
  obtain ⟨A, c, rfl, l1, l2, l3⟩ := h.shape
  obtain ⟨A3, c3, rfl, l4, l5, l6⟩ := hc.shape
  obtain ⟨m, hm⟩ : ∃ m, m = rows.length := ⟨_, rfl⟩
  obtain ⟨w1, hw1⟩ : ∃ w1, w1 = (w.alloc (.cells #[.slice A m c] 78)).alloc (.cells #[.slice A3 cols.length c3] 61) := ⟨_, rfl⟩
  have g1 : G w w1 := by rw [hw1]; exact ((G.refl w).alloc _).alloc _
  have y1 : w1.cell? ⟨w.heap.size, 0, none⟩ = some (.slice A m c) := by rw [hw1]; simp
  have y2 : w1.cell? ⟨w.heap.size + 1, 0, none⟩ = some (.slice A3 cols.length c3) := by rw [hw1]; simp
  have hs1 : w1.heap.size = w.heap.size + 2 := by rw [hw1]; simp
  have HS := put (h.below g1.below)
  have HC := put (hc.below g1.below)
  have HIN := put hin
  have HL := put (And.intro hl hcl)
  rw [← hm] at l1 l3 hl ⊢
  have HM := put hm
  have HG1 := put g1
  have Y1 := put y1
  have Y2 := put y2
  have HS1 := put hs1
  have hmf : ∀ (fn : Fn) (first cap : Array Value) (w : World), (Instr.makeFunc fn first cap).run Try.prog w = .ok (.func fn first cap) w := fun _ _ _ _ => rfl
  clear h hc hcl hin hm g1 hs1
  go_enter Try.func101, Try.ntmps101
  go_wp2_with fail
  rw [← hw1]
  clear hw1 y1 y2
  go_loopg [13] m (fun kx s13 wr => ∃ (i : Nat), s13 = .int .i64 i ∧ i ≤ m ∧ m - i ≤ kx ∧ Kp (G w1 wr))
  case atStart => exact ⟨0, rfl, Nat.zero_le _, Nat.le_refl _, put (G.refl _)⟩
  case round =>
    obtain ⟨i, rfl, hi, hkx, KG⟩ := hrel
    by_cases hlt : i < m
    · have hlz : (i : Int) < (m : Int) := by omega
      have i0 : (0 : Int) ≤ (i : Int) := by omega
      have u1 := fun o => G.cellOf (KG.out.alloc o) Y2.out
      obtain ⟨ad, r, A1, c1, rfl, hx, x0, hs⟩ := rows_get (HS.out.below KG.out.below).row.1 i (by rw [← HM.out]; exact hlt)
      have HR : Kp (r ∈ rows) := put (List.mem_of_getElem? hx)
      clear hx hs
      have hkc : ∀ W, G (wr.alloc (.cells #[.slice A1 r.length c1] 30)) W → W.cell? ⟨wr.heap.size, 0, none⟩ = some (.slice A1 r.length c1) := fun W hg => G.cellOf hg (by simp)
      have hcon := containsInts 120 #[.pointer (some ⟨wr.heap.size, 0, none⟩)] (fun args w => by rfl) okc A3 c3 cols (fun i => !inC r.length i) (wr.alloc (.cells #[.slice A1 r.length c1] 30)) (HC.out.row.1.grown (KG.out.alloc _)) (by have := HL.out.2; omega) (fun i W _ hg => groups1Calls _ A1 c1 r i W (hkc W hg))
      rw [show cols.any (fun i => !inC r.length i) = false by rw [List.any_eq_false]; intro i hi; rw [HIN.out r HR.out i hi]; simp] at hcon
      have HCON := put hcon
      clear hcon hkc
      go_wp2_with fail
      refine HCON.out.mono ?_
      rintro e w5 ⟨rfl, hg5⟩
      have HG5 := put ((KG.out.alloc (.cells #[.slice A1 r.length c1] 30)).trans hg5)
      clear hg5
      go_wp2_with fail
      go_roundg (m - (i + 1))
      case measure => omega
      case rel => exact ⟨i + 1, by go_num, by omega, Nat.le_refl _, HG5⟩
    · have hlz : ¬ (i : Int) < (m : Int) := by omega
      obtain rfl : m = i := by omega
      rename World => w2
      have hy1 := G.cellOf KG.out Y1.out
      have hy2 := G.cellOf KG.out Y2.out
      have HY1 := put hy1
      have HY2 := put hy2
      have HS2 := put (HS.out.bnd.below KG.out.below)
      have HC2 := put (HC.out.bnd.below KG.out.below)
      have HS2s := put (KG.out.below.size)
      have HG2 := put (HG1.out.trans KG.out)
      clear hi hkx hlt
      go_wp2_with fail
      clear hy1 hy2
      obtain ⟨N, hN⟩ : ∃ N, N = w2.heap.size := ⟨_, rfl⟩
      have HN := put hN
      clear hN
      go_loopg [7, 23] m (fun kx s7 s23 wr => ∃ (i : Nat) (A8 : Option Addr) (p8 c8 : Nat) (gs : List (List Int × Nat)), s7 = .slice A8 p8 c8 ∧ s23 = .int .i64 i ∧ i ≤ m ∧ m - i ≤ kx ∧ Kp (p8 = gs.length) ∧ Kp (gs.map (·.1) = (groupsN (fun i j => alikeV cols (rows.getD i []) (rows.getD j [])) i).map nats) ∧ Kp ((gs.map (·.2)).Nodup) ∧ Kp (Own (tGrp N) 61 (fun k => N ≤ k) wr N (.slice A8 p8 c8) gs) ∧ Kp (Below N w2 wr))
      case atStart => exact ⟨0, none, 0, 0, [], rfl, rfl, Nat.zero_le _, Nat.le_refl _, put rfl, put rfl, put List.nodup_nil, put (Own.nil _ _ _ _ _), put (Below.refl _ _)⟩
      case round =>
        rename World => wr
        obtain ⟨i, A8, p8, c8, gs, rfl, rfl, hi, hkx, HP8, HGS, HND, KO, KB⟩ := hrel
        by_cases hlt : i < m
        · have hlz : (i : Int) < (m : Int) := by omega
          have i0 : (0 : Int) ≤ (i : Int) := by omega
          have hil : i < rows.length := by rw [← HM.out]; exact hlt
          have hNw2 : w1.heap.size ≤ N := by rw [HN.out]; exact HS2s.out
          have hwN : w.heap.size + 2 ≤ N := by rw [← HS1.out]; exact hNw2
          have hNr : N ≤ wr.heap.size := by rw [HN.out]; exact KB.out.size
          have HSr := put (HS2.out.below' (B := N) KB.out (fun k hk => Nat.lt_of_lt_of_le hk.2 hNw2))
          have HCr := put (HC2.out.below' (B := N) KB.out (fun k hk => Nat.lt_of_lt_of_le hk.2 hNw2))
          obtain ⟨ad, r, A1, c1, rfl, hx, x0, hs⟩ := rows_get HSr.out.row.1 i hil
          have HR : Kp (rows[i]? = some r) := put hx
          have HRS := put hs
          have yB : wr.cell? ⟨w.heap.size, 0, none⟩ = some (.slice (some ad) m c) := (KB.out.cell (p := ⟨w.heap.size, 0, none⟩) (by show w.heap.size < N; omega)).trans HY1.out
          have yB1 : wr.cell? ⟨w.heap.size + 1, 0, none⟩ = some (.slice A3 cols.length c3) := (KB.out.cell (p := ⟨w.heap.size + 1, 0, none⟩) (by show w.heap.size + 1 < N; omega)).trans HY2.out
          have hxs : (gs.map (·.1)).length = p8 := by rw [HP8.out, List.length_map]
          have hsg : Sl (tGrp N) (fun k => N ≤ k) wr (.slice A8 p8 c8) gs := KO.out.sl (fun k hk => (KO.out.lt k hk).1) (fun _ h => h) (by
            have h1 := congrArg List.length HGS.out
            rw [List.length_map, List.length_map] at h1
            have h2 := groupsN_len (p := fun i j => alikeV cols (rows.getD i []) (rows.getD j [])) i
            omega)
          have hrow := grps_row hsg.row.1
          have HPL : Kp (p8 ≤ i) := put (by
            have h1 := congrArg List.length HGS.out
            rw [List.length_map, List.length_map] at h1
            have h2 := groupsN_len (p := fun i j => alikeV cols (rows.getD i []) (rows.getD j [])) i
            rw [HP8.out]; omega)
          obtain ⟨wk, hwk⟩ : ∃ wk, wk = wr.alloc (.cells #[.slice A1 r.length c1] 30) := ⟨_, rfl⟩
          have hgk : G wr wk := by rw [hwk]; exact (G.refl _).alloc _
          have yK : wk.cell? ⟨wr.heap.size, 0, none⟩ = some (.slice A1 r.length c1) := by rw [hwk]; simp
          have hidx := indexRows 122 #[.pointer (some ⟨w.heap.size, 0, none⟩), .pointer (some ⟨wr.heap.size, 0, none⟩), .pointer (some ⟨w.heap.size + 1, 0, none⟩)] (fun args w => by rfl) (fun k => N ≤ k) A8 c8 (gs.map (·.1)) (fun x => alikeV cols (rows.getD (x.headD 0).toNat []) r) wk (hrow.grown hgk) (by rw [hxs]; have := HPL.out; omega) (fun x vx W hmem hg hsx => by
            rw [HGS.out] at hmem
            obtain ⟨g, hgm, rfl⟩ := List.mem_map.1 hmem
            have hgne := groupsN_ne i g hgm
            obtain ⟨q, g', rfl⟩ := List.exists_cons_of_ne_nil hgne
            have hqi : q < i := groupsN_lt hgm List.mem_cons_self
            have hqa : rows[q]? = some rows[q] := List.getElem?_eq_getElem (by omega)
            have e0 : rows.getD ((nats (q :: g')).headD 0).toNat [] = rows[q] := by
              show rows.getD (Int.ofNat q).toNat [] = _
              rw [List.getD_eq_getElem?_getD, show (Int.ofNat q).toNat = q from rfl, hqa]; rfl
            obtain ⟨AG, cg, rfl, _, _, _⟩ := hsx.shape
            rw [e0]
            have hgw := hgk.trans hg
            have hc9 := groups2Calls _ _ _ _ ⟨w.heap.size, 0, none⟩ ⟨wr.heap.size, 0, none⟩ ⟨w.heap.size + 1, 0, none⟩ (some ad) A1 A3 AG c c1 c3 cg rows rows[q] r cols q (nats (q :: g')) W (HSr.out.row.1.grown hgw) hsx.row.1 rfl hqa (HRS.out.row.1.grown hgw) (HCr.out.row.1.grown hgw) (by rw [← HM.out]; exact G.cellOf hgw yB) (G.cellOf hg yK) (G.cellOf hgw yB1) (fun z hz => ⟨HIN.out _ (List.mem_of_getElem? hqa) z hz, HIN.out _ (List.mem_of_getElem? HR.out) z hz⟩) HL.out.2
            exact hc9)
          rw [hxs] at hidx
          have hie : idxOf (fun x => alikeV cols (rows.getD (x.headD 0).toNat []) r) (gs.map (·.1)) = idxOf (fun g => alikeV cols (rows.getD (g.headD 0) []) (rows.getD i [])) (groupsN (fun i j => alikeV cols (rows.getD i []) (rows.getD j [])) i) := by
            rw [HGS.out, idxOf_map]
            refine idxOf_congr (fun g hg => ?_)
            have e1 : ((nats g).headD 0).toNat = g.headD 0 := by cases g <;> rfl
            have e2 : rows.getD i [] = r := by rw [List.getD_eq_getElem?_getD, HR.out]; rfl
            rw [e1, e2]
          rw [hie] at hidx
          have HIDX := put hidx
          have HGK := put hgk
          clear hidx hie hrow hsg hxs yB yB1 yK hx hs hgk hil
          go_wp2_with fail
          rw [← hwk]
          clear hwk x0
          refine HIDX.out.mono ?_
          rintro e w5 ⟨rfl, hg5⟩
          have hb5 : Below wr.heap.size wr w5 := (HGK.out.trans hg5).below
          have HB5 := put hb5
          have HO5 := put (KO.out.below hb5)
          have hN5 : N ≤ w5.heap.size := Nat.le_trans hNr hb5.size
          have HBN : Kp (Below N w2 w5) := put (KB.out.trans (hb5.mono hNr))
          clear hg5 hb5
          obtain ⟨ix, hix⟩ : ∃ ix, ix = idxOf (fun g => alikeV cols (rows.getD (g.headD 0) []) (rows.getD i [])) (groupsN (fun i j => alikeV cols (rows.getD i []) (rows.getD j [])) i) := ⟨_, rfl⟩
          rw [← hix]
          have HIX := put hix
          have hixr : ix < (p8 : Int) := by
            have h1 := (idxOf_range (fun g => alikeV cols (rows.getD (g.headD 0) []) (rows.getD i [])) (groupsN (fun i j => alikeV cols (rows.getD i []) (rows.getD j [])) i)).2
            have h2 := congrArg List.length HGS.out
            rw [List.length_map, List.length_map] at h2
            rw [← hix] at h1
            rw [HP8.out]; omega
          clear hix
          by_cases hneg : ix < 0
          · have HE : Kp (groupsN (fun i j => alikeV cols (rows.getD i []) (rows.getD j [])) (i + 1) = groupsN (fun i j => alikeV cols (rows.getD i []) (rows.getD j [])) i ++ [[i]]) := put (by rw [groupsN_succ]; exact insG_none (by rw [← HIX.out]; exact hneg))
            have HLT : Kp ((tGrp N).R (fun k => N ≤ k ∧ some k ≠ (Value.slice A8 p8 c8).ownBlock) (w5.alloc (.cells #[.int .i64 i] 3)) ([(i : Int)], w5.heap.size) [.slice (some ⟨w5.heap.size, 0, none⟩) 1 1]) := put ⟨_, rfl, ⟨[[.int .i64 i]], rfl, ⟨rfl, .inr ⟨w5.heap.size, 1, #[.int .i64 i], rfl, hN5, heap_alloc_new _ _, Nat.le_refl _, by simp [maxLen], rfl, rfl⟩⟩, fun i x c h1 h2 => by
                cases i with
                | zero => simp only [List.getElem?_cons_zero, Option.some.injEq] at h1 h2; subst h1; subst h2; rfl
                | succ i => simp at h1⟩, rfl, ⟨hN5, fun e => by have := (HO5.out.lt _ e.symm).2; omega⟩, by simp⟩
            have HO6 := put (HO5.out.below ((Below.refl _ w5).alloc (Nat.le_refl _) (.cells #[.int .i64 i] 3)))
            have hNL : ∀ y ∈ gs.map (·.2), y < w5.heap.size := fun y hy => by
              obtain ⟨z, hz, rfl⟩ := List.mem_map.1 hy
              obtain ⟨j, hj, rfl⟩ := List.mem_iff_getElem.1 hz
              obtain ⟨cells, hlc, _, hr⟩ := HO5.out
              obtain ⟨u, _, hov, hbv, _, _⟩ := hr j gs[j] (cells[j]'(by omega)) (List.getElem?_eq_getElem hj) (List.getElem?_eq_getElem (by omega))
              exact (hov.lt _ hbv).2
            have HNL := put hNL
            rw [HP8.out] at HO6 HLT hixr ⊢
            have HPL2 : Kp (gs.length ≤ i) := put (by rw [← HP8.out]; exact HPL.out)
            clear hNL HIX
            go_wp2_with (at_builtin; refine wpList_push (W := w5.alloc (.cells #[.int .i64 i] 3)) (tGrp N) N rfl _ _ 141 61 _ 24 rfl Try.underlying141 (infoGrp N) rfl (Nat.succ_pos 0) (by decide) (.slice A8 gs.length c8) gs ([(i : Int)], w5.heap.size) [.slice (some ⟨w5.heap.size, 0, none⟩) 1 1] (fun k => N ≤ k) rfl (by simp; rfl) HLT.out HO6.out (Nat.le_trans hN5 (by simp)) (by have := HPL2.out; omega) ?_; intro v1 w7 hown hg hat; obtain ⟨A9, c9, e9, _, _⟩ := hown.form; subst e9; have HOWN := put hown; have HB7 : Kp (Below N w2 w7) := put ((HBN.out.trans ((((Below.refl _ w5).alloc (Nat.le_refl _) (.cells #[.int .i64 i] 3))).mono hN5)).grown hg (Nat.le_trans hN5 (by simp)) (fun k hk => (HO6.out.lt k hk).1)); clear hown hg hat)
            go_roundg (m - (i + 1))
            case measure => omega
            case rel => exact ⟨i + 1, A9, _, c9, gs ++ [([(i : Int)], w5.heap.size)], rfl, by go_num, by omega, Nat.le_refl _, put (by simp), put (by rw [HE.out, List.map_append, List.map_append, HGS.out]; rfl), put (by
              rw [List.map_append]
              refine List.nodup_append.2 ⟨HND.out, by simp, fun a ha b hb e => ?_⟩
              simp only [List.map_cons, List.map_nil, List.mem_singleton] at hb
              have := HNL.out a ha
              omega), put (by have h := HOWN.out; rw [List.length_append] at h; exact h), HB7⟩
          · obtain ⟨j, rfl⟩ : ∃ j : Nat, ix = j := ⟨ix.toNat, by omega⟩
            obtain ⟨g, hgj, hins⟩ := insG_some (p := fun i j => alikeV cols (rows.getD i []) (rows.getD j [])) (n := i) (gs := groupsN (fun i j => alikeV cols (rows.getD i []) (rows.getD j [])) i) (j := j) HIX.out.symm
            have HE : Kp (groupsN (fun i j => alikeV cols (rows.getD i []) (rows.getD j [])) (i + 1) = (groupsN (fun i j => alikeV cols (rows.getD i []) (rows.getD j [])) i).set j (g ++ [i])) := put (by rw [groupsN_succ]; exact hins)
            have hjl : j < gs.length := by rw [← HP8.out]; omega
            obtain ⟨b, hb⟩ : ∃ b, gs[j]? = some (nats g, b) := by
              have h1 : (gs.map (·.1))[j]? = some (nats g) := by rw [HGS.out, List.getElem?_map, hgj]; rfl
              rw [List.getElem?_map] at h1
              obtain ⟨y, hy, e⟩ := Option.map_eq_some_iff.1 h1
              exact ⟨y.2, by rw [hy, ← e]⟩
            have HGL : Kp (g.length ≤ i) := put (groupsN_glen (List.mem_of_getElem? hgj))
            have HB := put hb
            obtain ⟨g0, cap, e8, hb0, hlt0⟩ : ∃ g0 cap, Value.slice A8 p8 c8 = .slice (some ⟨g0, 0, none⟩) gs.length cap ∧ N ≤ g0 ∧ g0 < w5.heap.size := by
              rcases HO5.out.shape with ⟨e, e2⟩ | ⟨g0, cap, e, h1, h2, _⟩
              · subst e2; simp at hjl
              · exact ⟨g0, cap, e, h1, h2⟩
            injection e8 with ea eb ec
            subst ea; subst eb; subst ec
            obtain ⟨cur, hcur⟩ : ∃ cur, w5.heap[g0]? = some (.cells cur 61 (0, 0)) := by
              obtain ⟨cells, _, ho, _⟩ := HO5.out
              rcases ho.2 with ⟨e, _⟩ | ⟨g', cap', cur, e, _, hh, _⟩
              · cases e
              · injection e with e _ _
                injection e with e
                injection e with e
                subst e
                exact ⟨cur, hh⟩
            have hsg : Sl (tGrp N) (fun k => N ≤ k) w5 (.slice (some ⟨g0, 0, none⟩) gs.length c8) gs := HO5.out.sl (fun k hk => (HO5.out.lt k hk).1) (fun _ h => h) (by have := HPL.out; omega)
            obtain ⟨ad2, cs, e2, _, _, hr9, ha9⟩ := hsg.row.1.get j hjl
            injection e2 with e2
            subst e2
            have hgj2 : gs[j] = (nats g, b) := by rw [List.getElem?_eq_getElem hjl] at hb; exact Option.some.inj hb
            rw [hgj2] at hr9
            obtain ⟨vj, rfl, hoj, hbj, hbN, _⟩ := hr9
            have z0 : w5.cell? ⟨g0, j, none⟩ = some vj := by
              have := At.c0 ha9 rfl
              rw [add_plain] at this
              rwa [show j * (tGrp N).sz = j by show j * 1 = j; omega] at this
            have HOJ := put hoj
            have HBJ := put hbj
            obtain ⟨Aj, cj, rfl, _, _⟩ := hoj.form
            have hbg : b ≠ g0 := by
              obtain ⟨cells, hlc, _, hr⟩ := HO5.out
              obtain ⟨u, _, _, _, hk, _⟩ := hr j _ (cells[j]'(by omega)) hb (List.getElem?_eq_getElem (by omega))
              exact fun e => hk.2 (by rw [show ((nats g, b) : List Int × Nat).2 = b from rfl, e]; rfl)
            have HCUR := put hcur
            have HLT0 := put hlt0
            have hj0 : (0 : Int) ≤ (j : Int) := by omega
            have hjz : (j : Int) < (gs.length : Int) := by omega
            have hlng : (nats g).length = g.length := by unfold nats; rw [List.length_map]
            rw [hlng] at z0 HBJ HOJ
            have z0' : ∀ o, (w5.alloc o).cell? ⟨g0, j, none⟩ = some (.slice Aj g.length cj) := fun o => (World.cell?_alloc_some _ _ _ (by rw [z0]; rfl)).trans z0
            clear hins hgj hb hoj hbj ha9 hgj2 hsg hcur HIX hlt0 hbN
            go_wp2_with (at_builtin; refine wpList_push (W := w5) (tInt .i64) N rfl _ _ 61 3 _ 8 rfl Try.underlying61 infoInt rfl (Nat.succ_pos 0) (by decide) (.slice Aj g.length cj) (nats g) (i : Int) [.int .i64 i] (fun _ => False) rfl rfl rfl HOJ.out hN5 (by rw [hlng]; have := HGL.out; omega) ?_; intro v1 w7 hown hg hat; obtain ⟨A9, c9, e9, _, _⟩ := hown.form; subst e9; have HOWN := put hown; have HG7 := put hg; have HAT := put hat; have f7 : w7.heap[g0]? = some (.cells cur 61 (0, 0)) := (hg.block g0 HLT0.out (fun e => hbg (by rw [HBJ.out] at e; exact (Option.some.inj e).symm))).trans HCUR.out; have z7 : w7.cell? ⟨g0, j, none⟩ = some (.slice Aj g.length cj) := (World.cell?_of_block (a := ⟨g0, j, none⟩) (f7.trans HCUR.out.symm)).trans z0; have fr7 : w7.frozen? ⟨g0, j, none⟩ = false := (by simp [World.frozen?, f7]); clear hown hg hat f7)
            obtain ⟨b', hb1, hb'⟩ : ∃ b', (Value.slice A9 (nats g ++ [(i : Int)]).length c9).ownBlock = some b' ∧ (b' = b ∨ w5.heap.size ≤ b') := by
              rcases HAT.out with h | ⟨b', h, h2⟩
              · exact ⟨b, h.trans HBJ.out, .inl rfl⟩
              · exact ⟨b', h, .inr h2⟩
            have hst := grp_step HO5.out HB.out HND.out (fun k hk hne => HG7.out.block k hk (fun e => hne (by rw [HBJ.out] at e; exact Option.some.inj e))) HOWN.out hb1 hb' (by rw [List.length_append, hlng]; have := HGL.out; simp; omega)
            rw [show (nats g ++ [(i : Int)]).length = g.length + 1 by rw [List.length_append, hlng]; rfl] at hst
            go_roundg (m - (i + 1))
            case measure => omega
            case rel => exact ⟨i + 1, _, gs.length, _, gs.set j (nats g ++ [(i : Int)], b'), rfl, by go_num, by omega, Nat.le_refl _, put (by rw [List.length_set]), put (by rw [HE.out, List.map_set, List.map_set, HGS.out, nats_snoc]), put hst.2, put hst.1, put ((HBN.out.grown HG7.out hN5 (fun k hk => by rw [HBJ.out] at hk; obtain rfl := Option.some.inj hk; exact (HOJ.out.lt _ HBJ.out).1)).setCell hb0 _)⟩
        · have hlz : ¬ (i : Int) < (m : Int) := by omega
          obtain rfl : m = i := by omega
          have hgl : gs.length ≤ m := by
            have h1 := congrArg List.length HGS.out
            rw [List.length_map, List.length_map] at h1
            have h2 := groupsN_len (p := fun i j => alikeV cols (rows.getD i []) (rows.getD j [])) m
            omega
          have hsg : Sl (tGrp N) (fun k => N ≤ k) wr (.slice A8 p8 c8) gs := KO.out.sl (fun k hk => (KO.out.lt k hk).1) (fun _ h => h) (by omega)
          have hrow := grps_row hsg.row.1
          obtain ⟨_, q1, q2, q3, q4, q5⟩ := hsg.row
          have hwN : w.heap.size ≤ N := by rw [HN.out]; exact HG2.out.below.size
          have HSL : Kp (Sl (tSl (tInt .i64)) (fun k => w.heap.size ≤ k) wr (.slice A8 p8 c8) ((groupsR rows cols).map nats)) := put (by
            have e : (groupsR rows cols).map nats = gs.map (·.1) := by unfold groupsR; rw [← HM.out]; exact HGS.out.symm
            rw [e]
            exact ⟨A8, c8, by rw [List.length_map, ← q1], by rw [List.length_map, ← q1]; exact q2, q3, by rw [List.length_map, ← q1]; exact q4, q5, hrow.mono (fun k hk => Nat.le_trans hwN hk)⟩)
          have HBF : Kp (Below w.heap.size w wr) := put (HG2.out.below.trans (KB.out.mono hwN))
          clear hsg hrow q1 q2 q3 q4 q5
          go_wp2_with fail
          go_ret
          exact ⟨_, rfl, HSL.out, HBF.out⟩
end Go.Proofs.Ytkfoknjflpklpaa.P
