/- Spec.check: it gives up where rows, or a spec over them, may not be. -/
import Derived.Test.YtkfoknjflpklpaaPSpec
namespace Go.Proofs.Ytkfoknjflpklpaa.P
open Go Go.RowKit Go.Sort Go.Proofs.Ytkfoknjflpklpaa.Mem Go.Proofs.Ytkfoknjflpklpaa.Cmp Go.Proofs.Ytkfoknjflpklpaa.D

theorem any_not_right : ∀ r : List Val, r.all right = !r.any (fun x => !right x)
  | [] => rfl
  | x :: r => by rw [List.all_cons, List.any_cons, any_not_right r]; cases right x <;> simp
theorem fine_false_kind {rows : List (List Val)} {s : Spc} {x : Smm} (hx : x ∈ s.sums) (h : (decide (1 ≤ x.kind) && decide (x.kind ≤ 5)) = false) : fine rows s = false := by
  have : s.sums.all (fun x => decide (1 ≤ x.kind) && decide (x.kind ≤ 5)) = false := by
    rw [List.all_eq_false]; exact ⟨x, hx, by rw [h]; simp⟩
  unfold fine; rw [this]; rfl
theorem fine_nil {s : Spc} (h : ∀ y ∈ s.sums, (decide (1 ≤ y.kind) && decide (y.kind ≤ 5)) = true) : fine [] s = true := by
  unfold fine; rw [List.all_eq_true.2 h]; rfl
theorem fine_cons {rows : List (List Val)} {r0 : List Val} {rs : List (List Val)} {s : Spc} (e : rows = r0 :: rs) : fine rows s = (s.sums.all (fun x => decide (1 ≤ x.kind) && decide (x.kind ≤ 5)) && (rows.all (fun q => decide (q.length = r0.length) && q.all right) && (s.cols.all (inC r0.length) && (s.sums.all (fun x => decide (x.kind = 1) || inC r0.length x.col) && s.order.all (fun k => inC (s.width r0.length) k.col))))) := by
  subst e; rfl
theorem fine_false_row {rows : List (List Val)} {r0 : List Val} {rs : List (List Val)} {s : Spc} (e : rows = r0 :: rs) {x : List Val} (hx : x ∈ rows) (h : (decide (x.length = r0.length) && x.all right) = false) : fine rows s = false := by
  have : rows.all (fun q => decide (q.length = r0.length) && q.all right) = false := by
    rw [List.all_eq_false]; exact ⟨x, hx, by rw [h]; simp⟩
  rw [fine_cons e, this]; simp
theorem fine_false_col {rows : List (List Val)} {r0 : List Val} {rs : List (List Val)} {s : Spc} (e : rows = r0 :: rs) {x : Int} (hx : x ∈ s.cols) (h : inC r0.length x = false) : fine rows s = false := by
  have : s.cols.all (inC r0.length) = false := by
    rw [List.all_eq_false]; exact ⟨x, hx, by rw [h]; simp⟩
  rw [fine_cons e, this]; simp
theorem fine_false_sum {rows : List (List Val)} {r0 : List Val} {rs : List (List Val)} {s : Spc} (e : rows = r0 :: rs) {x : Smm} (hx : x ∈ s.sums) (hk : ¬ x.kind = 1) (h : inC r0.length x.col = false) : fine rows s = false := by
  have : s.sums.all (fun x => decide (x.kind = 1) || inC r0.length x.col) = false := by
    rw [List.all_eq_false]; exact ⟨x, hx, by rw [h]; simp [hk]⟩
  rw [fine_cons e, this]; simp
theorem fine_false_order {rows : List (List Val)} {r0 : List Val} {rs : List (List Val)} {s : Spc} (e : rows = r0 :: rs) {x : Key} (hx : x ∈ s.order) (h : inC (s.width r0.length) x.col = false) : fine rows s = false := by
  have : s.order.all (fun k => inC (s.width r0.length) k.col) = false := by
    rw [List.all_eq_false]; exact ⟨x, hx, by rw [h]; simp⟩
  rw [fine_cons e, this]; simp
theorem fine_true {rows : List (List Val)} {r0 : List Val} {rs : List (List Val)} {s : Spc} (e : rows = r0 :: rs) (h1 : ∀ y ∈ s.sums, (decide (1 ≤ y.kind) && decide (y.kind ≤ 5)) = true) (h2 : ∀ y ∈ rows, (decide (y.length = r0.length) && y.all right) = true) (h3 : ∀ y ∈ s.cols, inC r0.length y = true)
    (h4 : ∀ y ∈ s.sums, (decide (y.kind = 1) || inC r0.length y.col) = true) (h5 : ∀ y ∈ s.order, inC (s.width r0.length) y.col = true) : fine rows s = true := by
  rw [fine_cons e, List.all_eq_true.2 h1, List.all_eq_true.2 h2, List.all_eq_true.2 h3, List.all_eq_true.2 h4, List.all_eq_true.2 h5]; rfl

set_option maxHeartbeats 8000000 in
set_option maxRecDepth 100000 in
theorem check1Calls (x : Val) (w : World) : Calls Try.prog 97 #[.agg #[.int .i64 x.kind, .int .i64 x.n, .string x.s]] w fun e w' => e = .returned (.bool (!right x)) ∧ G w w' := by
  go_enter Try.func97, Try.ntmps97
  go_wp2_with fail
  refine (rightCalls x _).mono ?_
  rintro e w5 ⟨rfl, hg⟩
  have HG : Kp (G w w5) := put (((G.refl w).alloc _).trans hg)
  clear hg
  go_wp2_with fail
  go_ret
  exact ⟨rfl, HG.out⟩

/-- How it ends. -/
def checkE (b : Bool) : Ending := if b = true then .returned (.tuple #[]) else stopE 15

set_option maxHeartbeats 8000000 in
set_option maxRecDepth 100000 in
theorem checkS (ok okr : Nat → Prop) (v0 v1 v2 v : Value) (rows : List (List Val)) (s : Spc) (w : World) (hs : SpR okr w s v0 v1 v2) (h : Sl tRow ok w v rows) (hl : rows.length ≤ 1000) (hb : ∀ r ∈ rows, r.length ≤ 1000) :
    Calls Try.prog 69 #[.agg #[v0, v1, v2, .int .i64 s.limit], v] w fun e w' => e = checkE (fine rows s) ∧ G w w' := by
  obtain ⟨A0, c0, rfl, p0, _, _⟩ := hs.cols.shape
  obtain ⟨A1, c1, rfl, p1, _, _⟩ := hs.sums.shape
  obtain ⟨A2, c2, rfl, p2, _, _⟩ := hs.order.shape
  obtain ⟨A, c, rfl, p3, _, _⟩ := h.shape
  have HSP := put hs
  have HS := put h
  have HL := put (And.intro hl hb)
  obtain ⟨n1, hn1⟩ : ∃ n, n = s.sums.length := ⟨_, rfl⟩
  obtain ⟨n3, hn3⟩ : ∃ n, n = s.cols.length := ⟨_, rfl⟩
  obtain ⟨n5, hn5⟩ : ∃ n, n = s.order.length := ⟨_, rfl⟩
  obtain ⟨m, hm⟩ : ∃ n, n = rows.length := ⟨_, rfl⟩
  obtain ⟨n4, hn4⟩ : ∃ n, n = n1 := ⟨_, rfl⟩
  have q1 : n1 ≤ 1000 := by rw [hn1]; exact hs.l1
  have q3 : n3 ≤ 1000 := by rw [hn3]; exact hs.l0
  have q5 : n5 ≤ 1000 := by rw [hn5]; exact hs.l2
  have q4 : m ≤ 1000 := by rw [hm]; exact hl
  have HN18 := put hn1
  have HN59 := put hn3
  have HN85 := put hn5
  have HN41 := put hm
  have HN70 : Kp (n4 = s.sums.length) := put (hn4.trans hn1)
  have WS : Kp (∀ (n : Nat) (W : World), Calls Try.prog 100 #[.agg #[.slice A0 n3 c0, .slice A1 n1 c1, .slice A2 n5 c2, .int .i64 s.limit], .int .i64 n] W fun e w' => e = .returned (.int .i64 (s.width n)) ∧ G W w') := put (fun n W => by rw [HN59.out, HN18.out]; exact widthS A0 A1 c0 c1 _ _ s n W hs.l0 hs.l1)
  rw [← hn1, ← hn3, ← hn5, ← hm]
  rw [← hn1] at p1
  rw [← hn3] at p0
  rw [← hn5] at p2
  rw [← hm] at p3
  clear hs h hl hb hn1 hn3 hn5 hm
  go_enter Try.func69, Try.ntmps69
  go_wp2_with fail
  obtain ⟨w1, hw1⟩ : ∃ w1, w1 = w.alloc (.cells #[.slice A0 n3 c0, .slice A1 n1 c1, .slice A2 n5 c2, .int .i64 s.limit] 82) := ⟨_, rfl⟩
  have hb1 : w1.heap[w.heap.size]? = some (.cells #[.slice A0 n3 c0, .slice A1 n1 c1, .slice A2 n5 c2, .int .i64 s.limit] 82 (0, 0)) := by rw [hw1]; exact heap_alloc_new _ _
  have hg1 : G w w1 := by rw [hw1]; exact (G.refl w).alloc _
  rw [← hw1]
  have HB0 := put hb1
  have HG1 := put hg1
  have HSP := put (HSP.out.below hg1.below)
  have HS := put (HS.out.below hg1.below)
  clear hw1 hb1 hg1
  obtain ⟨B, hB⟩ : ∃ B, B = w.heap.size := ⟨_, rfl⟩
  rw [← hB] at HB0 ⊢
  clear hB
  go_loopg [18] n1 (fun kx s18 wr => ∃ (i : Nat), s18 = .int .i64 i ∧ i ≤ n1 ∧ n1 - i ≤ kx ∧ Kp (∀ y ∈ (s.sums).take i, (decide (1 ≤ y.kind) && decide (y.kind ≤ 5)) = true) ∧ Kp (G w1 wr))
  case atStart => exact ⟨0, rfl, Nat.zero_le _, Nat.le_refl _, put (fun y hy => by simp at hy), put (G.refl _)⟩
  case round =>
    rename World => wr
    obtain ⟨i, rfl, hi, hkx, HP, KG⟩ := hrel
    by_cases hlt : i < n1
    · have hlz : (i : Int) < (n1 : Int) := by omega
      have i0 : (0 : Int) ≤ (i : Int) := by omega
      obtain ⟨ad, x, rfl, hx, x0, x1⟩ := sums_get ((HSP.out.sums.below KG.out.below).row.1) i (by rw [← HN18.out]; exact hlt)
      have KX := put hx
      clear hx
      by_cases hk1 : x.kind ≥ 1
      · by_cases hk5 : x.kind ≤ 5
        · have HIN : Kp ((decide (1 ≤ x.kind) && decide (x.kind ≤ 5)) = true) := put (by simp; omega)
          have dk1 : decide (1 ≤ x.kind) = true := by simp; omega
          have dk5 : decide (x.kind ≤ 5) = true := by simp; omega
          go_wp2_with fail
          refine (mustTrue _ _).mono ?_
          rintro e w6 ⟨rfl, rfl⟩
          have HG6 := put (KG.out.alloc (.cells #[.int .i64 x.kind, .int .i64 x.col] 102))
          go_wp2_with fail
          go_roundg (n1 - (i + 1))
          case measure => omega
          case rel => exact ⟨i + 1, by go_num, by omega, Nat.le_refl _, put (fun y hy => by
            rw [take_one KX.out] at hy
            rcases List.mem_append.1 hy with hy | hy
            · exact HP.out y hy
            · rw [List.mem_singleton.1 hy]; exact HIN.out), HG6⟩
        · have E : Kp (fine rows s = false) := put (fine_false_kind (List.mem_of_getElem? KX.out) (by simp; omega))
          have dk1 : decide (1 ≤ x.kind) = true := by simp; omega
          have dk5 : decide (x.kind ≤ 5) = false := by simp; omega
          go_wp2_with fail
          refine (mustFalse _ _ (by decide)).mono ?_
          rintro e w6 ⟨rfl, rfl⟩
          exact ⟨rfl, by rw [E.out]; rfl, HG1.out.trans (KG.out.alloc _)⟩
      · have E : Kp (fine rows s = false) := put (fine_false_kind (List.mem_of_getElem? KX.out) (by simp; omega))
        have dk1 : decide (1 ≤ x.kind) = false := by simp; omega
        go_wp2_with fail
        refine (mustFalse _ _ (by decide)).mono ?_
        rintro e w6 ⟨rfl, rfl⟩
        exact ⟨rfl, by rw [E.out]; rfl, HG1.out.trans (KG.out.alloc _)⟩
    · have hlz : ¬ (i : Int) < (n1 : Int) := by omega
      obtain rfl : n1 = i := by omega
      have HA18 : Kp (∀ y ∈ s.sums, (decide (1 ≤ y.kind) && decide (y.kind ≤ 5)) = true) := put (fun y hy => HP.out y (by rw [List.take_of_length_le (by rw [HN18.out]; exact Nat.le_refl _)]; exact hy))
      clear hi hkx hlt HP
      by_cases hne : rows = []
      · obtain rfl : m = 0 := by rw [HN41.out, hne]; rfl
        have E : Kp (fine rows s = true) := put (by rw [hne]; exact fine_nil HA18.out)
        clear hne
        go_wp2_with fail
        exact bodyPost_ret (results_none rfl _ _ _) rfl ⟨by rw [E.out]; rfl, HG1.out.trans KG.out⟩
      · obtain ⟨r0, rs, hrows⟩ := List.exists_cons_of_ne_nil hne
        have hmz : m ≠ 0 := by rw [HN41.out, hrows]; simp
        have hm0 : ((m : Int) == 0) = false := by simp; omega
        have hmp : (0 : Int) < (m : Int) := by omega
        clear hne
        have HR0 := put hrows
        obtain ⟨ad, r, A9, c9, hAd, hx, x0, hs⟩ := rows_get ((HS.out.below KG.out.below).row.1) 0 (by rw [← HN41.out]; omega)
        obtain rfl := hAd
        obtain rfl : r0 = r := by rw [hrows] at hx; simpa using hx
        rw [add_zero] at x0
        clear hrows hs hx hmz
        have HGX := put KG.out
        go_wp2_with fail
        go_loopg [41] m (fun kx s41 wr => ∃ (i : Nat), s41 = .int .i64 i ∧ i ≤ m ∧ m - i ≤ kx ∧ Kp (∀ y ∈ (rows).take i, (decide (y.length = r0.length) && y.all right) = true) ∧ Kp (G w1 wr))
        case atStart => exact ⟨0, rfl, Nat.zero_le _, Nat.le_refl _, put (fun y hy => by simp at hy), HGX⟩
        case round =>
          rename World => wr
          obtain ⟨i, rfl, hi, hkx, HP, KG⟩ := hrel
          by_cases hlt : i < m
          · have hlz : (i : Int) < (m : Int) := by omega
            have i0 : (0 : Int) ≤ (i : Int) := by omega
            obtain ⟨ad2, r, A9, c9, e2, hx, x0, hs⟩ := rows_get ((HS.out.below KG.out.below).row.1) i (by rw [← HN41.out]; exact hlt)
            obtain rfl : ad = ad2 := by injection e2
            have KX := put hx
            have HRS := put hs
            have HRL : Kp (r.length ≤ 1000) := put (HL.out.2 r (List.mem_of_getElem? hx))
            clear hx hs
            by_cases hle : r.length = r0.length
            · have hle2 : ((r.length : Int) == (r0.length : Int)) = true := by simp [hle]
              have HLE := put hle
              clear hle
              have hc := containsVals 97 #[] (fun args w => by rfl) ok A9 c9 r (fun x => !right x) wr HRS.out.row.1 (by have := HRL.out; omega) (fun x W _ _ => check1Calls x W)
              have HC := put hc
              clear hc
              cases hp : r.any (fun x => !right x) with
              | true =>
                have E : Kp (fine rows s = false) := put (fine_false_row HR0.out (List.mem_of_getElem? KX.out) (by rw [any_not_right, hp]; simp))
                rw [hp] at HC
                clear hp
                go_wp2_with (go_at_call 96; refine HC.out.mono ?_; rintro e w5 ⟨rfl, hg5⟩; have HG5 := put hg5; clear hg5)
                refine (mustFalse _ _ (by decide)).mono ?_
                rintro e w6 ⟨rfl, rfl⟩
                exact ⟨rfl, by rw [E.out]; rfl, HG1.out.trans (KG.out.trans HG5.out)⟩
              | false =>
                have HIN : Kp ((decide (r.length = r0.length) && r.all right) = true) := put (by rw [decide_eq_true HLE.out, any_not_right, hp]; rfl)
                rw [hp] at HC
                clear hp
                go_wp2_with (go_at_call 96; refine HC.out.mono ?_; rintro e w5 ⟨rfl, hg5⟩; have HG5 := put hg5; clear hg5)
                refine (mustTrue _ _).mono ?_
                rintro e w6 ⟨rfl, rfl⟩
                have HG6 := put (KG.out.trans HG5.out)
                go_wp2_with fail
                go_roundg (m - (i + 1))
                case measure => omega
                case rel => exact ⟨i + 1, by go_num, by omega, Nat.le_refl _, put (fun y hy => by
                  rw [take_one KX.out] at hy
                  rcases List.mem_append.1 hy with hy | hy
                  · exact HP.out y hy
                  · rw [List.mem_singleton.1 hy]; exact HIN.out), HG6⟩
            · have hle2 : ((r.length : Int) == (r0.length : Int)) = false := by simp; omega
              have E : Kp (fine rows s = false) := put (fine_false_row HR0.out (List.mem_of_getElem? KX.out) (by rw [decide_eq_false hle]; rfl))
              clear hle
              go_wp2_with fail
              refine (mustFalse _ _ (by decide)).mono ?_
              rintro e w6 ⟨rfl, rfl⟩
              exact ⟨rfl, by rw [E.out]; rfl, HG1.out.trans (KG.out)⟩
          · have hlz : ¬ (i : Int) < (m : Int) := by omega
            obtain rfl : m = i := by omega
            have HA41 : Kp (∀ y ∈ rows, (decide (y.length = r0.length) && y.all right) = true) := put (fun y hy => HP.out y (by rw [List.take_of_length_le (by rw [HN41.out]; exact Nat.le_refl _)]; exact hy))
            clear hi hkx hlt HP
            have hb := G.heap KG.out HB0.out
            obtain ⟨d0, d1, d2, d3⟩ := s_cells hb
            have HGX := put KG.out
            clear hb
            go_wp2_with fail
            go_loopg [59] n3 (fun kx s59 wr => ∃ (i : Nat), s59 = .int .i64 i ∧ i ≤ n3 ∧ n3 - i ≤ kx ∧ Kp (∀ y ∈ (s.cols).take i, inC r0.length y = true) ∧ Kp (G w1 wr))
            case atStart => exact ⟨0, rfl, Nat.zero_le _, Nat.le_refl _, put (fun y hy => by simp at hy), HGX⟩
            case round =>
              rename World => wr
              obtain ⟨i, rfl, hi, hkx, HP, KG⟩ := hrel
              by_cases hlt : i < n3
              · have hlz : (i : Int) < (n3 : Int) := by omega
                have i0 : (0 : Int) ≤ (i : Int) := by omega
                obtain ⟨ad, x, rfl, hx, x0⟩ := ints_get ((HSP.out.cols.below KG.out.below).row.1) i (by rw [← HN59.out]; exact hlt)
                have KX := put hx
                clear hx
                cases hin : inC r0.length x with
                | true =>
                  have HIN := put hin
                  clear hin
                  go_wp2_with (go_at_call 99; refine (inTrue _ _ _ HIN.out).mono ?_; rintro e w6 ⟨rfl, rfl⟩)
                  go_roundg (n3 - (i + 1))
                  case measure => omega
                  case rel => exact ⟨i + 1, by go_num, by omega, Nat.le_refl _, put (fun y hy => by
                    rw [take_one KX.out] at hy
                    rcases List.mem_append.1 hy with hy | hy
                    · exact HP.out y hy
                    · rw [List.mem_singleton.1 hy]; exact HIN.out), KG⟩
                | false =>
                  have E : Kp (fine rows s = false) := put (fine_false_col HR0.out (List.mem_of_getElem? KX.out) hin)
                  have HIN := put hin
                  clear hin
                  go_wp2_with fail
                  refine (inFalse _ _ _ HIN.out).mono ?_
                  rintro e w6 ⟨rfl, rfl⟩
                  exact ⟨rfl, by rw [E.out]; rfl, HG1.out.trans (KG.out)⟩
              · have hlz : ¬ (i : Int) < (n3 : Int) := by omega
                obtain rfl : n3 = i := by omega
                have HA59 : Kp (∀ y ∈ s.cols, inC r0.length y = true) := put (fun y hy => HP.out y (by rw [List.take_of_length_le (by rw [HN59.out]; exact Nat.le_refl _)]; exact hy))
                clear hi hkx hlt HP
                have hb := G.heap KG.out HB0.out
                obtain ⟨d0, d1, d2, d3⟩ := s_cells hb
                have HGX := put KG.out
                clear hb
                go_wp2_with fail
                go_loopg [70] n4 (fun kx s70 wr => ∃ (i : Nat), s70 = .int .i64 i ∧ i ≤ n4 ∧ n4 - i ≤ kx ∧ Kp (∀ y ∈ (s.sums).take i, (decide (y.kind = 1) || inC r0.length y.col) = true) ∧ Kp (G w1 wr))
                case atStart => exact ⟨0, rfl, Nat.zero_le _, Nat.le_refl _, put (fun y hy => by simp at hy), HGX⟩
                case round =>
                  rename World => wr
                  obtain ⟨i, rfl, hi, hkx, HP, KG⟩ := hrel
                  by_cases hlt : i < n4
                  · have hlz : (i : Int) < (n4 : Int) := by omega
                    have i0 : (0 : Int) ≤ (i : Int) := by omega
                    obtain ⟨ad, x, rfl, hx, x0, x1⟩ := sums_get ((HSP.out.sums.below KG.out.below).row.1) i (by rw [← HN70.out]; exact hlt)
                    have KX := put hx
                    clear hx
                    by_cases hk1 : x.kind = 1
                    · have kz : (x.kind != 1) = false := by simp [hk1]
                      have HIN : Kp ((decide (x.kind = 1) || inC r0.length x.col) = true) := put (by simp [hk1])
                      clear hk1
                      go_wp2_with fail
                      go_roundg (n4 - (i + 1))
                      case measure => omega
                      case rel => exact ⟨i + 1, by go_num, by omega, Nat.le_refl _, put (fun y hy => by
                        rw [take_one KX.out] at hy
                        rcases List.mem_append.1 hy with hy | hy
                        · exact HP.out y hy
                        · rw [List.mem_singleton.1 hy]; exact HIN.out), put (KG.out.alloc _)⟩
                    · have kz : (x.kind != 1) = true := by simp [hk1]
                      cases hin : inC r0.length x.col with
                      | true =>
                        have HIN : Kp ((decide (x.kind = 1) || inC r0.length x.col) = true) := put (by rw [hin]; simp)
                        have HIC := put hin
                        clear hin hk1
                        go_wp2_with (go_at_call 99; refine (inTrue _ _ _ HIC.out).mono ?_; rintro e w6 ⟨rfl, rfl⟩)
                        go_roundg (n4 - (i + 1))
                        case measure => omega
                        case rel => exact ⟨i + 1, by go_num, by omega, Nat.le_refl _, put (fun y hy => by
                          rw [take_one KX.out] at hy
                          rcases List.mem_append.1 hy with hy | hy
                          · exact HP.out y hy
                          · rw [List.mem_singleton.1 hy]; exact HIN.out), put (KG.out.alloc _)⟩
                      | false =>
                        have E : Kp (fine rows s = false) := put (fine_false_sum HR0.out (List.mem_of_getElem? KX.out) hk1 hin)
                        have HIC := put hin
                        clear hin hk1
                        go_wp2_with fail
                        refine (inFalse _ _ _ HIC.out).mono ?_
                        rintro e w6 ⟨rfl, rfl⟩
                        exact ⟨rfl, by rw [E.out]; rfl, HG1.out.trans (KG.out.alloc _)⟩
                  · have hlz : ¬ (i : Int) < (n4 : Int) := by omega
                    obtain rfl : n4 = i := by omega
                    have HA70 : Kp (∀ y ∈ s.sums, (decide (y.kind = 1) || inC r0.length y.col) = true) := put (fun y hy => HP.out y (by rw [List.take_of_length_le (by rw [HN70.out]; exact Nat.le_refl _)]; exact hy))
                    clear hi hkx hlt HP
                    have hb := G.heap KG.out HB0.out
                    obtain ⟨d0, d1, d2, d3⟩ := s_cells hb
                    have HGX := put KG.out
                    clear hb
                    go_wp2_with fail
                    go_loopg [85] n5 (fun kx s85 wr => ∃ (i : Nat), s85 = .int .i64 i ∧ i ≤ n5 ∧ n5 - i ≤ kx ∧ Kp (∀ y ∈ (s.order).take i, inC (s.width r0.length) y.col = true) ∧ Kp (G w1 wr))
                    case atStart => exact ⟨0, rfl, Nat.zero_le _, Nat.le_refl _, put (fun y hy => by simp at hy), HGX⟩
                    case round =>
                      rename World => wr
                      obtain ⟨i, rfl, hi, hkx, HP, KG⟩ := hrel
                      by_cases hlt : i < n5
                      · have hlz : (i : Int) < (n5 : Int) := by omega
                        have i0 : (0 : Int) ≤ (i : Int) := by omega
                        obtain ⟨ad, x, rfl, hx, x0, x1⟩ := keys_get ((HSP.out.order.below KG.out.below).row.1) i (by rw [← HN85.out]; exact hlt)
                        have KX := put hx
                        clear hx
                        go_wp2_with fail
                        obtain ⟨wk, hwk⟩ : ∃ wk, wk = wr.alloc (.cells #[.int .i64 x.col, .bool x.down] 105) := ⟨_, rfl⟩
                        have hK : wk.heap[wr.heap.size]? = some (.cells #[.int .i64 x.col, .bool x.down] 105 (0, 0)) := by rw [hwk]; exact heap_alloc_new _ _
                        have hgk : G w1 wk := by rw [hwk]; exact KG.out.alloc _
                        rw [← hwk]
                        have HK := put hK
                        have HGK := put hgk
                        clear hwk hK hgk
                        obtain ⟨K, hKe⟩ : ∃ K, K = wr.heap.size := ⟨_, rfl⟩
                        rw [← hKe] at HK ⊢
                        clear hKe
                        have HBK := put (G.heap HGK.out HB0.out)
                        clear x0 x1
                        cases hin : inC (s.width r0.length) x.col with
                        | true =>
                          have HIN := put hin
                          clear hin
                          refine wp_region_noPanic ?_
                          refine wp_region_held_drew (S := (fun w' => G wk w')) (by kernel_rfl) (G.refl _).drew (fun hHeld => ?_)
                          refine wpAnyH_take (i := 0) (v := ?_) rfl (by kernel_rfl) (by kernel_rfl) (by kernel_rfl) (fun _ _ _ h => h) (Or.inl ⟨by kernel_rfl, ?_⟩) (by assumption) ?_
                          rotate_left
                          · intro w hSw; (try dsimp only at hSw); go_simp; try with_reducible rfl
                          try simp only [List.getElem_toArray, List.getElem_cons_zero, Act.put, List.setIfInBounds_toArray, List.set_cons_zero, List.set_cons_succ]
                          refine wpAnyH_take (i := 1) (v := ?_) rfl (by kernel_rfl) (by kernel_rfl) (by kernel_rfl) (fun _ _ _ h => h) (Or.inl ⟨by kernel_rfl, ?_⟩) (by assumption) ?_
                          rotate_left
                          · intro w hSw; (try dsimp only at hSw); have hk9 := G.heap hSw HK.out; have hb9 := G.heap hSw HBK.out; obtain ⟨k0, k1⟩ := k_cells hk9; obtain ⟨d0, d1, d2, d3⟩ := s_cells hb9; go_simp; try with_reducible rfl
                          try simp only [List.getElem_toArray, List.getElem_cons_succ, List.getElem_cons_zero, Act.put, List.setIfInBounds_toArray, List.set_cons_zero, List.set_cons_succ]
                          refine wpAnyH_take (i := 2) (v := ?_) rfl (by kernel_rfl) (by kernel_rfl) (by kernel_rfl) (fun _ _ _ h => h) (Or.inl ⟨by kernel_rfl, ?_⟩) (by assumption) ?_
                          rotate_left
                          · intro w hSw; (try dsimp only at hSw); have hk9 := G.heap hSw HK.out; have hb9 := G.heap hSw HBK.out; obtain ⟨k0, k1⟩ := k_cells hk9; obtain ⟨d0, d1, d2, d3⟩ := s_cells hb9; go_simp; try with_reducible rfl
                          try simp only [List.getElem_toArray, List.getElem_cons_succ, List.getElem_cons_zero, Act.put, List.setIfInBounds_toArray, List.set_cons_zero, List.set_cons_succ]
                          refine wpAnyH_take (i := 3) (v := ?_) rfl (by kernel_rfl) (by kernel_rfl) (by kernel_rfl) (fun _ _ _ h => h) (Or.inl ⟨by kernel_rfl, ?_⟩) (by assumption) ?_
                          rotate_left
                          · intro w hSw; (try dsimp only at hSw); go_simp; try with_reducible rfl
                          try simp only [List.getElem_toArray, List.getElem_cons_succ, List.getElem_cons_zero, Act.put, List.setIfInBounds_toArray, List.set_cons_zero, List.set_cons_succ]
                          refine wpAnyH_ready (rs := [4]) (by kernel_rfl) (by simp) ?_
                          refine AllReadyH.cons rfl (fun JJ hJJ => ?_) AllReadyH.nil
                          go_simp
                          ((try clear hb); go_at_call 100; refine (WS.out _ _).mono ?_; rintro e w5 ⟨rfl, hg⟩; have hb := G.trans hHeld hg; clear hg)
                          refine hJJ.out _ _ ?_ (fun hHeld2 => ?_)
                          · exact hb
                          clear hJJ JJ hHeld
                          have hHeld := hHeld2
                          clear hHeld2
                          try simp only [List.getElem_toArray, List.getElem_cons_succ, List.getElem_cons_zero, Act.put, List.setIfInBounds_toArray, List.set_cons_zero, List.set_cons_succ]
                          refine wpAnyH_ready (rs := [5]) (by kernel_rfl) (by simp) ?_
                          refine AllReadyH.cons rfl (fun JJ hJJ => ?_) AllReadyH.nil
                          go_simp
                          ((try clear hb); go_at_call 99; refine (inTrue _ _ _ HIN.out).mono ?_; rintro e w6 ⟨rfl, rfl⟩; have hb := hHeld)
                          refine hJJ.out _ _ ?_ (fun hHeld2 => ?_)
                          · exact hb
                          clear hJJ JJ hHeld
                          have hHeld := hHeld2
                          clear hHeld2
                          try simp only [List.getElem_toArray, List.getElem_cons_succ, List.getElem_cons_zero, Act.put, List.setIfInBounds_toArray, List.set_cons_zero, List.set_cons_succ]
                          refine wpAnyH_done (by kernel_rfl) ?_ _
                          refine NoPanic.normal ?_
                          have HW7 := put (HGK.out.trans hHeld)
                          clear hHeld
                          go_wp2_with fail
                          go_roundg (n5 - (i + 1))
                          case measure => omega
                          case rel => exact ⟨i + 1, by go_num, by omega, Nat.le_refl _, put (fun y hy => by
                            rw [take_one KX.out] at hy
                            rcases List.mem_append.1 hy with hy | hy
                            · exact HP.out y hy
                            · rw [List.mem_singleton.1 hy]; exact HIN.out), HW7⟩
                        | false =>
                          have HIN := put hin
                          have E : Kp (fine rows s = false) := put (fine_false_order HR0.out (List.mem_of_getElem? KX.out) hin)
                          clear hin
                          refine wp_region_held_drew (S := (fun w' => G wk w')) (by kernel_rfl) (G.refl _).drew (fun hHeld => ?_)
                          refine wpAnyH_take (i := 0) (v := ?_) rfl (by kernel_rfl) (by kernel_rfl) (by kernel_rfl) (fun _ _ _ h => h) (Or.inl ⟨by kernel_rfl, ?_⟩) (by assumption) ?_
                          rotate_left
                          · intro w hSw; (try dsimp only at hSw); go_simp; try with_reducible rfl
                          try simp only [List.getElem_toArray, List.getElem_cons_zero, Act.put, List.setIfInBounds_toArray, List.set_cons_zero, List.set_cons_succ]
                          refine wpAnyH_take (i := 1) (v := ?_) rfl (by kernel_rfl) (by kernel_rfl) (by kernel_rfl) (fun _ _ _ h => h) (Or.inl ⟨by kernel_rfl, ?_⟩) (by assumption) ?_
                          rotate_left
                          · intro w hSw; (try dsimp only at hSw); have hk9 := G.heap hSw HK.out; have hb9 := G.heap hSw HBK.out; obtain ⟨k0, k1⟩ := k_cells hk9; obtain ⟨d0, d1, d2, d3⟩ := s_cells hb9; go_simp; try with_reducible rfl
                          try simp only [List.getElem_toArray, List.getElem_cons_succ, List.getElem_cons_zero, Act.put, List.setIfInBounds_toArray, List.set_cons_zero, List.set_cons_succ]
                          refine wpAnyH_take (i := 2) (v := ?_) rfl (by kernel_rfl) (by kernel_rfl) (by kernel_rfl) (fun _ _ _ h => h) (Or.inl ⟨by kernel_rfl, ?_⟩) (by assumption) ?_
                          rotate_left
                          · intro w hSw; (try dsimp only at hSw); have hk9 := G.heap hSw HK.out; have hb9 := G.heap hSw HBK.out; obtain ⟨k0, k1⟩ := k_cells hk9; obtain ⟨d0, d1, d2, d3⟩ := s_cells hb9; go_simp; try with_reducible rfl
                          try simp only [List.getElem_toArray, List.getElem_cons_succ, List.getElem_cons_zero, Act.put, List.setIfInBounds_toArray, List.set_cons_zero, List.set_cons_succ]
                          refine wpAnyH_take (i := 3) (v := ?_) rfl (by kernel_rfl) (by kernel_rfl) (by kernel_rfl) (fun _ _ _ h => h) (Or.inl ⟨by kernel_rfl, ?_⟩) (by assumption) ?_
                          rotate_left
                          · intro w hSw; (try dsimp only at hSw); go_simp; try with_reducible rfl
                          try simp only [List.getElem_toArray, List.getElem_cons_succ, List.getElem_cons_zero, Act.put, List.setIfInBounds_toArray, List.set_cons_zero, List.set_cons_succ]
                          refine wpAnyH_ready (rs := [4]) (by kernel_rfl) (by simp) ?_
                          refine AllReadyH.cons rfl (fun JJ hJJ => ?_) AllReadyH.nil
                          go_simp
                          ((try clear hb); go_at_call 100; refine (WS.out _ _).mono ?_; rintro e w5 ⟨rfl, hg⟩; have hb := G.trans hHeld hg; clear hg)
                          refine hJJ.out _ _ ?_ (fun hHeld2 => ?_)
                          · exact hb
                          clear hJJ JJ hHeld
                          have hHeld := hHeld2
                          clear hHeld2
                          try simp only [List.getElem_toArray, List.getElem_cons_succ, List.getElem_cons_zero, Act.put, List.setIfInBounds_toArray, List.set_cons_zero, List.set_cons_succ]
                          refine wpAnyH_ready (rs := [5]) (by kernel_rfl) (by simp) ?_
                          refine AllReadyH.cons rfl (fun JJ hJJ => ?_) AllReadyH.nil
                          go_simp
                          ((try clear hb); go_at_call 99; refine (inFalse _ _ _ HIN.out).mono ?_; rintro e w6 ⟨rfl, rfl⟩; exact ⟨rfl, by rw [E.out]; rfl, HG1.out.trans (HGK.out.trans hHeld)⟩)
                      · have hlz : ¬ (i : Int) < (n5 : Int) := by omega
                        obtain rfl : n5 = i := by omega
                        have HA85 : Kp (∀ y ∈ s.order, inC (s.width r0.length) y.col = true) := put (fun y hy => HP.out y (by rw [List.take_of_length_le (by rw [HN85.out]; exact Nat.le_refl _)]; exact hy))
                        clear hi hkx hlt HP
                        have E : Kp (fine rows s = true) := put (fine_true HR0.out HA18.out HA41.out HA59.out HA70.out HA85.out)
                        go_wp2_with fail
                        go_end0
                        exact ⟨by rw [E.out]; rfl, HG1.out.trans (KG.out)⟩
end Go.Proofs.Ytkfoknjflpklpaa.P
