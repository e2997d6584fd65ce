/- slices.symMergeCmpFunc at []tripwire/api.Value: both parts are more than one element: it calls itself. -/
import Derived.Test.YtkfoknjflpklpaaStabOneSym1
import Derived.Test.YtkfoknjflpklpaaStabOneSym2
namespace Go.Proofs.Ytkfoknjflpklpaa.StabOne
open Go.Shelf Go.RowKit Go.Lib Go.Sort Go.Proofs Go.Proofs.Ytkfoknjflpklpaa.Stab
variable {P : Program} {α : Type} [Inhabited α]

/-- symMerge, at no more than N elements. -/
def SymC (P : Program) (enc : α → Value) (cf : α → α → Int) (g : Nat) (o : Value) (cb : Array Value) (blk off cap : Nat) (d0 : Array α) (w0 : World) (N : Nat) : Prop :=
  ∀ (a m b : Nat) (d : Array α) (w : World), d0.size = d.size → SW enc w0 blk off d w → a < m → m < b → b ≤ d.size → b - a ≤ N →
    Calls P 133 #[.slice (some ⟨blk, off, none⟩) d.size cap, .int .i64 a, .int .i64 m, .int .i64 b, .func (.func g) #[o] cb] w fun e w' => e = .returned (.tuple #[]) ∧ SW enc w0 blk off (symMerge (ltOf cf) d a m b) w'

theorem size_symMerge (lt : α → α → Bool) : ∀ (n a m b : Nat) (d : Array α), b - a = n → a < m → m < b → b ≤ d.size → (symMerge lt d a m b).size = d.size := by
  intro n
  induction n using Nat.strongRecOn with
  | _ n ih =>
    intro a m b d hn ham hmb hsz
    rw [symMerge]
    by_cases c1 : m = a + 1
    · rw [if_pos c1]
      simp only []
      obtain ⟨g1, g2, _, _⟩ := search_spec (fun h => lt d[h]! d[a]!) _ m b rfl (by omega)
      exact (perm_shUp a b _ a _ d rfl (Nat.le_refl _) (by omega) hsz).1
    · rw [if_neg c1]
      by_cases c2 : b = m + 1
      · rw [if_pos c2]
        simp only []
        obtain ⟨g1, g2, _, _⟩ := search_spec (fun h => !lt d[m]! d[h]!) _ a m rfl (by omega)
        exact (perm_shDn a b _ m d g1 (by omega) hsz).1
      · rw [if_neg c2]
        simp only []
        obtain ⟨s1, s2, s3, s4, s5, s6, _, _⟩ := symStart_spec (lt := lt) d a m b ham hmb
        generalize symStart lt d a m b = s at *
        have z1 : (if s < m ∧ m < (a + b) / 2 + m - s then rotate s m ((a + b) / 2 + m - s) d else d).size = d.size := by
          split
          · exact size_rotate _ _ _ _ (by omega) (by omega) (by omega)
          · rfl
        generalize (if s < m ∧ m < (a + b) / 2 + m - s then rotate s m ((a + b) / 2 + m - s) d else d) = d1 at *
        have z2 : (if h : a < s ∧ s < (a + b) / 2 ∧ (a + b) / 2 < b then symMerge lt d1 a s ((a + b) / 2) else d1).size = d.size := by
          split
          · rename_i h; rw [ih _ (by omega) a s ((a + b) / 2) d1 rfl h.1 h.2.1 (by omega)]; exact z1
          · exact z1
        generalize (if h : a < s ∧ s < (a + b) / 2 ∧ (a + b) / 2 < b then symMerge lt d1 a s ((a + b) / 2) else d1) = d2 at *
        split
        · rename_i h; rw [ih _ (by omega) ((a + b) / 2) _ b d2 rfl h.1 h.2.1 (by omega)]; exact z2
        · exact z2

set_option maxHeartbeats 64000000 in
set_option maxRecDepth 1000000 in
theorem sym3 (L : Lay P) (enc : α → Value) (cf : α → α → Int) (g : Nat) (o : Value) (cb : Array Value) (blk off cap a m b : Nat) (d0 d : Array α) (w0 w : World) (N : Nat)
    (eg : ∀ args w, (callFunc g args).run P w = .ok (.enter g args) w) (hcmp : CmpLaysF P g o cb enc cf blk off d0.size w0) (R : Row1 enc w0 blk off d0) (hs : d0.size = d.size) (S : SW enc w0 blk off d w) (ham : a + 1 < m) (hmb : m + 1 < b) (hb : b ≤ d.size) (hsz : d.size < 4611686018427387904)
    (IH : SymC P enc cf g o cb blk off cap d0 w0 N) (hN : b - a ≤ N + 1) :
    Calls P 133 #[.slice (some ⟨blk, off, none⟩) d.size cap, .int .i64 a, .int .i64 m, .int .i64 b, .func (.func g) #[o] cb] w fun e w' => e = .returned (.tuple #[]) ∧ SW enc w0 blk off (symMerge (ltOf cf) d a m b) w' := by
  have erot : ∀ args w, (callFunc 143 args).run P w = .ok (.enter 143 args) w := enters_of L.frot (by kernel_rfl) rfl
  have esym : ∀ args w, (callFunc 133 args).run P w = .ok (.enter 133 args) w := enters_of L.fsym (by kernel_rfl) rfl
  have mixed := L.mixed; have t0 := L.t0; have a0 := L.a0; have z0 := L.z0; have v0 := L.v0; have t3 := L.t3; have a3 := L.a3; have z3 := L.z3; have v3 := L.v3; have t4 := L.t4; have a4 := L.a4; have z4 := L.z4; have v4 := L.v4; have ts := L.ts; have as' := L.aS; have zs := L.zs; have vs := L.vs; have tE := L.tE; have uE := run_underlying L.tE; have tf := L.tf; have af := L.af; have zf := L.zf; have vf := L.vf; have aE := L.aE; have zE := L.zE; have tu := L.tu; have au := L.au; have zu := L.zu; have vu := L.vu
  have u3 := run_underlying L.t3; have uu := run_underlying L.tu
  have hcl0 := R.hO.cells
  simp only [Value.cells] at hcl0
  have hst := R.hO.store P
  have FG := L.fsym
  have HC : Aside _ := hcmp
  have S0 : Aside (SW enc w0 blk off d w) := S
  have II : Aside _ := IH
  have LL : Aside (Lay P) := L
  have HF : Hid (∀ s, s = symStart (ltOf cf) d a m b → symMerge (ltOf cf) d a m b = (
      let d1 := if s < m ∧ m < (a + b) / 2 + m - s then rotate s m ((a + b) / 2 + m - s) d else d
      let d2 := if a < s ∧ s < (a + b) / 2 then symMerge (ltOf cf) d1 a s ((a + b) / 2) else d1
      if (a + b) / 2 < (a + b) / 2 + m - s ∧ (a + b) / 2 + m - s < b then symMerge (ltOf cf) d2 ((a + b) / 2) ((a + b) / 2 + m - s) b else d2)) := by
    intro s hs'
    rw [symMerge, if_neg (by omega), if_neg (by omega), ← hs']
    simp only []
    have q1 : ∀ s : Nat, (a < s ∧ s < (a + b) / 2 ∧ (a + b) / 2 < b) = (a < s ∧ s < (a + b) / 2) := fun s => propext ⟨fun h => ⟨h.1, h.2.1⟩, fun h => ⟨h.1, h.2, by omega⟩⟩
    have q2 : ∀ e : Nat, ((a + b) / 2 < e ∧ e < b ∧ a < (a + b) / 2) = ((a + b) / 2 < e ∧ e < b) := fun s => propext ⟨fun h => ⟨h.1, h.2.1⟩, fun h => ⟨h.1, h.2, by omega⟩⟩
    simp only [q1, q2, dite_eq_ite]
  have SS := symStart_spec (lt := ltOf cf) d a m b (by omega) (by omega)
  have HS : Hid _ := SS
  clear S hcmp L IH SS
  have e1 : ((m : Int) - (a : Int) == 1) = false := by rw [beq_eq_false_iff_ne]; omega
  have e2 : ((b : Int) - (m : Int) == 1) = false := by rw [beq_eq_false_iff_ne]; omega
  obtain ⟨mid, hmid⟩ : ∃ x, x = (a + b) / 2 := ⟨_, rfl⟩
  have ez : ((a : Int) + (b : Int)) / 2 = (mid : Int) := by omega
  have mb1 : a < mid := by omega
  have mb2 : mid < b := by omega
  rw [← hmid] at HF HS
  have HM : Hid (mid = (a + b) / 2) := hmid
  -- the search begins with [lo, hi)
  have key : ∀ (lo hi : Nat), a ≤ lo → lo ≤ hi → hi ≤ m → hi ≤ mid → mid + m ≤ lo + b → symStart (ltOf cf) d a m b = search (fun c => !ltOf cf d[mid + m - 1 - c]! d[c]!) lo hi → True := fun _ _ _ _ _ _ _ _ => trivial
  clear key hmid
  by_cases c : m > mid
  all_goals
    obtain ⟨lo, hi, hlo⟩ : ∃ lo hi : Nat, (lo = if m > mid then mid + m - b else a) ∧ (hi = if m > mid then mid else m) := ⟨_, _, rfl, rfl⟩
    first | rw [if_pos c, if_pos c] at hlo | rw [if_neg c, if_neg c] at hlo
    have ez2 : (mid : Int) + (m : Int) - (b : Int) = ((mid : Int) + (m : Int) - (b : Int)) := rfl
    clear ez2
    have hst : symStart (ltOf cf) d a m b = search (fun c => !ltOf cf d[mid + m - 1 - c]! d[c]!) lo hi := by
      rw [hlo.1, hlo.2]
      unfold symStart
      simp only []
      rw [← HM.out]
      first | rw [if_pos c] | rw [if_neg c]
    have HST : Hid _ := hst
    have HLO : Hid _ := hlo
    have b1 : a ≤ lo := by omega
    have b2 : lo ≤ hi := by omega
    have b3 : hi ≤ m := by omega
    have b4 : hi ≤ mid := by omega
    have b5 : mid + m ≤ lo + b := by omega
    have ezl : (lo : Int) = (if m > mid then (mid : Int) + (m : Int) - (b : Int) else (a : Int)) := by
      rw [hlo.1]; first | (rw [if_pos c]; omega) | (rw [if_neg c])
    have ezh : (hi : Int) = (if m > mid then (mid : Int) else (m : Int)) := by
      rw [hlo.2]; first | (rw [if_pos c]) | (rw [if_neg c])
    first | rw [if_pos c] at ezl ezh | rw [if_neg c] at ezl ezh
    have EL : Hid _ := ezl
    have EH : Hid _ := ezh
    clear hst hlo ezl ezh
    have cz : (if m > mid then ((m : Int) > (mid : Int)) else ¬ ((m : Int) > (mid : Int))) := by
      first | (rw [if_pos c]; omega) | (rw [if_neg c]; omega)
    first | rw [if_pos c] at cz | rw [if_neg c] at cz
    go_enter FG, Try.ntmps133
    go_wp2
    go_loopg [20, 21] (b - a) (fun kx s20 s21 wr => ∃ (i j : Nat), s20 = .int .i64 i ∧ s21 = .int .i64 j ∧ lo ≤ i ∧ i ≤ j ∧ j ≤ hi ∧ j - i ≤ kx ∧ Aside (SW enc w0 blk off d wr) ∧ Hid (search (fun c => !ltOf cf d[mid + m - 1 - c]! d[c]!) i j = search (fun c => !ltOf cf d[mid + m - 1 - c]! d[c]!) lo hi))
    case atStart => exact ⟨lo, hi, by rw [EL.out], by rw [EH.out], Nat.le_refl _, b2, Nat.le_refl _, by omega, S0, rfl⟩
    case round =>
      clear S0 EL EH
      obtain ⟨i, j, rfl, rfl, hli, hij, hjh, hkx, S1, heq⟩ := hrel
      by_cases hlt : i < j
      · have hltz : (i : Int) < (j : Int) := by omega
        obtain ⟨h, hh⟩ : ∃ h, h = (i + j) / 2 := ⟨_, rfl⟩
        have ezh : ((i : Int) + (j : Int)) / 2 = (h : Int) := by omega
        have h1 : i ≤ h := by omega
        have h2 : h < j := by omega
        have HH : Hid (h = (i + j) / 2) := hh
        clear hh
        obtain ⟨p, hp⟩ : ∃ p, p = mid + m - 1 - h := ⟨_, rfl⟩
        have ezp : (mid : Int) + (m : Int) - 1 - (h : Int) = (p : Int) := by omega
        have hps : p < d.size := by omega
        have HP : Hid _ := hp
        clear hp
        have ea : ((p : Int)).toNat = p := by omega
        have pa : (0 : Int) ≤ (p : Int) := by omega
        have ba : (p : Int) < (d.size : Int) := by omega
        have ra : IntKind.i64.wrap ((p : Int)) = (p : Int) := by rw [IntKind.wrap_i64]; omega
        have rp : IntKind.i64.wrap ((mid : Int) + (m : Int) - 1 - (h : Int)) = (p : Int) := by rw [IntKind.wrap_i64]; omega
        have ec : ((h : Int)).toNat = h := by omega
        have pc : (0 : Int) ≤ (h : Int) := by omega
        have bc : (h : Int) < (d.size : Int) := by omega
        have rc : IntKind.i64.wrap ((h : Int)) = (h : Int) := by rw [IntKind.wrap_i64]; omega
        obtain ⟨x, hx⟩ : ∃ x, x = d[p]! := ⟨_, rfl⟩
        obtain ⟨y, hy⟩ : ∃ x, x = d[h]! := ⟨_, rfl⟩
        have lx := S1.out.cl R (by omega) p (by omega)
        have ly := S1.out.cl R (by omega) h (by omega)
        rw [← hx] at lx
        rw [← hy] at ly
        have hc := SW.cmpF S1.out HC.out (by omega) x y
        have HX : Hid (x = d[p]! ∧ y = d[h]!) := ⟨hx, hy⟩
        clear hx hy
        by_cases hv : cf x y < 0
        · have hd : decide (cf x y < 0) = true := decide_eq_true hv
          go_wp2_with fail
          go_quiet_grown (first | (go_at_fn g; refine Calls.grown_of (hc _ _)))
          have SV : Aside (SW enc w0 blk off d (grow (wr.drewN nq) osq)) := S1.out.grown nq osq
          clear lx ly hc S1
          generalize grow (wr.drewN nq) osq = wv at SV ⊢
          clear nq osq
          go_wp2
          go_roundg (h - i)
          case measure => omega
          case rel => exact ⟨i, h, rfl, rfl, hli, by omega, by omega, Nat.le_refl _, SV, by
            show _ = _
            rw [← heq.out, search.eq_def _ i j, if_pos hlt, ← HH.out, if_neg (by rw [← HP.out, ← HX.out.1, ← HX.out.2]; simp [ltOf, hv])]⟩
        · have hd : decide (cf x y < 0) = false := decide_eq_false hv
          go_wp2_with fail
          go_quiet_grown (first | (go_at_fn g; refine Calls.grown_of (hc _ _)))
          have SV : Aside (SW enc w0 blk off d (grow (wr.drewN nq) osq)) := S1.out.grown nq osq
          clear lx ly hc S1
          generalize grow (wr.drewN nq) osq = wv at SV ⊢
          clear nq osq
          go_wp2
          go_roundg (j - (h + 1))
          case measure => omega
          case rel => exact ⟨h + 1, j, by go_num, rfl, by omega, by omega, hjh, Nat.le_refl _, SV, by
            show _ = _
            rw [← heq.out, search.eq_def _ i j, if_pos hlt, ← HH.out, if_pos (by rw [← HP.out, ← HX.out.1, ← HX.out.2]; simp [ltOf, hv])]⟩
      · have hltz : ¬ (i : Int) < (j : Int) := by omega
        have hi' : i = symStart (ltOf cf) d a m b := by rw [HST.out, ← heq.out, search, if_neg hlt]
        obtain ⟨e, he⟩ : ∃ e, e = mid + m - i := ⟨_, rfl⟩
        obtain ⟨g1, g2, g3, g4, g5, g6, _, _⟩ := HS.out
        rw [← hi', ← he] at g4 g5 g6
        rw [← hi'] at g1 g2 g3
        have eze : (mid : Int) + (m : Int) - (i : Int) = (e : Int) := by omega
        have hF := HF.out i hi'
        rw [← he] at hF
        have HF2 : Hid _ := hF
        have HE : Hid _ := he
        clear hF he hi' HF HS HST heq HLO hli hij hjh hkx b1 b2 b3 b4 b5 HM
        have hrest : ∀ (d1 : Array α), d1 = (if i < m ∧ m < e then rotate i m e d else d) → d1.size = d.size := fun d1 h => by
          rw [h]; split
          · exact size_rotate _ _ _ _ (by omega) (by omega) (by omega)
          · rfl
        have HR : Hid _ := hrest
        clear hrest
        obtain ⟨d1, hd1⟩ : ∃ d1, d1 = (if i < m ∧ m < e then rotate i m e d else d) := ⟨_, rfl⟩
        have z1 : d1.size = d.size := HR.out d1 hd1
        obtain ⟨d2, hd2⟩ : ∃ d2, d2 = (if a < i ∧ i < mid then symMerge (ltOf cf) d1 a i mid else d1) := ⟨_, rfl⟩
        have z2 : d2.size = d.size := by
          rw [hd2]; split
          · rename_i h; rw [size_symMerge _ _ _ _ _ _ rfl h.1 h.2 (by omega)]; exact z1
          · exact z1
        have F : symMerge (ltOf cf) d a m b = (if mid < e ∧ e < b then symMerge (ltOf cf) d2 mid e b else d2) := by rw [HF2.out, ← hd1, ← hd2]
        have Z1 : Hid _ := z1
        have Z2 : Hid _ := z2
        have FF : Hid _ := F
        clear F HF2 HR z1 z2
        by_cases p1 : i < m
        · have q1 : decide ((i : Int) < (m : Int)) = true := decide_eq_true (by omega)
          by_cases p2 : m < e
          · rw [if_pos ⟨p1, p2⟩] at hd1
            have HD1 : Hid _ := hd1
            clear hd1
            have q2 : decide ((m : Int) < (e : Int)) = true := decide_eq_true (by omega)
            go_wp2_with fail
            refine (rotateCalls LL.out enc g o cb blk off cap i m e d0 d w0 _ R hs S1.out p1 p2 (by omega) hsz).mono ?_
            rintro e' w' ⟨rfl, S2⟩
            rw [← HD1.out] at S2
            have S3 : Aside _ := S2
            clear S2 S1 q1 q2 HD1
            by_cases p3 : a < i
            · by_cases p4 : i < mid
              · rw [if_pos ⟨p3, p4⟩] at hd2
                have HD2 : Hid _ := hd2
                clear hd2
                have q1 : decide ((a : Int) < (i : Int)) = true := decide_eq_true (by omega)
                have q2 : decide ((i : Int) < (mid : Int)) = true := decide_eq_true (by omega)
                go_wp2_with fail
                rw [← Z1.out]
                refine (II.out a i mid d1 _ (by rw [Z1.out]; exact hs) S3.out p3 p4 (by rw [Z1.out]; omega) (by omega)).mono ?_
                rintro e' w' ⟨rfl, S4⟩
                rw [← HD2.out] at S4
                have S5 : Aside _ := S4
                clear S4 S3 q1 q2 HD2
                rw [Z1.out]
                by_cases r3 : mid < e ∧ e < b
                · have q1 : decide ((mid : Int) < (e : Int)) = true := decide_eq_true (by omega)
                  have q2 : decide ((e : Int) < (b : Int)) = true := decide_eq_true (by omega)
                  go_wp2_with fail
                  rw [← Z2.out]
                  refine (II.out mid e b d2 _ (by rw [Z2.out]; exact hs) S5.out r3.1 r3.2 (by rw [Z2.out]; omega) (by omega)).mono ?_
                  rintro e' w' ⟨rfl, S6⟩
                  go_wp2
                  go_end0
                  exact ⟨rfl, by rw [FF.out, if_pos r3]; exact S6⟩
                · by_cases q2 : mid < e
                  · have q3 : decide ((mid : Int) < (e : Int)) = true := decide_eq_true (by omega)
                    have q4 : decide ((e : Int) < (b : Int)) = false := decide_eq_false (by omega)
                    go_wp2
                    all_goals (go_end0; exact ⟨rfl, by rw [FF.out, if_neg r3]; exact S5.out⟩)
                  · have q3 : decide ((mid : Int) < (e : Int)) = false := decide_eq_false (by omega)
                    go_wp2
                    all_goals (go_end0; exact ⟨rfl, by rw [FF.out, if_neg r3]; exact S5.out⟩)
              · rw [if_neg (by omega)] at hd2
                have q1 : decide ((a : Int) < (i : Int)) = true := decide_eq_true (by omega)
                have q2 : decide ((i : Int) < (mid : Int)) = false := decide_eq_false (by omega)
                have S5 := S3
                rw [← hd2] at S5
                clear S3 hd2
                by_cases r3 : mid < e ∧ e < b
                · have q1 : decide ((mid : Int) < (e : Int)) = true := decide_eq_true (by omega)
                  have q2 : decide ((e : Int) < (b : Int)) = true := decide_eq_true (by omega)
                  go_wp2_with fail
                  rw [← Z2.out]
                  refine (II.out mid e b d2 _ (by rw [Z2.out]; exact hs) S5.out r3.1 r3.2 (by rw [Z2.out]; omega) (by omega)).mono ?_
                  rintro e' w' ⟨rfl, S6⟩
                  go_wp2
                  go_end0
                  exact ⟨rfl, by rw [FF.out, if_pos r3]; exact S6⟩
                · by_cases q2 : mid < e
                  · have q3 : decide ((mid : Int) < (e : Int)) = true := decide_eq_true (by omega)
                    have q4 : decide ((e : Int) < (b : Int)) = false := decide_eq_false (by omega)
                    go_wp2
                    all_goals (go_end0; exact ⟨rfl, by rw [FF.out, if_neg r3]; exact S5.out⟩)
                  · have q3 : decide ((mid : Int) < (e : Int)) = false := decide_eq_false (by omega)
                    go_wp2
                    all_goals (go_end0; exact ⟨rfl, by rw [FF.out, if_neg r3]; exact S5.out⟩)
            · rw [if_neg (by omega)] at hd2
              have q1 : decide ((a : Int) < (i : Int)) = false := decide_eq_false (by omega)
              have S5 := S3
              rw [← hd2] at S5
              clear S3 hd2
              by_cases r3 : mid < e ∧ e < b
              · have q1 : decide ((mid : Int) < (e : Int)) = true := decide_eq_true (by omega)
                have q2 : decide ((e : Int) < (b : Int)) = true := decide_eq_true (by omega)
                go_wp2_with fail
                rw [← Z2.out]
                refine (II.out mid e b d2 _ (by rw [Z2.out]; exact hs) S5.out r3.1 r3.2 (by rw [Z2.out]; omega) (by omega)).mono ?_
                rintro e' w' ⟨rfl, S6⟩
                go_wp2
                go_end0
                exact ⟨rfl, by rw [FF.out, if_pos r3]; exact S6⟩
              · by_cases q2 : mid < e
                · have q3 : decide ((mid : Int) < (e : Int)) = true := decide_eq_true (by omega)
                  have q4 : decide ((e : Int) < (b : Int)) = false := decide_eq_false (by omega)
                  go_wp2
                  all_goals (go_end0; exact ⟨rfl, by rw [FF.out, if_neg r3]; exact S5.out⟩)
                · have q3 : decide ((mid : Int) < (e : Int)) = false := decide_eq_false (by omega)
                  go_wp2
                  all_goals (go_end0; exact ⟨rfl, by rw [FF.out, if_neg r3]; exact S5.out⟩)
          · rw [if_neg (by omega)] at hd1
            have q2 : decide ((m : Int) < (e : Int)) = false := decide_eq_false (by omega)
            have S3 := S1
            rw [← hd1] at S3
            clear S1 hd1
            by_cases p3 : a < i
            · by_cases p4 : i < mid
              · rw [if_pos ⟨p3, p4⟩] at hd2
                have HD2 : Hid _ := hd2
                clear hd2
                have q1 : decide ((a : Int) < (i : Int)) = true := decide_eq_true (by omega)
                have q2 : decide ((i : Int) < (mid : Int)) = true := decide_eq_true (by omega)
                go_wp2_with fail
                rw [← Z1.out]
                refine (II.out a i mid d1 _ (by rw [Z1.out]; exact hs) S3.out p3 p4 (by rw [Z1.out]; omega) (by omega)).mono ?_
                rintro e' w' ⟨rfl, S4⟩
                rw [← HD2.out] at S4
                have S5 : Aside _ := S4
                clear S4 S3 q1 q2 HD2
                rw [Z1.out]
                by_cases r3 : mid < e ∧ e < b
                · have q1 : decide ((mid : Int) < (e : Int)) = true := decide_eq_true (by omega)
                  have q2 : decide ((e : Int) < (b : Int)) = true := decide_eq_true (by omega)
                  go_wp2_with fail
                  rw [← Z2.out]
                  refine (II.out mid e b d2 _ (by rw [Z2.out]; exact hs) S5.out r3.1 r3.2 (by rw [Z2.out]; omega) (by omega)).mono ?_
                  rintro e' w' ⟨rfl, S6⟩
                  go_wp2
                  go_end0
                  exact ⟨rfl, by rw [FF.out, if_pos r3]; exact S6⟩
                · by_cases q2 : mid < e
                  · have q3 : decide ((mid : Int) < (e : Int)) = true := decide_eq_true (by omega)
                    have q4 : decide ((e : Int) < (b : Int)) = false := decide_eq_false (by omega)
                    go_wp2
                    all_goals (go_end0; exact ⟨rfl, by rw [FF.out, if_neg r3]; exact S5.out⟩)
                  · have q3 : decide ((mid : Int) < (e : Int)) = false := decide_eq_false (by omega)
                    go_wp2
                    all_goals (go_end0; exact ⟨rfl, by rw [FF.out, if_neg r3]; exact S5.out⟩)
              · rw [if_neg (by omega)] at hd2
                have q1 : decide ((a : Int) < (i : Int)) = true := decide_eq_true (by omega)
                have q2 : decide ((i : Int) < (mid : Int)) = false := decide_eq_false (by omega)
                have S5 := S3
                rw [← hd2] at S5
                clear S3 hd2
                by_cases r3 : mid < e ∧ e < b
                · have q1 : decide ((mid : Int) < (e : Int)) = true := decide_eq_true (by omega)
                  have q2 : decide ((e : Int) < (b : Int)) = true := decide_eq_true (by omega)
                  go_wp2_with fail
                  rw [← Z2.out]
                  refine (II.out mid e b d2 _ (by rw [Z2.out]; exact hs) S5.out r3.1 r3.2 (by rw [Z2.out]; omega) (by omega)).mono ?_
                  rintro e' w' ⟨rfl, S6⟩
                  go_wp2
                  go_end0
                  exact ⟨rfl, by rw [FF.out, if_pos r3]; exact S6⟩
                · by_cases q2 : mid < e
                  · have q3 : decide ((mid : Int) < (e : Int)) = true := decide_eq_true (by omega)
                    have q4 : decide ((e : Int) < (b : Int)) = false := decide_eq_false (by omega)
                    go_wp2
                    all_goals (go_end0; exact ⟨rfl, by rw [FF.out, if_neg r3]; exact S5.out⟩)
                  · have q3 : decide ((mid : Int) < (e : Int)) = false := decide_eq_false (by omega)
                    go_wp2
                    all_goals (go_end0; exact ⟨rfl, by rw [FF.out, if_neg r3]; exact S5.out⟩)
            · rw [if_neg (by omega)] at hd2
              have q1 : decide ((a : Int) < (i : Int)) = false := decide_eq_false (by omega)
              have S5 := S3
              rw [← hd2] at S5
              clear S3 hd2
              by_cases r3 : mid < e ∧ e < b
              · have q1 : decide ((mid : Int) < (e : Int)) = true := decide_eq_true (by omega)
                have q2 : decide ((e : Int) < (b : Int)) = true := decide_eq_true (by omega)
                go_wp2_with fail
                rw [← Z2.out]
                refine (II.out mid e b d2 _ (by rw [Z2.out]; exact hs) S5.out r3.1 r3.2 (by rw [Z2.out]; omega) (by omega)).mono ?_
                rintro e' w' ⟨rfl, S6⟩
                go_wp2
                go_end0
                exact ⟨rfl, by rw [FF.out, if_pos r3]; exact S6⟩
              · by_cases q2 : mid < e
                · have q3 : decide ((mid : Int) < (e : Int)) = true := decide_eq_true (by omega)
                  have q4 : decide ((e : Int) < (b : Int)) = false := decide_eq_false (by omega)
                  go_wp2
                  all_goals (go_end0; exact ⟨rfl, by rw [FF.out, if_neg r3]; exact S5.out⟩)
                · have q3 : decide ((mid : Int) < (e : Int)) = false := decide_eq_false (by omega)
                  go_wp2
                  all_goals (go_end0; exact ⟨rfl, by rw [FF.out, if_neg r3]; exact S5.out⟩)
        · rw [if_neg (by omega)] at hd1
          have q1 : decide ((i : Int) < (m : Int)) = false := decide_eq_false (by omega)
          have S3 := S1
          rw [← hd1] at S3
          clear S1 hd1
          by_cases p3 : a < i
          · by_cases p4 : i < mid
            · rw [if_pos ⟨p3, p4⟩] at hd2
              have HD2 : Hid _ := hd2
              clear hd2
              have q1 : decide ((a : Int) < (i : Int)) = true := decide_eq_true (by omega)
              have q2 : decide ((i : Int) < (mid : Int)) = true := decide_eq_true (by omega)
              go_wp2_with fail
              rw [← Z1.out]
              refine (II.out a i mid d1 _ (by rw [Z1.out]; exact hs) S3.out p3 p4 (by rw [Z1.out]; omega) (by omega)).mono ?_
              rintro e' w' ⟨rfl, S4⟩
              rw [← HD2.out] at S4
              have S5 : Aside _ := S4
              clear S4 S3 q1 q2 HD2
              rw [Z1.out]
              by_cases r3 : mid < e ∧ e < b
              · have q1 : decide ((mid : Int) < (e : Int)) = true := decide_eq_true (by omega)
                have q2 : decide ((e : Int) < (b : Int)) = true := decide_eq_true (by omega)
                go_wp2_with fail
                rw [← Z2.out]
                refine (II.out mid e b d2 _ (by rw [Z2.out]; exact hs) S5.out r3.1 r3.2 (by rw [Z2.out]; omega) (by omega)).mono ?_
                rintro e' w' ⟨rfl, S6⟩
                go_wp2
                go_end0
                exact ⟨rfl, by rw [FF.out, if_pos r3]; exact S6⟩
              · by_cases q2 : mid < e
                · have q3 : decide ((mid : Int) < (e : Int)) = true := decide_eq_true (by omega)
                  have q4 : decide ((e : Int) < (b : Int)) = false := decide_eq_false (by omega)
                  go_wp2
                  all_goals (go_end0; exact ⟨rfl, by rw [FF.out, if_neg r3]; exact S5.out⟩)
                · have q3 : decide ((mid : Int) < (e : Int)) = false := decide_eq_false (by omega)
                  go_wp2
                  all_goals (go_end0; exact ⟨rfl, by rw [FF.out, if_neg r3]; exact S5.out⟩)
            · rw [if_neg (by omega)] at hd2
              have q1 : decide ((a : Int) < (i : Int)) = true := decide_eq_true (by omega)
              have q2 : decide ((i : Int) < (mid : Int)) = false := decide_eq_false (by omega)
              have S5 := S3
              rw [← hd2] at S5
              clear S3 hd2
              by_cases r3 : mid < e ∧ e < b
              · have q1 : decide ((mid : Int) < (e : Int)) = true := decide_eq_true (by omega)
                have q2 : decide ((e : Int) < (b : Int)) = true := decide_eq_true (by omega)
                go_wp2_with fail
                rw [← Z2.out]
                refine (II.out mid e b d2 _ (by rw [Z2.out]; exact hs) S5.out r3.1 r3.2 (by rw [Z2.out]; omega) (by omega)).mono ?_
                rintro e' w' ⟨rfl, S6⟩
                go_wp2
                go_end0
                exact ⟨rfl, by rw [FF.out, if_pos r3]; exact S6⟩
              · by_cases q2 : mid < e
                · have q3 : decide ((mid : Int) < (e : Int)) = true := decide_eq_true (by omega)
                  have q4 : decide ((e : Int) < (b : Int)) = false := decide_eq_false (by omega)
                  go_wp2
                  all_goals (go_end0; exact ⟨rfl, by rw [FF.out, if_neg r3]; exact S5.out⟩)
                · have q3 : decide ((mid : Int) < (e : Int)) = false := decide_eq_false (by omega)
                  go_wp2
                  all_goals (go_end0; exact ⟨rfl, by rw [FF.out, if_neg r3]; exact S5.out⟩)
          · rw [if_neg (by omega)] at hd2
            have q1 : decide ((a : Int) < (i : Int)) = false := decide_eq_false (by omega)
            have S5 := S3
            rw [← hd2] at S5
            clear S3 hd2
            by_cases r3 : mid < e ∧ e < b
            · have q1 : decide ((mid : Int) < (e : Int)) = true := decide_eq_true (by omega)
              have q2 : decide ((e : Int) < (b : Int)) = true := decide_eq_true (by omega)
              go_wp2_with fail
              rw [← Z2.out]
              refine (II.out mid e b d2 _ (by rw [Z2.out]; exact hs) S5.out r3.1 r3.2 (by rw [Z2.out]; omega) (by omega)).mono ?_
              rintro e' w' ⟨rfl, S6⟩
              go_wp2
              go_end0
              exact ⟨rfl, by rw [FF.out, if_pos r3]; exact S6⟩
            · by_cases q2 : mid < e
              · have q3 : decide ((mid : Int) < (e : Int)) = true := decide_eq_true (by omega)
                have q4 : decide ((e : Int) < (b : Int)) = false := decide_eq_false (by omega)
                go_wp2
                all_goals (go_end0; exact ⟨rfl, by rw [FF.out, if_neg r3]; exact S5.out⟩)
              · have q3 : decide ((mid : Int) < (e : Int)) = false := decide_eq_false (by omega)
                go_wp2
                all_goals (go_end0; exact ⟨rfl, by rw [FF.out, if_neg r3]; exact S5.out⟩)

theorem symMergeCalls (L : Lay P) (enc : α → Value) (cf : α → α → Int) (g : Nat) (o : Value) (cb : Array Value) (blk off cap : Nat) (d0 : Array α) (w0 : World)
    (eg : ∀ args w, (callFunc g args).run P w = .ok (.enter g args) w) (hcmp : CmpLaysF P g o cb enc cf blk off d0.size w0) (R : Row1 enc w0 blk off d0) (hsz : d0.size < 4611686018427387904) : ∀ N, SymC P enc cf g o cb blk off cap d0 w0 N := by
  intro N
  induction N with
  | zero => intro a m b d w _ _ h1 h2 _ h4; omega
  | succ N ih =>
    intro a m b d w hs S h1 h2 h3 h4
    by_cases c1 : m = a + 1
    · subst c1
      exact sym1 L enc cf g o cb blk off cap a b d0 d w0 w eg hcmp R hs S h2 h3 (by omega)
    · by_cases c2 : b = m + 1
      · subst c2
        exact sym2 L enc cf g o cb blk off cap a m d0 d w0 w eg hcmp R hs S (by omega) h3 (by omega)
      · exact sym3 L enc cf g o cb blk off cap a m b d0 d w0 w N eg hcmp R hs S (by omega) (by omega) h3 (by omega) ih (by omega)

end Go.Proofs.Ytkfoknjflpklpaa.StabOne
