/- The law DeltaTracks: its walk. -/
import Derived.Test.YtkfoknjflpklpaaDTrack2
import Derived.Test.YtkfoknjflpklpaaDStep
import Derived.Test.YtkfoknjflpklpaaDRefNet
import Derived.Test.YtkfoknjflpklpaaDSmall
import Derived.Test.YtkfoknjflpklpaaDCopyR
import Derived.Test.YtkfoknjflpklpaaDWrt
namespace Go.Proofs.Ytkfoknjflpklpaa.D
open Go Go.RowKit Go.Sort Go.Proofs.Ytkfoknjflpklpaa.Mem Go.Proofs.Ytkfoknjflpklpaa.Stab

/-- The tracker in block T has noted ws; it does not lead to block o. -/
structure Trk (w : World) (T N : Nat) (A : Option Addr) (n c : Nat) (ws : List Chg) (o : Option Nat) : Prop where
  cell : w.heap[T]? = some (.cells #[.slice A n c] 116 (0, 0))
  own : Own tChg 40 (fun k => k ≠ T ∧ some k ≠ o) w N (.slice A n c) ws
  len : n = ws.length
def Few (ws : List Chg) : Prop := ws.length ≤ 80 ∧ ∀ x ∈ ws, x.old.length ≤ 20 ∧ x.new.length ≤ 20

section
variable {w : World} {B : Nat} {a b c d e f : Value} {t : TypeId}
theorem stp_0 (h : w.heap[B]? = some (.cells #[a, b, c, d, e, f] t (0, 0))) : w.cell? ⟨B, 0, none⟩ = some a := by simp [World.cell?, h]
theorem stp_1 (h : w.heap[B]? = some (.cells #[a, b, c, d, e, f] t (0, 0))) : w.cell? ⟨B, 1, none⟩ = some b := by simp [World.cell?, h]
theorem stp_2 (h : w.heap[B]? = some (.cells #[a, b, c, d, e, f] t (0, 0))) : w.cell? ⟨B, 2, none⟩ = some c := by simp [World.cell?, h]
theorem stp_3 (h : w.heap[B]? = some (.cells #[a, b, c, d, e, f] t (0, 0))) : w.cell? ⟨B, 3, none⟩ = some d := by simp [World.cell?, h]
theorem stp_4 (h : w.heap[B]? = some (.cells #[a, b, c, d, e, f] t (0, 0))) : w.cell? ⟨B, 4, none⟩ = some e := by simp [World.cell?, h]
theorem stp_5 (h : w.heap[B]? = some (.cells #[a, b, c, d, e, f] t (0, 0))) : w.cell? ⟨B, 5, none⟩ = some f := by simp [World.cell?, h]
end
section
variable {w : World} {C : Nat} {a b c d : Value} {t : TypeId}
theorem chg4_0 (h : w.heap[C]? = some (.cells #[a, b, c, d] t (0, 0))) : w.cell? ⟨C, 0, none⟩ = some a := by simp [World.cell?, h]
theorem chg4_1 (h : w.heap[C]? = some (.cells #[a, b, c, d] t (0, 0))) : w.cell? ⟨C, 1, none⟩ = some b := by simp [World.cell?, h]
end
theorem Few.big {ws : List Chg} (h : Few ws) : ws.length ≤ 140737488355328 := Nat.le_trans h.1 (by decide)
theorem Few.thousand {ws : List Chg} (h : Few ws) : ∀ x ∈ ws, x.old.length ≤ 1000 ∧ x.new.length ≤ 1000 := fun x hx => by have := h.2 x hx; omega
theorem Few.drop {ws : List Chg} (h : Few ws) (k : Nat) : Few (ws.drop k) := ⟨by have := h.1; rw [List.length_drop]; omega, fun x hx => h.2 x (List.mem_of_mem_drop hx)⟩
theorem Few.take {ws : List Chg} (h : Few ws) (k : Nat) : Few (ws.take k) := ⟨by have := h.1; rw [List.length_take]; omega, fun x hx => h.2 x (List.mem_of_mem_take hx)⟩
theorem Trk.sl {w : World} {T N : Nat} {A : Option Addr} {n c : Nat} {ws : List Chg} {o : Option Nat} (h : Trk w T N A n c ws o) (hf : Few ws) : Sl tChg (fun _ => True) w (.slice A n c) ws := h.own.sl (fun _ _ => trivial) (fun _ _ => trivial) hf.big
theorem Trk.below {w w' : World} {T N : Nat} {A : Option Addr} {n c : Nat} {ws : List Chg} {o : Option Nat} (h : Trk w T N A n c ws o) (hb : Below w.heap.size w w') : Trk w' T N A n c ws o :=
  ⟨(hb.block T (Array.getElem?_eq_some_iff.1 h.cell).1).trans h.cell, h.own.below hb, h.len⟩
theorem Trk.but {w w' : World} {T N : Nat} {A : Option Addr} {n c : Nat} {ws : List Chg} {o o' : Option Nat} (h : Trk w T N A n c ws o) (hb : But (fun k => o = some k) w w') (hw : ∀ k, o = some k → N ≤ k ∧ ∃ cur, w.heap[k]? = some (.cells cur 43 (0, 0))) (hn : ∀ k, o' = some k → o = some k ∨ w.heap.size ≤ k) : Trk w' T N A n c ws o' := by
  refine ⟨(hb.block T (Array.getElem?_eq_some_iff.1 h.cell).1 (fun e => ?_)).trans h.cell, (((Own.bnd h.own).move (fun k hk => hb.block k (h.own.lt k hk).2 (fun e => ?_)) (fun k hk _ hlt => hb.block k hlt (fun e => hk.1.2 e.symm))).mono (fun k hk => ⟨hk.1.1, fun e => ?_⟩)), h.len⟩
  · obtain ⟨_, cur, hc⟩ := hw T e
    rw [h.cell] at hc
    simp at hc
  · obtain ⟨_, cur, hc⟩ := hw k e
    obtain ⟨_, cur2, h2⟩ := own_heap h.own hk
    rw [h2] at hc
    simp at hc
  · rcases hn k e.symm with h1 | h1
    · exact hk.1.2 h1.symm
    · have := hk.2; omega
theorem Trk.slT {w : World} {T N : Nat} {A : Option Addr} {n c : Nat} {ws : List Chg} {o : Option Nat} (h : Trk w T N A n c ws o) (hf : Few ws) (hw : ∀ k, o = some k → N ≤ k ∧ ∃ cur, w.heap[k]? = some (.cells cur 43 (0, 0))) : Sl tChg (fun k => k ≠ T ∧ some k ≠ o) w (.slice A n c) ws :=
  h.own.sl (fun k hk => ⟨fun e => (h.own.ne_block h.cell (by decide)) (by rw [hk, e]), fun e => by
    obtain ⟨_, cur, hc⟩ := hw k e.symm
    obtain ⟨_, cur2, h2⟩ := own_heap h.own hk
    rw [h2] at hc
    simp at hc⟩) (fun _ hk => hk) hf.big
theorem But.cell {B : Nat → Prop} {w w' : World} (h : But B w w') {p : Addr} (hp : p.block < w.heap.size) (hB : ¬ B p.block) : w'.cell? p = w.cell? p := World.cell?_of_block (h.block p.block hp hB)

theorem net_small {l : List Chg} (h : ∀ c ∈ l, c.old.length ≤ 20 ∧ c.new.length ≤ 20) : ∀ c ∈ net l, c.old.length ≤ 20 ∧ c.new.length ≤ 20 := by
  intro c hc
  obtain ⟨_, h1, h2⟩ := (mem_net l c).1 hc
  obtain ⟨x, hx, e1⟩ := Option.map_eq_some_iff.1 h1
  obtain ⟨y, hy, e2⟩ := Option.map_eq_some_iff.1 h2
  have m1 := (List.mem_filter.1 (List.mem_of_mem_head? hx)).1
  have m2 := (List.mem_filter.1 (List.mem_of_getLast? hy)).1
  rw [← e1, ← e2]
  exact ⟨(h x m1).1, (h y m2).2⟩

/-- The answer's new rows may be written into: their numbers lie apart from the answer itself, from S0 on. -/
def Mut (w : World) (ad : Addr) (n S0 : Nat) : Prop := ∀ j, j < n → ∃ (Z : Option Addr) (len kz : Nat), w.cell? ⟨(ad.add (j * 4)).block, (ad.add (j * 4)).off + 3, none⟩ = some (.slice Z len kz) ∧ len ≤ 1000 ∧ ∀ q, q < len → ∃ (az : Addr) (u : Int), Z = some az ∧ w.cell? ⟨(az.add (q * 3)).block, (az.add (q * 3)).off + 1, none⟩ = some (.int .i64 u) ∧ w.frozen? ⟨(az.add (q * 3)).block, (az.add (q * 3)).off + 1, none⟩ = false ∧ az.block ≠ ad.block ∧ S0 ≤ az.block
theorem cell_store_int {w : World} {p q : Addr} {u v : Int} (h : w.cell? q = some (.int .i64 u)) : ∃ u', (w.setCell p (.int .i64 v)).cell? q = some (.int .i64 u') := by
  by_cases e : p = q
  · subst e; exact ⟨v, World.cell?_setCell_same w p _ h⟩
  · exact ⟨u, (World.cell?_setCell_other w p q _ e).trans h⟩
theorem Mut.store {w : World} {ad : Addr} {n S0 : Nat} (h : Mut w ad n S0) {p : Addr} (hp : p.block ≠ ad.block) (v : Int) : Mut (w.setCell p (.int .i64 v)) ad n S0 := by
  intro j hj
  obtain ⟨Z, len, kz, h1, h2, h3⟩ := h j hj
  refine ⟨Z, len, kz, ?_, h2, fun q hq => ?_⟩
  · rw [← h1]
    exact World.cell?_of_block (Below.heap_setCell w p _ _ (by show (ad.add (j * 4)).block ≠ _; rw [add_block]; exact fun e => hp e.symm))
  · obtain ⟨az, u, hz, h4, h5, h6, h7⟩ := h3 q hq
    obtain ⟨u', hu⟩ := cell_store_int (p := p) (v := v) h4
    exact ⟨az, u', hz, hu, by rw [World.frozen?_setCell]; exact h5, h6, h7⟩
theorem Mut.of_own {w : World} {E S0 d : Nat} {ad : Addr} {xs : List Chg} (h : Own tChgU E (fun k => S0 ≤ k) w S0 (.slice (some ad) xs.length d) xs) (hs : ∀ x ∈ xs, x.new.length ≤ 1000) : Mut w ad xs.length S0 := by
  obtain ⟨cells, hl, ho, hr⟩ := h
  intro j hj
  have hx : xs[j]? = some xs[j] := List.getElem?_eq_getElem hj
  have hc : cells[j]? = some (cells[j]'(by omega)) := List.getElem?_eq_getElem (by omega)
  have hR := hr j _ _ hx hc
  obtain ⟨g, cap, cur, e, _, _⟩ : ∃ g cap cur, Value.slice (some ad) xs.length d = .slice (some ⟨g, 0, none⟩) xs.length cap ∧ w.heap[g]? = some (.cells cur E (0, 0)) ∧ True := by
    rcases ho.2 with ⟨e, _⟩ | ⟨g, cap, cur, e, _, hg, _⟩
    · cases e
    · exact ⟨g, cap, cur, e, hg, trivial⟩
  obtain rfl : ad = ⟨g, 0, none⟩ := by injection e with e; injection e
  have hcl := Own.lens (d := tChgU) hl (fun i x c hx hc => hr i x c hx hc)
  have hcells := ho.cells (g := g) rfl
  obtain ⟨⟨u2, u3, eq, s2, s3⟩, hloose⟩ := hR
  obtain ⟨Z, kz, rfl, _, _, _⟩ := s3.shape
  have h3 : (cells[j]'(by omega))[3]? = some (.slice Z xs[j].new.length kz) := by rw [eq]; rfl
  refine ⟨Z, _, kz, ?_, hs _ (List.mem_of_getElem? hx), fun q hq => ?_⟩
  · have := hcells _ _ (flat_get cells hcl j _ 3 _ hc h3)
    rw [add_plain] at this ⊢
    exact this
  · have hne : xs[j].new ≠ [] := fun e => by rw [e] at hq; simp at hq
    obtain ⟨hrow, _⟩ := s3.row
    obtain ⟨az, cs, hz, hok, hlt, hcs, hat⟩ := hrow.get q hq
    subst hz
    obtain ⟨cc, tt, hcc⟩ := hloose _ h3 hne az.block rfl
    have hcs' : cs = (xs[j].new[q]).cells := hcs
    refine ⟨az, xs[j].new[q].n, rfl, At.cj hat 1 (by omega) (by rw [hcs']; rfl), ?_, ?_, hok.1⟩
    · have : w.heap[(az.add (q * 3)).block]? = some (.cells cc tt (0, 0)) := by rw [add_block]; exact hcc
      simp [World.frozen?, this]
    · exact fun e => hok.2 (by simp only [Value.ownBlock, e])

/-- The numbers of a row that may be written into. -/
def Ints (w : World) (V : Option Addr) (ln : Nat) (o : Option Nat) : Prop := ∀ q, q < ln → ∃ (az : Addr) (u : Int), V = some az ∧ w.cell? ⟨(az.add (q * 3)).block, (az.add (q * 3)).off + 1, none⟩ = some (.int .i64 u) ∧ w.frozen? ⟨(az.add (q * 3)).block, (az.add (q * 3)).off + 1, none⟩ = false ∧ o = some az.block
theorem Ints.store {w : World} {V : Option Addr} {ln : Nat} {o : Option Nat} (h : Ints w V ln o) (p : Addr) (v : Int) : Ints (w.setCell p (.int .i64 v)) V ln o := fun q hq => by
  obtain ⟨az, u, hz, h4, h5, h6⟩ := h q hq
  obtain ⟨u', hu⟩ := cell_store_int (p := p) (v := v) h4
  exact ⟨az, u', hz, hu, by rw [World.frozen?_setCell]; exact h5, h6⟩
theorem Ints.of_own {w : World} {E b c : Nat} {V : Option Addr} {xs : List Val} (h : Own tVal E (fun _ => True) w b (.slice V xs.length c) xs) (hl : xs.length ≤ 1000) : Ints w V xs.length (Value.slice V xs.length c).ownBlock := fun q hq => by
  obtain ⟨az, rfl, _, h1, _⟩ := vals_get (h.sl (ok' := fun _ => True) (fun _ _ => trivial) (fun _ _ => trivial) (by omega)).row.1 q hq
  obtain ⟨_, cur, hc⟩ := own_heap h (k := az.block) rfl
  have hc2 : w.heap[(az.add (q * 3)).block]? = some (.cells cur E (0, 0)) := by rw [add_block]; exact hc
  exact ⟨az, _, rfl, h1, by simp [World.frozen?, hc2], rfl⟩
theorem own_but {w w' : World} {N : Nat} {v : Value} {ok : Nat → Prop} {ws : List Chg} {o : Option Nat} (h : Own tChg 40 ok w N v ws) (hb : But (fun k => o = some k) w w') (hw : ∀ k, o = some k → N ≤ k ∧ ∃ cur, w.heap[k]? = some (.cells cur 43 (0, 0))) (hok : ∀ k, ok k → some k ≠ o) : Own tChg 40 (fun k => ok k ∧ k < w.heap.size) w' N v ws :=
  (Own.bnd h).move (fun k hk => hb.block k (h.lt k hk).2 (fun e => by
    obtain ⟨_, cur, hc⟩ := hw k e
    obtain ⟨_, cur2, h2⟩ := own_heap h hk
    rw [h2] at hc
    simp at hc)) (fun k hk _ hlt => hb.block k hlt (fun e => hok k hk.1 e.symm))

set_option maxHeartbeats 16000000 in
set_option maxRecDepth 100000 in
theorem deltaTracksCalls (v : Value) (xs : List Stp) (w : World) (h : Sl tStp (fun _ => True) w v xs) :
    Calls Try.prog 7 #[v] w fun e w' => e = .returned (.bool true) ∧ Below w.heap.size w w' := by
  obtain ⟨A, c, rfl, l1, l2, l3⟩ := h.shape
  have KS : Kp (Sl tStp (fun k => k < w.heap.size) w (.slice A xs.length c) xs) := put (h.bnd.mono (fun k hk => hk.2))
  obtain ⟨m, hm⟩ : ∃ m, m = xs.length := ⟨_, rfl⟩
  rw [← hm] at l1 l3 KS ⊢
  have HM := put hm
  clear h hm
  by_cases hg : m > 80
  · have hg1 : (m : Int) > 80 := by omega
    clear hg
    go_enter Try.func7, Try.ntmps7
    go_wp2_with (first | (go_at_call 13; refine (awakeCalls _).mono ?_; rintro e w1 ⟨rfl, hb1⟩; have HB1 := put hb1; clear hb1))
    go_ret
    exact ⟨rfl, HB1.out⟩
  · have hg1 : ¬ (m : Int) > 80 := by omega
    have HG : Kp (m ≤ 80) := ⟨by omega⟩
    clear hg
    go_enter Try.func7, Try.ntmps7
    go_wp2_with (first | (go_at_call 13; refine (awakeCalls _).mono ?_; rintro e w1 ⟨rfl, hb1⟩; have HB1 := put hb1; clear hb1) | (go_at_call 26; refine (newCalls _).mono ?_; rintro e w2 ⟨rfl, rfl⟩))
    obtain ⟨T, hT⟩ : ∃ T, T = w1.heap.size := ⟨_, rfl⟩
    obtain ⟨w2, hw2⟩ : ∃ w2, w2 = w1.alloc (.cells #[.slice none 0 0] 116) := ⟨_, rfl⟩
    have hT2 : w2.heap[T]? = some (.cells #[.slice none 0 0] 116 (0, 0)) := by rw [hw2, hT]; exact heap_alloc_new w1 _
    have HNT : Kp (w.heap.size ≤ T) := put (by rw [hT]; exact HB1.out.size)
    have KB2 : Kp (Below w.heap.size w w2) := put (by rw [hw2]; exact balloc HB1.out _)
    have KT2 : Kp (Trk w2 T w.heap.size none 0 0 [] (Value.slice none 0 0).ownBlock) := put ⟨hT2, Own.nil _ _ _ _ _, rfl⟩
    rw [← hw2, ← hT]
    clear hT2 hw2 hT HB1
    go_loopg [5, 22] m (fun kx s5 s22 wr => ∃ (i : Nat) (ws : List Chg) (A5 AT : Option Addr) (m5 c5 cT : Nat), s5 = .slice A5 m5 c5 ∧ s22 = .int .i64 i ∧ i ≤ m ∧ m - i ≤ kx ∧ m5 ≤ i ∧ m5 ≤ c5 ∧ c5 ≤ 9223372036854775807 ∧ Kp (Trk wr T w.heap.size AT m5 cT ws (Value.slice A5 m5 c5).ownBlock) ∧ Kp (Wrt wr w.heap.size A5 m5 c5 ws) ∧ Kp (Few ws) ∧ Kp (Below w.heap.size w wr))
    case atStart => exact ⟨0, [], none, none, 0, 0, 0, rfl, rfl, Nat.zero_le _, Nat.le_refl _, Nat.le_refl _, Nat.le_refl _, by decide, KT2, put ⟨.inl (Own.nil _ _ _ _ _), rfl, fun k hk => by simp [Value.ownBlock] at hk⟩, put ⟨by decide, fun x hx => by cases hx⟩, KB2⟩
    case round =>
      clear KT2 KB2
      obtain ⟨i, ws, A5, AT, m5, c5, cT, rfl, rfl, hi, hkx, hm5, hmc5, hc5, KT, KW, KF, KB⟩ := hrel
      by_cases hlt : i < m
      · have hlz : (i : Int) < (m : Int) := by omega
        have i0 : (0 : Int) ≤ (i : Int) := by omega
        obtain ⟨ad, x, A2, k2, A3, k3, rfl, hx, x0, x1, x2, x3, x4, x5, KR⟩ := stps_at (KS.out.elder KB.out).row.1 i (by rw [← HM.out]; exact hlt)
        clear hx
        go_wp2_with fail
        obtain ⟨wb, hwb⟩ : ∃ wb, wb = (wr.alloc (.cells #[.int .i64 x.k, .int .i64 x.n, .string x.c.table, .int .i64 x.c.id, .slice A2 x.c.old.length k2, .slice A3 x.c.new.length k3] 52)).alloc (.cells #[.string x.c.table, .int .i64 x.c.id, .slice A2 x.c.old.length k2, .slice A3 x.c.new.length k3] 40) := ⟨_, rfl⟩
        obtain ⟨B, hB⟩ : ∃ B, B = wr.heap.size := ⟨_, rfl⟩
        have hBb : Below wr.heap.size wr wb := by rw [hwb]; exact balloc (balloc (Below.refl _ _) _) _
        have hO : wb.heap[B]? = some (.cells #[.int .i64 x.k, .int .i64 x.n, .string x.c.table, .int .i64 x.c.id, .slice A2 x.c.old.length k2, .slice A3 x.c.new.length k3] 52 (0, 0)) := by rw [hwb, hB]; simp only [heap_alloc_get]; simp
        have hL : wb.heap[B + 1]? = some (.cells #[.string x.c.table, .int .i64 x.c.id, .slice A2 x.c.old.length k2, .slice A3 x.c.new.length k3] 40 (0, 0)) := by rw [hwb, hB]; simp only [heap_alloc_get]; simp
        rw [← hwb, ← hB]
        have HBb := put (And.intro hBb hB)
        have HO := put hO
        have KRb := put (Ty.below KR.out hBb)
        refine (greatCalls (fun _ => True) _ [x.c] wb (lit_sl (E := 40) hL (tChg.mono (fun _ _ => trivial) KRb.out) trivial)).mono ?_
        rintro e w4 ⟨⟨b, rfl, hg⟩, hb4⟩
        have HB4 := put hb4
        have KB4 := put (KB.out.trans ((hBb.trans (hb4.mono hBb.size)).mono KB.out.size))
        have hBs : B < wb.heap.size := (Array.getElem?_eq_some_iff.1 hO).1
        have hO4 := (hb4.block B hBs).trans hO
        have HO4 := put hO4
        have HG4 := put hg
        clear hwb hB hBb hO hL hb4 hg HO x0 x1 x2 x3 x4 x5
        cases b with
        | true =>
          go_wp2_with fail
          go_ret
          exact ⟨rfl, KB4.out⟩
        | false =>
          have HX := put ((HG4.out rfl).2 x.c (by simp))
          clear HG4
          have KT4 := put ((KT.out.below HBb.out.1).below HB4.out)
          have KW4 := put ((KW.out.below HBb.out.1).below HB4.out)
          have KR4 := put (Ty.below KRb.out HB4.out)
          have q0 := stp_0 hO4
          have q1 := stp_1 hO4
          have q2 := stp_2 hO4
          have q3 := stp_3 hO4
          have q4 := stp_4 hO4
          have q5 := stp_5 hO4
          have hB4s : B < w4.heap.size := (Array.getElem?_eq_some_iff.1 hO4).1
          have HS0 : Kp (wr.heap.size ≤ w4.heap.size) := put (Nat.le_trans HBb.out.1.size HB4.out.size)
          have hmk : min (max x.n 0) (m5 : Int) = ((markOf x.n m5 : Nat) : Int) := (markOf_int x.n m5).symm
          clear hO4 KT KW KR KRb
          by_cases hk0 : x.k = 0
          · have hk0' : (x.k == 0) = true := by simp [hk0]
            have HNE : Kp (B ≠ T) := put (fun e => by have h1 := HO4.out; have h2 := KT4.out.cell; rw [e, h2] at h1; simp at h1)
            go_wp2_with fail
            obtain ⟨C, hC⟩ : ∃ C, C = w4.heap.size := ⟨_, rfl⟩
            obtain ⟨wc, hwc⟩ : ∃ wc, wc = w4.alloc (.cells #[.string x.c.table, .int .i64 x.c.id, .slice A2 x.c.old.length k2, .slice A3 x.c.new.length k3] 40) := ⟨_, rfl⟩
            have hbc : Below w4.heap.size w4 wc := by rw [hwc]; exact balloc (Below.refl _ _) _
            have hCc : wc.heap[C]? = some (.cells #[.string x.c.table, .int .i64 x.c.id, .slice A2 x.c.old.length k2, .slice A3 x.c.new.length k3] 40 (0, 0)) := by rw [hwc, hC]; exact heap_alloc_new w4 _
            have S2 : Kp (Sl tVal (fun k => k < wc.heap.size) wc (.slice A2 x.c.old.length k2) x.c.old) := put (((R_parts KR4.out).1.elder hbc).mono (fun k hk => Nat.lt_of_lt_of_le hk.2 hbc.size))
            have S3 : Kp (Sl tVal (fun k => k < wc.heap.size) wc (.slice A3 x.c.new.length k3) x.c.new) := put (((R_parts KR4.out).2.elder hbc).mono (fun k hk => Nat.lt_of_lt_of_le hk.2 hbc.size))
            have HCW := put (And.intro hC hbc)
            have HCS := put (Array.getElem?_eq_some_iff.1 hCc).1
            rw [← hwc, ← hC]
            clear hC hwc hbc
            refine copyRow _ _ _ _ _ _ _ _ _ _ _ _ _ _ _ _ _ _ _ _ _ _ _ _ _ _ _ _ _ _ _ _ _ _ _ _ _ _ _ _ _ _ _ _ _ _ _ _ _ _ _ _ _ _ _ _ _ _ _ _ _ _ _ _ _ _ _ _ _ _ _ _ _ _ _ _ _ _ _ _ _ _ _ _ _ _ _ _ _ _ _ _ _ _ _ _ _ _ _ _ _ _ _ _ _ _ _ _ _ _ _ _ _ _ _ _ _ _ _ _ _ _ _ _ _ _ _ _ _ _ _ _ _ _ _ _ _ _ _ _ _ _ _ _ _ _ _ _ _ _ _ _ _ _ _ _ _ C k2 k3 A2 A3 _ _ x.c.old x.c.new wc _ hCc S2 S3 (by have := HX.out.1; omega) (by have := HX.out.2; omega) ?_ _ rfl
            intro r82 r83 r84 r85 r86 r87 r88 r89 r90 r91 V1 V2 c1 c2 w9 hC9 hV1 hV2 hbut
            have hB9 : Below w4.heap.size w4 w9 := HCW.out.2.trans (hbut.below HCW.out.2.size (fun k hk => by rw [hk, HCW.out.1]; exact Nat.le_refl _))
            have HB9 := put hB9
            have HS9 := put hbut.size
            have HC9 := put hC9
            have HV1 := put hV1
            have HV2 := put hV2
            have KT9 := put (KT4.out.below hB9)
            have KW9 := put (KW4.out.below hB9)
            have HCT : Kp (C ≠ T) := put (fun e => by have h1 := hC9; have h2 := KT9.out.cell; rw [e, h2] at h1; simp at h1)
            have hCs9 : C < w9.heap.size := (Array.getElem?_eq_some_iff.1 hC9).1
            have f0 := chg4_0 hC9
            have f1 := chg4_1 hC9
            have f2 := cells4_2 hC9
            have f3 := cells4_3 hC9
            have KX9 : Kp (tChg.R (fun _ => True) w9 x.c [.string x.c.table, .int .i64 x.c.id, .slice V1 x.c.old.length c1, .slice V2 x.c.new.length c2]) := put ⟨_, _, rfl, HV1.out.sl (fun _ _ => trivial) (fun _ _ => trivial) (by have := HX.out.1; omega), HV2.out.sl (fun _ _ => trivial) (fun _ _ => trivial) (by have := HX.out.2; omega)⟩
            clear hC9 hV1 hV2 hbut hCc S2 S3 hB9
            go_wp2_with fail
            have OW9 : Kp (Own tChg 40 (fun k => (k ≠ T ∧ some k ≠ (Value.slice A5 m5 c5).ownBlock) ∧ k < w4.heap.size) w9 w.heap.size (.slice AT m5 cT) ws) := put ((Own.bnd KT4.out.own).below HB9.out)
            refine (noteCalls (fun k => (k ≠ T ∧ some k ≠ (Value.slice A5 m5 c5).ownBlock) ∧ k < w4.heap.size) (fun _ => True) w9 T m5 cT w.heap.size AT V1 V2 c1 c2 ws x.c KT9.out.cell OW9.out KX9.out (by have := HX.out.1; omega) (by have := HX.out.2; omega) (Nat.le_trans KF.out.1 (by decide)) KT9.out.len (fun k hk => hk.1.1) (Nat.le_trans KB4.out.size HB9.out.size)).mono ?_
            rintro e w10 ⟨⟨r, rfl⟩, AN, cN, hcN, hoN, hbN⟩
            have HBN := put hbN
            have hown : ∀ k, (Value.slice AT m5 cT).ownBlock = some k → k < w4.heap.size := fun k hk => (KT4.out.own.lt k hk).2
            have hC4 : w4.heap.size ≤ C := by rw [HCW.out.1]; exact Nat.le_refl _
            have hC10 := (hbN.block C hCs9 (by rintro (e | e); exact HCT.out e; (have := hown C e.symm; omega))).trans HC9.out
            have hO10 : w10.heap[B]? = _ := (hbN.block B (Nat.lt_of_lt_of_le hB4s HB9.out.size) (by rintro (e | e); exact HNE.out e; exact KT4.out.own.ne_block HO4.out (by decide) e)).trans ((HB9.out.block B hB4s).trans HO4.out)
            have HO10 := put hO10
            have KT10 : Kp (Trk w10 T w.heap.size AN (m5 + 1) cN (ws ++ [x.c]) (Value.slice A5 m5 c5).ownBlock) := put ⟨hcN, hoN.mono (fun k hk => by rcases hk with h | h; exact h.1; (refine ⟨fun e => ?_, fun e => ?_⟩; (have h2 := (Array.getElem?_eq_some_iff.1 KT9.out.cell).1; omega); (obtain ⟨_, cur, hc⟩ := KW9.out.2.2 k e.symm; have h2 := (Array.getElem?_eq_some_iff.1 hc).1; omega))), by rw [List.length_append, ← KT9.out.len]; rfl⟩
            have OS10 : Kp (Own tChg 40 (fun k => (k ≠ T ∧ some k ≠ (Value.slice A5 m5 c5).ownBlock) ∧ (Value.slice V2 x.c.new.length c2).ownBlock ≠ some k) w10 w.heap.size (.slice AN (m5 + 1) cN) (ws ++ [x.c])) := put (hoN.mono (fun k hk => ⟨by rcases hk with h | h; exact h.1; (refine ⟨fun e => ?_, fun e => ?_⟩; (have h2 := (Array.getElem?_eq_some_iff.1 KT9.out.cell).1; omega); (obtain ⟨_, cur, hc⟩ := KW9.out.2.2 k e.symm; have h2 := (Array.getElem?_eq_some_iff.1 hc).1; omega)), fun e => by have h1 := HV2.out.lt k e; have h2 := HCW.out.2.size; rcases hk with h | h; (have := h.2; omega); omega⟩))
            have KW10 : Kp (Wrt w10 w.heap.size A5 m5 c5 ws) := put (KW9.out.move (fun k hk hor => hbN.block k hk (by rintro (e | e); (subst e; rcases hor with h | ⟨_, cur, hc⟩; (have := HNT.out; omega); (have h2 := KT9.out.cell; rw [hc] at h2; simp at h2)); (rcases hor with h | ⟨_, cur, hc⟩; (have := (KT9.out.own.lt k e.symm).1; omega); (obtain ⟨_, cur2, h2⟩ := own_heap KT9.out.own e.symm; rw [hc] at h2; simp at h2)))))
            have HV10 : Kp (Own tVal 55 (fun _ => True) w10 wc.heap.size (.slice V2 x.c.new.length c2) x.c.new) := put (Own.vals ((Own.vals (ok' := fun _ => False) HV2.out).move (fun k hk => hbN.block k (HV2.out.lt k hk).2 (by have h1 := (HV2.out.lt k hk).1; have h2 := HCW.out.2.size; have h3 := (Array.getElem?_eq_some_iff.1 KT4.out.cell).1; rintro (e | e); omega; (have := hown k e.symm; omega))) (fun _ h => h.elim)))
            have KB10 : Kp (Below w.heap.size w w10) := put ((KB4.out.trans (HB9.out.mono KB4.out.size)).trans (hbN.below (Nat.le_trans KB4.out.size HB9.out.size) (fun k hk => by rcases hk with e | e; (rw [e]; exact HNT.out); exact (KT4.out.own.lt k e.symm).1)))
            have HC10 := put hC10
            have hCs10 : C < w10.heap.size := (Array.getElem?_eq_some_iff.1 hC10).1
            have S910 : Kp (w4.heap.size ≤ w10.heap.size) := put (Nat.le_trans HB9.out.size hbN.size)
            clear f0 f1 f2 f3 hcN hoN hbN q0 q1 q2 q3 q4 q5
            have f0 := chg4_0 hC10
            have f1 := chg4_1 hC10
            have f2 := cells4_2 hC10
            have f3 := cells4_3 hC10
            clear hC10 hO10 HV1 HV2 KX9 OW9 KT9 KW9
            go_wp2_with fail
            refine (noteNil _ _ _ _ _).mono ?_
            rintro e w11 ⟨⟨r2, rfl⟩, hb11⟩
            have HB11 := put hb11
            have hO11 := (hb11.block B (Array.getElem?_eq_some_iff.1 HO10.out).1).trans HO10.out
            have HO11 := put hO11
            have q0 := stp_0 hO11
            have q1 := stp_1 hO11
            have q2 := stp_2 hO11
            have q3 := stp_3 hO11
            have q4 := stp_4 hO11
            have q5 := stp_5 hO11
            have KW11 := put (KW10.out.below hb11)
            have KR11 : Kp (∀ W, Below w11.heap.size w11 W → tChg.R (fun k => k < w.heap.size) W x.c [.string x.c.table, .int .i64 x.c.id, .slice A2 x.c.old.length k2, .slice A3 x.c.new.length k3]) := put (fun W hb => tChg.mono (fun k hk => hk.1) (tChg.move (fun k hk _ => (((KB10.out.trans (HB11.out.mono KB10.out.size)).trans (hb.mono (Nat.le_trans KB10.out.size HB11.out.size))).block k hk.1).trans (KB4.out.block k hk.1).symm) KR4.out))
            have KB11 : Kp (Below w.heap.size w w11) := put (KB10.out.trans (hb11.mono KB10.out.size))
            obtain ⟨A6, c6, w12, hrun, hm6, hc6, hw12, hnew, hbut⟩ := wrt_push (cs := [.string x.c.table, .int .i64 x.c.id, .slice A2 x.c.old.length k2, .slice A3 x.c.new.length k3]) 32 KW11.out KB11.out.size KR11.out (Nat.le_trans KF.out.1 (by decide))
            have HBU := put hbut
            have HRUN := put hrun
            have KW12 := put hw12
            have hC11 := (hb11.block C hCs10).trans HC10.out
            have hC12 := (hbut.block C (Nat.lt_of_lt_of_le hCs10 hb11.size) (fun e => by obtain ⟨_, cur, hc⟩ := KW11.out.2.2 C e; rw [hC11] at hc; simp at hc)).trans hC11
            have hT11 := (KT10.out.below hb11)
            have KT12 : Kp (Trk w12 T w.heap.size AN (m5 + 1) cN (ws ++ [x.c]) (Value.slice A6 (m5 + 1) c6).ownBlock) := put (hT11.but hbut KW11.out.2.2 hnew)
            have OS12 : Kp (Own tChg 40 (fun k => ((k ≠ T ∧ some k ≠ (Value.slice A5 m5 c5).ownBlock) ∧ (Value.slice V2 x.c.new.length c2).ownBlock ≠ some k) ∧ k < w11.heap.size) w12 w.heap.size (.slice AN (m5 + 1) cN) (ws ++ [x.c])) := put (own_but (OS10.out.below hb11) hbut KW11.out.2.2 (fun k hk => hk.1.2))
            have HNW := put hnew
            have hO12 := (hbut.block B (Array.getElem?_eq_some_iff.1 hO11).1 (fun e => by obtain ⟨_, cur, hc⟩ := KW11.out.2.2 B e; rw [hO11] at hc; simp at hc)).trans hO11
            have HV12 : Kp (Own tVal 55 (fun _ => True) w12 wc.heap.size (.slice V2 x.c.new.length c2) x.c.new) := put (Own.vals ((Own.vals (ok' := fun _ => False) HV10.out).move (fun k hk => by
              have h1 := (hb11.block k (HV10.out.lt k hk).2)
              refine (hbut.block k (Nat.lt_of_lt_of_le (HV10.out.lt k hk).2 hb11.size) ?_).trans h1
              intro e
              obtain ⟨_, cur, hc⟩ := KW11.out.2.2 k e
              obtain ⟨_, cur2, h2⟩ := own_heap HV10.out hk
              rw [h1, h2] at hc
              simp at hc) (fun _ h => h.elim)))
            have KB12 : Kp (Below w.heap.size w w12) := put (KB11.out.trans (hbut.below KB11.out.size (fun k hk => (KW11.out.2.2 k hk).1)))
            have HC12 := put hC12
            have HO12 := put hO12
            have S412 : Kp (C < wc.heap.size ∧ wc.heap.size ≤ w12.heap.size) := put ⟨HCS.out, Nat.le_trans HS9.out (Nat.le_trans HBN.out.size (Nat.le_trans HB11.out.size HBU.out.size))⟩
            clear hrun hw12 hbut hC11 hT11 hO11 hb11 f0 f1 f2 f3
            go_wp2_with (at_builtin; refine wpList_append' rfl _ _ 32 rfl rfl rfl HRUN.out ?_; clear q0 q1 q2 q3 q4 q5; have f3 := cells4_3 HC12.out)
            obtain ⟨ln, hln⟩ : ∃ ln, ln = x.c.new.length := ⟨_, rfl⟩
            have HLN := put hln
            have hln20 : ln ≤ 20 := by rw [hln]; exact HX.out.2
            have KI12 : Kp (Ints w12 V2 ln (Value.slice V2 x.c.new.length c2).ownBlock) := put (by rw [hln]; exact Ints.of_own HV12.out (by have := HX.out.2; omega))
            rw [← hln] at f3 ⊢
            clear hln
            go_loopg [106] ln (fun kx s106 wr => ∃ (q : Nat), s106 = .int .i64 q ∧ q ≤ ln ∧ ln - q ≤ kx ∧ Kp (But (fun k => (Value.slice V2 x.c.new.length c2).ownBlock = some k) w12 wr) ∧ Kp (Ints wr V2 ln (Value.slice V2 x.c.new.length c2).ownBlock))
            case atStart => exact ⟨0, rfl, Nat.zero_le _, Nat.le_refl _, put ⟨rfl, rfl, rfl, Nat.le_refl _, fun _ _ _ => rfl⟩, KI12⟩
            case round =>
              clear f3
              obtain ⟨q, rfl, hq, hkxq, KBu, KIq⟩ := hrel
              have hCr := (KBu.out.block C (Nat.lt_of_lt_of_le S412.out.1 S412.out.2) (fun e => by have := (HV12.out.lt C e).1; have := S412.out.1; omega)).trans HC12.out
              have f3 := cells4_3 hCr
              rw [← HLN.out] at f3
              clear hCr
              by_cases hltq : q < ln
              · have hlzq : (q : Int) < (ln : Int) := by omega
                have q0' : (0 : Int) ≤ (q : Int) := by omega
                obtain ⟨az, u, rfl, hu, hf, hown2⟩ := KIq.out q hltq
                have HO2 := put hown2
                clear hown2
                go_wp2_with fail
                go_roundg (ln - (q + 1))
                case measure => omega
                case rel => exact ⟨q + 1, by go_num, by omega, Nat.le_refl _, put ⟨KBu.out.os, KBu.out.tape, KBu.out.output, (by simpa [World.setCell] using KBu.out.size), fun k hk hne => (Below.heap_setCell _ _ _ _ (by show k ≠ (az.add (q * 3)).block; rw [add_block]; exact fun e => hne (by rw [e]; exact HO2.out))).trans (KBu.out.block k hk hne)⟩, put (Ints.store KIq.out _ _)⟩
              · have hlzq : ¬ (q : Int) < (ln : Int) := by omega
                have hTr := (KBu.out.block T (Array.getElem?_eq_some_iff.1 KT12.out.cell).1 (fun e => by obtain ⟨_, cur, hc⟩ := own_heap HV12.out e; have h2 := KT12.out.cell; rw [hc] at h2; simp at h2)).trans KT12.out.cell
                have hBr := (KBu.out.block B (Array.getElem?_eq_some_iff.1 HO12.out).1 (fun e => by obtain ⟨_, cur, hc⟩ := own_heap HV12.out e; have h2 := HO12.out; rw [hc] at h2; simp at h2)).trans HO12.out
                have T9 := cell_of_heap hTr
                have P9 := stp_1 hBr
                have KT13 : Kp (Trk wr T w.heap.size AN (m5 + 1) cN (ws ++ [x.c]) (Value.slice A6 (m5 + 1) c6).ownBlock) := put ⟨hTr, (OS12.out.move (fun k hk => KBu.out.block k (OS12.out.lt k hk).2 (fun e => by obtain ⟨_, cur, hc⟩ := own_heap HV12.out e; obtain ⟨_, cur2, h2⟩ := own_heap OS12.out hk; rw [hc] at h2; simp at h2)) (fun k hk _ hlt => KBu.out.block k hlt (fun e => hk.1.2 e))).mono (fun k hk => ⟨hk.1.1.1, fun e => by rcases HNW.out k e.symm with h | h; (exact hk.1.1.2 h.symm); (have := hk.2; omega)⟩), KT12.out.len⟩
                have KW13 : Kp (Wrt wr w.heap.size A6 (m5 + 1) c6 (ws ++ [x.c])) := put (KW12.out.move (fun k hk hor => KBu.out.block k hk (fun e => by have h1 := (HV12.out.lt k e).1; rcases hor with h | ⟨_, cur, hc⟩; (have h2 := KB4.out.size; have h3 := HCW.out.2.size; omega); (obtain ⟨_, cur2, h2⟩ := own_heap HV12.out e; rw [hc] at h2; simp at h2))))
                have KF13 : Kp (Few (ws ++ [x.c])) := put ⟨by have := KT12.out.len; have := HG.out; omega, fun z hz => by rcases List.mem_append.1 hz with hz | hz; exact KF.out.2 z hz; (rw [List.mem_singleton.1 hz]; exact HX.out)⟩
                have KB13 : Kp (Below w.heap.size w wr) := put (KB12.out.trans (KBu.out.below KB12.out.size (fun k e => by have h1 := (HV12.out.lt k e).1; have h2 := KB4.out.size; have h3 := HCW.out.2.size; omega)))
                clear hTr hBr
                go_wp2_with (first | (go_at_call_of 30 (Value.pointer (some ⟨T, 0, none⟩)); refine (markCalls _ T _ _ _ T9).mono ?_; rintro e u2 ⟨rfl, rfl⟩) | (go_at_call 30; refine (markNil _).mono ?_; rintro e u3 ⟨rfl, rfl⟩) | (go_at_call 29; refine (sinceNil _ _).mono ?_; rintro e u4 ⟨rfl, rfl⟩))
                go_roundg (m - (i + 1))
                case measure => omega
                case rel => exact ⟨i + 1, ws ++ [x.c], A6, AN, m5 + 1, c6, cN, by go_num, by go_num, by omega, Nat.le_refl _, by omega, hm6, hc6, KT13, KW13, KF13, KB13⟩
          · have hk0' : (x.k == 0) = false := by simp [hk0]
            by_cases hk1 : x.k = 1
            · have hk1' : (x.k == 1) = true := by simp [hk1]
              have HNE : Kp (B ≠ T) := put (fun e => by have h1 := HO4.out; have h2 := KT4.out.cell; rw [e, h2] at h1; simp at h1)
              go_wp2_with fail
              refine (backCalls (fun k => k ≠ T ∧ some k ≠ (Value.slice A5 m5 c5).ownBlock) w4 T m5 cT AT x.n ws KT4.out.cell (KT4.out.slT KF.out KW4.out.2.2) (Nat.le_trans KF.out.1 (by decide)) (fun _ h => h.1)).mono ?_
              rintro e w5 ⟨⟨r, rfl⟩, A9, c9, hc9, ho9, hb9⟩
              have hkm : markOf x.n m5 ≤ m5 := Nat.min_le_right _ _
              have hkl : (ws.take (markOf x.n m5)).length = markOf x.n m5 := by rw [List.length_take, ← KT4.out.len]; exact Nat.min_eq_left hkm
              rw [hkl] at hc9 ho9
              have KT5 : Kp (Trk w5 T w.heap.size A9 (markOf x.n m5) c9 (ws.take (markOf x.n m5)) (Value.slice A5 m5 c5).ownBlock) := put ⟨hc9, (ho9.lower KB4.out.size).mono (fun k hk => hk.1), hkl.symm⟩
              have KW5 : Kp (Wrt w5 w.heap.size A5 m5 c5 ws) := put (KW4.out.move (fun k hk hor => hb9.block k hk (fun e => by subst e; rcases hor with h | ⟨_, cur, hc⟩; (have := HNT.out; omega); (have h2 := KT4.out.cell; rw [hc] at h2; simp at h2))))
              have KB5 : Kp (Below w.heap.size w w5) := put (KB4.out.trans (hb9.below KB4.out.size (fun k hk => by rw [hk]; exact HNT.out)))
              have KW6 : Kp (Wrt w5 w.heap.size A5 (markOf x.n m5) (markOf x.n m5) (ws.take (markOf x.n m5))) := put (KW5.out.short hkm)
              have p1 := (hb9.cell (p := ⟨B, 1, none⟩) hB4s HNE.out).trans q1
              have KF5 := put (KF.out.take (markOf x.n m5))
              have hA0 : A5 = none → c5 = 0 := (KW5.out.sl KF.out.1).row.2.2.2.2.2
              have t5 := cell_of_heap hc9
              clear hc9 ho9 hb9 hkl hmk
              generalize markOf x.n m5 = k at *
              generalize ws.take k = wk at *
              have k0 : (0 : Int) ≤ (k : Int) := by omega
              have km : (k : Int) ≤ (m5 : Int) := by omega
              have kc : (k : Int) ≤ (c5 : Int) := by omega
              have kkn : (((k : Nat) : Int) != (k : Int)) = false := by simp
              cases A5 with
              | none =>
                obtain rfl : c5 = 0 := hA0 rfl
                obtain rfl : m5 = 0 := by omega
                obtain rfl : k = 0 := by omega
                go_wp2_with (first | (go_at_call 28; refine (backNil _ _).mono ?_; rintro e u1 ⟨⟨r2, rfl⟩, rfl⟩) | (go_at_call_of 30 (Value.pointer (some ⟨T, 0, none⟩)); refine (markCalls _ T _ _ _ t5).mono ?_; rintro e u2 ⟨rfl, rfl⟩) | (go_at_call 30; refine (markNil _).mono ?_; rintro e u3 ⟨rfl, rfl⟩) | (go_at_call 29; refine (sinceNil _ _).mono ?_; rintro e u4 ⟨rfl, rfl⟩))
                go_roundg (m - (i + 1))
                case measure => omega
                case rel => exact ⟨i + 1, wk, _, A9, 0, 0, c9, rfl, by go_num, by omega, Nat.le_refl _, by omega, Nat.le_refl _, by omega, KT5, KW6, KF5, KB5⟩
              | some a5 =>
                go_wp2_with (first | (go_at_call 28; refine (backNil _ _).mono ?_; rintro e u1 ⟨⟨r2, rfl⟩, rfl⟩) | (go_at_call_of 30 (Value.pointer (some ⟨T, 0, none⟩)); refine (markCalls _ T _ _ _ t5).mono ?_; rintro e u2 ⟨rfl, rfl⟩) | (go_at_call 30; refine (markNil _).mono ?_; rintro e u3 ⟨rfl, rfl⟩) | (go_at_call 29; refine (sinceNil _ _).mono ?_; rintro e u4 ⟨rfl, rfl⟩))
                go_roundg (m - (i + 1))
                case measure => omega
                case rel => exact ⟨i + 1, wk, _, A9, k, k, c9, rfl, by go_num, by omega, Nat.le_refl _, by omega, Nat.le_refl _, by omega, KT5, KW6, KF5, KB5⟩
            · have hk1' : (x.k == 1) = false := by simp [hk1]
              have HNE : Kp (B ≠ T) := put (fun e => by have h1 := HO4.out; have h2 := KT4.out.cell; rw [e, h2] at h1; simp at h1)
              go_wp2_with fail
              refine (sinceCalls (fun _ => True) w4 T m5 cT AT x.n ws (cell_of_heap KT4.out.cell) (KT4.out.sl KF.out) (Nat.le_trans KF.out.1 (by decide)) KF.out.thousand).mono ?_
              rintro e w5 ⟨vo, rfl, ho, hb5⟩
              have hkm : markOf x.n m5 ≤ m5 := Nat.min_le_right _ _
              have HB5 := put hb5
              have p1 := (hb5.cell (p := ⟨B, 1, none⟩) hB4s).trans q1
              have KW5 := put (KW4.out.below hb5)
              have KWS := put (KW5.out.sl KF.out.1)
              have FY := put (KF.out.drop (markOf x.n m5))
              have HDR := KWS.out.drop hkm
              have t5 := (hb5.cell (p := ⟨T, 0, none⟩) (Array.getElem?_eq_some_iff.1 KT4.out.cell).1).trans (cell_of_heap KT4.out.cell)
              generalize hys : ws.drop (markOf x.n m5) = ys at *
              clear hys hb5 hmk
              generalize markOf x.n m5 = k at *
              have HU := put ho
              have NYL : Kp ((net ys).length ≤ 80) := put (Nat.le_trans (net_le ys) FY.out.1)
              have NY : Kp ((net ys).length ≤ 140737488355328) := put (Nat.le_trans NYL.out (by decide))
              have NY5 : Kp ((net ys).length ≤ 100000) := put (Nat.le_trans NYL.out (by decide))
              have LY : Kp (ys.length ≤ 1000) := put (Nat.le_trans FY.out.1 (by decide))
              obtain ⟨E1, d1, rfl, e11, e12⟩ := ho.form
              have S5 : Kp (∀ W, Below w5.heap.size w5 W → Sl tChg (fun _ => True) W (.slice E1 (net ys).length d1) (net ys)) := put (fun W hb => ((Own.plainer HU.out).sl (fun _ _ => trivial) (fun _ _ => trivial) NY.out).below hb)
              have hA0 : A5 = none → c5 = 0 := KWS.out.row.2.2.2.2.2
              have k0 : (0 : Int) ≤ (k : Int) := by omega
              have km : (k : Int) ≤ (m5 : Int) := by omega
              have mc : (m5 : Int) ≤ (c5 : Int) := by omega
              obtain ⟨n9, hn9⟩ : ∃ n9, n9 = (net ys).length := ⟨_, rfl⟩
              rw [← hn9] at HU S5 e11 ⊢
              have HN9 := put hn9
              clear ho hn9
              cases A5 with
              | none =>
                obtain rfl : c5 = 0 := hA0 rfl
                obtain rfl : m5 = 0 := by omega
                obtain rfl : k = 0 := by omega
                have KWD : Kp (∀ W, Below w5.heap.size w5 W → Sl tChg (fun _ => True) W (.slice none 0 0) ys) := put (fun W hb => by have h := HDR; simp only [if_true, Nat.sub_self] at h; exact h.below hb)
                clear HDR
                go_wp2_with fail
                go_region_held3 (fun _ => True) (exact trivial) (first | (go_at_call 16; refine (refSameCalls _ _ _ _ (net ys) (net ys) _ S6'.out S7.out).mono ?_; rintro e w8 ⟨rfl, qq, rfl⟩; rw [decide_eq_true (rfl : net ys = net ys)]) | (go_at_call 23; refine (refNetCalls _ _ ys _ (KWD.out _ (by (repeat (first | with_reducible exact (Below.refl _ _) | with_reducible exact HB6.out | with_reducible apply Below.drew | with_reducible refine balloc ?_ _)))) LY.out).mono ?_; rintro e w7 ⟨vo, rfl, ho, hb7⟩; rw [refNet_eq] at ho; have S6' := put (S6.out.below (Below.trans (by (repeat (first | with_reducible exact (Below.refl _ _) | with_reducible apply Below.drew | with_reducible refine balloc ?_ _))) (hb7.mono (bsize (w := w6) (by (repeat (first | with_reducible exact (Below.refl _ _) | with_reducible apply Below.drew | with_reducible refine balloc ?_ _))))))); have S7 : Kp (Sl tChg (fun _ => True) w7 vo (net ys)) := put (ho.sl (fun _ _ => trivial) (fun _ _ => trivial) NY.out); have hb : Below w5.heap.size w5 w7 := Below.trans (by (repeat (first | with_reducible exact (Below.refl _ _) | with_reducible exact HB6.out | with_reducible apply Below.drew | with_reducible refine balloc ?_ _))) (hb7.mono (bsize (w := w5) (by (repeat (first | with_reducible exact (Below.refl _ _) | with_reducible exact HB6.out | with_reducible apply Below.drew | with_reducible refine balloc ?_ _))))); obtain ⟨E3, d3, rfl, _, _⟩ := ho.form; have HB7 := put hb; clear ho hb7 hb) | (go_at_call 17; refine (plainCalls _ _ (net ys) _ (S5.out _ (by (repeat (first | with_reducible exact (Below.refl _ _) | with_reducible apply Below.drew | with_reducible refine balloc ?_ _)))) NY5.out).mono ?_; rintro e w6 ⟨vo, rfl, ho, hb6⟩; have S6 : Kp (Sl tChg (fun _ => True) w6 vo (net ys)) := put (ho.sl (fun _ _ => trivial) (fun _ _ => trivial) NY.out); have hb : Below w5.heap.size w5 w6 := Below.trans (by (repeat (first | with_reducible exact (Below.refl _ _) | with_reducible apply Below.drew | with_reducible refine balloc ?_ _))) (hb6.mono (bsize (w := w5) (by (repeat (first | with_reducible exact (Below.refl _ _) | with_reducible apply Below.drew | with_reducible refine balloc ?_ _))))); obtain ⟨E2, d2, rfl, _, _⟩ := ho.form; have HB6 := put hb; clear ho hb6 hb))
                all_goals
                  go_wp2_with fail
                  have hB8 : Below w4.heap.size w4 (w7.drewN qq) := HB5.out.trans ((Below.drewn HB7.out).mono HB5.out.size)
                  have KB8 := put hB8
                  have KM8 : Kp (∀ ad9, E1 = some ad9 → Mut (w7.drewN qq) ad9 n9 w4.heap.size) := put (fun ad9 e => by
                    subst e
                    have h := HU.out
                    rw [HN9.out] at h ⊢
                    exact Mut.of_own (h.below (Below.drewn HB7.out)) (fun x hx => by have := net_small FY.out.2 x hx; omega))
                  have HE : Kp (E1 = none → n9 = 0) := put (fun e => by have h := (S5.out _ (Below.refl _ _)).row; have := h.2.2.2.2.2 e; omega)
                  have n80 : n9 ≤ 80 := by rw [HN9.out]; exact NYL.out
                  clear hB8 S6 S6' S7 KWD S5 HU HB6 HB7
                  generalize w7.drewN qq = w8 at *
                  go_loopg [52] n9 (fun kx s52 wr => ∃ (j : Nat), s52 = .int .i64 j ∧ j ≤ n9 ∧ n9 - j ≤ kx ∧ Kp (Below w4.heap.size w4 wr) ∧ Kp (∀ ad9, E1 = some ad9 → Mut wr ad9 n9 w4.heap.size))
                  case atStart => exact ⟨0, rfl, Nat.zero_le _, Nat.le_refl _, KB8, KM8⟩
                  case round =>
                    clear KB8 KM8
                    obtain ⟨j, rfl, hj, hkx9, KB9, KM9⟩ := hrel
                    by_cases hlt9 : j < n9
                    · have hlz9 : (j : Int) < (n9 : Int) := by omega
                      have j0 : (0 : Int) ≤ (j : Int) := by omega
                      cases E1 with
                      | none => exact absurd (HE.out rfl) (by omega)
                      | some ad9 =>
                        obtain ⟨Z, ln, kz, hh, hln, hq⟩ := KM9.out ad9 rfl j hlt9
                        clear hq
                        go_wp2_with fail
                        go_loopg [61] ln (fun kx s61 wr => ∃ (q : Nat), s61 = .int .i64 q ∧ q ≤ ln ∧ ln - q ≤ kx ∧ Kp (Below w4.heap.size w4 wr) ∧ Kp (Mut wr ad9 n9 w4.heap.size) ∧ wr.cell? ⟨(ad9.add (j * 4)).block, (ad9.add (j * 4)).off + 3, none⟩ = some (.slice Z ln kz))
                        case atStart => exact ⟨0, rfl, Nat.zero_le _, Nat.le_refl _, KB9, put (KM9.out ad9 rfl), hh⟩
                        case round =>
                          clear KB9 KM9 hh
                          obtain ⟨q, rfl, hq, hkxq, KBq, KMq, hh⟩ := hrel
                          by_cases hltq : q < ln
                          · have hlzq : (q : Int) < (ln : Int) := by omega
                            have q0' : (0 : Int) ≤ (q : Int) := by omega
                            obtain ⟨Z', ln', kz', hh', _, h3⟩ := KMq.out j hlt9
                            rw [hh] at hh'
                            simp only [Option.some.injEq, Value.slice.injEq] at hh'
                            obtain ⟨rfl, rfl, rfl⟩ := hh'
                            obtain ⟨az, u, rfl, hu, hf, hne, hge⟩ := h3 q hltq
                            have HNG := put (And.intro hne hge)
                            clear h3 hne hge
                            go_wp2_with fail
                            go_roundg (ln - (q + 1))
                            case measure => omega
                            case rel => exact ⟨q + 1, by go_num, by omega, Nat.le_refl _, put (KBq.out.setCell (by show _ ≤ (az.add (q * 3)).block; rw [add_block]; exact HNG.out.2) _), put (Mut.store KMq.out (by show (az.add (q * 3)).block ≠ _; rw [add_block]; exact HNG.out.1) _), (World.cell?_of_block (Below.heap_setCell _ _ _ _ (by show (ad9.add (j * 4)).block ≠ (az.add (q * 3)).block; rw [add_block, add_block]; exact fun e => HNG.out.1 e.symm))).trans hh⟩
                          · have hlzq : ¬ (q : Int) < (ln : Int) := by omega
                            go_wp2_with fail
                            go_roundg (n9 - (j + 1))
                            case measure => omega
                            case rel => exact ⟨j + 1, by go_num, by omega, Nat.le_refl _, KBq, put (fun ad e => by injection e with e; subst e; exact KMq.out)⟩
                    · have hlz9 : ¬ (j : Int) < (n9 : Int) := by omega
                      have T9 := cell_of_heap (KT4.out.below KB9.out).cell
                      have P9 := (KB9.out.cell (p := ⟨B, 1, none⟩) hB4s).trans q1
                      go_wp2_with (first | (go_at_call_of 30 (Value.pointer (some ⟨T, 0, none⟩)); refine (markCalls _ T _ _ _ T9).mono ?_; rintro e u2 ⟨rfl, rfl⟩) | (go_at_call 30; refine (markNil _).mono ?_; rintro e u3 ⟨rfl, rfl⟩) | (go_at_call 29; refine (sinceNil _ _).mono ?_; rintro e u4 ⟨rfl, rfl⟩))
                      go_roundg (m - (i + 1))
                      case measure => omega
                      case rel => exact ⟨i + 1, ws, _, AT, _, _, cT, rfl, by go_num, by omega, Nat.le_refl _, by omega, by omega, by omega, put (KT4.out.below KB9.out), put (KW4.out.below KB9.out), KF, put (KB4.out.trans (KB9.out.mono KB4.out.size))⟩
              | some a5 =>
                by_cases hck : c5 = k
                · obtain rfl : c5 = m5 := by omega
                  obtain rfl : k = c5 := by omega
                  rw [if_pos rfl, Nat.sub_self] at HDR
                  have KWD : Kp (∀ W, Below w5.heap.size w5 W → Sl tChg (fun _ => True) W (.slice (some a5) 0 0) ys) := put (fun W hb => HDR.below hb)
                  clear HDR hck
                  go_wp2_with fail
                  go_region_held3 (fun _ => True) (exact trivial) (first | (go_at_call 16; refine (refSameCalls _ _ _ _ (net ys) (net ys) _ S6'.out S7.out).mono ?_; rintro e w8 ⟨rfl, qq, rfl⟩; rw [decide_eq_true (rfl : net ys = net ys)]) | (go_at_call 23; refine (refNetCalls _ _ ys _ (KWD.out _ (by (repeat (first | with_reducible exact (Below.refl _ _) | with_reducible exact HB6.out | with_reducible apply Below.drew | with_reducible refine balloc ?_ _)))) LY.out).mono ?_; rintro e w7 ⟨vo, rfl, ho, hb7⟩; rw [refNet_eq] at ho; have S6' := put (S6.out.below (Below.trans (by (repeat (first | with_reducible exact (Below.refl _ _) | with_reducible apply Below.drew | with_reducible refine balloc ?_ _))) (hb7.mono (bsize (w := w6) (by (repeat (first | with_reducible exact (Below.refl _ _) | with_reducible apply Below.drew | with_reducible refine balloc ?_ _))))))); have S7 : Kp (Sl tChg (fun _ => True) w7 vo (net ys)) := put (ho.sl (fun _ _ => trivial) (fun _ _ => trivial) NY.out); have hb : Below w5.heap.size w5 w7 := Below.trans (by (repeat (first | with_reducible exact (Below.refl _ _) | with_reducible exact HB6.out | with_reducible apply Below.drew | with_reducible refine balloc ?_ _))) (hb7.mono (bsize (w := w5) (by (repeat (first | with_reducible exact (Below.refl _ _) | with_reducible exact HB6.out | with_reducible apply Below.drew | with_reducible refine balloc ?_ _))))); obtain ⟨E3, d3, rfl, _, _⟩ := ho.form; have HB7 := put hb; clear ho hb7 hb) | (go_at_call 17; refine (plainCalls _ _ (net ys) _ (S5.out _ (by (repeat (first | with_reducible exact (Below.refl _ _) | with_reducible apply Below.drew | with_reducible refine balloc ?_ _)))) NY5.out).mono ?_; rintro e w6 ⟨vo, rfl, ho, hb6⟩; have S6 : Kp (Sl tChg (fun _ => True) w6 vo (net ys)) := put (ho.sl (fun _ _ => trivial) (fun _ _ => trivial) NY.out); have hb : Below w5.heap.size w5 w6 := Below.trans (by (repeat (first | with_reducible exact (Below.refl _ _) | with_reducible apply Below.drew | with_reducible refine balloc ?_ _))) (hb6.mono (bsize (w := w5) (by (repeat (first | with_reducible exact (Below.refl _ _) | with_reducible apply Below.drew | with_reducible refine balloc ?_ _))))); obtain ⟨E2, d2, rfl, _, _⟩ := ho.form; have HB6 := put hb; clear ho hb6 hb))
                  all_goals
                    go_wp2_with fail
                    have hB8 : Below w4.heap.size w4 (w7.drewN qq) := HB5.out.trans ((Below.drewn HB7.out).mono HB5.out.size)
                    have KB8 := put hB8
                    have KM8 : Kp (∀ ad9, E1 = some ad9 → Mut (w7.drewN qq) ad9 n9 w4.heap.size) := put (fun ad9 e => by
                      subst e
                      have h := HU.out
                      rw [HN9.out] at h ⊢
                      exact Mut.of_own (h.below (Below.drewn HB7.out)) (fun x hx => by have := net_small FY.out.2 x hx; omega))
                    have HE : Kp (E1 = none → n9 = 0) := put (fun e => by have h := (S5.out _ (Below.refl _ _)).row; have := h.2.2.2.2.2 e; omega)
                    have n80 : n9 ≤ 80 := by rw [HN9.out]; exact NYL.out
                    clear hB8 S6 S6' S7 KWD S5 HU HB6 HB7
                    generalize w7.drewN qq = w8 at *
                    go_loopg [52] n9 (fun kx s52 wr => ∃ (j : Nat), s52 = .int .i64 j ∧ j ≤ n9 ∧ n9 - j ≤ kx ∧ Kp (Below w4.heap.size w4 wr) ∧ Kp (∀ ad9, E1 = some ad9 → Mut wr ad9 n9 w4.heap.size))
                    case atStart => exact ⟨0, rfl, Nat.zero_le _, Nat.le_refl _, KB8, KM8⟩
                    case round =>
                      clear KB8 KM8
                      obtain ⟨j, rfl, hj, hkx9, KB9, KM9⟩ := hrel
                      by_cases hlt9 : j < n9
                      · have hlz9 : (j : Int) < (n9 : Int) := by omega
                        have j0 : (0 : Int) ≤ (j : Int) := by omega
                        cases E1 with
                        | none => exact absurd (HE.out rfl) (by omega)
                        | some ad9 =>
                          obtain ⟨Z, ln, kz, hh, hln, hq⟩ := KM9.out ad9 rfl j hlt9
                          clear hq
                          go_wp2_with fail
                          go_loopg [61] ln (fun kx s61 wr => ∃ (q : Nat), s61 = .int .i64 q ∧ q ≤ ln ∧ ln - q ≤ kx ∧ Kp (Below w4.heap.size w4 wr) ∧ Kp (Mut wr ad9 n9 w4.heap.size) ∧ wr.cell? ⟨(ad9.add (j * 4)).block, (ad9.add (j * 4)).off + 3, none⟩ = some (.slice Z ln kz))
                          case atStart => exact ⟨0, rfl, Nat.zero_le _, Nat.le_refl _, KB9, put (KM9.out ad9 rfl), hh⟩
                          case round =>
                            clear KB9 KM9 hh
                            obtain ⟨q, rfl, hq, hkxq, KBq, KMq, hh⟩ := hrel
                            by_cases hltq : q < ln
                            · have hlzq : (q : Int) < (ln : Int) := by omega
                              have q0' : (0 : Int) ≤ (q : Int) := by omega
                              obtain ⟨Z', ln', kz', hh', _, h3⟩ := KMq.out j hlt9
                              rw [hh] at hh'
                              simp only [Option.some.injEq, Value.slice.injEq] at hh'
                              obtain ⟨rfl, rfl, rfl⟩ := hh'
                              obtain ⟨az, u, rfl, hu, hf, hne, hge⟩ := h3 q hltq
                              have HNG := put (And.intro hne hge)
                              clear h3 hne hge
                              go_wp2_with fail
                              go_roundg (ln - (q + 1))
                              case measure => omega
                              case rel => exact ⟨q + 1, by go_num, by omega, Nat.le_refl _, put (KBq.out.setCell (by show _ ≤ (az.add (q * 3)).block; rw [add_block]; exact HNG.out.2) _), put (Mut.store KMq.out (by show (az.add (q * 3)).block ≠ _; rw [add_block]; exact HNG.out.1) _), (World.cell?_of_block (Below.heap_setCell _ _ _ _ (by show (ad9.add (j * 4)).block ≠ (az.add (q * 3)).block; rw [add_block, add_block]; exact fun e => HNG.out.1 e.symm))).trans hh⟩
                            · have hlzq : ¬ (q : Int) < (ln : Int) := by omega
                              go_wp2_with fail
                              go_roundg (n9 - (j + 1))
                              case measure => omega
                              case rel => exact ⟨j + 1, by go_num, by omega, Nat.le_refl _, KBq, put (fun ad e => by injection e with e; subst e; exact KMq.out)⟩
                      · have hlz9 : ¬ (j : Int) < (n9 : Int) := by omega
                        have T9 := cell_of_heap (KT4.out.below KB9.out).cell
                        have P9 := (KB9.out.cell (p := ⟨B, 1, none⟩) hB4s).trans q1
                        go_wp2_with (first | (go_at_call_of 30 (Value.pointer (some ⟨T, 0, none⟩)); refine (markCalls _ T _ _ _ T9).mono ?_; rintro e u2 ⟨rfl, rfl⟩) | (go_at_call 30; refine (markNil _).mono ?_; rintro e u3 ⟨rfl, rfl⟩) | (go_at_call 29; refine (sinceNil _ _).mono ?_; rintro e u4 ⟨rfl, rfl⟩))
                        go_roundg (m - (i + 1))
                        case measure => omega
                        case rel => exact ⟨i + 1, ws, _, AT, _, _, cT, rfl, by go_num, by omega, Nat.le_refl _, by omega, by omega, by omega, put (KT4.out.below KB9.out), put (KW4.out.below KB9.out), KF, put (KB4.out.trans (KB9.out.mono KB4.out.size))⟩
                · rw [if_neg hck] at HDR
                  have KWD : Kp (∀ W, Below w5.heap.size w5 W → Sl tChg (fun _ => True) W (.slice (some (a5.add (k * 4))) (m5 - k) (c5 - k)) ys) := put (fun W hb => HDR.below hb)
                  clear HDR
                  go_wp2_with fail
                  go_region_held3 (fun _ => True) (exact trivial) (first | (go_at_call 16; refine (refSameCalls _ _ _ _ (net ys) (net ys) _ S6'.out S7.out).mono ?_; rintro e w8 ⟨rfl, qq, rfl⟩; rw [decide_eq_true (rfl : net ys = net ys)]) | (go_at_call 23; refine (refNetCalls _ _ ys _ (KWD.out _ (by (repeat (first | with_reducible exact (Below.refl _ _) | with_reducible exact HB6.out | with_reducible apply Below.drew | with_reducible refine balloc ?_ _)))) LY.out).mono ?_; rintro e w7 ⟨vo, rfl, ho, hb7⟩; rw [refNet_eq] at ho; have S6' := put (S6.out.below (Below.trans (by (repeat (first | with_reducible exact (Below.refl _ _) | with_reducible apply Below.drew | with_reducible refine balloc ?_ _))) (hb7.mono (bsize (w := w6) (by (repeat (first | with_reducible exact (Below.refl _ _) | with_reducible apply Below.drew | with_reducible refine balloc ?_ _))))))); have S7 : Kp (Sl tChg (fun _ => True) w7 vo (net ys)) := put (ho.sl (fun _ _ => trivial) (fun _ _ => trivial) NY.out); have hb : Below w5.heap.size w5 w7 := Below.trans (by (repeat (first | with_reducible exact (Below.refl _ _) | with_reducible exact HB6.out | with_reducible apply Below.drew | with_reducible refine balloc ?_ _))) (hb7.mono (bsize (w := w5) (by (repeat (first | with_reducible exact (Below.refl _ _) | with_reducible exact HB6.out | with_reducible apply Below.drew | with_reducible refine balloc ?_ _))))); obtain ⟨E3, d3, rfl, _, _⟩ := ho.form; have HB7 := put hb; clear ho hb7 hb) | (go_at_call 17; refine (plainCalls _ _ (net ys) _ (S5.out _ (by (repeat (first | with_reducible exact (Below.refl _ _) | with_reducible apply Below.drew | with_reducible refine balloc ?_ _)))) NY5.out).mono ?_; rintro e w6 ⟨vo, rfl, ho, hb6⟩; have S6 : Kp (Sl tChg (fun _ => True) w6 vo (net ys)) := put (ho.sl (fun _ _ => trivial) (fun _ _ => trivial) NY.out); have hb : Below w5.heap.size w5 w6 := Below.trans (by (repeat (first | with_reducible exact (Below.refl _ _) | with_reducible apply Below.drew | with_reducible refine balloc ?_ _))) (hb6.mono (bsize (w := w5) (by (repeat (first | with_reducible exact (Below.refl _ _) | with_reducible apply Below.drew | with_reducible refine balloc ?_ _))))); obtain ⟨E2, d2, rfl, _, _⟩ := ho.form; have HB6 := put hb; clear ho hb6 hb))
                  all_goals
                    go_wp2_with fail
                    have hB8 : Below w4.heap.size w4 (w7.drewN qq) := HB5.out.trans ((Below.drewn HB7.out).mono HB5.out.size)
                    have KB8 := put hB8
                    have KM8 : Kp (∀ ad9, E1 = some ad9 → Mut (w7.drewN qq) ad9 n9 w4.heap.size) := put (fun ad9 e => by
                      subst e
                      have h := HU.out
                      rw [HN9.out] at h ⊢
                      exact Mut.of_own (h.below (Below.drewn HB7.out)) (fun x hx => by have := net_small FY.out.2 x hx; omega))
                    have HE : Kp (E1 = none → n9 = 0) := put (fun e => by have h := (S5.out _ (Below.refl _ _)).row; have := h.2.2.2.2.2 e; omega)
                    have n80 : n9 ≤ 80 := by rw [HN9.out]; exact NYL.out
                    clear hB8 S6 S6' S7 KWD S5 HU HB6 HB7
                    generalize w7.drewN qq = w8 at *
                    go_loopg [52] n9 (fun kx s52 wr => ∃ (j : Nat), s52 = .int .i64 j ∧ j ≤ n9 ∧ n9 - j ≤ kx ∧ Kp (Below w4.heap.size w4 wr) ∧ Kp (∀ ad9, E1 = some ad9 → Mut wr ad9 n9 w4.heap.size))
                    case atStart => exact ⟨0, rfl, Nat.zero_le _, Nat.le_refl _, KB8, KM8⟩
                    case round =>
                      clear KB8 KM8
                      obtain ⟨j, rfl, hj, hkx9, KB9, KM9⟩ := hrel
                      by_cases hlt9 : j < n9
                      · have hlz9 : (j : Int) < (n9 : Int) := by omega
                        have j0 : (0 : Int) ≤ (j : Int) := by omega
                        cases E1 with
                        | none => exact absurd (HE.out rfl) (by omega)
                        | some ad9 =>
                          obtain ⟨Z, ln, kz, hh, hln, hq⟩ := KM9.out ad9 rfl j hlt9
                          clear hq
                          go_wp2_with fail
                          go_loopg [61] ln (fun kx s61 wr => ∃ (q : Nat), s61 = .int .i64 q ∧ q ≤ ln ∧ ln - q ≤ kx ∧ Kp (Below w4.heap.size w4 wr) ∧ Kp (Mut wr ad9 n9 w4.heap.size) ∧ wr.cell? ⟨(ad9.add (j * 4)).block, (ad9.add (j * 4)).off + 3, none⟩ = some (.slice Z ln kz))
                          case atStart => exact ⟨0, rfl, Nat.zero_le _, Nat.le_refl _, KB9, put (KM9.out ad9 rfl), hh⟩
                          case round =>
                            clear KB9 KM9 hh
                            obtain ⟨q, rfl, hq, hkxq, KBq, KMq, hh⟩ := hrel
                            by_cases hltq : q < ln
                            · have hlzq : (q : Int) < (ln : Int) := by omega
                              have q0' : (0 : Int) ≤ (q : Int) := by omega
                              obtain ⟨Z', ln', kz', hh', _, h3⟩ := KMq.out j hlt9
                              rw [hh] at hh'
                              simp only [Option.some.injEq, Value.slice.injEq] at hh'
                              obtain ⟨rfl, rfl, rfl⟩ := hh'
                              obtain ⟨az, u, rfl, hu, hf, hne, hge⟩ := h3 q hltq
                              have HNG := put (And.intro hne hge)
                              clear h3 hne hge
                              go_wp2_with fail
                              go_roundg (ln - (q + 1))
                              case measure => omega
                              case rel => exact ⟨q + 1, by go_num, by omega, Nat.le_refl _, put (KBq.out.setCell (by show _ ≤ (az.add (q * 3)).block; rw [add_block]; exact HNG.out.2) _), put (Mut.store KMq.out (by show (az.add (q * 3)).block ≠ _; rw [add_block]; exact HNG.out.1) _), (World.cell?_of_block (Below.heap_setCell _ _ _ _ (by show (ad9.add (j * 4)).block ≠ (az.add (q * 3)).block; rw [add_block, add_block]; exact fun e => HNG.out.1 e.symm))).trans hh⟩
                            · have hlzq : ¬ (q : Int) < (ln : Int) := by omega
                              go_wp2_with fail
                              go_roundg (n9 - (j + 1))
                              case measure => omega
                              case rel => exact ⟨j + 1, by go_num, by omega, Nat.le_refl _, KBq, put (fun ad e => by injection e with e; subst e; exact KMq.out)⟩
                      · have hlz9 : ¬ (j : Int) < (n9 : Int) := by omega
                        have T9 := cell_of_heap (KT4.out.below KB9.out).cell
                        have P9 := (KB9.out.cell (p := ⟨B, 1, none⟩) hB4s).trans q1
                        go_wp2_with (first | (go_at_call_of 30 (Value.pointer (some ⟨T, 0, none⟩)); refine (markCalls _ T _ _ _ T9).mono ?_; rintro e u2 ⟨rfl, rfl⟩) | (go_at_call 30; refine (markNil _).mono ?_; rintro e u3 ⟨rfl, rfl⟩) | (go_at_call 29; refine (sinceNil _ _).mono ?_; rintro e u4 ⟨rfl, rfl⟩))
                        go_roundg (m - (i + 1))
                        case measure => omega
                        case rel => exact ⟨i + 1, ws, _, AT, _, _, cT, rfl, by go_num, by omega, Nat.le_refl _, by omega, by omega, by omega, put (KT4.out.below KB9.out), put (KW4.out.below KB9.out), KF, put (KB4.out.trans (KB9.out.mono KB4.out.size))⟩
      · have hlz : ¬ (i : Int) < (m : Int) := by omega
        go_wp2_with fail
        have NW : Kp ((net ws).length ≤ 140737488355328) := put (Nat.le_trans (net_le ws) KF.out.big)
        have NW5 : Kp ((net ws).length ≤ 100000) := put (Nat.le_trans (net_le ws) (Nat.le_trans KF.out.1 (by decide)))
        refine (sinceCalls (fun _ => True) wr T m5 cT AT 0 ws (cell_of_heap KT.out.cell) (KT.out.sl KF.out) (Nat.le_trans KF.out.1 (by decide)) KF.out.thousand).mono ?_
        rintro e u1 ⟨vo, rfl, ho, hb⟩
        rw [show ws.drop (markOf 0 m5) = ws from by simp [markOf]] at ho
        have KB1 := put (KB.out.trans (hb.mono KB.out.size))
        have KW1 := put (KW.out.below hb)
        have S1 : Kp (Sl tChg (fun _ => True) u1 vo (net ws)) := put ((Own.plainer ho).sl (fun _ _ => trivial) (fun _ _ => trivial) NW.out)
        obtain ⟨E1, d1, rfl, _, _⟩ := ho.form
        clear ho hb
        go_wp2_with fail
        refine (plainCalls _ _ (net ws) u1 S1.out NW5.out).mono ?_
        rintro e u2 ⟨vo, rfl, ho, hb⟩
        have KB2 := put (KB1.out.trans (hb.mono KB1.out.size))
        have KW2 := put (KW1.out.below hb)
        have S2 : Kp (Sl tChg (fun _ => True) u2 vo (net ws)) := put (ho.sl (fun _ _ => trivial) (fun _ _ => trivial) NW.out)
        obtain ⟨E2, d2, rfl, _, _⟩ := ho.form
        clear ho hb S1 KW1
        go_wp2_with fail
        refine (refNetCalls _ _ ws u2 (KW2.out.sl KF.out.1) (Nat.le_trans KF.out.1 (by decide))).mono ?_
        rintro e u3 ⟨vo, rfl, ho, hb⟩
        rw [refNet_eq] at ho
        have KB3 := put (KB2.out.trans (hb.mono KB2.out.size))
        have S2' := put (S2.out.below hb)
        have S3 : Kp (Sl tChg (fun _ => True) u3 vo (net ws)) := put (ho.sl (fun _ _ => trivial) (fun _ _ => trivial) NW.out)
        obtain ⟨E3, d3, rfl, _, _⟩ := ho.form
        clear ho hb S2
        go_wp2_with fail
        refine (refSameCalls _ _ _ _ (net ws) (net ws) u3 S2'.out S3.out).mono ?_
        rintro e u5 ⟨rfl, qq, rfl⟩
        rw [decide_eq_true (rfl : net ws = net ws)]
        go_wp2_with fail
        go_ret
        exact ⟨rfl, Below.drewn KB3.out⟩
end Go.Proofs.Ytkfoknjflpklpaa.D
