/- The reports' example. -/
import Derived.Test.YtkfoknjflpklpaaPSort
import Derived.Test.YtkfoknjflpklpaaPMake
namespace Go.Proofs.Ytkfoknjflpklpaa.P
open Go Go.RowKit Go.Sort Go.Proofs.Ytkfoknjflpklpaa.Mem Go.Proofs.Ytkfoknjflpklpaa.Cmp Go.Proofs.Ytkfoknjflpklpaa.D

/-- These cells read as these values. -/
def Reads {α : Type} (d : Ty α) (ok : Nat → Prop) (w : World) : List α → List (List Value) → Prop
  | [], [] => True
  | x :: xs, c :: cs => d.R ok w x c ∧ Reads d ok w xs cs
  | _, _ => False
theorem Reads.get {α : Type} {d : Ty α} {ok : Nat → Prop} {w : World} : ∀ {xs : List α} {cs : List (List Value)}, Reads d ok w xs cs → cs.length = xs.length ∧ ∀ (i : Nat) (x : α) (c : List Value), xs[i]? = some x → cs[i]? = some c → d.R ok w x c
  | [], [], _ => ⟨rfl, fun i x c h => by simp at h⟩
  | [], _ :: _, h => h.elim
  | _ :: _, [], h => h.elim
  | x :: xs, c :: cs, ⟨h, hr⟩ => by
    obtain ⟨h1, h2⟩ := Reads.get hr
    refine ⟨by simp [h1], fun i y e hy he => ?_⟩
    cases i with
    | zero =>
      simp only [List.getElem?_cons_zero, Option.some.injEq] at hy he
      subst hy; subst he; exact h
    | succ i => exact h2 i y e (by simpa using hy) (by simpa using he)
/-- A literal. -/
theorem Sl.lit {α : Type} {d : Ty α} {ok : Nat → Prop} {w : World} {b : Nat} {t : TypeId} {xs : List α} (cells : List (List Value)) (h : w.heap[b]? = some (.cells cells.flatten.toArray t (0, 0))) (hr : Reads d ok w xs cells) (hb : ok b) (hn : xs.length ≤ 140737488355328) : Sl d ok w (.slice (some ⟨b, 0, none⟩) xs.length xs.length) xs := by
  obtain ⟨hl, hg⟩ := hr.get
  refine ⟨_, xs.length, rfl, Nat.le_refl _, by omega, hn, fun e => (by cases e), fun _ => ⟨_, rfl, hb, (Array.getElem?_eq_some_iff.1 h).1, fun i x hx => ?_⟩⟩
  have hi : i < cells.length := by rw [hl]; exact (List.getElem?_eq_some_iff.1 hx).1
  refine ⟨cells[i], hg i x _ hx (List.getElem?_eq_getElem hi), fun j u hj => ?_⟩
  exact Go.World.news_of_block h _ u (flat_get cells (Own.lens (w := w) hl hg) i _ j u (List.getElem?_eq_getElem hi) hj)

def rowA (s : ByteArray) (n : Int) : List Val := [⟨3, 0, s⟩, ⟨2, n, ⟨#[]⟩⟩]
set_option maxHeartbeats 4000000 in
theorem rowCalls28 (s : ByteArray) (n : Int) (w : World) : Calls Try.prog 66 #[.string s, .int .i64 n] w fun e w' => e = .returned (.slice (some ⟨w.heap.size, 0, none⟩) 2 2) ∧ w.alloc (.cells #[.int .i64 3, .int .i64 0, .string s, .int .i64 2, .int .i64 n, .string ⟨#[]⟩] 55) = w' := by
  go_enter Try.func66, Try.ntmps66
  go_wp2
  go_ret
  exact ⟨rfl, rfl⟩
theorem rowA_sl {ok : Nat → Prop} {w : World} {b : Nat} {s : ByteArray} {n : Int} (h : w.heap[b]? = some (.cells #[.int .i64 3, .int .i64 0, .string s, .int .i64 2, .int .i64 n, .string ⟨#[]⟩] 55 (0, 0))) (hb : ok b) : Sl tVal ok w (.slice (some ⟨b, 0, none⟩) 2 2) (rowA s n) :=
  Sl.lit (d := tVal) (xs := rowA s n) [[.int .i64 3, .int .i64 0, .string s], [.int .i64 2, .int .i64 n, .string ⟨#[]⟩]] h ⟨rfl, rfl, trivial⟩ hb (by simp [rowA])
def rowsA : List (List Val) := [rowA ⟨#[97]⟩ 1, rowA ⟨#[98]⟩ 5, rowA ⟨#[97]⟩ 2]
def specA : Spc := ⟨[0], [⟨3, 1⟩], [], -1⟩
def specB : Spc := ⟨[0], [⟨3, 1⟩], [⟨1, true⟩], 1⟩
theorem makeA : makeR rowsA specA = ([rowA ⟨#[97]⟩ 3, rowA ⟨#[98]⟩ 5], 0) := by decide +kernel
theorem makeB : makeR rowsA specB = ([rowA ⟨#[98]⟩ 5], 0) := by decide +kernel
theorem rowsA_in : ∀ r ∈ rowsA, ∀ y ∈ r, InR y.n := by unfold InR; decide +kernel
end Go.Proofs.Ytkfoknjflpklpaa.P
