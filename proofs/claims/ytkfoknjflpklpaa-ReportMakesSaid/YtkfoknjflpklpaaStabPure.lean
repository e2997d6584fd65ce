/- The stable sort of Go's library (insertion sort of blocks, symmetric merges, rotations) as plain functions over arrays, and that it is a stable sort. -/
import Derived.Sort.LotA
namespace Go.Proofs.Ytkfoknjflpklpaa.Stab
open Go.Sort
variable {α : Type} [Inhabited α]

/-! ### the functions, row for row -/
/-- 'for ; i < n; i++ { swap a+i, b+i }', from i. -/
def swapFrom (a b n i : Nat) (d : Array α) : Array α := if i < n then swapFrom a b n (i + 1) (swp d (a + i) (b + i)) else d
termination_by n - i

/-- The loop of rotate and what follows it. -/
def rotLoop (m i j : Nat) (d : Array α) : Array α :=
  if i = 0 ∨ j = 0 then d else
  if i = j then swapFrom (m - i) m i 0 d else
  if i > j then rotLoop m (i - j) j (swapFrom (m - i) m j 0 d) else rotLoop m i (j - i) (swapFrom (m - i) (m + j - i) i 0 d)
termination_by i + j

def rotate (a m b : Nat) (d : Array α) : Array α := rotLoop m (m - a) (b - m) d

/-- The binary search: from [i, j). -/
def search (p : Nat → Bool) (i j : Nat) : Nat := if i < j then (if p ((i + j) / 2) then search p ((i + j) / 2 + 1) j else search p i ((i + j) / 2)) else i
termination_by j - i

/-- 'for ; k < e; k++ { swap k, k+1 }'. -/
def shUp (k e : Nat) (d : Array α) : Array α := if k < e then shUp (k + 1) e (swp d k (k + 1)) else d
termination_by e - k

/-- 'for ; k > i; k-- { swap k, k-1 }'. -/
def shDn (i : Nat) : Nat → Array α → Array α
  | 0, d => d
  | k + 1, d => if i < k + 1 then shDn i k (swp d (k + 1) k) else d

section
variable (lt : α → α → Bool)

def symStart (d : Array α) (a m b : Nat) : Nat :=
  let mid := (a + b) / 2
  let n := mid + m
  let p := fun c => !lt d[n - 1 - c]! d[c]!
  if m > mid then search p (n - b) mid else search p a m

def symMerge (d : Array α) (a m b : Nat) : Array α :=
  if m = a + 1 then
    let i := search (fun h => lt d[h]! d[a]!) m b
    shUp a (i - 1) d
  else if b = m + 1 then
    let i := search (fun h => !lt d[m]! d[h]!) a m
    shDn i m d
  else
    let mid := (a + b) / 2
    let start := symStart lt d a m b
    let e := mid + m - start
    let d1 := if start < m ∧ m < e then rotate start m e d else d
    let d2 := if _h : a < start ∧ start < mid ∧ mid < b then symMerge d1 a start mid else d1
    if _h : mid < e ∧ e < b ∧ a < mid then symMerge d2 mid e b else d2
termination_by b - a

/-- The blocks: from [a, b) on; then the last one. -/
def insBlocks (bs n : Nat) (a b : Nat) (d : Array α) : Array α :=
  if b ≤ n ∧ 0 < bs then insBlocks bs n b (b + bs) (insertionSort lt d a b) else insertionSort lt d a n
termination_by n + bs - b
decreasing_by omega

def mergePass (bs n : Nat) (a b : Nat) (d : Array α) : Array α :=
  if b ≤ n ∧ 0 < bs then mergePass bs n b (b + 2 * bs) (symMerge lt d a (a + bs) b) else
  if a + bs < n then symMerge lt d a (a + bs) n else d
termination_by n + 2 * bs - b
decreasing_by omega

def mergeAll (bs n : Nat) (d : Array α) : Array α :=
  if bs < n ∧ 0 < bs then mergeAll (bs * 2) n (mergePass lt bs n 0 (2 * bs) d) else d
termination_by n - bs
decreasing_by omega

def stable (d : Array α) : Array α := mergeAll lt 20 d.size (insBlocks lt 20 d.size 0 20 d)
end

/-! ### sizes -/
theorem size_swapFrom (a b n : Nat) : ∀ (k i : Nat) (d : Array α), n - i = k → (swapFrom a b n i d).size = d.size := by
  intro k
  induction k with
  | zero => intro i d h; rw [swapFrom, if_neg (by omega)]
  | succ k ih => intro i d h; rw [swapFrom, if_pos (by omega), ih _ _ (by omega), size_swp]

theorem get_swapFrom (a b n : Nat) : ∀ (k i : Nat) (d : Array α), n - i = k → a + n ≤ b → b + n ≤ d.size → ∀ x,
    (swapFrom a b n i d)[x]! = if a + i ≤ x ∧ x < a + n then d[x + (b - a)]! else if b + i ≤ x ∧ x < b + n then d[x - (b - a)]! else d[x]! := by
  intro k
  induction k with
  | zero => intro i d h h1 h2 x; rw [swapFrom, if_neg (by omega), if_neg (by omega), if_neg (by omega)]
  | succ k ih =>
    intro i d h h1 h2 x
    rw [swapFrom, if_pos (by omega), ih _ _ (by omega) h1 (by rw [size_swp]; exact h2)]
    have g := fun y => swp_get d (show a + i < d.size by omega) (show b + i < d.size by omega) y
    by_cases c1 : a + i ≤ x ∧ x < a + n
    · rw [if_pos c1]
      by_cases c2 : x = a + i
      · subst c2
        rw [if_neg (by omega), if_neg (by omega), g, if_neg (by omega), if_pos rfl]
        congr 1; omega
      · rw [if_pos (by omega), g, if_neg (by omega), if_neg (by omega)]
    · rw [if_neg c1]
      by_cases c3 : b + i ≤ x ∧ x < b + n
      · rw [if_pos c3]
        by_cases c4 : x = b + i
        · subst c4
          rw [if_neg (by omega), if_neg (by omega), g, if_pos rfl]
          congr 1; omega
        · rw [if_neg (by omega), if_pos (by omega), g, if_neg (by omega), if_neg (by omega)]
      · rw [if_neg c3, if_neg (by omega), if_neg (by omega), g, if_neg (by omega), if_neg (by omega)]

theorem perm_swapFrom (a b n : Nat) (lo hi : Nat) : ∀ (k i : Nat) (d : Array α), n - i = k → lo ≤ a → a + n ≤ hi → lo ≤ b → b + n ≤ hi → hi ≤ d.size → PermIn lo hi d (swapFrom a b n i d) := by
  intro k
  induction k with
  | zero => intro i d h _ _ _ _ _; rw [swapFrom, if_neg (by omega)]; exact permIn_refl _ _ _
  | succ k ih =>
    intro i d h h1 h2 h3 h4 h5
    rw [swapFrom, if_pos (by omega)]
    exact permIn_trans _ _ _ _ _ (swp_permIn d lo hi (a + i) (b + i) (by omega) (by omega) (by omega) (by omega) h5) (ih _ _ (by omega) h1 h2 h3 h4 (by rw [size_swp]; exact h5))

/-! ### rotate -/
theorem get_rotLoop (m : Nat) : ∀ (k i j : Nat) (d : Array α), i + j = k → 0 < i → 0 < j → i ≤ m → m + j ≤ d.size → ∀ x,
    (rotLoop m i j d)[x]! = if m - i ≤ x ∧ x < m - i + j then d[x + i]! else if m - i + j ≤ x ∧ x < m + j then d[x - j]! else d[x]! := by
  intro k
  induction k using Nat.strongRecOn with
  | _ k ih =>
    intro i j d hk hi hj him hsz x
    rw [rotLoop, if_neg (by omega)]
    by_cases e : i = j
    · rw [if_pos e]
      subst e
      rw [get_swapFrom (m - i) m i i 0 d rfl (by omega) hsz]
      by_cases c1 : m - i ≤ x ∧ x < m - i + i
      · rw [if_pos (by omega), if_pos c1]; congr 1; omega
      · rw [if_neg (by omega), if_neg c1]
        by_cases c2 : m - i + i ≤ x ∧ x < m + i
        · rw [if_pos (by omega), if_pos c2]; congr 1; omega
        · rw [if_neg (by omega), if_neg c2]
    · rw [if_neg e]
      by_cases c : i > j
      · rw [if_pos c, ih i (by omega) (i - j) j _ (by omega) (by omega) hj (by omega) (by rw [size_swapFrom _ _ _ _ _ _ rfl]; exact hsz)]
        have g := fun y => get_swapFrom (m - i) m j j 0 d rfl (by omega) hsz y
        by_cases c1 : m - i ≤ x ∧ x < m - i + j
        · rw [if_pos c1, if_neg (by omega), if_neg (by omega), g, if_pos (by omega)]; congr 1; omega
        · rw [if_neg c1]
          by_cases c2 : m - i + j ≤ x ∧ x < m + j
          · rw [if_pos c2]
            by_cases c3 : m - (i - j) ≤ x ∧ x < m - (i - j) + j
            · rw [if_pos c3, g, if_neg (by omega), if_pos (by omega)]; congr 1; omega
            · rw [if_neg c3, if_pos (by omega), g, if_neg (by omega), if_neg (by omega)]
          · rw [if_neg c2, if_neg (by omega), if_neg (by omega), g, if_neg (by omega), if_neg (by omega)]
      · rw [if_neg c, ih j (by omega) i (j - i) _ (by omega) hi (by omega) him (by rw [size_swapFrom _ _ _ _ _ _ rfl]; omega)]
        have g := fun y => get_swapFrom (m - i) (m + j - i) i i 0 d rfl (by omega) (by omega) y
        by_cases c1 : m - i ≤ x ∧ x < m - i + j
        · rw [if_pos c1]
          by_cases c3 : m - i ≤ x ∧ x < m - i + (j - i)
          · rw [if_pos c3, g]
            by_cases c4 : x + i < m + j - i
            · rw [if_neg (by omega), if_neg (by omega)]
            · omega
          · rw [if_neg c3]
            by_cases c5 : m - i + (j - i) ≤ x ∧ x < m + (j - i)
            · rw [if_pos c5, g, if_pos (by omega)]; congr 1; omega
            · omega
        · rw [if_neg c1]
          by_cases c2 : m - i + j ≤ x ∧ x < m + j
          · rw [if_pos c2, if_neg (by omega)]
            rw [if_neg (by omega), g, if_neg (by omega), if_pos (by omega)]; congr 1; omega
          · rw [if_neg c2, if_neg (by omega), if_neg (by omega), g, if_neg (by omega), if_neg (by omega)]

theorem perm_rotLoop (m lo hi : Nat) : ∀ (k i j : Nat) (d : Array α), i + j = k → i ≤ m → lo ≤ m - i → m + j ≤ hi → hi ≤ d.size → PermIn lo hi d (rotLoop m i j d) := by
  intro k
  induction k using Nat.strongRecOn with
  | _ k ih =>
    intro i j d hk him hlo hhi hsz
    rw [rotLoop]
    by_cases z : i = 0 ∨ j = 0
    · rw [if_pos z]; exact permIn_refl _ _ _
    · rw [if_neg z]
      by_cases e : i = j
      · rw [if_pos e]
        exact perm_swapFrom _ _ _ _ _ i 0 d rfl hlo (by omega) (by omega) (by omega) hsz
      · rw [if_neg e]
        by_cases c : i > j
        · rw [if_pos c]
          exact permIn_trans _ _ _ _ _ (perm_swapFrom _ _ _ lo hi j 0 d rfl hlo (by omega) (by omega) (by omega) hsz) (ih i (by omega) (i - j) j _ (by omega) (by omega) (by omega) hhi (by rw [size_swapFrom _ _ _ _ _ _ rfl]; exact hsz))
        · rw [if_neg c]
          exact permIn_trans _ _ _ _ _ (perm_swapFrom _ _ _ lo hi i 0 d rfl hlo (by omega) (by omega) (by omega) hsz) (ih j (by omega) i (j - i) _ (by omega) him hlo (by omega) (by rw [size_swapFrom _ _ _ _ _ _ rfl]; exact hsz))

theorem size_rotate (a m b : Nat) (d : Array α) (h1 : a ≤ m) (h2 : m ≤ b) (h3 : b ≤ d.size) : (rotate a m b d).size = d.size :=
  (perm_rotLoop m a b _ (m - a) (b - m) d rfl (by omega) (by omega) (by omega) h3).1

/-! ### the shifts -/
theorem get_shUp : ∀ (n k e : Nat) (d : Array α), e - k = n → e < d.size → ∀ x,
    (shUp k e d)[x]! = if k ≤ x ∧ x < e then d[x + 1]! else if x = e ∧ k ≤ e then d[k]! else d[x]! := by
  intro n
  induction n with
  | zero =>
    intro k e d h hs x
    rw [shUp, if_neg (by omega), if_neg (by omega)]
    by_cases c : x = e ∧ k ≤ e
    · rw [if_pos c]; congr 1; omega
    · rw [if_neg c]
  | succ n ih =>
    intro k e d h hs x
    rw [shUp, if_pos (by omega), ih (k + 1) e _ (by omega) (by rw [size_swp]; exact hs)]
    have g := fun y => swp_get d (show k < d.size by omega) (show k + 1 < d.size by omega) y
    by_cases c1 : k ≤ x ∧ x < e
    · rw [if_pos c1]
      by_cases c2 : x = k
      · subst c2; rw [if_neg (by omega), if_neg (by omega), g, if_neg (by omega), if_pos rfl]
      · rw [if_pos (by omega), g, if_neg (by omega), if_neg (by omega)]
    · rw [if_neg c1, if_neg (by omega)]
      by_cases c3 : x = e ∧ k ≤ e
      · rw [if_pos c3, if_pos (by omega), g, if_pos rfl]
      · rw [if_neg c3, if_neg (by omega), g, if_neg (by omega), if_neg (by omega)]

theorem perm_shUp (lo hi : Nat) : ∀ (n k e : Nat) (d : Array α), e - k = n → lo ≤ k → e < hi → hi ≤ d.size → PermIn lo hi d (shUp k e d) := by
  intro n
  induction n with
  | zero => intro k e d h _ _ _; rw [shUp, if_neg (by omega)]; exact permIn_refl _ _ _
  | succ n ih =>
    intro k e d h h1 h2 h3
    rw [shUp, if_pos (by omega)]
    exact permIn_trans _ _ _ _ _ (swp_permIn d lo hi k (k + 1) h1 (by omega) (by omega) (by omega) h3) (ih (k + 1) e _ (by omega) (by omega) h2 (by rw [size_swp]; exact h3))

theorem get_shDn (i : Nat) : ∀ (k : Nat) (d : Array α), i ≤ k → k < d.size → ∀ x,
    (shDn i k d)[x]! = if i < x ∧ x ≤ k then d[x - 1]! else if x = i then d[k]! else d[x]! := by
  intro k
  induction k with
  | zero =>
    intro d h hs x
    rw [shDn, if_neg (by omega)]
    by_cases c : x = i
    · rw [if_pos c]; congr 1; omega
    · rw [if_neg c]
  | succ k ih =>
    intro d h hs x
    rw [shDn]
    by_cases c0 : i < k + 1
    · rw [if_pos c0, ih _ (by omega) (by rw [size_swp]; omega)]
      have g := fun y => swp_get d (show k + 1 < d.size by omega) (show k < d.size by omega) y
      by_cases c1 : i < x ∧ x ≤ k + 1
      · rw [if_pos c1]
        by_cases c2 : x = k + 1
        · subst c2; rw [if_neg (by omega), if_neg (by omega), g, if_neg (by omega), if_pos rfl]; congr 1
        · rw [if_pos (by omega), g, if_neg (by omega), if_neg (by omega)]
      · rw [if_neg c1, if_neg (by omega)]
        by_cases c3 : x = i
        · rw [if_pos c3, if_pos c3, g, if_pos rfl]
        · rw [if_neg c3, if_neg c3, g, if_neg (by omega), if_neg (by omega)]
    · rw [if_neg c0, if_neg (by omega)]
      by_cases c3 : x = i
      · rw [if_pos c3]; congr 1; omega
      · rw [if_neg c3]

theorem perm_shDn (lo hi i : Nat) : ∀ (k : Nat) (d : Array α), lo ≤ i → k < hi → hi ≤ d.size → PermIn lo hi d (shDn i k d) := by
  intro k
  induction k with
  | zero => intro d _ _ _; rw [shDn]; exact permIn_refl _ _ _
  | succ k ih =>
    intro d h1 h2 h3
    rw [shDn]
    split
    · rename_i c
      exact permIn_trans _ _ _ _ _ (swp_permIn d lo hi (k + 1) k (by omega) (by omega) (by omega) (by omega) h3) (ih _ h1 (by omega) (by rw [size_swp]; exact h3))
    · exact permIn_refl _ _ _

/-! ### the search -/
theorem search_spec (p : Nat → Bool) : ∀ (n i j : Nat), j - i = n → i ≤ j →
    i ≤ search p i j ∧ search p i j ≤ j ∧ (i < search p i j → p (search p i j - 1) = true) ∧ (search p i j < j → p (search p i j) = false) := by
  intro n
  induction n using Nat.strongRecOn with
  | _ n ih =>
    intro i j hn hij
    rw [search]
    by_cases c : i < j
    · rw [if_pos c]
      cases hp : p ((i + j) / 2) with
      | true =>
        rw [if_pos rfl]
        obtain ⟨h1, h2, h3, h4⟩ := ih (j - ((i + j) / 2 + 1)) (by omega) ((i + j) / 2 + 1) j rfl (by omega)
        refine ⟨by omega, h2, fun _ => ?_, h4⟩
        by_cases c2 : (i + j) / 2 + 1 < search p ((i + j) / 2 + 1) j
        · exact h3 c2
        · have e : search p ((i + j) / 2 + 1) j - 1 = (i + j) / 2 := by omega
          rw [e]; exact hp
      | false =>
        rw [if_neg (by simp)]
        obtain ⟨h1, h2, h3, h4⟩ := ih ((i + j) / 2 - i) (by omega) i ((i + j) / 2) rfl (by omega)
        refine ⟨h1, by omega, h3, fun _ => ?_⟩
        by_cases c2 : search p i ((i + j) / 2) < (i + j) / 2
        · exact h4 c2
        · have e : search p i ((i + j) / 2) = (i + j) / 2 := by omega
          rw [e]; exact hp
    · rw [if_neg c]
      exact ⟨Nat.le_refl _, hij, fun h => by omega, fun h => by omega⟩

/-! ### symMerge under an order r that agrees with lt where the right run is held against the left -/
variable {lt r : α → α → Bool}

omit [Inhabited α] in
theorem SWO.le_trans' (h : SWO r) {x y z : α} (h1 : r y x = false) (h2 : r z y = false) : r z x = false := h.ntrans _ _ _ h2 h1

theorem symStart_spec (d : Array α) (a m b : Nat) (h1 : a < m) (h2 : m < b) :
    let mid := (a + b) / 2
    let s := symStart lt d a m b
    let e := mid + m - s
    a ≤ s ∧ s ≤ m ∧ s ≤ mid ∧ m ≤ e ∧ e ≤ b ∧ mid ≤ e ∧ (a < s → e < b → lt d[e]! d[s - 1]! = false) ∧ (s < m → m < e → lt d[e - 1]! d[s]! = true) := by
  intro mid s e
  by_cases c : m > mid
  · have hs : s = search (fun c => !lt d[mid + m - 1 - c]! d[c]!) (mid + m - b) mid := by
      show symStart lt d a m b = _
      unfold symStart
      simp only []
      rw [if_pos c]
    obtain ⟨g1, g2, g3, g4⟩ := search_spec (fun c => !lt d[mid + m - 1 - c]! d[c]!) _ (mid + m - b) mid rfl (by omega)
    rw [← hs] at g1 g2 g3 g4
    refine ⟨by omega, by omega, g2, by omega, by omega, by omega, fun h3 h4 => ?_, fun h3 h4 => ?_⟩
    · have := g3 (by omega)
      simp only [Bool.not_eq_true'] at this
      rw [show mid + m - 1 - (s - 1) = e by omega] at this
      exact this
    · have := g4 (by omega)
      simp only [Bool.not_eq_false'] at this
      rw [show mid + m - 1 - s = e - 1 by omega] at this
      exact this
  · have hs : s = search (fun c => !lt d[mid + m - 1 - c]! d[c]!) a m := by
      show symStart lt d a m b = _
      unfold symStart
      simp only []
      rw [if_neg c]
    obtain ⟨g1, g2, g3, g4⟩ := search_spec (fun c => !lt d[mid + m - 1 - c]! d[c]!) _ a m rfl (by omega)
    rw [← hs] at g1 g2 g3 g4
    refine ⟨by omega, by omega, by omega, by omega, by omega, by omega, fun h3 h4 => ?_, fun h3 h4 => ?_⟩
    · have := g3 (by omega)
      simp only [Bool.not_eq_true'] at this
      rw [show mid + m - 1 - (s - 1) = e by omega] at this
      exact this
    · have := g4 (by omega)
      simp only [Bool.not_eq_false'] at this
      rw [show mid + m - 1 - s = e - 1 by omega] at this
      exact this

theorem symMerge_spec (hr : SWO r) : ∀ (n a m b : Nat) (d : Array α), b - a = n → a < m → m < b → b ≤ d.size →
    (∀ i j, a ≤ i → i < m → m ≤ j → j < b → lt d[j]! d[i]! = r d[j]! d[i]!) → SortedIn r a m d → SortedIn r m b d →
    PermIn a b d (symMerge lt d a m b) ∧ SortedIn r a b (symMerge lt d a m b) := by
  intro n
  induction n using Nat.strongRecOn with
  | _ n ih =>
    intro a m b d hn ham hmb hsz hag hsl hsr
    rw [symMerge]
    by_cases c1 : m = a + 1
    · rw [if_pos c1]
      simp only []
      obtain ⟨g1, g2, g3, g4⟩ := search_spec (fun h => lt d[h]! d[a]!) _ m b rfl (by omega)
      generalize search (fun h => lt d[h]! d[a]!) m b = i at *
      refine ⟨perm_shUp a b _ a (i - 1) d rfl (Nat.le_refl _) (by omega) hsz, fun x y hx hxy hy => ?_⟩
      have g := fun z => get_shUp _ a (i - 1) d rfl (by omega) z
      rw [g, g]
      by_cases y1 : y < i - 1
      · rw [if_pos (by omega), if_pos (by omega)]
        exact hsr (x + 1) (y + 1) (by omega) (by omega) (by omega)
      · by_cases y2 : y = i - 1
        · rw [if_neg (by omega), if_pos (by omega), if_pos (by omega)]
          -- d[a] behind d[x+1], x + 1 ≤ i - 1
          have h3 : lt d[i - 1]! d[a]! = true := g3 (by omega)
          rw [hag a (i - 1) (by omega) (by omega) (by omega) (by omega)] at h3
          have h4 := hr.asymmA h3
          by_cases e : x + 1 = i - 1
          · rw [e]; exact h4
          · exact hr.ntrans _ _ _ h4 (hsr (x + 1) (i - 1) (by omega) (by omega) (by omega))
        · rw [if_neg (by omega), if_neg (by omega)]
          by_cases x1 : x < i - 1
          · rw [if_pos (by omega)]
            exact hsr (x + 1) y (by omega) (by omega) hy
          · rw [if_neg (by omega)]
            by_cases x2 : x = i - 1
            · rw [if_pos (by omega)]
              have h4 : lt d[i]! d[a]! = false := g4 (by omega)
              rw [hag a i (by omega) (by omega) (by omega) (by omega)] at h4
              by_cases e : y = i
              · rw [e]; exact h4
              · exact hr.ntrans _ _ _ (hsr i y (by omega) (by omega) hy) h4
            · rw [if_neg (by omega)]
              exact hsr x y (by omega) hxy hy
    · rw [if_neg c1]
      by_cases c2 : b = m + 1
      · rw [if_pos c2]
        simp only []
        obtain ⟨g1, g2, g3, g4⟩ := search_spec (fun h => !lt d[m]! d[h]!) _ a m rfl (by omega)
        generalize search (fun h => !lt d[m]! d[h]!) a m = i at *
        refine ⟨perm_shDn a b i m d g1 (by omega) hsz, fun x y hx hxy hy => ?_⟩
        have g := fun z => get_shDn i m d g2 (by omega) z
        rw [g, g]
        by_cases x1 : x < i
        · rw [if_neg (show ¬ (i < x ∧ x ≤ m) by omega), if_neg (show ¬ x = i by omega)]
          by_cases y1 : i < y ∧ y ≤ m
          · rw [if_pos y1]
            exact hsl x (y - 1) hx (by omega) (by omega)
          · rw [if_neg y1]
            by_cases y2 : y = i
            · rw [if_pos y2]
              have h3 : (!lt d[m]! d[i - 1]!) = true := g3 (by omega)
              simp only [Bool.not_eq_true'] at h3
              rw [hag (i - 1) m (by omega) (by omega) (by omega) (by omega)] at h3
              by_cases e : x = i - 1
              · rw [e]; exact h3
              · exact hr.ntrans _ _ _ h3 (hsl x (i - 1) hx (by omega) (by omega))
            · rw [if_neg y2]
              exact hsl x y hx hxy (by omega)
        · by_cases x2 : x = i
          · rw [if_neg (show ¬ (i < x ∧ x ≤ m) by omega), if_pos x2, if_pos (by omega)]
            have h4 : (!lt d[m]! d[i]!) = false := g4 (by omega)
            simp only [Bool.not_eq_false'] at h4
            rw [hag i m (by omega) (by omega) (by omega) (by omega)] at h4
            have h5 := hr.asymmA h4
            by_cases e : y - 1 = i
            · rw [e]; exact h5
            · exact hr.ntrans _ _ _ (hsl i (y - 1) (by omega) (by omega) (by omega)) h5
          · rw [if_pos (by omega), if_pos (by omega)]
            exact hsl (x - 1) (y - 1) (by omega) (by omega) (by omega)
      · rw [if_neg c2]
        simp only []
        obtain ⟨s1, s2, s3, s4, s5, s6, s7, s8⟩ := symStart_spec (lt := lt) d a m b ham hmb
        generalize hs : symStart lt d a m b = s at *
        generalize hmid : (a + b) / 2 = mid at *
        generalize he : mid + m - s = e at *
        -- the array behind the rotation
        obtain ⟨d1, hd1⟩ : ∃ d1, d1 = (if s < m ∧ m < e then rotate s m e d else d) := ⟨_, rfl⟩
        rw [← hd1]
        have hp1 : PermIn a b d d1 := by
          rw [hd1]; split
          · exact permIn_mono _ _ s e _ _ s1 s5 hsz (perm_rotLoop m s e _ (m - s) (e - m) d rfl (by omega) (by omega) (by omega) (by omega))
          · exact permIn_refl _ _ _
        have hz1 : d1.size = d.size := hp1.1
        have get1 : ∀ x, d1[x]! = if s ≤ x ∧ x < mid then d[x + (m - s)]! else if mid ≤ x ∧ x < e then d[x - (e - m)]! else d[x]! := by
          intro x
          rw [hd1]
          by_cases c3 : s < m ∧ m < e
          · rw [if_pos c3]
            unfold rotate
            rw [get_rotLoop m _ (m - s) (e - m) d rfl (by omega) (by omega) (by omega) (by omega)]
            by_cases d1' : s ≤ x ∧ x < mid
            · rw [if_pos (by omega), if_pos d1']
            · rw [if_neg (by omega), if_neg d1']
              by_cases d2' : mid ≤ x ∧ x < e
              · rw [if_pos (by omega), if_pos d2']
              · rw [if_neg (by omega), if_neg d2']
          · rw [if_neg c3]
            by_cases d1' : s ≤ x ∧ x < mid
            · rw [if_pos d1']; congr 1; omega
            · rw [if_neg d1']
              by_cases d2' : mid ≤ x ∧ x < e
              · rw [if_pos d2']; congr 1; omega
              · rw [if_neg d2']
        -- its halves: [a, s) of the left run, [s, mid) of the right; [mid, e) of the left, [e, b) of the right
        have A1 : ∀ x, a ≤ x → x < s → d1[x]! = d[x]! := fun x _ h => by rw [get1, if_neg (by omega), if_neg (by omega)]
        have A2 : ∀ x, s ≤ x → x < mid → d1[x]! = d[x + (m - s)]! := fun x h h' => by rw [get1, if_pos (by omega)]
        have A3 : ∀ x, mid ≤ x → x < e → d1[x]! = d[x - (e - m)]! := fun x h h' => by rw [get1, if_neg (by omega), if_pos (by omega)]
        have A4 : ∀ x, e ≤ x → d1[x]! = d[x]! := fun x h => by rw [get1, if_neg (by omega), if_neg (by omega)]
        -- nothing of the second half stands ahead of anything of the first
        have LR : ∀ p q, a ≤ p → p < mid → mid ≤ q → q < b → r d1[q]! d1[p]! = false := by
          intro p q hp1' hp2' hq1 hq2
          by_cases p1 : p < s
          · rw [A1 p hp1' p1]
            by_cases q1 : q < e
            · rw [A3 q hq1 q1]
              exact hsl p (q - (e - m)) hp1' (by omega) (by omega)
            · rw [A4 q (by omega)]
              have h7 := s7 (by omega) (by omega)
              rw [hag (s - 1) e (by omega) (by omega) (by omega) (by omega)] at h7
              have h8 : r d[e]! d[p]! = false := by
                by_cases e' : p = s - 1
                · rw [e']; exact h7
                · exact hr.ntrans _ _ _ h7 (hsl p (s - 1) hp1' (by omega) (by omega))
              by_cases e' : q = e
              · rw [e']; exact h8
              · exact hr.ntrans _ _ _ (hsr e q (by omega) (by omega) hq2) h8
          · rw [A2 p (by omega) hp2']
            by_cases q1 : q < e
            · rw [A3 q hq1 q1]
              have h8 := s8 (by omega) (by omega)
              rw [hag s (e - 1) (by omega) (by omega) (by omega) (by omega)] at h8
              have h9 := hr.asymmA h8
              have h10 : r d[q - (e - m)]! d[e - 1]! = false := by
                by_cases e' : q - (e - m) = s
                · rw [e']; exact h9
                · exact hr.ntrans _ _ _ (hsl s (q - (e - m)) (by omega) (by omega) (by omega)) h9
              by_cases e' : p + (m - s) = e - 1
              · rw [e']; exact h10
              · exact hr.ntrans _ _ _ h10 (hsr (p + (m - s)) (e - 1) (by omega) (by omega) (by omega))
            · rw [A4 q (by omega)]
              exact hsr (p + (m - s)) q (by omega) (by omega) hq2
        have hmb' : mid < b := by omega
        have ham' : a < mid := by omega
        -- the first half
        obtain ⟨d2, hd2⟩ : ∃ d2, d2 = (if h : a < s ∧ s < mid ∧ mid < b then symMerge lt d1 a s mid else d1) := ⟨_, rfl⟩
        rw [← hd2]
        have H2 : PermIn a mid d1 d2 ∧ SortedIn r a mid d2 := by
          rw [hd2]
          by_cases c4 : a < s ∧ s < mid ∧ mid < b
          · rw [dif_pos c4]
            refine ih (mid - a) (by omega) a s mid d1 rfl c4.1 c4.2.1 (by omega) ?_ ?_ ?_
            · intro i j i1 i2 j1 j2
              rw [A1 i i1 i2, A2 j j1 j2]
              exact hag i (j + (m - s)) i1 (by omega) (by omega) (by omega)
            · intro i j i1 i2 j2
              rw [A1 i i1 (by omega), A1 j (by omega) j2]
              exact hsl i j i1 i2 (by omega)
            · intro i j i1 i2 j2
              rw [A2 i i1 (by omega), A2 j (by omega) j2]
              exact hsr (i + (m - s)) (j + (m - s)) (by omega) (by omega) (by omega)
          · rw [dif_neg c4]
            refine ⟨permIn_refl _ _ _, fun i j i1 i2 j2 => ?_⟩
            by_cases c5 : s = a
            · rw [A2 i (by omega) (by omega), A2 j (by omega) j2]
              exact hsr (i + (m - s)) (j + (m - s)) (by omega) (by omega) (by omega)
            · rw [A1 i i1 (by omega), A1 j (by omega) (by omega)]
              exact hsl i j i1 i2 (by omega)
        have hz2 : d2.size = d.size := by rw [H2.1.1, hz1]
        have B2 : ∀ x, mid ≤ x → d2[x]! = d1[x]! := fun x h => H2.1.2.1 x (Or.inr h)
        -- the second half
        obtain ⟨d3, hd3⟩ : ∃ d3, d3 = (if h : mid < e ∧ e < b ∧ a < mid then symMerge lt d2 mid e b else d2) := ⟨_, rfl⟩
        rw [← hd3]
        have H3 : PermIn mid b d2 d3 ∧ SortedIn r mid b d3 := by
          rw [hd3]
          by_cases c4 : mid < e ∧ e < b ∧ a < mid
          · rw [dif_pos c4]
            refine ih (b - mid) (by omega) mid e b d2 rfl c4.1 c4.2.1 (by omega) ?_ ?_ ?_
            · intro i j i1 i2 j1 j2
              rw [B2 i i1, B2 j (by omega), A3 i i1 i2, A4 j j1]
              exact hag (i - (e - m)) j (by omega) (by omega) (by omega) (by omega)
            · intro i j i1 i2 j2
              rw [B2 i i1, B2 j (by omega), A3 i i1 (by omega), A3 j (by omega) j2]
              exact hsl (i - (e - m)) (j - (e - m)) (by omega) (by omega) (by omega)
            · intro i j i1 i2 j2
              rw [B2 i (by omega), B2 j (by omega), A4 i i1, A4 j (by omega)]
              exact hsr i j (by omega) i2 j2
          · rw [dif_neg c4]
            refine ⟨permIn_refl _ _ _, fun i j i1 i2 j2 => ?_⟩
            rw [B2 i i1, B2 j (by omega)]
            by_cases c5 : e = b
            · rw [A3 i i1 (by omega), A3 j (by omega) (by omega)]
              exact hsl (i - (e - m)) (j - (e - m)) (by omega) (by omega) (by omega)
            · rw [A4 i (by omega), A4 j (by omega)]
              exact hsr i j (by omega) i2 j2
        have hz3 : d3.size = d.size := by rw [H3.1.1, hz2]
        have C3 : ∀ x, x < mid → d3[x]! = d2[x]! := fun x h => H3.1.2.1 x (Or.inl h)
        refine ⟨permIn_trans _ _ _ _ _ hp1 (permIn_trans _ _ _ _ _ (permIn_mono _ _ a mid _ _ (Nat.le_refl _) (by omega) (by omega) H2.1) (permIn_mono _ _ mid b _ _ (by omega) (Nat.le_refl _) (by omega) H3.1)), ?_⟩
        intro x y hx hxy hy
        by_cases y1 : y < mid
        · rw [C3 x (by omega), C3 y y1]; exact H2.2 x y hx hxy y1
        · by_cases x1 : x < mid
          · -- x in the first half, y in the second
            have P1 := permIn_all d1 d2 a mid (fun z => ∀ q, mid ≤ q → q < b → r d1[q]! z = false) (by omega) H2.1 (fun p p1 p2 q q1 q2 => LR p q p1 p2 q1 q2) x hx x1
            have P2 := permIn_all d2 d3 mid b (fun z => r z d2[x]! = false) (by omega) H3.1 (fun q q1 q2 => by rw [B2 q q1]; exact P1 q q1 q2) y (by omega) hy
            rw [C3 x x1]; exact P2
          · exact H3.2 x y (by omega) hxy hy

end Go.Proofs.Ytkfoknjflpklpaa.Stab
