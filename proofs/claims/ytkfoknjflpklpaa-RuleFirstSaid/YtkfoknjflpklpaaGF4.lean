/- The stable sort is the sort by insertion behind what doesn't stand behind. slices.SortStableFunc at tripwire/delta.Change: the row holds what the stable sort gives. slices.SortStableFunc on a row of the call's own, at tripwire/delta.Change. The order of rows; the net effect, by definition. The net effect: in order, no row twice, what a row was first and is last; it is the document's. delta.Net. The document's answers: rows alike, a change's kind, changes alike. delta.Of, the document's Of, Plain. Appends to a row of one's own in a region that draws its order. append of one element out of a literal's block that lies anywhere. Changes whose new rows may be written into. -/
import Derived.Test.YtkfoknjflpklpaaGF1
import Derived.Test.YtkfoknjflpklpaaGF3
import Derived.Sort.Walk0
import Derived.ArgAppend

namespace Go.Proofs.Ytkfoknjflpklpaa.Stab
open Go.Sort
variable {α : Type} [Inhabited α]
variable {lt : α → α → Bool} {tag : α → Nat}

/-- lt, and where neither is less, by tags. -/
def byTag (lt : α → α → Bool) (tag : α → Nat) (x y : α) : Bool := lt x y || (!lt y x && decide (tag x < tag y))

omit [Inhabited α] in
theorem byTag_true {x y : α} : byTag lt tag x y = true ↔ lt x y = true ∨ (lt y x = false ∧ tag x < tag y) := by simp [byTag]
omit [Inhabited α] in
theorem byTag_false {x y : α} : byTag lt tag x y = false ↔ lt x y = false ∧ (lt y x = true ∨ ¬ tag x < tag y) := by
  unfold byTag
  cases lt x y <;> cases lt y x <;> simp

omit [Inhabited α] in
theorem swo_byTag (h : SWO lt) : SWO (byTag lt tag) where
  irrefl x := by rw [byTag_false]; exact ⟨h.irrefl x, Or.inr (Nat.lt_irrefl _)⟩
  trans x y z h1 h2 := by
    rw [byTag_true] at *
    have nt : ∀ a b c, lt a c = true → lt a b = true ∨ lt b c = true := fun a b c hac => by
      cases hab : lt a b with
      | true => exact Or.inl rfl
      | false => cases hbc : lt b c with
        | true => exact Or.inr rfl
        | false => rw [h.ntrans _ _ _ hab hbc] at hac; cases hac
    rcases h1 with h1 | ⟨h1, t1⟩ <;> rcases h2 with h2 | ⟨h2, t2⟩
    · exact Or.inl (h.trans _ _ _ h1 h2)
    · rcases nt x z y h1 with g | g
      · exact Or.inl g
      · rw [h2] at g; cases g
    · rcases nt y x z h2 with g | g
      · rw [h1] at g; cases g
      · exact Or.inl g
    · exact Or.inr ⟨h.ntrans _ _ _ h2 h1, by omega⟩
  ntrans x y z h1 h2 := by
    rw [byTag_false] at *
    refine ⟨h.ntrans _ _ _ h1.1 h2.1, ?_⟩
    cases hzx : lt z x with
    | true => exact Or.inl rfl
    | false =>
      refine Or.inr ?_
      have a : lt y x = false := by
        cases hyx : lt y x with
        | false => rfl
        | true => rw [h.ntrans y z x h2.1 hzx] at hyx; cases hyx
      have b : lt z y = false := by
        cases hzy : lt z y with
        | false => rfl
        | true => rw [h.ntrans z x y hzx h1.1] at hzy; cases hzy
      rcases h1.2 with g | g
      · rw [a] at g; cases g
      · rcases h2.2 with g2 | g2
        · rw [b] at g2; cases g2
        · omega

omit [Inhabited α] in
theorem agree {x y : α} (h : tag x < tag y) : lt y x = byTag lt tag y x := by
  unfold byTag
  rw [show decide (tag y < tag x) = false from decide_eq_false (by omega)]
  simp

/-! ### insertion sort by lt, and by tags -/
theorem insInner_eq (a : Nat) : ∀ (j : Nat) (d : Array α), j < d.size → (∀ p, a ≤ p → p < j → tag d[p]! < tag d[j]!) → insInner lt a j d = insInner (byTag lt tag) a j d := by
  intro j
  induction j with
  | zero => intro d _ _; rw [insInner, insInner]
  | succ j ih =>
    intro d hs ht
    rw [insInner, insInner]
    by_cases c : j + 1 > a
    · have e := agree (lt := lt) (ht j (by omega) (by omega))
      rw [← e]
      have g := fun y => swp_get d (show j + 1 < d.size by omega) (show j < d.size by omega) y
      rw [ih (swp d (j + 1) j) (by rw [size_swp]; omega) (fun p p1 p2 => by
        rw [g, g, if_neg (by omega), if_neg (by omega), if_pos rfl]
        exact ht p p1 (by omega))]
    · have e : decide (j + 1 > a) = false := decide_eq_false c
      rw [e, Bool.false_and, Bool.false_and, if_neg (by simp), if_neg (by simp)]

theorem insOuter_eq (hr : SWO lt) (a b : Nat) : ∀ (n i : Nat) (d : Array α), b - i = n → a < i → b ≤ d.size → SortedIn (byTag lt tag) a i d →
    (∀ p q, a ≤ p → p < q → i ≤ q → q < b → tag d[p]! < tag d[q]!) → insOuter lt a b i d = insOuter (byTag lt tag) a b i d := by
  intro n
  induction n with
  | zero => intro i d h _ _ _ _; rw [insOuter.eq_def lt, insOuter.eq_def (byTag lt tag), if_neg (by omega), if_neg (by omega)]
  | succ n ih =>
    intro i d h hi hb hs ht
    rw [insOuter.eq_def lt a b i d, insOuter.eq_def (byTag lt tag) a b i d, if_pos (by omega), if_pos (by omega)]
    rw [insInner_eq (tag := tag) a i d (by omega) (fun p p1 p2 => ht p i p1 p2 (Nat.le_refl _) (by omega))]
    have h1 := insInner_spec (swo_byTag (tag := tag) hr) swp_permIn permIn_refl permIn_trans a (i + 1) i (by omega) i d (by omega) (Nat.le_refl _) (by omega) ⟨fun p q hap hpq hqi _ hq => hs p q hap hpq (by omega), fun q h1 h2 => by omega⟩
    refine ih (i + 1) _ (by omega) (by omega) (by rw [h1.1.1]; exact hb) h1.2 (fun p q p1 p2 q1 q2 => ?_)
    rw [h1.1.2.1 q (Or.inr (by omega))]
    by_cases c : p < i + 1
    · exact permIn_all d _ a (i + 1) (fun z => tag z < tag d[q]!) (by omega) h1.1 (fun p' p1' p2' => ht p' q p1' (by omega) (by omega) q2) p p1 c
    · rw [h1.1.2.1 p (Or.inr (by omega))]
      exact ht p q p1 p2 (by omega) q2

theorem insertionSort_tag (hr : SWO lt) (a b : Nat) (d : Array α) (hab : a ≤ b) (hb : b ≤ d.size) (ht : ∀ p q, a ≤ p → p < q → q < b → tag d[p]! < tag d[q]!) :
    PermIn a b d (insertionSort lt d a b) ∧ SortedIn (byTag lt tag) a b (insertionSort lt d a b) := by
  have e : insertionSort lt d a b = insertionSort (byTag lt tag) d a b := by
    unfold insertionSort
    exact insOuter_eq hr a b _ (a + 1) d rfl (by omega) hb (fun i j h1 h2 h3 => by omega) (fun p q p1 p2 _ q2 => ht p q p1 p2 q2)
  rw [e]
  exact insertionSort_of swp_permIn permIn_refl permIn_trans (swo_byTag hr) d a b hab hb

/-! ### blocks -/
/-- What lies ahead of c has lesser tags than what lies from c on. -/
def Cut (tag : α → Nat) (n c : Nat) (d : Array α) : Prop := ∀ i j, i < c → c ≤ j → j < n → tag d[i]! < tag d[j]!

theorem Cut.perm {n c a b : Nat} {d d' : Array α} (h : Cut tag n c d) (hp : PermIn a b d d') (hb : b ≤ d.size) (hbn : b ≤ n) (hc : c ≤ a ∨ b ≤ c) : Cut tag n c d' := by
  intro i j hi hj hjn
  rcases hc with hc | hc
  · rw [hp.2.1 i (Or.inl (by omega))]
    by_cases q : a ≤ j ∧ j < b
    · exact permIn_all d d' a b (fun z => tag d[i]! < tag z) hb hp (fun j' h1 h2 => h i j' hi (by omega) (by omega)) j q.1 q.2
    · rw [hp.2.1 j (by omega)]; exact h i j hi hj hjn
  · rw [hp.2.1 j (Or.inr (by omega))]
    by_cases q : a ≤ i ∧ i < b
    · exact permIn_all d d' a b (fun z => tag z < tag d[j]!) hb hp (fun i' h1 h2 => h i' j (by omega) hj hjn) i q.1 q.2
    · rw [hp.2.1 i (by omega)]; exact h i j hi hj hjn

theorem SortedIn.outside {r : α → α → Bool} {a b x y : Nat} {d d' : Array α} (h : SortedIn r x y d) (hp : PermIn a b d d') (hc : y ≤ a ∨ b ≤ x) : SortedIn r x y d' := by
  intro i j h1 h2 h3
  rw [hp.2.1 i (by omega), hp.2.1 j (by omega)]
  exact h i j h1 h2 h3

def Blocks (r : α → α → Bool) (tag : α → Nat) (bs n : Nat) (d : Array α) : Prop :=
  (∀ c, bs ∣ c → Cut tag n c d) ∧ ∀ c, bs ∣ c → SortedIn r c (min (c + bs) n) d

theorem dvd_between {bs a c : Nat} (h1 : bs ∣ a) (h2 : bs ∣ c) (h3 : a < c) : a + bs ≤ c := by
  obtain ⟨x, rfl⟩ := h1
  obtain ⟨y, rfl⟩ := h2
  have : x < y := by
    rcases Nat.lt_or_ge x y with h | h
    · exact h
    · exact absurd h3 (by have := Nat.mul_le_mul_left bs h; omega)
  have := Nat.mul_le_mul_left bs (show x + 1 ≤ y from this)
  rw [Nat.mul_add, Nat.mul_one] at this
  exact this

theorem insBlocks_spec (hr : SWO lt) (bs n : Nat) (hbs : 0 < bs) : ∀ (k a b : Nat) (d : Array α), n + bs - b = k → b = a + bs → bs ∣ a → a ≤ n → d.size = n →
    (∀ c, bs ∣ c → Cut tag n c d) → (∀ i j, a ≤ i → i < j → j < n → tag d[i]! < tag d[j]!) → (∀ c, bs ∣ c → c + bs ≤ a → SortedIn (byTag lt tag) c (c + bs) d) →
    PermIn 0 n d (insBlocks lt bs n a b d) ∧ Blocks (byTag lt tag) tag bs n (insBlocks lt bs n a b d) := by
  intro k
  induction k using Nat.strongRecOn with
  | _ k ih =>
    intro a b d hk hb hda han hsz hcut htag hso
    rw [insBlocks]
    by_cases c : b ≤ n
    · rw [if_pos ⟨c, hbs⟩]
      obtain ⟨p1, s1⟩ := insertionSort_tag (tag := tag) hr a b d (by omega) (by omega) (fun p q h1 h2 h3 => htag p q h1 h2 (by omega))
      have hdb : bs ∣ b := by rw [hb]; exact Nat.dvd_add hda (Nat.dvd_refl _)
      obtain ⟨p2, s2⟩ := ih (n + bs - (b + bs)) (by omega) b (b + bs) _ rfl rfl hdb c (by rw [p1.1]; exact hsz)
        (fun x hx => (hcut x hx).perm p1 (by omega) c (by
          rcases Nat.lt_or_ge a x with h | h
          · exact Or.inr (by have := dvd_between hda hx h; omega)
          · exact Or.inl h))
        (fun i j h1 h2 h3 => by rw [p1.2.1 i (Or.inr h1), p1.2.1 j (Or.inr (by omega))]; exact htag i j (by omega) h2 h3)
        (fun x hx hxb => by
          rcases Nat.lt_or_ge x a with h | h
          · exact SortedIn.outside (hso x hx (dvd_between hx hda h)) p1 (Or.inl (dvd_between hx hda h))
          · obtain rfl : x = a := by omega
            rw [← hb]; exact s1)
      exact ⟨permIn_trans _ _ _ _ _ (permIn_mono _ _ a b _ _ (Nat.zero_le _) c (by omega) p1) p2, s2⟩
    · rw [if_neg (by omega)]
      obtain ⟨p1, s1⟩ := insertionSort_tag (tag := tag) hr a n d han (by omega) (fun p q h1 h2 h3 => htag p q h1 h2 h3)
      refine ⟨permIn_mono _ _ a n _ _ (Nat.zero_le _) (Nat.le_refl _) (by omega) p1, fun x hx => ?_, fun x hx => ?_⟩
      · rcases Nat.lt_or_ge a x with h | h
        · have := dvd_between hda hx h
          intro i j hi hj hjn; omega
        · exact (hcut x hx).perm p1 (by omega) (Nat.le_refl _) (Or.inl h)
      · rcases Nat.lt_trichotomy x a with h | h | h
        · have := dvd_between hx hda h
          rw [Nat.min_eq_left (by omega)]
          exact SortedIn.outside (hso x hx this) p1 (Or.inl this)
        · subst h
          rw [Nat.min_eq_right (by omega)]
          exact s1
        · have := dvd_between hda hx h
          intro i j hi hij hj
          have := Nat.min_le_right (x + bs) n
          omega

theorem mergePass_spec (hr : SWO lt) (bs n : Nat) (hbs : 0 < bs) : ∀ (k a b : Nat) (d : Array α), n + 2 * bs - b = k → b = a + 2 * bs → 2 * bs ∣ a → d.size = n →
    (∀ c, 2 * bs ∣ c → Cut tag n c d) → (∀ c, bs ∣ c → a ≤ c → ∀ i j, a ≤ i → i < c → c ≤ j → j < n → tag d[i]! < tag d[j]!) →
    (∀ c, bs ∣ c → a ≤ c → SortedIn (byTag lt tag) c (min (c + bs) n) d) → (∀ c, 2 * bs ∣ c → c + 2 * bs ≤ a → SortedIn (byTag lt tag) c (min (c + 2 * bs) n) d) →
    PermIn 0 n d (mergePass lt bs n a b d) ∧ Blocks (byTag lt tag) tag (2 * bs) n (mergePass lt bs n a b d) := by
  intro k
  induction k using Nat.strongRecOn with
  | _ k ih =>
    intro a b d hk hb hda hsz hcut hmid hs1 hs2
    have hbd : bs ∣ 2 * bs := ⟨2, by rw [Nat.mul_comm]⟩
    have hba : bs ∣ a := Nat.dvd_trans hbd hda
    rw [mergePass]
    by_cases c : b ≤ n
    · rw [if_pos ⟨c, hbs⟩]
      obtain ⟨p1, s1⟩ := symMerge_spec (lt := lt) (swo_byTag (tag := tag) hr) _ a (a + bs) b d rfl (by omega) (by omega) (by omega)
        (fun i j h1 h2 h3 h4 => agree (hmid (a + bs) (Nat.dvd_add hba (Nat.dvd_refl _)) (by omega) i j h1 h2 h3 (by omega)))
        (by have := hs1 a hba (Nat.le_refl _); rwa [Nat.min_eq_left (by omega)] at this)
        (by have := hs1 (a + bs) (Nat.dvd_add hba (Nat.dvd_refl _)) (by omega); rwa [Nat.min_eq_left (by omega), show a + bs + bs = b by omega] at this)
      have hdb : 2 * bs ∣ b := by rw [hb]; exact Nat.dvd_add hda (Nat.dvd_refl _)
      obtain ⟨p2, s2⟩ := ih (n + 2 * bs - (b + 2 * bs)) (by omega) b (b + 2 * bs) _ rfl rfl hdb (by rw [p1.1]; exact hsz)
        (fun x hx => (hcut x hx).perm p1 (by omega) c (by
          rcases Nat.lt_or_ge a x with h | h
          · exact Or.inr (by have := dvd_between hda hx h; omega)
          · exact Or.inl h))
        (fun x hx hbx i j h1 h2 h3 h4 => by rw [p1.2.1 i (Or.inr h1), p1.2.1 j (Or.inr (by omega))]; exact hmid x hx (by omega) i j (by omega) h2 h3 h4)
        (fun x hx hbx => SortedIn.outside (hs1 x hx (by omega)) p1 (Or.inr hbx))
        (fun x hx hxb => by
          rcases Nat.lt_or_ge x a with h | h
          · have := dvd_between hx hda h
            exact SortedIn.outside (hs2 x hx this) p1 (Or.inl (by have := Nat.min_le_left (x + 2 * bs) n; omega))
          · obtain rfl : x = a := by omega
            rw [Nat.min_eq_left (by omega), ← hb]; exact s1)
      exact ⟨permIn_trans _ _ _ _ _ (permIn_mono _ _ a b _ _ (Nat.zero_le _) c (by omega) p1) p2, s2⟩
    · rw [if_neg (by omega)]
      by_cases c2 : a + bs < n
      · rw [if_pos c2]
        obtain ⟨p1, s1⟩ := symMerge_spec (lt := lt) (swo_byTag (tag := tag) hr) _ a (a + bs) n d rfl (by omega) (by omega) (by omega)
          (fun i j h1 h2 h3 h4 => agree (hmid (a + bs) (Nat.dvd_add hba (Nat.dvd_refl _)) (by omega) i j h1 h2 h3 (by omega)))
          (by have := hs1 a hba (Nat.le_refl _); rwa [Nat.min_eq_left (by omega)] at this)
          (by have := hs1 (a + bs) (Nat.dvd_add hba (Nat.dvd_refl _)) (by omega); rwa [Nat.min_eq_right (by omega)] at this)
        refine ⟨permIn_mono _ _ a n _ _ (Nat.zero_le _) (Nat.le_refl _) (by omega) p1, fun x hx => ?_, fun x hx => ?_⟩
        · rcases Nat.lt_or_ge a x with h | h
          · have := dvd_between hda hx h
            intro i j hi hj hjn; omega
          · exact (hcut x hx).perm p1 (by omega) (Nat.le_refl _) (Or.inl h)
        · rcases Nat.lt_trichotomy x a with h | h | h
          · have := dvd_between hx hda h
            exact SortedIn.outside (hs2 x hx this) p1 (Or.inl (by have := Nat.min_le_left (x + 2 * bs) n; omega))
          · subst h
            rw [Nat.min_eq_right (by omega)]
            exact s1
          · have := dvd_between hda hx h
            intro i j hi hij hj
            have := Nat.min_le_right (x + 2 * bs) n
            omega
      · rw [if_neg c2]
        refine ⟨permIn_refl _ _ _, hcut, fun x hx => ?_⟩
        rcases Nat.lt_trichotomy x a with h | h | h
        · exact hs2 x hx (dvd_between hx hda h)
        · subst h
          have := hs1 x hba (Nat.le_refl _)
          rw [Nat.min_eq_right (by omega)] at this ⊢
          exact this
        · have := dvd_between hda hx h
          intro i j hi hij hj
          have := Nat.min_le_right (x + 2 * bs) n
          omega

theorem mergeAll_spec (hr : SWO lt) (n : Nat) : ∀ (k bs : Nat) (d : Array α), n - bs = k → 0 < bs → d.size = n → Blocks (byTag lt tag) tag bs n d →
    PermIn 0 n d (mergeAll lt bs n d) ∧ SortedIn (byTag lt tag) 0 n (mergeAll lt bs n d) := by
  intro k
  induction k using Nat.strongRecOn with
  | _ k ih =>
    intro bs d hk hbs hsz hB
    rw [mergeAll]
    by_cases c : bs < n
    · rw [if_pos ⟨c, hbs⟩]
      have hbd : ∀ x, 2 * bs ∣ x → bs ∣ x := fun x hx => Nat.dvd_trans ⟨2, by rw [Nat.mul_comm]⟩ hx
      obtain ⟨p1, B1⟩ := mergePass_spec (tag := tag) hr bs n hbs _ 0 (2 * bs) d rfl (by omega) (Nat.dvd_zero _) hsz (fun x hx => hB.1 x (hbd x hx))
        (fun x hx _ i j _ h2 h3 h4 => hB.1 x hx i j h2 h3 h4) (fun x hx _ => hB.2 x hx) (fun x _ hx2 => by omega)
      rw [Nat.mul_comm 2 bs] at B1 p1 ⊢
      obtain ⟨p2, s2⟩ := ih (n - bs * 2) (by omega) (bs * 2) _ rfl (by omega) (by rw [p1.1]; exact hsz) B1
      exact ⟨permIn_trans _ _ _ _ _ p1 p2, s2⟩
    · rw [if_neg (by omega)]
      refine ⟨permIn_refl _ _ _, ?_⟩
      have := hB.2 0 (Nat.dvd_zero _)
      rwa [Nat.min_eq_right (by omega)] at this

theorem stable_spec (hr : SWO lt) (d : Array α) (ht : ∀ i j, i < j → j < d.size → tag d[i]! < tag d[j]!) :
    PermIn 0 d.size d (stable lt d) ∧ SortedIn (byTag lt tag) 0 d.size (stable lt d) := by
  unfold stable
  obtain ⟨p1, B1⟩ := insBlocks_spec (tag := tag) hr 20 d.size (by omega) _ 0 20 d rfl rfl (Nat.dvd_zero _) (Nat.zero_le _) rfl (fun c _ i j h1 h2 h3 => ht i j (by omega) h3) (fun i j _ h2 h3 => ht i j h2 h3) (fun c _ h => by omega)
  obtain ⟨p2, s2⟩ := mergeAll_spec hr d.size _ 20 _ rfl (by omega) p1.1 B1
  exact ⟨permIn_trans _ _ _ _ _ p1 p2, s2⟩

/-! ### lists -/
/-- x behind all that it doesn't stand ahead of. -/
def ins (lt : α → α → Bool) (x : α) : List α → List α
  | [] => [x]
  | y :: ys => if lt x y then x :: y :: ys else y :: ins lt x ys
def isort (lt : α → α → Bool) (l : List α) : List α := l.foldl (fun out x => ins lt x out) []

omit [Inhabited α] in
theorem ins_perm (x : α) : ∀ l : List α, (ins lt x l).Perm (x :: l)
  | [] => List.Perm.refl _
  | y :: ys => by
    rw [ins]
    split
    · exact List.Perm.refl _
    · exact ((ins_perm x ys).cons y).trans (List.Perm.swap x y ys)

omit [Inhabited α] in
theorem foldl_ins_perm : ∀ (l out : List α), (l.foldl (fun out x => ins lt x out) out).Perm (out ++ l)
  | [], out => by simp
  | x :: l, out => by
    rw [List.foldl_cons]
    exact (foldl_ins_perm l _).trans (((ins_perm x out).append_right l).trans (by simpa using (List.perm_middle (a := x) (l₁ := out) (l₂ := l)).symm))

omit [Inhabited α] in
theorem isort_perm (l : List α) : (isort lt l).Perm l := by simpa [isort] using foldl_ins_perm (lt := lt) l []

omit [Inhabited α] in
/-- Sorted by tags: x has a greater tag than all that is there. -/
theorem ins_sorted (hr : SWO lt) (x : α) : ∀ l : List α, (∀ y ∈ l, tag y < tag x) → l.Pairwise (fun a b => byTag lt tag a b = true) → (ins lt x l).Pairwise (fun a b => byTag lt tag a b = true)
  | [], _, _ => by simp [ins]
  | y :: ys, ht, hp => by
    have hR := swo_byTag (tag := tag) hr
    rw [List.pairwise_cons] at hp
    rw [ins]
    split
    · rename_i hxy
      have h1 : byTag lt tag x y = true := byTag_true.2 (Or.inl hxy)
      refine List.pairwise_cons.2 ⟨fun z hz => ?_, List.pairwise_cons.2 hp⟩
      rcases List.mem_cons.1 hz with rfl | hz
      · exact h1
      · exact hR.trans _ _ _ h1 (hp.1 z hz)
    · rename_i hxy
      refine List.pairwise_cons.2 ⟨fun z hz => ?_, ins_sorted hr x ys (fun z hz => ht z (List.mem_cons_of_mem _ hz)) hp.2⟩
      rcases List.mem_cons.1 ((ins_perm x ys).subset hz) with rfl | hz
      · exact byTag_true.2 (Or.inr ⟨by simpa using hxy, ht y List.mem_cons_self⟩)
      · exact hp.1 z hz

omit [Inhabited α] in
theorem foldl_ins_sorted (hr : SWO lt) : ∀ (l out : List α), (∀ y ∈ out, ∀ x ∈ l, tag y < tag x) → l.Pairwise (fun a b => tag a < tag b) → out.Pairwise (fun a b => byTag lt tag a b = true) →
    (l.foldl (fun out x => ins lt x out) out).Pairwise (fun a b => byTag lt tag a b = true)
  | [], _, _, _, hp => hp
  | x :: l, out, ho, hl, hp => by
    rw [List.foldl_cons]
    rw [List.pairwise_cons] at hl
    refine foldl_ins_sorted hr l _ (fun y hy z hz => ?_) hl.2 (ins_sorted hr x out (fun y hy => ho y hy x List.mem_cons_self) hp)
    rcases List.mem_cons.1 ((ins_perm x out).subset hy) with rfl | hy
    · exact hl.1 z hz
    · exact ho y hy z (List.mem_cons_of_mem _ hz)

omit [Inhabited α] in
theorem isort_sorted (hr : SWO lt) (l : List α) (ht : l.Pairwise (fun a b => tag a < tag b)) : (isort lt l).Pairwise (fun a b => byTag lt tag a b = true) :=
  foldl_ins_sorted hr l [] (by simp) ht List.Pairwise.nil

theorem getElem!_toList (d : Array α) (i : Nat) (h : i < d.toList.length) : d.toList[i] = d[i]! := by
  rw [Array.getElem_toList]
  exact (getElem!_pos d i (by simpa using h)).symm

theorem stable_isort (hr : SWO lt) (d : Array α) (ht : ∀ i j, i < j → j < d.size → tag d[i]! < tag d[j]!) : (stable lt d).toList = isort lt d.toList := by
  obtain ⟨hp, hs⟩ := stable_spec (tag := tag) hr d ht
  have hl : d.toList.Pairwise (fun a b => tag a < tag b) := by
    rw [List.pairwise_iff_getElem]
    intro i j hi hj hij
    rw [getElem!_toList, getElem!_toList]
    exact ht i j hij (by simpa using hj)
  have hperm : (stable lt d).toList.Perm d.toList := by
    have := hp.2.2
    rwa [show (stable lt d).extract 0 d.size = stable lt d by rw [← hp.1]; simp, show d.extract 0 d.size = d by simp] at this
  -- tags part any two
  have hne : ∀ a ∈ d.toList, ∀ b ∈ d.toList, byTag lt tag a b = false → byTag lt tag b a = false → a = b := by
    intro a ha b hb h1 h2
    rw [byTag_false] at h1 h2
    have ht1 : tag a = tag b := by
      rcases h1.2 with g | g
      · rw [h2.1] at g; cases g
      · rcases h2.2 with g2 | g2
        · rw [h1.1] at g2; cases g2
        · omega
    obtain ⟨i, hi, rfl⟩ := List.mem_iff_getElem.1 ha
    obtain ⟨j, hj, rfl⟩ := List.mem_iff_getElem.1 hb
    rw [List.pairwise_iff_getElem] at hl
    rcases Nat.lt_trichotomy i j with h | h | h
    · have := hl i j hi hj h; omega
    · subst h; rfl
    · have := hl j i hj hi h; omega
  have hR := swo_byTag (tag := tag) hr
  refine List.Perm.eq_of_pairwise (le := fun a b => byTag lt tag b a = false) (fun a b ha hb h1 h2 => ?_) ?_ ?_ (hperm.trans (isort_perm _).symm)
  · exact hne a (hperm.subset ha) b ((isort_perm _).subset hb) h2 h1
  · rw [List.pairwise_iff_getElem]
    intro i j hi hj hij
    rw [getElem!_toList, getElem!_toList]
    exact hs i j (Nat.zero_le _) hij (by rw [← hp.1]; simpa using hj)
  · exact (isort_sorted hr _ hl).imp (fun h => hR.asymmA h)

end Go.Proofs.Ytkfoknjflpklpaa.Stab

namespace Go.Proofs.Ytkfoknjflpklpaa.StabChg
open Go.Shelf Go.RowKit Go.Lib Go.Sort Go.Proofs Go.Proofs.Ytkfoknjflpklpaa.Stab
variable {P : Program} {α : Type} [Inhabited α]

theorem size_insOuter (lt : α → α → Bool) (a b : Nat) : ∀ (n i : Nat) (d : Array α), b - i = n → b ≤ d.size → (insOuter lt a b i d).size = d.size := by
  have hin : ∀ (j : Nat) (d : Array α), (insInner lt a j d).size = d.size := by
    intro j
    induction j with
    | zero => intro d; rw [insInner]
    | succ j ih => intro d; rw [insInner]; split
                   · rw [ih, size_swp]
                   · rfl
  intro n
  induction n with
  | zero => intro i d h _; rw [insOuter, if_neg (by omega)]
  | succ n ih => intro i d h hb; rw [insOuter, if_pos (by omega), ih _ _ (by omega) (by rw [hin]; exact hb), hin]

theorem size_ins (lt : α → α → Bool) (a b : Nat) (d : Array α) (hb : b ≤ d.size) : (insertionSort lt d a b).size = d.size := size_insOuter lt a b _ _ d rfl hb

theorem size_insBlocks (lt : α → α → Bool) (bs n : Nat) : ∀ (k a b : Nat) (d : Array α), n + bs - b = k → d.size = n → (insBlocks lt bs n a b d).size = n := by
  intro k
  induction k using Nat.strongRecOn with
  | _ k ih =>
    intro a b d hk hs
    rw [insBlocks]
    by_cases c : b ≤ n ∧ 0 < bs
    · rw [if_pos c]; exact ih _ (by omega) b (b + bs) _ rfl (by rw [size_ins _ _ _ _ (by omega)]; exact hs)
    · rw [if_neg c, size_ins _ _ _ _ (by omega)]; exact hs

theorem size_mergePass (lt : α → α → Bool) (bs n : Nat) (hbs : 0 < bs) : ∀ (k a b : Nat) (d : Array α), n + 2 * bs - b = k → b = a + 2 * bs → d.size = n → (mergePass lt bs n a b d).size = n := by
  intro k
  induction k using Nat.strongRecOn with
  | _ k ih =>
    intro a b d hk hb hs
    rw [mergePass]
    by_cases c : b ≤ n ∧ 0 < bs
    · rw [if_pos c]; exact ih _ (by omega) b (b + 2 * bs) _ rfl rfl (by rw [size_symMerge _ _ _ _ _ _ rfl (by omega) (by omega) (by omega)]; exact hs)
    · rw [if_neg c]
      split
      · rw [size_symMerge _ _ _ _ _ _ rfl (by omega) (by omega) (by omega)]; exact hs
      · exact hs

set_option maxHeartbeats 16000000 in
set_option maxRecDepth 1000000 in
theorem stableCalls {k : Nat} (L : Lay P k) (enc : α → List Value) (cf : α → α → Int) (g : Nat) (cb : Array Value) (blk off cap : Nat) (d0 d : Array α) (w0 w : World)
    (eg : ∀ args w, (callFunc g args).run P w = .ok (.enter g args) w) (hcmp : CmpLays P g cb enc k cf blk off d0.size w0) (R : RowK enc k w0 blk off d0) (hs : d0.size = d.size) (S : SWK enc k w0 blk off d w) (hsz : d.size < 1152921504606846976) :
    Calls P 80 #[.slice (some ⟨blk, off, none⟩) d.size cap, .int .i64 d.size, .func (.func g) #[] cb] w fun e w' => e = .returned (.tuple #[]) ∧ SWK enc k w0 blk off (stable (ltOf cf) d) w' := by
  have eins : ∀ args w, (callFunc 110 args).run P w = .ok (.enter 110 args) w := enters_of L.fins (by kernel_rfl) rfl
  have esym : ∀ args w, (callFunc 111 args).run P w = .ok (.enter 111 args) w := enters_of L.fsym (by kernel_rfl) rfl
  have t0 := L.t0; have a0 := L.a0; have z0 := L.z0; have v0 := L.v0; have t3 := L.t3; have a3 := L.a3; have z3 := L.z3; have v3 := L.v3; have t4 := L.t4; have a4 := L.a4; have z4 := L.z4; have v4 := L.v4; have ts := L.ts; have as' := L.aS; have zs := L.zs; have vs := L.vs; have tf := L.tf; have af := L.af; have zf := L.zf; have vf := L.vf
  have FG := L.fsta
  have SYM : Aside _ := fun N => symMergeCalls L enc cf g cb blk off cap d0 w0 eg hcmp R (by omega) N
  have HC : Aside _ := hcmp
  have S0 : Aside (SWK enc k w0 blk off d w) := S
  have LL : Aside (Lay P k) := L
  clear S hcmp L
  obtain ⟨n, hn⟩ : ∃ n, n = d.size := ⟨_, rfl⟩
  have HN : Hid (n = d.size) := hn
  have hsn : d0.size = n := by rw [hn]; exact hs
  have HSN : Hid (d0.size = n) := hsn
  rw [← hn] at hsz ⊢
  clear hn hs hsn
  go_enter FG, Try.ntmps80
  go_wp2
  go_loopg [7, 8] (n + 1) (fun kx s7 s8 wr => ∃ (a : Nat) (dk : Array α), s7 = .int .i64 a ∧ s8 = .int .i64 ((a : Int) + 20) ∧ a ≤ n ∧ n - a ≤ kx ∧ Hid (dk.size = n) ∧ Aside (SWK enc k w0 blk off dk wr) ∧ Hid (insBlocks (ltOf cf) 20 n a (a + 20) dk = insBlocks (ltOf cf) 20 n 0 20 d))
  case atStart => exact ⟨0, d, rfl, rfl, Nat.zero_le _, by omega, HN.out.symm, S0, rfl⟩
  case round =>
    clear S0
    obtain ⟨a, dk, rfl, rfl, han, hkx, hds, S1, heq⟩ := hrel
    by_cases hlt : a + 20 ≤ n
    · have hltz : (a : Int) + 20 ≤ (n : Int) := by omega
      go_wp2_with fail
      rw [show ((a : Int) + 20) = ((a + 20 : Nat) : Int) by omega, ← hds.out]
      refine (insCalls LL.out enc cf g cb blk off cap a (a + 20) d0 dk w0 _ eg HC.out R (by rw [hds.out]; exact HSN.out) S1.out (by omega) (by rw [hds.out]; exact hlt) (by rw [hds.out]; omega)).mono ?_
      rintro e w' ⟨rfl, S2⟩
      have S3 : Aside _ := S2
      clear S2 S1
      rw [hds.out]
      go_wp2
      go_roundg (n - (a + 20))
      case measure => omega
      case rel => exact ⟨a + 20, _, by first | rfl | go_num, by first | rfl | go_num | (congr 1; omega), hlt, Nat.le_refl _, (show _ = _ by rw [size_ins _ _ _ _ (by rw [hds.out]; exact hlt)]; exact hds.out), S3, (show _ = _ by
        rw [← heq.out, insBlocks.eq_def _ 20 n a (a + 20) dk, if_pos ⟨hlt, by omega⟩])⟩
    · have hltz : ¬ (a : Int) + 20 ≤ (n : Int) := by omega
      go_wp2_with fail
      rw [← hds.out]
      refine (insCalls LL.out enc cf g cb blk off cap a dk.size d0 dk w0 _ eg HC.out R (by rw [hds.out]; exact HSN.out) S1.out (by rw [hds.out]; exact han) (Nat.le_refl _) (by rw [hds.out]; omega)).mono ?_
      rintro e w' ⟨rfl, S2⟩
      rw [hds.out] at S2 ⊢
      have hd2 : insertionSort (ltOf cf) dk a n = insBlocks (ltOf cf) 20 n 0 20 d := by rw [← heq.out, insBlocks.eq_def _ 20 n a (a + 20) dk, if_neg (by omega)]
      rw [hd2] at S2
      have S3 : Aside _ := S2
      have hz2 : (insBlocks (ltOf cf) 20 n 0 20 d).size = n := size_insBlocks _ _ _ _ _ _ _ rfl HN.out.symm
      obtain ⟨e0, he0⟩ : ∃ e0, e0 = insBlocks (ltOf cf) 20 n 0 20 d := ⟨_, rfl⟩
      rw [← he0] at S3 hz2
      have HE0 : Hid _ := he0
      have HZ2 : Hid _ := hz2
      clear S2 S1 hd2 heq hds he0 hz2 hltz hlt hkx han
      go_wp2
      clear dk
      go_loopg [6] n (fun kx s6 wr2 => ∃ (bs : Nat) (dk : Array α), s6 = .int .i64 bs ∧ 0 < bs ∧ bs ≤ n + n + 20 ∧ n - bs ≤ kx ∧ Hid (dk.size = n) ∧ Aside (SWK enc k w0 blk off dk wr2) ∧ Hid (mergeAll (ltOf cf) bs n dk = mergeAll (ltOf cf) 20 n e0))
      case atStart => exact ⟨20, e0, rfl, by omega, by omega, by omega, HZ2, S3, rfl⟩
      case round =>
        clear S3
        obtain ⟨bs, dk, rfl, hb0, hbn, hkx, hds, S1, heq⟩ := hrel
        by_cases hlt : bs < n
        · have hltz : (bs : Int) < (n : Int) := by omega
          obtain ⟨wo, rfl⟩ : ∃ wo : World, wo = wr := ⟨_, rfl⟩
          go_wp2
          go_loopg [7, 8] (n + 1) (fun ky s7 s8 wr3 => ∃ (a : Nat) (dj : Array α), s7 = .int .i64 a ∧ s8 = .int .i64 ((a : Int) + 2 * (bs : Int)) ∧ a ≤ n ∧ n - a ≤ ky ∧ Hid (dj.size = n) ∧ Aside (SWK enc k w0 blk off dj wr3) ∧ Hid (mergePass (ltOf cf) bs n a (a + 2 * bs) dj = mergePass (ltOf cf) bs n 0 (2 * bs) dk))
          case atStart => exact ⟨0, dk, rfl, by first | rfl | go_num | (congr 1; omega), Nat.zero_le _, by omega, hds, S1, by show _ = _; rw [Nat.zero_add]⟩
          case round =>
            clear S1
            obtain ⟨a, dj, rfl, rfl, han, hky, hdj, S1, hmp⟩ := hrel
            by_cases hlt2 : a + 2 * bs ≤ n
            · have hltz2 : (a : Int) + 2 * (bs : Int) ≤ (n : Int) := by omega
              go_wp2_with fail
              rw [show ((a : Int) + (bs : Int)) = ((a + bs : Nat) : Int) by omega, show ((a : Int) + 2 * (bs : Int)) = ((a + 2 * bs : Nat) : Int) by omega, ← hdj.out]
              refine (SYM.out (2 * bs) a (a + bs) (a + 2 * bs) dj _ (by rw [hdj.out]; exact HSN.out) S1.out (by omega) (by omega) (by rw [hdj.out]; exact hlt2) (by omega)).mono ?_
              rintro e w' ⟨rfl, S2⟩
              have S3 : Aside _ := S2
              clear S2 S1
              rw [hdj.out]
              go_wp2
              go_roundg (n - (a + 2 * bs))
              case measure => omega
              case rel => exact ⟨a + 2 * bs, _, by first | rfl | go_num, by first | rfl | go_num | (congr 1; omega), hlt2, Nat.le_refl _, (show _ = _ by rw [size_symMerge _ _ _ _ _ _ rfl (by omega) (by omega) (by rw [hdj.out]; exact hlt2)]; exact hdj.out), S3, (show _ = _ by
                rw [← hmp.out, mergePass.eq_def _ bs n a (a + 2 * bs) dj, if_pos ⟨hlt2, hb0⟩])⟩
            · have hltz2 : ¬ (a : Int) + 2 * (bs : Int) ≤ (n : Int) := by omega
              have hq : mergePass (ltOf cf) bs n 0 (2 * bs) dk = if a + bs < n then symMerge (ltOf cf) dj a (a + bs) n else dj := by rw [← hmp.out, mergePass.eq_def _ bs n a (a + 2 * bs) dj, if_neg (by omega)]
              have HQ : Hid _ := hq
              clear hq
              have fin : ∀ dz, dz = mergePass (ltOf cf) bs n 0 (2 * bs) dk → mergeAll (ltOf cf) (bs * 2) n dz = mergeAll (ltOf cf) 20 n e0 := fun dz h => by
                rw [h, ← heq.out, mergeAll.eq_def _ bs n dk, if_pos ⟨hlt, hb0⟩]
              have FIN : Aside _ := fin
              have hzz : (mergePass (ltOf cf) bs n 0 (2 * bs) dk).size = n := size_mergePass _ _ _ hb0 _ _ _ _ rfl (by omega) hds.out
              have HZZ : Hid _ := hzz
              clear fin hzz hmp heq
              by_cases c : a + bs < n
              · have cz : (a : Int) + (bs : Int) < (n : Int) := by omega
                go_wp2_with fail
                rw [show ((a : Int) + (bs : Int)) = ((a + bs : Nat) : Int) by omega, ← hdj.out]
                refine (SYM.out n a (a + bs) dj.size dj _ (by rw [hdj.out]; exact HSN.out) S1.out (by omega) (by rw [hdj.out]; exact c) (Nat.le_refl _) (by rw [hdj.out]; omega)).mono ?_
                rintro e w' ⟨rfl, S2⟩
                rw [hdj.out] at S2 ⊢
                rw [if_pos c] at HQ
                rw [← HQ.out] at S2
                have S3 : Aside _ := S2
                clear S2 S1
                go_wp2
                go_roundg (n - bs * 2)
                case measure => omega
                case rel => exact ⟨bs * 2, _, by first | rfl | go_num | (congr 1; omega), by omega, by omega, Nat.le_refl _, HZZ, S3, FIN.out _ rfl⟩
              · have cz : ¬ (a : Int) + (bs : Int) < (n : Int) := by omega
                rw [if_neg c] at HQ
                rw [← HQ.out] at S1
                go_wp2
                go_roundg (n - bs * 2)
                case measure => omega
                case rel => exact ⟨bs * 2, _, by first | rfl | go_num | (congr 1; omega), by omega, by omega, Nat.le_refl _, HZZ, S1, FIN.out _ rfl⟩
        · have hltz : ¬ (bs : Int) < (n : Int) := by omega
          go_wp2
          go_end0
          refine ⟨rfl, ?_⟩
          have e9 : stable (ltOf cf) d = dk := by
            unfold stable
            rw [← HN.out, ← HE0.out, ← heq.out, mergeAll, if_neg (by omega)]
          rw [e9]
          exact S1.out

set_option maxHeartbeats 4000000 in
set_option maxRecDepth 1000000 in
theorem sortCalls {k : Nat} (L : Lay P k) (enc : α → List Value) (cf : α → α → Int) (g : Nat) (cb : Array Value) (blk off cap : Nat) (d : Array α) (w : World)
    (eg : ∀ args w, (callFunc g args).run P w = .ok (.enter g args) w) (hcmp : CmpLays P g cb enc k cf blk off d.size w) (R : RowK enc k w blk off d) (hsz : d.size < 1152921504606846976) :
    Calls P 54 #[.slice (some ⟨blk, off, none⟩) d.size cap, .func (.func g) #[] cb] w fun e w' => e = .returned (.tuple #[]) ∧ SWK enc k w blk off (stable (ltOf cf) d) w' := by
  have esta : ∀ args w, (callFunc 80 args).run P w = .ok (.enter 80 args) w := enters_of L.fsta (by kernel_rfl) rfl
  have t0 := L.t0; have a0 := L.a0; have z0 := L.z0; have v0 := L.v0; have t3 := L.t3; have a3 := L.a3; have z3 := L.z3; have v3 := L.v3; have t4 := L.t4; have a4 := L.a4; have z4 := L.z4; have v4 := L.v4; have ts := L.ts; have as' := L.aS; have zs := L.zs; have vs := L.vs; have tf := L.tf; have af := L.af; have zf := L.zf; have vf := L.vf
  have FG := L.ftop
  have C := stableCalls L enc cf g cb blk off cap d d w w eg hcmp R rfl (SWK.start R.hH) hsz
  have CC : Aside _ := C
  clear C hcmp L
  go_enter FG, Try.ntmps54
  go_wp2_with fail
  refine Calls.mono CC.out ?_
  rintro e w' ⟨rfl, S⟩
  have S1 : Aside _ := S
  clear S
  go_wp2
  go_end0
  exact ⟨rfl, S1.out⟩

end Go.Proofs.Ytkfoknjflpklpaa.StabChg

namespace Go.Proofs.Ytkfoknjflpklpaa.StabChg
open Go.Shelf Go.RowKit Go.Lib Go.Sort Go.Proofs Go.Proofs.Ytkfoknjflpklpaa.Stab Go.Proofs.Ytkfoknjflpklpaa.Mem

/-- An element as it is sorted: its cells, what they read as, where it stood. -/
structure El {β : Type} (d : Ty β) (ok : Nat → Prop) (w : World) where
  cells : List Value
  x : β
  tag : Nat
  hr : d.R ok w x cells

theorem isort_map {α β : Type} (f : α → β) (lt : β → β → Bool) (l : List α) : (isort (fun a b => lt (f a) (f b)) l).map f = isort lt (l.map f) := by
  have hi : ∀ (x : α) (l : List α), (ins (fun a b => lt (f a) (f b)) x l).map f = ins lt (f x) (l.map f) := by
    intro x l
    induction l with
    | nil => rfl
    | cons y ys ih =>
      rw [ins, List.map_cons, ins]
      split
      · rfl
      · rw [List.map_cons, ih]
  have hf : ∀ (l out : List α), (l.foldl (fun out x => ins (fun a b => lt (f a) (f b)) x out) out).map f = (l.map f).foldl (fun out x => ins lt x out) (out.map f) := by
    intro l
    induction l with
    | nil => intro out; rfl
    | cons x l ih => intro out; rw [List.foldl_cons, ih, hi, List.map_cons, List.foldl_cons]
  exact hf l []

/-- The block of a row that is put. -/
theorem putRow_block (w : World) (g : Nat) (F : Array Value) (cur : Array Value) (e : TypeId) (fr : Nat × Nat) (h : w.heap[g]? = some (.cells cur e fr)) : (putRow id w g 0 F).heap[g]? = some (.cells (putCells id 0 F cur) e fr) := by
  simp [putRow, mapBlock, Array.getElem?_modify, h, onCells]
theorem putRow_other (w : World) (g k : Nat) (F : Array Value) (h : k ≠ g) : (putRow id w g 0 F).heap[k]? = w.heap[k]? := by
  simp [putRow, mapBlock, Array.getElem?_modify, Ne.symm h]

theorem sortWorld_other {α : Type} [Inhabited α] (enc : α → List Value) (k : Nat) (w : World) (g m : Nat) (dk : Array α) (os : Array Obj) (j : Nat) (hj : j < w.heap.size) (hne : j ≠ g) : (sortWorldK enc k w g 0 m dk os).heap[j]? = w.heap[j]? := by
  unfold sortWorldK putRowK
  show (grow (putRow id (Sort.ahead w m) g 0 (flatK enc k dk)) os).heap[j]? = _
  have hs : (putRow id (Sort.ahead w m) g 0 (flatK enc k dk)).heap.size = w.heap.size := by simp [putRow, mapBlock, Sort.ahead]
  show (_ ++ os)[j]? = _
  rw [Array.getElem?_append_left (by rw [hs]; exact hj), putRow_other _ _ _ _ hne]
  rfl

theorem putCells_take (F cur : Array Value) (h : F.size ≤ cur.size) : (putCells id 0 F cur).toList.take F.size = F.toList := by
  apply List.ext_getElem?
  intro i
  rw [List.getElem?_take]
  by_cases hi : i < F.size
  · rw [if_pos hi]
    have h1 : i < cur.size := by omega
    simp only [putCells, Array.toList_mapIdx, List.getElem?_mapIdx]
    rw [List.getElem?_eq_getElem (by simpa using h1), List.getElem?_eq_getElem (by simpa using hi)]
    simp only [Option.map_some, Nat.zero_le, Nat.zero_add, true_and, if_pos hi, Nat.sub_zero, id]
    rw [getElem!_pos F i hi, Array.getElem_toList]
  · rw [if_neg hi, List.getElem?_eq_none (by simp; omega)]

theorem flatK_toList {α : Type} [Inhabited α] (enc : α → List Value) (k : Nat) (hk : ∀ x, (enc x).length = k) (d : Array α) : (flatK enc k d).toList = (d.toList.map enc).flatten := by
  apply List.ext_getElem?
  intro t
  by_cases ht : t < d.size * k
  · have k0 : 0 < k := by rcases Nat.eq_zero_or_pos k with h | h
                          · subst h; simp at ht
                          · exact h
    have hq : t / k < d.size := (Nat.div_lt_iff_lt_mul k0).2 ht
    have hm : t % k < k := Nat.mod_lt _ k0
    have h1 : (flatK enc k d).toList[t]? = some (flatK enc k d)[t]! := by
      have hts : t < (flatK enc k d).size := by rw [size_flatK]; exact ht
      rw [List.getElem?_eq_getElem (by simpa using ht), Array.getElem_toList, getElem!_pos (flatK enc k d) t hts]
    have h2 : ((d.toList.map enc).flatten)[t / k * k + t % k]? = some (enc d[t / k]!)[t % k]! := by
      refine flat_get (sz := k) _ (fun c hc => ?_) (t / k) (enc d[t / k]!) (t % k) _ ?_ ?_
      · obtain ⟨x, _, rfl⟩ := List.mem_map.1 hc
        exact hk x
      · rw [List.getElem?_map, List.getElem?_eq_getElem (by simpa using hq), Option.map_some, Array.getElem_toList, getElem!_pos d _ hq]
      · have hm2 : t % k < (enc d[t / k]!).length := by rw [hk]; exact hm
        rw [List.getElem?_eq_getElem hm2, getElem!_pos (enc d[t / k]!) (t % k) hm2]
    rw [h1, get_flatK _ _ _ _ ht]
    rw [show t / k * k + t % k = t by rw [Nat.mul_comm]; exact Nat.div_add_mod t k] at h2
    exact h2.symm
  · have hl : ((d.toList.map enc).flatten).length = d.size * k := by
      have : ∀ l : List α, ((l.map enc).flatten).length = l.length * k := by
        intro l
        induction l with
        | nil => simp
        | cons x l ih => rw [List.map_cons, List.flatten_cons, List.length_append, ih, hk, List.length_cons, Nat.add_mul, Nat.one_mul, Nat.add_comm]
      rw [this]; simp
    rw [List.getElem?_eq_none (by simp; omega), List.getElem?_eq_none (by omega)]

theorem holds_of_owns (w : World) (base E k : Nat) (g n cap : Nat) (cs : List Value) (ho : w.ownsRow base E k (.slice (some ⟨g, 0, none⟩) n cap) n cs) (F : Array Value) (hF : F.toList = cs) : Holds id w g 0 F := by
  intro j hj
  have hj' : cs[j]? = some F[j]! := by
    rw [← hF, List.getElem?_eq_getElem (by simpa using hj), Array.getElem_toList, getElem!_pos F j hj]
  have h1 := ho.cells (g := g) rfl j _ hj'
  rw [add_plain] at h1
  refine ⟨by rw [Nat.zero_add]; exact h1, ?_⟩
  rcases ho.2 with ⟨h, _⟩ | ⟨g', cap', cur, he, _, hh, _⟩
  · cases h
  · injection he with he _ _
    injection he with he
    injection he with he
    subst he
    simp [World.frozen?, hh]

theorem wf_tags {β : Type} {d : Ty β} {ok : Nat → Prop} {w : World} (xs : List β) : ∀ (cells : List (List Value)) (m : Nat), cells.length = xs.length → (∀ (i : Nat) (x : β) (c : List Value), xs[i]? = some x → cells[i]? = some c → d.R ok w x c) →
    ∃ l : List (El d ok w), l.map El.x = xs ∧ l.map El.cells = cells ∧ ∀ (i : Nat) (e : El d ok w), l[i]? = some e → e.tag = m + i := by
  induction xs with
  | nil => intro cells m hl _; exact ⟨[], rfl, by cases cells; rfl; simp at hl, fun i e h => by simp at h⟩
  | cons x xs ih =>
    intro cells m hl hr
    cases cells with
    | nil => simp at hl
    | cons c cells =>
      obtain ⟨l, h1, h2, h3⟩ := ih cells (m + 1) (by simpa using hl) (fun i x c hx hc => hr (i + 1) x c (by simpa using hx) (by simpa using hc))
      refine ⟨⟨c, x, m, hr 0 x c rfl rfl⟩ :: l, by simp [h1], by simp [h2], fun i e he => ?_⟩
      cases i with
      | zero =>
        simp only [List.getElem?_cons_zero, Option.some.injEq] at he
        subst he; rfl
      | succ i => rw [h3 i e (by simpa using he)]; omega

set_option maxHeartbeats 4000000 in
set_option maxRecDepth 100000 in
theorem sort_none (A : Option Addr) (c g : Nat) (cb : Array Value) (w : World) :
    Calls Try.prog 54 #[.slice A 0 c, .func (.func g) #[] cb] w fun e w' => e = .returned (.tuple #[]) ∧ w = w' := by
  go_enter Try.func54, Try.ntmps54
  go_wp2
  refine wp_loop_rounds 1 ?_
  rw [rounds_succ]
  go_wp2
  refine wp_loop_rounds 1 ?_
  rw [rounds_succ]
  go_wp2
  go_end0
  go_wp2
  refine wp_loop_rounds 1 ?_
  rw [rounds_succ]
  go_wp2
  go_end0
  go_wp2
  go_end0
  exact ⟨rfl, rfl⟩

theorem sortOwn {β : Type} (d : Ty β) (hk : d.sz = 4) (ok : Nat → Prop) (w : World) (base : Nat) (v : Value) (xs : List β) (h : Own d 40 ok w base v xs) (cf : β → β → Int) (hS : SWO (ltOf cf)) (g : Nat) (cb : Array Value)
    (eg : ∀ args w, (callFunc g args).run Try.prog w = .ok (.enter g args) w)
    (hcmp : ∀ (x y : β) (cx cy : List Value) (W : World), d.R (fun k => ok k ∧ some k ≠ v.ownBlock) W x cx → d.R (fun k => ok k ∧ some k ≠ v.ownBlock) W y cy →
      Calls Try.prog g (#[.agg cx.toArray, .agg cy.toArray] ++ cb) W fun e w' => e = .returned (.int .i64 (cf x y)) ∧ ∃ q os, w' = grow (W.drewN q) os) (hsz : xs.length < 1152921504606846976) :
    Calls Try.prog 54 #[v, .func (.func g) #[] cb] w fun e w' => e = .returned (.tuple #[]) ∧ Own d 40 ok w' base v (isort (ltOf cf) xs) ∧ w.grownBy w' v.ownBlock := by
  rcases h.shape with ⟨rfl, rfl⟩ | ⟨g0, cap, rfl, hb, hlt, hc, hc2⟩
  · refine (sort_none none 0 g cb w).mono ?_
    rintro e w' ⟨rfl, rfl⟩
    exact ⟨rfl, Own.nil _ _ _ _ _, ⟨rfl, rfl, rfl, Nat.le_refl _, fun _ _ _ => rfl⟩⟩
  · by_cases hx : xs = []
    · subst hx
      refine (sort_none _ cap g cb w).mono ?_
      rintro e w' ⟨rfl, rfl⟩
      exact ⟨rfl, h, ⟨rfl, rfl, rfl, Nat.le_refl _, fun _ _ _ => rfl⟩⟩
    · obtain ⟨cells, hlc, ho, hr⟩ := h
      have hne : ∀ k, (ok k ∧ some k ≠ (Value.slice (some ⟨g0, 0, none⟩) xs.length cap).ownBlock) → k ≠ g0 := fun k hk e => hk.2 (by rw [e]; rfl)
      obtain ⟨l, hl1, hl2, hl3⟩ := wf_tags xs cells 0 hlc hr
      have hll : l.length = xs.length := by have := congrArg List.length hl1; rwa [List.length_map] at this
      have e0 : El d (fun k => ok k ∧ some k ≠ (Value.slice (some ⟨g0, 0, none⟩) xs.length cap).ownBlock) w := by
        cases l with
        | nil => exact absurd (by simpa using hl1.symm) hx
        | cons e _ => exact e
      haveI : Inhabited (El d (fun k => ok k ∧ some k ≠ (Value.slice (some ⟨g0, 0, none⟩) xs.length cap).ownBlock) w) := ⟨e0⟩
      have hkk : ∀ x : El d (fun k => ok k ∧ some k ≠ (Value.slice (some ⟨g0, 0, none⟩) xs.length cap).ownBlock) w, x.cells.length = 4 := fun x => by rw [d.len x.hr, hk]
      have hF : (flatK El.cells 4 l.toArray).toList = cells.flatten := by rw [flatK_toList _ _ hkk]; simp [hl2]
      rw [hk] at ho
      have hH : HoldsK El.cells 4 w g0 0 l.toArray := holds_of_owns w base _ 4 g0 _ cap _ ho _ hF
      have R : RowK El.cells 4 w g0 0 l.toArray := ⟨hkk, fun x => d.one x.hr, hH, hlt⟩
      have hC : CmpLays Try.prog g cb El.cells 4 (fun a b => cf a.x b.x) g0 0 l.toArray.size w := fun m os dk _ x y => by
        have mv : ∀ k, (ok k ∧ some k ≠ (Value.slice (some ⟨g0, 0, none⟩) xs.length cap).ownBlock) → k < w.heap.size → (sortWorldK (α := El d (fun k => ok k ∧ some k ≠ (Value.slice (some ⟨g0, 0, none⟩) xs.length cap).ownBlock) w) El.cells 4 w g0 0 m dk os).heap[k]? = w.heap[k]? := fun k hk hkl => sortWorld_other _ _ _ _ _ _ _ _ hkl (hne k hk)
        exact hcmp x.x y.x x.cells y.cells _ (d.move mv x.hr) (d.move mv y.hr)
      have hSE : SWO (ltOf fun a b : El d (fun k => ok k ∧ some k ≠ (Value.slice (some ⟨g0, 0, none⟩) xs.length cap).ownBlock) w => cf a.x b.x) :=
        ⟨fun x => hS.irrefl x.x, fun x y z => hS.trans x.x y.x z.x, fun x y z => hS.ntrans x.x y.x z.x⟩
      have hs : l.toArray.size = xs.length := by simpa using hll
      have C := sortCalls (P := Try.prog) laid El.cells (fun a b => cf a.x b.x) g cb g0 0 cap l.toArray w eg hC R (by rw [hs]; exact hsz)
      rw [hs] at C
      refine C.mono ?_
      rintro e w' ⟨rfl, n, os, hw⟩
      have hst : (stable (ltOf fun a b : El d (fun k => ok k ∧ some k ≠ (Value.slice (some ⟨g0, 0, none⟩) xs.length cap).ownBlock) w => cf a.x b.x) l.toArray).toList = isort (ltOf fun a b => cf a.x b.x) l := by
        refine stable_isort (tag := El.tag) hSE l.toArray (fun i j hij hj => ?_)
        have hj' : j < l.length := by simpa using hj
        have t1 := hl3 i l[i] (List.getElem?_eq_getElem (by omega))
        have t2 := hl3 j l[j] (List.getElem?_eq_getElem hj')
        rw [getElem!_pos l.toArray i (by simp; omega), getElem!_pos l.toArray j (by simpa using hj')]
        simp only [List.getElem_toArray]
        omega
      have hmap : (isort (ltOf fun a b : El d (fun k => ok k ∧ some k ≠ (Value.slice (some ⟨g0, 0, none⟩) xs.length cap).ownBlock) w => cf a.x b.x) l).map El.x = isort (ltOf cf) xs := by
        rw [← hl1]
        exact isort_map (El.x (d := d)) (ltOf cf) l
      generalize stable (ltOf fun a b : El d (fun k => ok k ∧ some k ≠ (Value.slice (some ⟨g0, 0, none⟩) xs.length cap).ownBlock) w => cf a.x b.x) l.toArray = ds at hw hst
      have hdl : ds.toList.map El.x = isort (ltOf cf) xs := by rw [hst]; exact hmap
      have hdn : ds.size = xs.length := by
        have h1 := congrArg List.length hdl
        rw [List.length_map, (isort_perm xs).length_eq] at h1
        simpa using h1
      have hg : w.grownBy w' (some g0) := by
        rw [hw]
        refine ⟨rfl, rfl, rfl, ?_, fun k hk hkn => sortWorld_other El.cells 4 w g0 n ds os k hk (fun e => hkn (by rw [e]))⟩
        unfold sortWorldK putRowK
        simp [grow, putRow, mapBlock, Sort.ahead]
      refine ⟨rfl, ⟨ds.toList.map El.cells, by rw [List.length_map, ← hdl, List.length_map], ?_, fun i x c hx hc => ?_⟩, hg⟩
      · have hn : (isort (ltOf cf) xs).length = xs.length := (isort_perm xs).length_eq
        rcases ho with ⟨q1, q2⟩
        rcases q2 with ⟨q2, _⟩ | ⟨g', cap', cur, he, hbg, hh, hcc, hcm, hcs, htk⟩
        · cases q2
        · injection he with he1 he2 he3
          injection he1 with he1
          injection he1 with he1
          subst he1; subst he3
          have hFs : (flatK El.cells 4 ds).size = xs.length * 4 := by rw [size_flatK, hdn]
          have hfl : (flatK El.cells 4 ds).toList = (ds.toList.map El.cells).flatten := flatK_toList _ _ hkk ds
          rw [hn, hk]
          refine ⟨by rw [← hfl, Array.length_toList, hFs], .inr ⟨g0, cap, putCells id 0 (flatK El.cells 4 ds) cur, rfl, hbg, ?_, hcc, hcm, by simp [putCells, hcs], ?_⟩⟩
          · rw [hw]
            unfold sortWorldK putRowK
            show (_ ++ os)[g0]? = _
            have hs2 : (putRow id (Sort.ahead w n) g0 0 (flatK El.cells 4 ds)).heap.size = w.heap.size := by simp [putRow, mapBlock, Sort.ahead]
            rw [Array.getElem?_append_left (by rw [hs2]; exact hlt)]
            exact putRow_block _ _ _ _ _ _ hh
          · rw [← hfl, ← hFs]
            exact putCells_take _ _ (by rw [hFs, hcs]; exact Nat.mul_le_mul_right _ hcc)
      · rw [← hdl, List.getElem?_map] at hx
        rw [List.getElem?_map] at hc
        cases he : ds.toList[i]? with
        | none => rw [he] at hx; cases hx
        | some el =>
          rw [he] at hx hc
          simp only [Option.map_some, Option.some.injEq] at hx hc
          subst hx; subst hc
          have hn : (isort (ltOf cf) xs).length = xs.length := (isort_perm xs).length_eq
          exact d.move (fun k hk hkl => hg.block k hkl (fun e => hk.2 (by rw [e]; rfl))) el.hr

end Go.Proofs.Ytkfoknjflpklpaa.StabChg

namespace Go.Proofs.Ytkfoknjflpklpaa.D
open Go Go.RowKit Go.Sort Go.Proofs.Ytkfoknjflpklpaa.Mem Go.Proofs.Ytkfoknjflpklpaa.Cmp Go.Proofs.Ytkfoknjflpklpaa.Stab

theorem ltS_iff (a b : ByteArray) : ltS a b = true ↔ a.toList < b.toList := by unfold ltS; rw [bytesLess_eq]; simp
theorem ltS_irrefl (a : ByteArray) : ltS a a = false := by
  cases h : ltS a a with
  | false => rfl
  | true => exact absurd ((ltS_iff a a).1 h) (List.lt_irrefl _)
theorem ltS_trans {a b c : ByteArray} (h1 : ltS a b = true) (h2 : ltS b c = true) : ltS a c = true := (ltS_iff a c).2 (List.lt_trans ((ltS_iff a b).1 h1) ((ltS_iff b c).1 h2))
theorem toList_inj {a b : ByteArray} (h : a.toList = b.toList) : a = b := by
  have h1 : a.data.toList = b.data.toList := by rw [← ByteArray.toList_eq, ← ByteArray.toList_eq]; exact h
  cases a; cases b
  simp only at h1
  congr 1
  exact Array.toList_inj.1 h1
theorem ltS_tri {a b : ByteArray} (h1 : ltS a b = false) (h2 : ltS b a = false) : a = b := by
  refine toList_inj (List.le_antisymm ?_ ?_)
  · rw [← List.not_lt]; intro h; rw [(ltS_iff b a).2 h] at h2; cases h2
  · rw [← List.not_lt]; intro h; rw [(ltS_iff a b).2 h] at h1; cases h1
theorem ltS_asymm {a b : ByteArray} (h : ltS a b = true) : ltS b a = false := by
  cases h2 : ltS b a with
  | false => rfl
  | true => have := ltS_trans h h2; rw [ltS_irrefl] at this; cases this

def Chg.lt (a b : Chg) : Bool := ltS a.table b.table || (decide (a.table = b.table) && decide (a.id < b.id))
def Chg.same (a b : Chg) : Bool := decide (a.table = b.table) && decide (a.id = b.id)
def chgCmp (a b : Chg) : Int := cmpRow a.table a.id b.table b.id

theorem Chg.lt_iff (a b : Chg) : a.lt b = true ↔ ltS a.table b.table = true ∨ a.table = b.table ∧ a.id < b.id := by simp [Chg.lt]
theorem Chg.same_iff (a b : Chg) : a.same b = true ↔ a.table = b.table ∧ a.id = b.id := by simp [Chg.same]

theorem chgCmp_lt (a b : Chg) : chgCmp a b < 0 ↔ a.lt b = true := by
  rw [Chg.lt_iff]
  unfold chgCmp cmpRow or2 compareS compareI
  by_cases h1 : ltS a.table b.table = true
  · simp [h1]
  · by_cases h2 : a.table = b.table
    · rw [if_neg h1, if_pos h2]
      simp only [h2, ltS_irrefl]
      by_cases h3 : a.id < b.id
      · simp [h3]
      · by_cases h4 : b.id < a.id <;> simp [h3, h4]
    · rw [if_neg h1, if_neg h2]
      simp [h1, h2]

theorem chgCmp_eq (a b : Chg) : chgCmp a b = 0 ↔ a.same b = true := by
  rw [Chg.same_iff]
  unfold chgCmp cmpRow or2 compareS compareI
  by_cases h1 : ltS a.table b.table = true
  · have : a.table ≠ b.table := fun h => by rw [h, ltS_irrefl] at h1; cases h1
    simp [h1, this]
  · by_cases h2 : a.table = b.table
    · rw [if_neg h1, if_pos h2]
      by_cases h3 : a.id < b.id
      · have : a.id ≠ b.id := by omega
        simp [h3, h2, this]
      · by_cases h4 : b.id < a.id
        · have : a.id ≠ b.id := by omega
          simp [h3, h4, h2, this]
        · have : a.id = b.id := by omega
          simp [h2, this]
    · rw [if_neg h1, if_neg h2]
      simp [h2]

theorem ltOf_chg (a b : Chg) : ltOf chgCmp a b = a.lt b := by
  rw [Bool.eq_iff_iff, ← chgCmp_lt]
  simp [ltOf]

theorem Chg.lt_irrefl (a : Chg) : a.lt a = false := by simp [Chg.lt, ltS_irrefl]
theorem Chg.lt_trans {a b c : Chg} (h1 : a.lt b = true) (h2 : b.lt c = true) : a.lt c = true := by
  rw [Chg.lt_iff] at *
  rcases h1 with h1 | ⟨h1, h1'⟩ <;> rcases h2 with h2 | ⟨h2, h2'⟩
  · exact .inl (ltS_trans h1 h2)
  · exact .inl (h2 ▸ h1)
  · exact .inl (h1.symm ▸ h2)
  · exact .inr ⟨h1.trans h2, by omega⟩
theorem Chg.lt_asymm {a b : Chg} (h : a.lt b = true) : b.lt a = false := by
  cases h2 : b.lt a with
  | false => rfl
  | true => have := Chg.lt_trans h h2; rw [Chg.lt_irrefl] at this; cases this
theorem Chg.lt_tri {a b : Chg} (h1 : a.lt b = false) (h2 : b.lt a = false) : a.same b = true := by
  rw [Chg.same_iff]
  have n1 : ¬ (ltS a.table b.table = true ∨ a.table = b.table ∧ a.id < b.id) := by rw [← Chg.lt_iff, h1]; simp
  have n2 : ¬ (ltS b.table a.table = true ∨ b.table = a.table ∧ b.id < a.id) := by rw [← Chg.lt_iff, h2]; simp
  have e : a.table = b.table := by
    apply ltS_tri
    · cases h : ltS a.table b.table with
      | false => rfl
      | true => exact absurd (.inl h) n1
    · cases h : ltS b.table a.table with
      | false => rfl
      | true => exact absurd (.inl h) n2
  refine ⟨e, ?_⟩
  have h3 : ¬ a.id < b.id := fun h => n1 (.inr ⟨e, h⟩)
  have h4 : ¬ b.id < a.id := fun h => n2 (.inr ⟨e.symm, h⟩)
  omega
theorem Chg.same_not_lt {a b : Chg} (h : a.same b = true) : a.lt b = false := by
  rw [Chg.same_iff] at h
  simp [Chg.lt, h.1, h.2, ltS_irrefl]
theorem Chg.same_symm {a b : Chg} (h : a.same b = true) : b.same a = true := by rw [Chg.same_iff] at *; exact ⟨h.1.symm, h.2.symm⟩
theorem Chg.same_trans {a b c : Chg} (h : a.same b = true) (h' : b.same c = true) : a.same c = true := by rw [Chg.same_iff] at *; exact ⟨h.1.trans h'.1, h.2.trans h'.2⟩
theorem Chg.same_refl (a : Chg) : a.same a = true := by rw [Chg.same_iff]; exact ⟨rfl, rfl⟩
theorem Chg.lt_of_same_left {a b c : Chg} (h : a.same b = true) : a.lt c = b.lt c := by
  rw [Chg.same_iff] at h
  simp [Chg.lt, h.1, h.2]
theorem Chg.lt_of_same_right {a b c : Chg} (h : a.same b = true) : c.lt a = c.lt b := by
  rw [Chg.same_iff] at h
  simp [Chg.lt, h.1, h.2]

theorem Chg.lt_ntrans {a b c : Chg} (h1 : a.lt b = false) (h2 : b.lt c = false) : a.lt c = false := by
  cases h : a.lt c with
  | false => rfl
  | true =>
    cases h3 : b.lt a with
    | true => rw [Chg.lt_trans h3 h] at h2; cases h2
    | false =>
      have := Chg.lt_tri h1 h3
      rw [Chg.lt_of_same_left this, h2] at h
      cases h

theorem swo_chg : SWO (ltOf chgCmp) := by
  have e : ltOf chgCmp = Chg.lt := funext fun a => funext fun b => ltOf_chg a b
  rw [e]
  exact ⟨Chg.lt_irrefl, fun x y z h1 h2 => Chg.lt_trans h1 h2, fun x y z h1 h2 => Chg.lt_ntrans h1 h2⟩

/-- The net effect of changes in order. -/
def netScan : List Chg → List Chg
  | [] => []
  | x :: l =>
    let c : Chg := { x with new := ((x :: l.takeWhile x.same).getLast (by simp)).new }
    (if c.kind = 0 then [] else [c]) ++ netScan (l.dropWhile x.same)
termination_by l => l.length
decreasing_by
  have := (List.dropWhile_sublist (l := l) x.same).length_le
  simp only [List.length_cons]
  omega

/-- The net effect of changes. -/
def net (l : List Chg) : List Chg := netScan (isort (ltOf chgCmp) l)

end Go.Proofs.Ytkfoknjflpklpaa.D

namespace Go.Proofs.Ytkfoknjflpklpaa.D
open Go Go.Sort Go.Proofs.Ytkfoknjflpklpaa.Stab

/-- c tells of its row, what it was first, and is last. -/
def IsNet (l : List Chg) (c : Chg) : Prop := c.kind ≠ 0 ∧ (l.filter c.same).head?.map Chg.old = some c.old ∧ (l.filter c.same).getLast?.map Chg.new = some c.new

def Rising (l : List Chg) : Prop := l.Pairwise (fun a b => a.lt b = true)

theorem Rising.ext {l m : List Chg} (h1 : Rising l) (h2 : Rising m) (h : ∀ c, c ∈ l ↔ c ∈ m) : l = m := by
  have nd : ∀ {l : List Chg}, Rising l → l.Nodup := fun h => List.Pairwise.imp (fun {a b} hab e => by rw [e, Chg.lt_irrefl] at hab; cases hab) h
  have hp : l.Perm m := (List.perm_ext_iff_of_nodup (nd h1) (nd h2)).2 h
  unfold Rising at h1 h2
  refine List.Perm.eq_of_pairwise (le := fun a b => a.lt b = true) (fun a b _ _ hab hba => ?_) h1 h2 hp
  rw [Chg.lt_asymm hab] at hba
  cases hba

theorem same_eq_filter {x c : Chg} (h : c.same x = true) : c.same = x.same := by
  funext y
  rw [Bool.eq_iff_iff]
  exact ⟨fun hy => Chg.same_trans (Chg.same_symm h) hy, fun hy => Chg.same_trans h hy⟩

theorem net_unique {l : List Chg} {c d : Chg} (hc : IsNet l c) (hd : IsNet l d) (h : c.same d = true) : c = d := by
  obtain ⟨_, h1, h2⟩ := hc
  obtain ⟨_, h3, h4⟩ := hd
  rw [same_eq_filter h, h3] at h1
  rw [same_eq_filter h, h4] at h2
  obtain ⟨t, i, o, n⟩ := c
  obtain ⟨t', i', o', n'⟩ := d
  simp only [Option.some.injEq] at h1 h2
  rw [Chg.same_iff] at h
  simp only at h
  rw [h.1, h.2, h1, h2]

/-! ### netScan -/
theorem scan_above {x : Chg} {l : List Chg} (hs : (x :: l).Pairwise (fun a b => b.lt a = false)) : ∀ y ∈ l.dropWhile x.same, x.lt y = true := by
  obtain ⟨h1, h2⟩ := List.pairwise_cons.1 hs
  have hsub := List.dropWhile_sublist (l := l) x.same
  have h3 := h2.sublist hsub
  have h4 : ∀ y ∈ l.dropWhile x.same, y.lt x = false := fun y hy => h1 y (hsub.subset hy)
  cases hd : l.dropWhile x.same with
  | nil => intro y hy; cases hy
  | cons z r =>
    have hz : x.same z = false := by
      have := List.head?_dropWhile_not x.same l
      rw [hd] at this
      simpa using this
    rw [hd] at h3 h4
    have hxz : x.lt z = true := by
      cases h : x.lt z with
      | true => rfl
      | false => rw [Chg.lt_tri h (h4 z List.mem_cons_self)] at hz; cases hz
    intro y hy
    rcases List.mem_cons.1 hy with rfl | hy
    · exact hxz
    · cases h : x.lt y with
      | true => rfl
      | false =>
        have h5 := (List.pairwise_cons.1 h3).1 y hy
        rw [Chg.lt_ntrans h h5] at hxz
        cases hxz

theorem filter_all {α : Type} {p : α → Bool} {l : List α} (h : ∀ x ∈ l, p x = true) : l.filter p = l := List.filter_eq_self.2 h
theorem filter_none {α : Type} {p : α → Bool} {l : List α} (h : ∀ x ∈ l, p x = false) : l.filter p = [] := List.filter_eq_nil_iff.2 (fun x hx => by rw [h x hx]; simp)

theorem tw_imp {α : Type} {p : α → Bool} {l : List α} {y : α} (h : y ∈ l.takeWhile p) : p y = true := List.all_eq_true.1 List.all_takeWhile y h

theorem scan_filter {x : Chg} {l : List Chg} (hs : (x :: l).Pairwise (fun a b => b.lt a = false)) : (x :: l).filter x.same = x :: l.takeWhile x.same := by
  have ha := scan_above hs
  rw [List.filter_cons, if_pos (Chg.same_refl x)]
  congr 1
  conv => lhs; rw [← List.takeWhile_append_dropWhile (p := x.same) (l := l)]
  rw [List.filter_append, filter_all (fun y hy => by have := tw_imp hy; exact this), filter_none (fun y hy => by
    cases h : x.same y with
    | false => rfl
    | true => have := ha y hy; rw [Chg.same_not_lt h] at this; cases this), List.append_nil]

theorem scan_filter_ne {x c : Chg} {l : List Chg} (hc : c.same x = false) : (x :: l).filter c.same = (l.dropWhile x.same).filter c.same := by
  rw [List.filter_cons, hc]
  simp only [Bool.false_eq_true, if_false]
  conv => lhs; rw [← List.takeWhile_append_dropWhile (p := x.same) (l := l)]
  rw [List.filter_append, filter_none (fun y hy => ?_), List.nil_append]
  have hy2 : x.same y = true := tw_imp hy
  cases h : c.same y with
  | false => rfl
  | true => rw [Chg.same_trans h (Chg.same_symm hy2)] at hc; cases hc

theorem scan_spec : ∀ (n : Nat) (l : List Chg), l.length = n → l.Pairwise (fun a b => b.lt a = false) → Rising (netScan l) ∧ ∀ c, c ∈ netScan l ↔ IsNet l c := by
  intro n
  induction n using Nat.strongRecOn with
  | _ n ih =>
    intro l hn hs
    cases l with
    | nil =>
      rw [netScan]
      exact ⟨List.Pairwise.nil, fun c => ⟨fun h => (by cases h), fun h => by have := h.2.1; simp at this⟩⟩
    | cons x l =>
      have hsub := List.dropWhile_sublist (l := l) x.same
      obtain ⟨i1, i2⟩ := ih (l.dropWhile x.same).length (by have := hsub.length_le; simp only [List.length_cons] at hn; omega) _ rfl ((List.pairwise_cons.1 hs).2.sublist hsub)
      have ha := scan_above hs
      have hf := scan_filter hs
      rw [netScan]
      obtain ⟨c0, hc0⟩ : ∃ c0 : Chg, c0 = { x with new := ((x :: l.takeWhile x.same).getLast (by simp)).new } := ⟨_, rfl⟩
      simp only [← hc0]
      have hcs : c0.same x = true := by rw [hc0]; exact Chg.same_refl x
      have hnet : c0.kind ≠ 0 → IsNet (x :: l) c0 := fun hk => ⟨hk, by rw [same_eq_filter hcs, hf, hc0]; rfl, by rw [same_eq_filter hcs, hf, List.getLast?_eq_some_getLast (by simp), hc0]; rfl⟩
      have hr : ∀ c ∈ netScan (l.dropWhile x.same), x.lt c = true := fun c hc => by
        have := (i2 c).1 hc
        obtain ⟨_, h1, _⟩ := this
        cases hfl : (l.dropWhile x.same).filter c.same with
        | nil => rw [hfl] at h1; simp at h1
        | cons y ys =>
          have hy : y ∈ (l.dropWhile x.same).filter c.same := by rw [hfl]; exact List.mem_cons_self
          obtain ⟨hy1, hy2⟩ := List.mem_filter.1 hy
          rw [Chg.lt_of_same_right hy2]
          exact ha y hy1
      have hmem : ∀ c, c ∈ (if c0.kind = 0 then [] else [c0]) ++ netScan (l.dropWhile x.same) ↔ IsNet (x :: l) c := by
        intro c
        cases hcx : c.same x with
        | true =>
          have hno : ¬ c ∈ netScan (l.dropWhile x.same) := fun h => by have := hr c h; rw [Chg.same_not_lt (Chg.same_symm hcx)] at this; cases this
          have hcc : c.same c0 = true := Chg.same_trans hcx (Chg.same_symm hcs)
          rw [List.mem_append]
          constructor
          · intro h
            rcases h with h | h
            · split at h
              · cases h
              · next hk => rw [List.mem_singleton.1 h]; exact hnet hk
            · exact absurd h hno
          · intro h
            have e : c0.kind ≠ 0 → c = c0 := fun hk => net_unique h (hnet hk) hcc
            by_cases hk : c0.kind = 0
            · exfalso
              obtain ⟨h0, h1, h2⟩ := h
              rw [same_eq_filter hcx, hf] at h1 h2
              apply h0
              have e : c = c0 := by
                rw [List.getLast?_eq_some_getLast (by simp)] at h2
                simp only [List.head?_cons, Option.map_some, Option.some.injEq] at h1 h2
                rw [Chg.same_iff] at hcx
                obtain ⟨t, i, o, m⟩ := c
                rw [hc0]
                simp only at h1 h2 hcx
                rw [← h1, ← h2, hcx.1, hcx.2]
              rw [e]; exact hk
            · rw [if_neg hk]; exact .inl (List.mem_singleton.2 (e hk))
        | false =>
          have hno : ¬ c ∈ (if c0.kind = 0 then [] else [c0]) := fun h => by
            split at h
            · cases h
            · rw [List.mem_singleton.1 h, hcs] at hcx; cases hcx
          rw [List.mem_append]
          have e : IsNet (x :: l) c ↔ IsNet (l.dropWhile x.same) c := by unfold IsNet; rw [scan_filter_ne hcx]
          rw [e, ← i2 c]
          exact ⟨fun h => h.resolve_left hno, fun h => .inr h⟩
      refine ⟨?_, hmem⟩
      refine List.pairwise_append.2 ⟨by split <;> simp, i1, fun a ha' b hb => ?_⟩
      split at ha'
      · cases ha'
      · rw [List.mem_singleton.1 ha', Chg.lt_of_same_left hcs]
        exact hr b hb

/-! ### the sort -/
theorem ins_sorted {x : Chg} : ∀ {out : List Chg}, out.Pairwise (fun a b => b.lt a = false) → (ins (ltOf chgCmp) x out).Pairwise (fun a b => b.lt a = false)
  | [], _ => by simp [ins]
  | y :: ys, h => by
    obtain ⟨h1, h2⟩ := List.pairwise_cons.1 h
    rw [ins]
    split
    · next hlt =>
      rw [ltOf_chg] at hlt
      refine List.pairwise_cons.2 ⟨fun z hz => ?_, h⟩
      rcases List.mem_cons.1 hz with rfl | hz
      · exact Chg.lt_asymm hlt
      · cases hh : z.lt x with
        | false => rfl
        | true => have := Chg.lt_trans hh hlt; rw [h1 z hz] at this; cases this
    · next hlt =>
      refine List.pairwise_cons.2 ⟨fun z hz => ?_, ins_sorted h2⟩
      rcases (ins_perm x ys).subset hz |> List.mem_cons.1 with rfl | hz
      · rw [← ltOf_chg]; simpa using hlt
      · exact h1 z hz

theorem ins_filter {x c : Chg} : ∀ {out : List Chg}, out.Pairwise (fun a b => b.lt a = false) → (ins (ltOf chgCmp) x out).filter c.same = out.filter c.same ++ (if c.same x then [x] else [])
  | [], _ => by rw [ins, List.filter_cons, List.filter_nil]; rfl
  | y :: ys, h => by
    obtain ⟨h1, h2⟩ := List.pairwise_cons.1 h
    rw [ins]
    split
    · next hlt =>
      rw [ltOf_chg] at hlt
      cases hcx : c.same x with
      | false => rw [List.filter_cons, hcx]; simp
      | true =>
        have hn : ∀ z ∈ y :: ys, c.same z = false := fun z hz => by
          cases hcz : c.same z with
          | false => rfl
          | true =>
            have hxz : x.same z = true := Chg.same_trans (Chg.same_symm hcx) hcz
            rcases List.mem_cons.1 hz with rfl | hz
            · rw [Chg.same_not_lt hxz] at hlt; cases hlt
            · have := h1 z hz
              rw [Chg.lt_of_same_left (Chg.same_symm hxz), hlt] at this
              cases this
        rw [List.filter_cons, hcx, filter_none hn]
        rfl
    · rw [List.filter_cons, ins_filter h2, List.filter_cons]
      split <;> simp

theorem isort_spec (l : List Chg) : (isort (ltOf chgCmp) l).Pairwise (fun a b => b.lt a = false) ∧ ∀ c : Chg, (isort (ltOf chgCmp) l).filter c.same = l.filter c.same := by
  have key : ∀ (l out : List Chg), out.Pairwise (fun a b => b.lt a = false) → (l.foldl (fun out x => ins (ltOf chgCmp) x out) out).Pairwise (fun a b => b.lt a = false) ∧ ∀ c : Chg, (l.foldl (fun out x => ins (ltOf chgCmp) x out) out).filter c.same = out.filter c.same ++ l.filter c.same := by
    intro l
    induction l with
    | nil => intro out h; exact ⟨h, fun c => by simp⟩
    | cons x l ih =>
      intro out h
      obtain ⟨i1, i2⟩ := ih _ (ins_sorted (x := x) h)
      refine ⟨i1, fun c => ?_⟩
      rw [List.foldl_cons, i2 c, ins_filter h, List.append_assoc]
      congr 1
      rw [List.filter_cons]
      split <;> simp
  obtain ⟨h1, h2⟩ := key l [] List.Pairwise.nil
  exact ⟨h1, fun c => by simpa [isort] using h2 c⟩

/-- THE NET EFFECT: in order, no row twice; each change's row, what it was first, what it is last. -/
theorem net_rising (l : List Chg) : Rising (net l) := (scan_spec _ _ rfl (isort_spec l).1).1
theorem mem_net (l : List Chg) (c : Chg) : c ∈ net l ↔ IsNet l c := by
  have h := (scan_spec _ _ rfl (isort_spec l).1).2 c
  rw [show IsNet l c ↔ IsNet (isort (ltOf chgCmp) l) c by unfold IsNet; rw [(isort_spec l).2 c]]
  exact h

end Go.Proofs.Ytkfoknjflpklpaa.D

namespace Go.Proofs.Ytkfoknjflpklpaa.D
open Go Go.RowKit Go.Sort Go.Proofs.Ytkfoknjflpklpaa.Mem Go.Proofs.Ytkfoknjflpklpaa.Cmp Go.Proofs.Ytkfoknjflpklpaa.Stab

/-- Element i of a slice of changes. -/
theorem chgs_get {ok : Nat → Prop} {w : World} {A : Option Addr} {xs : List Chg} (h : Row tChg ok w A xs) (i : Nat) (hi : i < xs.length) :
    ∃ ad v2 v3, A = some ad ∧ w.cell? (ad.add (i * 4)) = some (.string xs[i].table) ∧ w.cell? ⟨(ad.add (i * 4)).block, (ad.add (i * 4)).off + 1, none⟩ = some (.int .i64 xs[i].id) ∧ w.cell? ⟨(ad.add (i * 4)).block, (ad.add (i * 4)).off + 2, none⟩ = some v2 ∧ w.cell? ⟨(ad.add (i * 4)).block, (ad.add (i * 4)).off + 3, none⟩ = some v3 ∧ Sl tVal ok w v2 xs[i].old ∧ Sl tVal ok w v3 xs[i].new ∧ ok ad.block := by
  obtain ⟨ad, cs, rfl, hok, _, ⟨v2, v3, rfl, h2, h3⟩, ha⟩ := h.get i hi
  exact ⟨ad, v2, v3, rfl, At.c0 ha rfl, At.cj ha 1 (by omega) rfl, At.cj ha 2 (by omega) rfl, At.cj ha 3 (by omega) rfl, h2, h3, hok⟩

theorem cell_lt {W : World} {a : Addr} {v : Value} (h : W.cell? a = some v) : a.block < W.heap.size := by
  unfold World.cell? at h
  cases e : W.heap[a.block]? with
  | none => rw [e] at h; simp at h
  | some o => exact (Array.getElem?_eq_some_iff.1 e).1

theorem grown_cell {W : World} {q : Nat} {os : Array Obj} {a : Addr} {v : Value} (h : W.cell? a = some v) : (grow (W.drewN q) os).cell? a = some v := by
  have hlt := cell_lt h
  rw [cell?_grow _ _ _ (by simpa using hlt)]
  simpa using h

theorem Below.growd {N q : Nat} {w wr : World} {os : Array Obj} (h : Below N w wr) (hN : N ≤ wr.heap.size) : Below N w (grow (wr.drewN q) os) := by
  refine h.trans ⟨rfl, rfl, rfl, by simp, fun k hk => ?_⟩
  rw [heap_grow_old _ _ (by simpa using Nat.lt_of_lt_of_le hk hN)]
  simp

theorem take_same {x y : Chg} {l : List Chg} {p : Nat} (hp : 0 < p) (hy : (x :: l)[p]? = some y) (h : ∀ z ∈ l.take (p - 1), x.same z = true) (hs : x.same y = true) : ∀ z ∈ l.take p, x.same z = true := by
  obtain ⟨q, rfl⟩ : ∃ q, p = q + 1 := ⟨p - 1, by omega⟩
  rw [List.getElem?_cons_succ] at hy
  obtain ⟨hq, rfl⟩ := List.getElem?_eq_some_iff.1 hy
  rw [List.take_succ_eq_append_getElem hq]
  intro z hz
  rcases List.mem_append.1 hz with hz | hz
  · exact h z hz
  · rw [List.mem_singleton.1 hz]; exact hs

theorem cloned_R {W : World} {BW N B : Nat} {vo v2 v3 : Value} {cc : Chg} (h1 : N ≤ BW) (h2 : BW ≤ B) (ho : ∀ k, vo.ownBlock = some k → N ≤ k ∧ k < BW) (h3 : Own tVal 55 (fun _ => False) W B v2 cc.old) (h4 : Own tVal 55 (fun _ => False) W B v3 cc.new) (n1 : cc.old.length ≤ 140737488355328) (n2 : cc.new.length ≤ 140737488355328) :
    tChg.R (fun k => N ≤ k ∧ some k ≠ vo.ownBlock) W cc [.string cc.table, .int .i64 cc.id, v2, v3] := by
  have key : ∀ v xs, Own tVal 55 (fun _ => False) W B v xs → xs.length ≤ 140737488355328 → Sl tVal (fun k => N ≤ k ∧ some k ≠ vo.ownBlock) W v xs := fun v xs h hn => h.sl (fun k hk => by
    have hk1 := (h.lt k hk).1
    refine ⟨by omega, fun e => ?_⟩
    have := (ho k e.symm).2
    omega) (fun k hk => hk.elim) hn
  exact ⟨v2, v3, rfl, key _ _ h3 n1, key _ _ h4 n2⟩

theorem net_step {x z : Chg} {l : List Chg} {p q : Nat} (hq : p = q + 1) (hz : (x :: l)[q]? = some z) (h : l.takeWhile x.same = l.take (p - 1) ∧ l.dropWhile x.same = l.drop (p - 1)) :
    netScan (x :: l) = (if Chg.kind { x with new := z.new } = 0 then [] else [{ x with new := z.new }]) ++ netScan ((x :: l).drop p) := by
  subst hq
  rw [Nat.add_sub_cancel] at h
  have e : (x :: l.takeWhile x.same).getLast (by simp) = z := by
    rw [List.getLast_eq_getElem]
    simp only [h.1, List.length_cons, Nat.add_sub_cancel]
    obtain ⟨hlt, rfl⟩ := List.getElem?_eq_some_iff.1 hz
    have hm : min q l.length = q := by simp only [List.length_cons] at hlt; omega
    simp only [List.length_take, hm]
    cases q with
    | zero => rfl
    | succ q => simp
  rw [netScan]
  simp only [e, h.2, List.drop_succ_cons]

theorem while_of {α : Type} (p : α → Bool) : ∀ (n : Nat) (l : List α), (∀ z ∈ l.take n, p z = true) → (∀ y, l[n]? = some y → p y = false) → l.takeWhile p = l.take n ∧ l.dropWhile p = l.drop n
  | _, [], _, _ => by simp
  | 0, y :: l, _, h => by
    have := h y rfl
    simp [this]
  | n + 1, y :: l, h1, h2 => by
    have hy := h1 y (by simp)
    obtain ⟨i1, i2⟩ := while_of p n l (fun z hz => h1 z (by simp [hz])) (fun z hz => h2 z (by simpa using hz))
    simp [hy, i1, i2]

set_option maxHeartbeats 8000000 in
set_option maxRecDepth 100000 in
theorem netCalls (ok : Nat → Prop) (v : Value) (xs : List Chg) (w : World) (h : Sl tChg ok w v xs) (hl : xs.length ≤ 1000) (hb : ∀ x ∈ xs, x.old.length ≤ 1000 ∧ x.new.length ≤ 1000) :
    Calls Try.prog 18 #[v] w fun e w' => ∃ vo, e = .returned vo ∧ Own tChg 40 (fun k => w.heap.size ≤ k) w' w.heap.size vo (net xs) ∧ Below w.heap.size w w' := by
  obtain ⟨A, c, rfl, l1, l2, l3⟩ := h.shape
  have C1 := put (cloneChg ok _ xs w h (by omega))
  have C2 : Kp (∀ w1 v1, Own tChg 40 (fun k => ok k ∧ k < w.heap.size) w1 w.heap.size v1 xs → Calls Try.prog 54 #[v1, .func (.func 55) #[] #[]] w1 fun e w' => e = .returned (.tuple #[]) ∧ Own tChg 40 (fun k => ok k ∧ k < w.heap.size) w' w.heap.size v1 (isort (ltOf chgCmp) xs) ∧ w1.grownBy w' v1.ownBlock) := ⟨fun w1 v1 ho => by
    refine StabChg.sortOwn tChg rfl _ w1 _ v1 xs ho chgCmp swo_chg 55 #[] (fun args w => by rfl) (fun x y cx cy W hx hy => ?_) (by omega)
    obtain ⟨a2, a3, rfl, _, _⟩ := hx
    obtain ⟨b2, b3, rfl, _, _⟩ := hy
    exact beforeCalls _ _ _ _ _ _ _ _ W⟩
  have HN : Kp (netScan (isort (ltOf chgCmp) xs) = net xs) := ⟨rfl⟩
  have HL := put hl
  have HB : Kp (∀ x ∈ isort (ltOf chgCmp) xs, x.old.length ≤ 1000 ∧ x.new.length ≤ 1000) := ⟨fun x hx => hb x ((isort_perm xs).subset hx)⟩
  have HP : Kp ((isort (ltOf chgCmp) xs).length = xs.length) := ⟨(isort_perm xs).length_eq⟩
  clear hb h hl
  generalize isort (ltOf chgCmp) xs = ys at C2 HN HB HP
  go_enter Try.func18, Try.ntmps18
  go_wp2_with (first | (go_at_call 53; refine C1.out.mono ?_; rintro e w1 ⟨A1, c1, rfl, ho1, hb1⟩; have C2' := put (C2.out w1 _ ho1)) | (go_at_call 54; refine C2'.out.mono ?_; rintro e w2 ⟨rfl, ho2, hg2⟩))
  have hB : Below w.heap.size w w2 := hb1.grown hg2 hb1.size (fun k hk => (ho1.lt k hk).1)
  have hS : Sl tChg (fun k => k < w2.heap.size) w2 (.slice A1 xs.length c1) ys := ho2.sl (fun k hk => (ho2.lt k hk).2) (fun k hk => Nat.lt_of_lt_of_le hk.2 hB.size) (by have := HL.out; have := HP.out; omega)
  have HBW := put hB
  have HS := put hS
  rw [show xs.length = ys.length from HP.out.symm] at HS ⊢
  have hlen : ys.length ≤ 1000 := by rw [HP.out]; exact HL.out
  clear hS hB ho2 ho1 hb1 hg2 C2' C2 C1 HP
  obtain ⟨N, hN⟩ : ∃ N, N = w2.heap.size := ⟨_, rfl⟩
  rw [← hN] at HS
  have HNN := put hN
  clear hN
  go_loopg [3, 4] ys.length (fun kx s3 s4 wr => ∃ (A' : Option Addr) (m c' : Nat) (rest : List Chg) (Ao : Option Addr) (mo co : Nat) (out : List Chg), s3 = .slice A' m c' ∧ s4 = .slice Ao mo co ∧ m ≤ kx ∧ m = rest.length ∧ mo = out.length ∧ Kp (Sl tChg (fun k => k < N) wr (.slice A' m c') rest) ∧ Kp (Own tChg 40 (fun k => N ≤ k) wr N (.slice Ao mo co) out) ∧ Kp (Below N w2 wr) ∧ Kp (out ++ netScan rest = net xs) ∧ Kp (∀ x ∈ rest, x.old.length ≤ 1000 ∧ x.new.length ≤ 1000) ∧ m + mo ≤ 1000)
  case atStart => exact ⟨_, _, _, ys, none, 0, 0, [], rfl, rfl, Nat.le_refl _, rfl, rfl, HS, put (Own.nil _ _ _ _ _), put (by rw [HNN.out]; exact Below.refl _ _), put (by simpa using HN.out), HB, by simpa using hlen⟩
  case round =>
    obtain ⟨A', m, c', rest, Ao, mo, co, out, rfl, rfl, hkx, hm, hmo, KS, KO, KB, KN, KE, hro⟩ := hrel
    clear HS HN HB
    cases rest with
    | nil =>
      obtain rfl : m = 0 := hm
      go_wp2
      go_ret
      have e : out = net xs := by have := KN.out; rw [netScan, List.append_nil] at this; exact this
      have hbw := HBW.out
      have hle : w.heap.size ≤ N := by rw [HNN.out]; exact hbw.size
      rw [← e]
      refine ⟨_, rfl, (KO.out.lower hle).mono (fun k hk => Nat.le_trans hle hk), hbw.trans (KB.out.mono hle)⟩
    | cons x l =>
      have hpos : 0 < m := by rw [hm]; simp
      have hpd : decide (0 < m) = true := by simp [hpos]
      have HM := put hm
      have HMO := put hmo
      clear hm hmo
      go_wp2
      obtain ⟨wo, rfl⟩ : ∃ wo : World, wo = wr := ⟨_, rfl⟩
      go_loopg [5] l.length (fun kx s5 wi => ∃ (p : Nat), s5 = .int .i64 p ∧ 0 < p ∧ p ≤ m ∧ m - p ≤ kx ∧ Kp (Below wo.heap.size wo wi) ∧ Kp (∀ y ∈ l.take (p - 1), x.same y = true))
      case atStart => exact ⟨1, rfl, by decide, by omega, by rw [HM.out]; simp, put (Below.refl _ _), put (by simp)⟩
      case round =>
        obtain ⟨p, rfl, hp, hpm, hkx2, hbi, hsm⟩ := hrel
        have KSi : Sl tChg (fun k => k < N) wr (.slice A' m c') (x :: l) := KS.out.below hbi.out
        by_cases hlt : p < m
        · have hlz : (p : Int) < (m : Int) := by omega
          have i0 : (0 : Int) ≤ (p : Int) := by omega
          have i1 : (0 : Int) < (m : Int) := by omega
          obtain ⟨ad, y2, y3, rfl, cy0, cy1, cy2, cy3, _, _, _⟩ := chgs_get KSi.row.1 p (by rw [← HM.out]; exact hlt)
          obtain ⟨ad', x2, x3, e, cx0, cx1, cx2, cx3, _, _, _⟩ := chgs_get KSi.row.1 0 (by simp)
          obtain rfl := Option.some.inj e
          simp only [Nat.zero_mul, add_zero, List.getElem_cons_zero] at cx0 cx1 cx2 cx3
          obtain ⟨y, hy⟩ : ∃ y, (x :: l)[p]? = some y := ⟨_, List.getElem?_eq_getElem (by rw [← HM.out]; exact hlt)⟩
          rw [(List.getElem?_eq_some_iff.1 hy).2] at cy0 cy1
          have HY := put hy
          clear hy e KSi
          by_cases hs : x.same y = true
          · have hc : (cmpRow y.table y.id x.table x.id == 0) = true := by rw [beq_iff_eq]; exact (chgCmp_eq y x).2 (Chg.same_symm hs)
            have HS := put hs
            clear hs
            go_wp2
            go_region_held3 (fun w' => w'.cell? ad = some (.string x.table) ∧ w'.cell? ⟨ad.block, ad.off + 1, none⟩ = some (.int .i64 x.id) ∧ w'.cell? ⟨ad.block, ad.off + 2, none⟩ = some x2 ∧ w'.cell? ⟨ad.block, ad.off + 3, none⟩ = some x3 ∧ w'.cell? (ad.add (p * 4)) = some (.string y.table) ∧ w'.cell? ⟨(ad.add (p * 4)).block, (ad.add (p * 4)).off + 1, none⟩ = some (.int .i64 y.id) ∧ w'.cell? ⟨(ad.add (p * 4)).block, (ad.add (p * 4)).off + 2, none⟩ = some y2 ∧ w'.cell? ⟨(ad.add (p * 4)).block, (ad.add (p * 4)).off + 3, none⟩ = some y3) (first | go_keep | exact ⟨grown_cell cx0, grown_cell cx1, grown_cell cx2, grown_cell cx3, grown_cell cy0, grown_cell cy1, grown_cell cy2, grown_cell cy3⟩)
              (first | (go_at_call 55; refine (beforeCalls _ _ _ _ _ _ _ _ _).mono ?_; rintro e w' ⟨rfl, q, os, rfl⟩))
            go_wp2
            go_roundg (m - (p + 1))
            case measure => omega
            case rel => exact ⟨p + 1, by go_num, by omega, by omega, Nat.le_refl _, put (Below.growd hbi.out hbi.out.size), put (take_same hp HY.out hsm.out HS.out)⟩
          · have hc : (cmpRow y.table y.id x.table x.id == 0) = false := by rw [beq_eq_false_iff_ne]; intro e; exact hs (Chg.same_symm ((chgCmp_eq y x).1 e))
            have HW : Kp (l.takeWhile x.same = l.take (p - 1) ∧ l.dropWhile x.same = l.drop (p - 1)) := ⟨while_of _ _ _ hsm.out (fun z hz => by
              have h1 := HY.out
              obtain ⟨q, rfl⟩ : ∃ q, p = q + 1 := ⟨p - 1, by omega⟩
              rw [List.getElem?_cons_succ] at h1
              rw [Nat.add_sub_cancel, h1] at hz
              injection hz with hz
              rw [← hz]
              simpa using hs)⟩
            clear hs
            go_wp2
            go_region_held3 (fun w' => w'.cell? ad = some (.string x.table) ∧ w'.cell? ⟨ad.block, ad.off + 1, none⟩ = some (.int .i64 x.id) ∧ w'.cell? ⟨ad.block, ad.off + 2, none⟩ = some x2 ∧ w'.cell? ⟨ad.block, ad.off + 3, none⟩ = some x3 ∧ w'.cell? (ad.add (p * 4)) = some (.string y.table) ∧ w'.cell? ⟨(ad.add (p * 4)).block, (ad.add (p * 4)).off + 1, none⟩ = some (.int .i64 y.id) ∧ w'.cell? ⟨(ad.add (p * 4)).block, (ad.add (p * 4)).off + 2, none⟩ = some y2 ∧ w'.cell? ⟨(ad.add (p * 4)).block, (ad.add (p * 4)).off + 3, none⟩ = some y3) (first | go_keep | exact ⟨grown_cell cx0, grown_cell cx1, grown_cell cx2, grown_cell cx3, grown_cell cy0, grown_cell cy1, grown_cell cy2, grown_cell cy3⟩)
              (first | (go_at_call 55; refine (beforeCalls _ _ _ _ _ _ _ _ _).mono ?_; rintro e w' ⟨rfl, q, os, rfl⟩))
            obtain ⟨w3, hw3⟩ : ∃ w3, w3 = grow (wr.drewN (1 + q)) os := ⟨_, rfl⟩
            rw [← hw3]
            have hb3 : Below wo.heap.size wo w3 := by rw [hw3]; exact Below.growd hbi.out hbi.out.size
            clear hw3 cx0 cx1 cx2 cx3 cy0 cy1 cy2 cy3
            have K3 : Sl tChg (fun k => k < N) w3 (.slice (some ad) m c') (x :: l) := KS.out.below hb3
            obtain ⟨q, hq⟩ : ∃ q, p = q + 1 := ⟨p - 1, by omega⟩
            have hq1 : (p : Int) - 1 = (q : Int) := by omega
            have q0 : (0 : Int) ≤ (q : Int) := by omega
            have q1 : (q : Int) < (m : Int) := by omega
            obtain ⟨ad1, x2, x3, e1, cx0, cx1, cx2, cx3, sx2, sx3, _⟩ := chgs_get K3.row.1 0 (by simp)
            obtain rfl := Option.some.inj e1
            simp only [Nat.zero_mul, add_zero, List.getElem_cons_zero] at cx0 cx1 cx2 cx3 sx2 sx3
            obtain ⟨ad2, z2, z3, e2, cz0, cz1, cz2, cz3, sz2, sz3, _⟩ := chgs_get K3.row.1 q (by rw [← HM.out]; omega)
            obtain rfl := Option.some.inj e2
            obtain ⟨z, hz⟩ : ∃ z, (x :: l)[q]? = some z := ⟨_, List.getElem?_eq_getElem (by rw [← HM.out]; omega)⟩
            rw [(List.getElem?_eq_some_iff.1 hz).2] at cz0 cz1 sz2 sz3
            have HNS := put (net_step hq hz HW.out)
            have bx := (KE.out x (by simp)).1
            have bz := (KE.out z (List.mem_of_getElem? hz)).2
            have HZ := put (And.intro hz hq)
            have BX := put (And.intro bx bz)
            obtain ⟨X2, k2, rfl, gx2, _, _⟩ := sx2.shape
            obtain ⟨X3, k3, rfl, gx3, _, _⟩ := sx3.shape
            obtain ⟨Z3, kz, rfl, gz3, _, _⟩ := sz3.shape
            have SX := put sx2
            have SZ := put sz3
            have HB3 := put hb3
            clear e1 e2 sx2 sx3 sz2 sz3 hz hq bx bz K3 hb3
            obtain ⟨cc, hcc⟩ : ∃ cc : Chg, cc = { x with new := z.new } := ⟨_, rfl⟩
            have HC := put hcc
            rw [← hcc] at HNS
            have hNo : N ≤ wo.heap.size := by rw [HNN.out]; exact KB.out.size
            have RC : Kp (∀ w', Below w3.heap.size w3 w' → tChg.R (fun k => k < N) w' cc [.string x.table, .int .i64 x.id, .slice X2 x.old.length k2, .slice Z3 z.new.length kz]) := ⟨fun w' hb => ⟨_, _, by rw [hcc], by rw [hcc]; exact SX.out.below hb, by rw [hcc]; exact SZ.out.below hb⟩⟩
            have cz : ∀ o, (w3.alloc o).cell? ⟨(ad.add (q * 4)).block, (ad.add (q * 4)).off + 3, none⟩ = some (.slice Z3 z.new.length kz) := fun o => (((Below.refl _ _).alloc (Nat.le_refl _) o).cell (p := ⟨(ad.add (q * 4)).block, (ad.add (q * 4)).off + 3, none⟩) (cell_lt cz3)).trans cz3
            clear hcc cz0 cz1 cz2 cz3
            by_cases hkd : cc.kind = 0
            · have hk2 : (cc.kind != 0) = false := by simp [hkd]
              have HK := put hkd
              clear hkd
              go_wp2_with (first | (go_at_call 20; refine (kindCalls (fun k => k < N) cc [.string x.table, .int .i64 x.id, .slice X2 x.old.length k2, .slice Z3 z.new.length kz] _ (RC.out _ ((Below.refl _ _).alloc (Nat.le_refl _) _))).mono ?_; rintro e w5 ⟨rfl, hb5⟩))
              all_goals
                have hb6 : Below wo.heap.size wo w5 := HB3.out.trans ((((Below.refl _ _).alloc (Nat.le_refl _) _).trans (hb5.mono (by simp))).mono HB3.out.size)
                go_roundg (m - p)
                case measure => omega
                case rel =>
                  have h := (KS.out.below hb6).drop (n := p) hpm
                  refine ⟨_, m - p, _, (x :: l).drop p, _, _, _, out, rfl, rfl, Nat.le_refl _, by rw [List.length_drop, ← HM.out], by first | exact HMO.out | simp [HMO.out], put ?_, put (KO.out.below hb6), put (KB.out.trans (hb6.mono hNo)), put ?_, put (fun z hz => KE.out z (List.mem_of_mem_drop hz)), by omega⟩
                  · first
                    | (have hcp : c' = p := by omega
                       subst hcp
                       rw [if_pos rfl, Nat.sub_self] at h
                       exact h)
                    | (have hcp : c' ≠ p := by omega
                       rw [if_neg hcp] at h
                       exact h)
                  · rw [← KN.out, HNS.out, if_pos HK.out]; simp
            · have hk2 : (cc.kind != 0) = true := by simp [hkd]
              have HK := put hkd
              clear hkd
              go_wp2_with (first | (go_at_call 20; refine (kindCalls (fun k => k < N) cc [.string x.table, .int .i64 x.id, .slice X2 x.old.length k2, .slice Z3 z.new.length kz] _ (RC.out _ ((Below.refl _ _).alloc (Nat.le_refl _) _))).mono ?_; rintro e w5 ⟨rfl, hb5⟩; have d0 := (hb5.cell (p := ⟨w3.heap.size, 0, none⟩) (by simp)); have d1 := (hb5.cell (p := ⟨w3.heap.size, 1, none⟩) (by simp)); have d2 := (hb5.cell (p := ⟨w3.heap.size, 2, none⟩) (by simp)); have d3 := (hb5.cell (p := ⟨w3.heap.size, 3, none⟩) (by simp)); simp at d0 d1 d2 d3; have HB5 := put hb5; clear hb5) | (go_at_call 56; have hbo : Below wo.heap.size wo w5 := HB3.out.trans ((((Below.refl _ _).alloc (Nat.le_refl _) _).trans (HB5.out.mono (by simp))).mono HB3.out.size); refine (cloneCalls (fun k => k < N) cc [.string x.table, .int .i64 x.id, .slice X2 x.old.length k2, .slice Z3 z.new.length kz] w5 (RC.out _ (((Below.refl _ _).alloc (Nat.le_refl _) _).trans (HB5.out.mono (by simp)))) (by rw [HC.out]; exact BX.out.1) (by rw [HC.out]; exact BX.out.2)).mono ?_; rintro e w6 ⟨v2, v3, rfl, ho2, ho3, _, hb6⟩; have HO2 := put ho2; have HO3 := put ho3; have HBO := put (hbo.trans (hb6.mono hbo.size)); have HB65 := put hb6; have HP : Kp (tChg.R (fun k => N ≤ k ∧ some k ≠ (Value.slice Ao mo co).ownBlock) w6 cc [.string cc.table, .int .i64 cc.id, v2, v3]) := put (cloned_R (BW := wo.heap.size) hNo hbo.size KO.out.lt ho2 ho3 (by rw [HC.out]; have := BX.out.1; simp only; omega) (by rw [HC.out]; have := BX.out.2; simp only; omega)); obtain ⟨V2, c22, e22, _, _⟩ := ho2.form; obtain ⟨V3, c33, e33, _, _⟩ := ho3.form; have HOW := put (KO.out.below HBO.out); subst e22; subst e33; clear ho2 ho3 hbo hb6 HO2 HO3) | (at_builtin; refine wpList_push tChg N rfl _ _ 27 40 _ 72 rfl Try.underlying27 infoChg rfl (by decide) (by decide) (.slice Ao mo co) out cc [.string cc.table, .int .i64 cc.id, .slice V2 cc.old.length c22, .slice V3 cc.new.length c33] (fun k => N ≤ k) rfl rfl HP.out HOW.out (Nat.le_trans hNo HBO.out.size) (by rw [← HMO.out]; omega) ?_; intro v1 w7 hown hg hat; obtain ⟨A9, c9, e9, _, _⟩ := hown.form; rw [show (out ++ [cc]).length = mo + 1 by rw [HMO.out]; simp] at e9; subst e9; have hb7 : Below N wo w7 := (HBO.out.mono hNo).grown hg (Nat.le_trans hNo HBO.out.size) (fun k hk => (HOW.out.lt k hk).1); have HB7 := put hb7; have HOWN := put hown; clear hown hg hat hb7))
              all_goals
                have hb7 := HB7.out
                go_roundg (m - p)
                case measure => omega
                case rel =>
                  have h := (KS.out.below' hb7 (fun k hk => hk)).drop (n := p) hpm
                  refine ⟨_, m - p, _, (x :: l).drop p, _, _, _, out ++ [cc], rfl, by go_num, Nat.le_refl _, by rw [List.length_drop, ← HM.out], by first | exact HMO.out | simp [HMO.out], put ?_, put HOWN.out, put (KB.out.trans hb7), put ?_, put (fun z hz => KE.out z (List.mem_of_mem_drop hz)), by omega⟩
                  · first
                    | (have hcp : c' = p := by omega
                       subst hcp
                       rw [if_pos rfl, Nat.sub_self] at h
                       exact h)
                    | (have hcp : c' ≠ p := by omega
                       rw [if_neg hcp] at h
                       exact h)
                  · rw [← KN.out, HNS.out, if_neg HK.out]; simp
        · obtain ⟨ad, _, _, rfl, _⟩ := chgs_get KSi.row.1 0 (by simp)
          have hlz : ((p : Int) < (m : Int)) = False := by simp; omega
          have HW : Kp (l.takeWhile x.same = l.take (p - 1) ∧ l.dropWhile x.same = l.drop (p - 1)) := ⟨while_of _ _ _ hsm.out (fun z hz => by
            rw [List.getElem?_eq_none (by have := HM.out; simp only [List.length_cons] at this; omega)] at hz
            cases hz)⟩
          clear KSi
          go_wp2_with fail
          go_quiet (fail)
          obtain ⟨w3, hw3⟩ : ∃ w3, w3 = wr.drewN nq := ⟨_, rfl⟩
          rw [← hw3]
          have hb3 : Below wo.heap.size wo w3 := by rw [hw3]; exact hbi.out.trans ⟨rfl, rfl, rfl, by simp, fun k _ => by simp⟩
          clear hw3
          have K3 : Sl tChg (fun k => k < N) w3 (.slice (some ad) m c') (x :: l) := KS.out.below hb3
          obtain ⟨q, hq⟩ : ∃ q, p = q + 1 := ⟨p - 1, by omega⟩
          have hq1 : (p : Int) - 1 = (q : Int) := by omega
          have q0 : (0 : Int) ≤ (q : Int) := by omega
          have q1 : (q : Int) < (m : Int) := by omega
          obtain ⟨ad1, x2, x3, e1, cx0, cx1, cx2, cx3, sx2, sx3, _⟩ := chgs_get K3.row.1 0 (by simp)
          obtain rfl := Option.some.inj e1
          simp only [Nat.zero_mul, add_zero, List.getElem_cons_zero] at cx0 cx1 cx2 cx3 sx2 sx3
          obtain ⟨ad2, z2, z3, e2, cz0, cz1, cz2, cz3, sz2, sz3, _⟩ := chgs_get K3.row.1 q (by rw [← HM.out]; omega)
          obtain rfl := Option.some.inj e2
          obtain ⟨z, hz⟩ : ∃ z, (x :: l)[q]? = some z := ⟨_, List.getElem?_eq_getElem (by rw [← HM.out]; omega)⟩
          rw [(List.getElem?_eq_some_iff.1 hz).2] at cz0 cz1 sz2 sz3
          have HNS := put (net_step hq hz HW.out)
          have bx := (KE.out x (by simp)).1
          have bz := (KE.out z (List.mem_of_getElem? hz)).2
          have HZ := put (And.intro hz hq)
          have BX := put (And.intro bx bz)
          obtain ⟨X2, k2, rfl, gx2, _, _⟩ := sx2.shape
          obtain ⟨X3, k3, rfl, gx3, _, _⟩ := sx3.shape
          obtain ⟨Z3, kz, rfl, gz3, _, _⟩ := sz3.shape
          have SX := put sx2
          have SZ := put sz3
          have HB3 := put hb3
          clear e1 e2 sx2 sx3 sz2 sz3 hz hq bx bz K3 hb3
          obtain ⟨cc, hcc⟩ : ∃ cc : Chg, cc = { x with new := z.new } := ⟨_, rfl⟩
          have HC := put hcc
          rw [← hcc] at HNS
          have hNo : N ≤ wo.heap.size := by rw [HNN.out]; exact KB.out.size
          have RC : Kp (∀ w', Below w3.heap.size w3 w' → tChg.R (fun k => k < N) w' cc [.string x.table, .int .i64 x.id, .slice X2 x.old.length k2, .slice Z3 z.new.length kz]) := ⟨fun w' hb => ⟨_, _, by rw [hcc], by rw [hcc]; exact SX.out.below hb, by rw [hcc]; exact SZ.out.below hb⟩⟩
          have cz : ∀ o, (w3.alloc o).cell? ⟨(ad.add (q * 4)).block, (ad.add (q * 4)).off + 3, none⟩ = some (.slice Z3 z.new.length kz) := fun o => (((Below.refl _ _).alloc (Nat.le_refl _) o).cell (p := ⟨(ad.add (q * 4)).block, (ad.add (q * 4)).off + 3, none⟩) (cell_lt cz3)).trans cz3
          clear hcc cz0 cz1 cz2 cz3
          by_cases hkd : cc.kind = 0
          · have hk2 : (cc.kind != 0) = false := by simp [hkd]
            have HK := put hkd
            clear hkd
            go_wp2_with (first | (go_at_call 20; refine (kindCalls (fun k => k < N) cc [.string x.table, .int .i64 x.id, .slice X2 x.old.length k2, .slice Z3 z.new.length kz] _ (RC.out _ ((Below.refl _ _).alloc (Nat.le_refl _) _))).mono ?_; rintro e w5 ⟨rfl, hb5⟩))
            all_goals
              have hb6 : Below wo.heap.size wo w5 := HB3.out.trans ((((Below.refl _ _).alloc (Nat.le_refl _) _).trans (hb5.mono (by simp))).mono HB3.out.size)
              go_roundg (m - p)
              case measure => omega
              case rel =>
                have h := (KS.out.below hb6).drop (n := p) hpm
                refine ⟨_, m - p, _, (x :: l).drop p, _, _, _, out, rfl, rfl, Nat.le_refl _, by rw [List.length_drop, ← HM.out], by first | exact HMO.out | simp [HMO.out], put ?_, put (KO.out.below hb6), put (KB.out.trans (hb6.mono hNo)), put ?_, put (fun z hz => KE.out z (List.mem_of_mem_drop hz)), by omega⟩
                · first
                  | (have hcp : c' = p := by omega
                     subst hcp
                     rw [if_pos rfl, Nat.sub_self] at h
                     exact h)
                  | (have hcp : c' ≠ p := by omega
                     rw [if_neg hcp] at h
                     exact h)
                · rw [← KN.out, HNS.out, if_pos HK.out]; simp
          · have hk2 : (cc.kind != 0) = true := by simp [hkd]
            have HK := put hkd
            clear hkd
            go_wp2_with (first | (go_at_call 20; refine (kindCalls (fun k => k < N) cc [.string x.table, .int .i64 x.id, .slice X2 x.old.length k2, .slice Z3 z.new.length kz] _ (RC.out _ ((Below.refl _ _).alloc (Nat.le_refl _) _))).mono ?_; rintro e w5 ⟨rfl, hb5⟩; have d0 := (hb5.cell (p := ⟨w3.heap.size, 0, none⟩) (by simp)); have d1 := (hb5.cell (p := ⟨w3.heap.size, 1, none⟩) (by simp)); have d2 := (hb5.cell (p := ⟨w3.heap.size, 2, none⟩) (by simp)); have d3 := (hb5.cell (p := ⟨w3.heap.size, 3, none⟩) (by simp)); simp at d0 d1 d2 d3; have HB5 := put hb5; clear hb5) | (go_at_call 56; have hbo : Below wo.heap.size wo w5 := HB3.out.trans ((((Below.refl _ _).alloc (Nat.le_refl _) _).trans (HB5.out.mono (by simp))).mono HB3.out.size); refine (cloneCalls (fun k => k < N) cc [.string x.table, .int .i64 x.id, .slice X2 x.old.length k2, .slice Z3 z.new.length kz] w5 (RC.out _ (((Below.refl _ _).alloc (Nat.le_refl _) _).trans (HB5.out.mono (by simp)))) (by rw [HC.out]; exact BX.out.1) (by rw [HC.out]; exact BX.out.2)).mono ?_; rintro e w6 ⟨v2, v3, rfl, ho2, ho3, _, hb6⟩; have HO2 := put ho2; have HO3 := put ho3; have HBO := put (hbo.trans (hb6.mono hbo.size)); have HB65 := put hb6; have HP : Kp (tChg.R (fun k => N ≤ k ∧ some k ≠ (Value.slice Ao mo co).ownBlock) w6 cc [.string cc.table, .int .i64 cc.id, v2, v3]) := put (cloned_R (BW := wo.heap.size) hNo hbo.size KO.out.lt ho2 ho3 (by rw [HC.out]; have := BX.out.1; simp only; omega) (by rw [HC.out]; have := BX.out.2; simp only; omega)); obtain ⟨V2, c22, e22, _, _⟩ := ho2.form; obtain ⟨V3, c33, e33, _, _⟩ := ho3.form; have HOW := put (KO.out.below HBO.out); subst e22; subst e33; clear ho2 ho3 hbo hb6 HO2 HO3) | (at_builtin; refine wpList_push tChg N rfl _ _ 27 40 _ 72 rfl Try.underlying27 infoChg rfl (by decide) (by decide) (.slice Ao mo co) out cc [.string cc.table, .int .i64 cc.id, .slice V2 cc.old.length c22, .slice V3 cc.new.length c33] (fun k => N ≤ k) rfl rfl HP.out HOW.out (Nat.le_trans hNo HBO.out.size) (by rw [← HMO.out]; omega) ?_; intro v1 w7 hown hg hat; obtain ⟨A9, c9, e9, _, _⟩ := hown.form; rw [show (out ++ [cc]).length = mo + 1 by rw [HMO.out]; simp] at e9; subst e9; have hb7 : Below N wo w7 := (HBO.out.mono hNo).grown hg (Nat.le_trans hNo HBO.out.size) (fun k hk => (HOW.out.lt k hk).1); have HB7 := put hb7; have HOWN := put hown; clear hown hg hat hb7))
            all_goals
              have hb7 := HB7.out
              go_roundg (m - p)
              case measure => omega
              case rel =>
                have h := (KS.out.below' hb7 (fun k hk => hk)).drop (n := p) hpm
                refine ⟨_, m - p, _, (x :: l).drop p, _, _, _, out ++ [cc], rfl, by go_num, Nat.le_refl _, by rw [List.length_drop, ← HM.out], by first | exact HMO.out | simp [HMO.out], put ?_, put HOWN.out, put (KB.out.trans hb7), put ?_, put (fun z hz => KE.out z (List.mem_of_mem_drop hz)), by omega⟩
                · first
                  | (have hcp : c' = p := by omega
                     subst hcp
                     rw [if_pos rfl, Nat.sub_self] at h
                     exact h)
                  | (have hcp : c' ≠ p := by omega
                     rw [if_neg hcp] at h
                     exact h)
                · rw [← KN.out, HNS.out, if_neg HK.out]; simp

end Go.Proofs.Ytkfoknjflpklpaa.D

namespace Go.Proofs.Ytkfoknjflpklpaa.D
open Go Go.RowKit Go.Proofs.Ytkfoknjflpklpaa.Mem
attribute [local go_sem high] eqVal

set_option maxHeartbeats 4000000 in
set_option maxRecDepth 100000 in
theorem sameVals (ok1 ok2 : Nat → Prop) (u v : Value) (xs ys : List Val) (w : World) (hx : Sl tVal ok1 w u xs) (hy : Sl tVal ok2 w v ys) :
    Calls Try.prog 52 #[u, v] w fun e w' => e = .returned (.bool (decide (xs = ys))) ∧ ∃ q, w' = w.drewN q := by
  obtain ⟨A, c, rfl, hx1, hx2, hx3, hxn, hxr⟩ := hx
  obtain ⟨B, c', rfl, hy1, hy2, hy3, hyn, hyr⟩ := hy
  have HX := put hxr
  have HY := put hyr
  clear hxr hyr hxn hyn
  by_cases hl : xs.length = ys.length
  · have l1 : ((xs.length : Int) != (ys.length : Int)) = false := by simp [hl]
    have HL : Hid (xs.length = ys.length) := hl
    go_enter Try.func52, Try.ntmps52
    clear hl
    go_wp2
    go_loopg [5] xs.length (fun kx s5 wr => ∃ (i q : Nat), s5 = .int .i64 i ∧ i ≤ xs.length ∧ xs.length - i ≤ kx ∧ wr = w.drewN q ∧ Hid (xs.take i = ys.take i))
    case atStart => exact ⟨0, 0, rfl, Nat.zero_le _, Nat.le_refl _, rfl, by show _ = _; simp⟩
    case round =>
      obtain ⟨i, q, rfl, hi, hkx, rfl, ht⟩ := hrel
      by_cases hlt : i < xs.length
      · have hlz : (i : Int) < (xs.length : Int) := by omega
        have hlt2 : i < ys.length := by rw [← HL.out]; exact hlt
        have hlz2 : (i : Int) < (ys.length : Int) := by omega
        have i0 : (0 : Int) ≤ (i : Int) := by omega
        obtain ⟨ad, rfl, x0, x1, x2⟩ := vals_get HX.out i hlt
        obtain ⟨bd, rfl, y0, y1, y2⟩ := vals_get HY.out i hlt2
        obtain ⟨x, hxe⟩ : ∃ x, x = xs[i] := ⟨_, rfl⟩
        obtain ⟨y, hye⟩ : ∃ y, y = ys[i] := ⟨_, rfl⟩
        rw [← hxe] at x0 x1 x2
        rw [← hye] at y0 y1 y2
        have E : Hid (x = xs[i] ∧ y = ys[i]) := ⟨hxe, hye⟩
        clear hxe hye
        by_cases he : x = y
        · have hb : (!(x.kind == y.kind) || (!(x.n == y.n) || !(x.s.toList == y.s.toList))) = false := by rw [val_ne]; simp [he]
          have HE : Hid (x = y) := he
          clear he
          go_wp2
          go_quiet (fail)
          go_wp2
          go_roundg (xs.length - (i + 1))
          case measure => omega
          case rel => exact ⟨i + 1, _, by go_num, by omega, Nat.le_refl _, (by first | rfl | exact World.drewN_drewN _ _ _), take_succ_eq hlt hlt2 ht.out (by rw [← E.out.1, ← E.out.2]; exact HE.out)⟩
        · have hb : (!(x.kind == y.kind) || (!(x.n == y.n) || !(x.s.toList == y.s.toList))) = true := by rw [val_ne]; simp [he]
          go_wp2
          go_quiet (fail)
          go_wp2
          go_ret
          refine ⟨?_, _, (by first | rfl | exact World.drewN_drewN _ _ _)⟩
          have : xs ≠ ys := fun h => by
            apply he
            rw [E.out.1, E.out.2]
            simp only [h]
          simp [this]
      · have hlz : ¬ (i : Int) < (xs.length : Int) := by omega
        go_wp2
        go_ret
        refine ⟨?_, _, rfl⟩
        have h1 := ht.out
        rw [List.take_of_length_le (by omega), List.take_of_length_le (by have := HL.out; omega)] at h1
        simp [h1]
  · have l1 : ((xs.length : Int) != (ys.length : Int)) = true := by rw [bne_iff_ne]; omega
    have HL : Hid (¬ xs.length = ys.length) := hl
    go_enter Try.func52, Try.ntmps52
    clear hl
    go_wp2
    go_ret
    refine ⟨?_, 0, rfl⟩
    have : xs ≠ ys := fun h => HL.out (by rw [h])
    simp [this]

set_option maxHeartbeats 4000000 in
set_option maxRecDepth 100000 in
theorem refKindCalls (ok : Nat → Prop) (c : Chg) (cs : List Value) (w : World) (h : tChg.R ok w c cs) :
    Calls Try.prog 22 #[.agg cs.toArray] w fun e w' => e = .returned (.int .i64 c.kind) ∧ Below w.heap.size w w' := by
  obtain ⟨v2, v3, rfl, h2, h3⟩ := h
  have C := sameVals ok ok v2 v3 c.old c.new (w.alloc (.cells #[.string c.table, .int .i64 c.id, v2, v3] 43)) (h2.below ((Below.refl _ _).alloc (Nat.le_refl _) _)) (h3.below ((Below.refl _ _).alloc (Nat.le_refl _) _))
  obtain ⟨A2, c2, rfl, l2, m2, n2⟩ := h2.shape
  obtain ⟨A3, c3, rfl, l3, m3, n3⟩ := h3.shape
  have CC := put C
  have HB : Kp (∀ q, Below w.heap.size w ((w.alloc (.cells #[.string c.table, .int .i64 c.id, .slice A2 c.old.length c2, .slice A3 c.new.length c3] 43)).drewN q)) := ⟨fun q => ⟨rfl, rfl, rfl, by simp, fun k hk => by simp [Below.heap_alloc _ _ _ hk]⟩⟩
  clear C h2 h3
  by_cases e1 : c.old = c.new
  · have hk : c.kind = 0 := by simp [Chg.kind, e1]
    have K : Hid _ := hk
    have E : decide (c.old = c.new) = true := decide_eq_true e1
    clear hk e1
    go_enter Try.func22, Try.ntmps22
    go_wp2_with fail
    refine CC.out.mono ?_
    rintro e w' ⟨rfl, q, rfl⟩
    rw [E]
    go_wp2
    go_ret
    exact ⟨by rw [K.out]; rfl, HB.out q⟩
  · have E : decide (c.old = c.new) = false := decide_eq_false e1
    by_cases e2 : c.old = []
    · have hk : c.kind = 1 := by unfold Chg.kind; rw [if_neg e1, if_pos e2]
      have K : Hid _ := hk
      have z : ((c.old.length : Int) == 0) = true := by simp [e2]
      clear hk e1 e2
      go_enter Try.func22, Try.ntmps22
      go_wp2_with fail
      refine CC.out.mono ?_
      rintro e w' ⟨rfl, q, rfl⟩
      rw [E]
      go_wp2
      go_ret
      exact ⟨by rw [K.out]; rfl, HB.out q⟩
    · have z : ((c.old.length : Int) == 0) = false := by rw [beq_eq_false_iff_ne]; intro h; apply e2; exact List.eq_nil_of_length_eq_zero (by omega)
      by_cases e3 : c.new = []
      · have hk : c.kind = 2 := by unfold Chg.kind; rw [if_neg e1, if_neg e2, if_pos e3]
        have K : Hid _ := hk
        have z2 : ((c.new.length : Int) == 0) = true := by simp [e3]
        clear hk e1 e2 e3
        go_enter Try.func22, Try.ntmps22
        go_wp2_with fail
        refine CC.out.mono ?_
        rintro e w' ⟨rfl, q, rfl⟩
        rw [E]
        go_wp2
        go_ret
        exact ⟨by rw [K.out]; rfl, HB.out q⟩
      · have hk : c.kind = 3 := by unfold Chg.kind; rw [if_neg e1, if_neg e2, if_neg e3]
        have K : Hid _ := hk
        have z2 : ((c.new.length : Int) == 0) = false := by rw [beq_eq_false_iff_ne]; intro h; apply e3; exact List.eq_nil_of_length_eq_zero (by omega)
        clear hk e1 e2 e3
        go_enter Try.func22, Try.ntmps22
        go_wp2_with fail
        refine CC.out.mono ?_
        rintro e w' ⟨rfl, q, rfl⟩
        rw [E]
        go_wp2
        go_ret
        exact ⟨by rw [K.out]; rfl, HB.out q⟩

end Go.Proofs.Ytkfoknjflpklpaa.D

namespace Go.Proofs.Ytkfoknjflpklpaa.D
open Go Go.RowKit Go.Proofs.Ytkfoknjflpklpaa.Mem

theorem infoRef : (Try.prog.info? 43).map (fun i => (i.zero, i.size, i.bytes)) = some (some (.agg #[.string ⟨#[]⟩, .int .i64 0, .slice none 0 0, .slice none 0 0]), tChg.sz, 72) := by kernel_rfl

/-- The empty row of a literal. -/
theorem Own.lit {α : Type} (d : Ty α) (E : TypeId) (ok : Nat → Prop) (w : World) : Own d E ok (w.alloc (.cells #[] E)) w.heap.size (.slice (some ⟨w.heap.size, 0, none⟩) 0 0) [] :=
  ⟨[], rfl, ⟨by simp, .inr ⟨w.heap.size, 0, #[], rfl, Nat.le_refl _, heap_alloc_new w _, Nat.le_refl _, by simp, by simp, by simp⟩⟩, fun i x c h => by simp at h⟩

def Chg.isOf (tb : ByteArray) (kd : Int) (c : Chg) : Bool := decide (c.table = tb) && decide (c.kind = kd)

theorem filter_take {α : Type} {p : α → Bool} {xs : List α} {i : Nat} {x : α} (hx : xs[i]? = some x) : (xs.take (i + 1)).filter p = (xs.take i).filter p ++ (if p x then [x] else []) := by
  obtain ⟨hlt, rfl⟩ := List.getElem?_eq_some_iff.1 hx
  rw [List.take_succ_eq_append_getElem hlt, List.filter_append]
  congr 1
  rw [List.filter_cons, List.filter_nil]

theorem take_one_more {α : Type} {xs : List α} {i : Nat} {x : α} (hx : xs[i]? = some x) : xs.take (i + 1) = xs.take i ++ [x] := by
  obtain ⟨hlt, rfl⟩ := List.getElem?_eq_some_iff.1 hx
  exact List.take_succ_eq_append_getElem hlt

/-- Element i, as it is read. -/
theorem chgs_at {ok : Nat → Prop} {w : World} {A : Option Addr} {xs : List Chg} (h : Row tChg ok w A xs) (i : Nat) (hi : i < xs.length) :
    ∃ ad x A2 k2 A3 k3, A = some ad ∧ xs[i]? = some x ∧ w.cell? (ad.add (i * 4)) = some (.string x.table) ∧ w.cell? ⟨(ad.add (i * 4)).block, (ad.add (i * 4)).off + 1, none⟩ = some (.int .i64 x.id) ∧ w.cell? ⟨(ad.add (i * 4)).block, (ad.add (i * 4)).off + 2, none⟩ = some (.slice A2 x.old.length k2) ∧ w.cell? ⟨(ad.add (i * 4)).block, (ad.add (i * 4)).off + 3, none⟩ = some (.slice A3 x.new.length k3) ∧ Kp (tChg.R ok w x [.string x.table, .int .i64 x.id, .slice A2 x.old.length k2, .slice A3 x.new.length k3]) ∧ ok ad.block := by
  obtain ⟨ad, v2, v3, hA, c0, c1, c2, c3, s2, s3, hok⟩ := chgs_get h i hi
  obtain ⟨A2, k2, rfl, _⟩ := s2.shape
  obtain ⟨A3, k3, rfl, _⟩ := s3.shape
  exact ⟨ad, xs[i], A2, k2, A3, k3, hA, List.getElem?_eq_getElem hi, c0, c1, c2, c3, put ⟨_, _, rfl, s2, s3⟩, hok⟩

set_option maxHeartbeats 8000000 in
set_option maxRecDepth 100000 in
theorem plainCalls (ok : Nat → Prop) (v : Value) (xs : List Chg) (w : World) (h : Sl tChg ok w v xs) (hl : xs.length ≤ 100000) :
    Calls Try.prog 17 #[v] w fun e w' => ∃ vo, e = .returned vo ∧ Own tChg 43 (fun k => ok k ∧ k < w.heap.size) w' w.heap.size vo xs ∧ Below w.heap.size w w' := by
  obtain ⟨A, c, rfl, l1, l2, l3⟩ := h.shape
  have KS := put h
  have HL := put hl
  obtain ⟨m, hm⟩ : ∃ m, m = xs.length := ⟨_, rfl⟩
  rw [← hm] at l1 l3 KS ⊢
  have HM := put hm
  clear h hm hl
  go_enter Try.func17, Try.ntmps17
  go_wp2_with fail
  go_loopg [3, 8] m (fun kx s3 s8 wr => ∃ (i : Nat) (Ao : Option Addr) (co : Nat), s3 = .slice Ao i co ∧ s8 = .int .i64 i ∧ i ≤ m ∧ m - i ≤ kx ∧ Kp (Own tChg 43 (fun k => ok k ∧ k < w.heap.size) wr w.heap.size (.slice Ao i co) (xs.take i)) ∧ Kp (Below w.heap.size w wr))
  case atStart => exact ⟨0, none, 0, rfl, rfl, Nat.zero_le _, Nat.le_refl _, put (Own.nil _ _ _ _ _), put (Below.refl _ _)⟩
  case round =>
    obtain ⟨i, Ao, co, rfl, rfl, hi, hkx, KO, KB⟩ := hrel
    by_cases hlt : i < m
    · have hlz : (i : Int) < (m : Int) := by omega
      have i0 : (0 : Int) ≤ (i : Int) := by omega
      obtain ⟨ad, x, A2, k2, A3, k3, rfl, hx, x0, x1, x2, x3, KR, _⟩ := chgs_at (KS.out.elder KB.out).row.1 i (by rw [← HM.out]; exact hlt)
      have KX := put hx
      have HP : Kp (∀ W, Below wr.heap.size wr W → tChg.R (fun k => (ok k ∧ k < w.heap.size) ∧ some k ≠ (Value.slice Ao i co).ownBlock) W x [.string x.table, .int .i64 x.id, .slice A2 x.old.length k2, .slice A3 x.new.length k3]) := ⟨fun W hb => tChg.mono (fun k hk => ⟨hk, fun e => by have := (KO.out.lt k e.symm).1; omega⟩) (Ty.below KR.out hb)⟩
      have HOW : Kp (∀ W, Below wr.heap.size wr W → Own tChg 43 (fun k => ok k ∧ k < w.heap.size) W w.heap.size (.slice Ao i co) (xs.take i)) := ⟨fun W hb => KO.out.below hb⟩
      clear hx
      have B1 : ∀ o, Below wr.heap.size wr (wr.alloc o) := fun o => (Below.refl _ _).alloc (Nat.le_refl _) _
      go_wp2_with (at_builtin; refine wpList_push (W := wr.alloc (.cells #[.string x.table, .int .i64 x.id, .slice A2 x.old.length k2, .slice A3 x.new.length k3] 40)) tChg w.heap.size rfl _ _ 32 43 _ 72 rfl Try.underlying32 infoRef rfl (by decide) (by decide) (.slice Ao i co) (xs.take i) x [.string x.table, .int .i64 x.id, .slice A2 x.old.length k2, .slice A3 x.new.length k3] (fun k => ok k ∧ k < w.heap.size) rfl (by simp; rfl) (HP.out _ (B1 _)) (HOW.out _ (B1 _)) (by have := KB.out.size; simp; omega) (by rw [List.length_take, ← HM.out]; have := HL.out; have := HM.out; omega) ?_; intro v1 w7 hown hg hat; obtain ⟨A9, c9, e9, _, _⟩ := hown.form; rw [show (xs.take i ++ [x]).length = i + 1 by rw [List.length_append, List.length_take, ← HM.out, List.length_singleton]; omega] at e9; subst e9; have hb7 : Below w.heap.size w w7 := (KB.out.trans ((B1 _).mono KB.out.size)).grown hg (by have := KB.out.size; simp; omega) (fun k hk => (KO.out.lt k hk).1); have HB7 := put hb7; have HOWN := put hown; clear hown hg hat hb7)
      go_roundg (m - (i + 1))
      case measure => omega
      case rel => exact ⟨i + 1, _, _, rfl, by go_num, by omega, Nat.le_refl _, put (by rw [take_one_more KX.out]; exact HOWN.out), HB7⟩
    · have hlz : ¬ (i : Int) < (m : Int) := by omega
      go_wp2
      go_ret
      obtain rfl : i = m := by omega
      have hk := KO.out
      rw [List.take_of_length_le (by rw [HM.out]; exact Nat.le_refl _)] at hk
      exact ⟨_, rfl, hk, KB.out⟩

theorem kind_b0 {tb : ByteArray} {x : Chg} (h : x.table = tb) : (x.table.toList == tb.toList) = true := by rw [bytes_eq]; exact decide_eq_true h
theorem kind_b1 {tb : ByteArray} {x : Chg} (h : ¬ x.table = tb) : (x.table.toList == tb.toList) = false := by rw [bytes_eq]; exact decide_eq_false h

set_option maxHeartbeats 8000000 in
set_option maxRecDepth 100000 in
theorem ofCalls (ok : Nat → Prop) (v : Value) (xs : List Chg) (tb : ByteArray) (kd : Int) (w : World) (h : Sl tChg ok w v xs) (hl : xs.length ≤ 1000) (hb : ∀ x ∈ xs, x.old.length ≤ 1000 ∧ x.new.length ≤ 1000) :
    Calls Try.prog 24 #[v, .string tb, .int .i64 kd] w fun e w' => ∃ vo, e = .returned vo ∧ Own tChg 40 (fun k => w.heap.size ≤ k) w' w.heap.size vo (xs.filter (Chg.isOf tb kd)) ∧ Below w.heap.size w w' := by
  obtain ⟨A, c, rfl, l1, l2, l3⟩ := h.shape
  have KS := put h
  have HL := put hl
  have HBB := put hb
  obtain ⟨m, hm⟩ : ∃ m, m = xs.length := ⟨_, rfl⟩
  rw [← hm] at l1 l3 KS ⊢
  have HM := put hm
  clear h hm hl hb
  go_enter Try.func24, Try.ntmps24
  go_wp2_with fail
  go_loopg [7, 12] m (fun kx s7 s12 wr => ∃ (i : Nat) (Ao : Option Addr) (mo co : Nat), s7 = .slice Ao mo co ∧ s12 = .int .i64 i ∧ i ≤ m ∧ mo ≤ i ∧ m - i ≤ kx ∧ Kp (mo = ((xs.take i).filter (Chg.isOf tb kd)).length) ∧ Kp (Own tChg 40 (fun k => w.heap.size ≤ k) wr w.heap.size (.slice Ao mo co) ((xs.take i).filter (Chg.isOf tb kd))) ∧ Kp (Below w.heap.size w wr))
  case atStart => exact ⟨0, none, 0, 0, rfl, rfl, Nat.zero_le _, Nat.le_refl _, Nat.le_refl _, put (by simp), put (Own.nil _ _ _ _ _), put (Below.refl _ _)⟩
  case round =>
    obtain ⟨i, Ao, mo, co, rfl, rfl, hi, hmi, hkx, HMO, KO, KB⟩ := hrel
    by_cases hlt : i < m
    · have hlz : (i : Int) < (m : Int) := by omega
      have i0 : (0 : Int) ≤ (i : Int) := by omega
      obtain ⟨ad, x, A2, k2, A3, k3, rfl, hx, x0, x1, x2, x3, KR, _⟩ := chgs_at (KS.out.elder KB.out).row.1 i (by rw [← HM.out]; exact hlt)
      have KX := put hx
      have B1 : ∀ o, Below wr.heap.size wr (wr.alloc o) := fun o => (Below.refl _ _).alloc (Nat.le_refl _) _
      have HT := put (filter_take (p := Chg.isOf tb kd) hx)
      have hxm := List.mem_of_getElem? hx
      have BX := put (HBB.out x hxm)
      clear hx hxm
      generalize (xs.take i).filter (Chg.isOf tb kd) = out at *
      by_cases h1 : x.table = tb
      · have z1 := kind_b0 h1
        have K1 := put h1
        clear h1
        by_cases h2 : x.kind = kd
        · have z2 : (x.kind == kd) = true := by simp [h2]
          have HI : Kp ((xs.take (i + 1)).filter (Chg.isOf tb kd) = out ++ [x]) := ⟨by rw [HT.out, if_pos (by simp [Chg.isOf, K1.out, h2])]⟩
          clear h2 HT
          go_wp2_with (first | (go_at_call 20; refine (kindCalls _ x [.string x.table, .int .i64 x.id, .slice A2 x.old.length k2, .slice A3 x.new.length k3] _ (Ty.below KR.out (B1 _))).mono ?_; rintro e w5 ⟨rfl, hb5⟩; have d0 := (hb5.cell (p := ⟨wr.heap.size, 0, none⟩) (by simp)); have d1 := (hb5.cell (p := ⟨wr.heap.size, 1, none⟩) (by simp)); have d2 := (hb5.cell (p := ⟨wr.heap.size, 2, none⟩) (by simp)); have d3 := (hb5.cell (p := ⟨wr.heap.size, 3, none⟩) (by simp)); simp at d0 d1 d2 d3; have HB5 := put ((B1 _).trans (hb5.mono (by simp))); clear hb5) | (go_at_call 56; refine (cloneCalls _ x [.string x.table, .int .i64 x.id, .slice A2 x.old.length k2, .slice A3 x.new.length k3] w5 (Ty.below KR.out HB5.out) BX.out.1 BX.out.2).mono ?_; rintro e w6 ⟨v2, v3, rfl, ho2, ho3, _, hb6⟩; have HBO := put (HB5.out.trans (hb6.mono HB5.out.size)); have HP : Kp (tChg.R (fun k => w.heap.size ≤ k ∧ some k ≠ (Value.slice Ao mo co).ownBlock) w6 x [.string x.table, .int .i64 x.id, v2, v3]) := put (cloned_R (BW := wr.heap.size) KB.out.size HB5.out.size KO.out.lt ho2 ho3 (by have := BX.out.1; omega) (by have := BX.out.2; omega)); obtain ⟨V2, c22, e22, _, _⟩ := ho2.form; obtain ⟨V3, c33, e33, _, _⟩ := ho3.form; have HOW := put (KO.out.below HBO.out); subst e22; subst e33; clear ho2 ho3 hb6) | (at_builtin; refine wpList_push tChg w.heap.size rfl _ _ 27 40 _ 72 rfl Try.underlying27 infoChg rfl (by decide) (by decide) (.slice Ao mo co) out x [.string x.table, .int .i64 x.id, .slice V2 x.old.length c22, .slice V3 x.new.length c33] (fun k => w.heap.size ≤ k) rfl rfl HP.out HOW.out (Nat.le_trans KB.out.size HBO.out.size) (by rw [← HMO.out]; have := HL.out; have := HM.out; omega) ?_; intro v1 w7 hown hg hat; obtain ⟨A9, c9, e9, _, _⟩ := hown.form; rw [show (out ++ [x]).length = mo + 1 by rw [HMO.out]; simp] at e9; subst e9; have hb7 : Below w.heap.size w w7 := (KB.out.trans (HBO.out.mono KB.out.size)).grown hg (Nat.le_trans KB.out.size HBO.out.size) (fun k hk => (HOW.out.lt k hk).1); have HB7 := put hb7; have HOWN := put hown; clear hown hg hat hb7))
          go_roundg (m - (i + 1))
          case measure => omega
          case rel => exact ⟨i + 1, _, mo + 1, _, by go_num, by go_num, by omega, by omega, Nat.le_refl _, put (by rw [HI.out, HMO.out]; simp), put (by rw [HI.out]; exact HOWN.out), HB7⟩
        · have z2 : (x.kind == kd) = false := by simp [h2]
          have HI : Kp ((xs.take (i + 1)).filter (Chg.isOf tb kd) = out) := ⟨by rw [HT.out, if_neg (by simp [Chg.isOf, h2])]; simp⟩
          clear h2 HT
          go_wp2_with (first | (go_at_call 20; refine (kindCalls _ x [.string x.table, .int .i64 x.id, .slice A2 x.old.length k2, .slice A3 x.new.length k3] _ (Ty.below KR.out (B1 _))).mono ?_; rintro e w5 ⟨rfl, hb5⟩; have HB5 := put ((B1 _).trans (hb5.mono (by simp))); clear hb5))
          go_roundg (m - (i + 1))
          case measure => omega
          case rel => exact ⟨i + 1, _, mo, _, by go_num, by go_num, by omega, by omega, Nat.le_refl _, put (by rw [HI.out, HMO.out]), put (by rw [HI.out]; exact KO.out.below HB5.out), put (KB.out.trans (HB5.out.mono KB.out.size))⟩
      · have z1 := kind_b1 h1
        have HI : Kp ((xs.take (i + 1)).filter (Chg.isOf tb kd) = out) := ⟨by rw [HT.out, if_neg (by simp [Chg.isOf, h1])]; simp⟩
        clear h1 HT
        go_wp2_with fail
        go_roundg (m - (i + 1))
        case measure => omega
        case rel => exact ⟨i + 1, _, mo, _, by go_num, by go_num, by omega, by omega, Nat.le_refl _, put (by rw [HI.out, HMO.out]), put (by rw [HI.out]; exact KO.out.below (B1 _)), put (KB.out.trans ((B1 _).mono KB.out.size))⟩
    · have hlz : ¬ (i : Int) < (m : Int) := by omega
      go_wp2
      go_ret
      obtain rfl : i = m := by omega
      have hk := KO.out
      rw [List.take_of_length_le (by rw [HM.out]; exact Nat.le_refl _)] at hk
      exact ⟨_, rfl, hk, KB.out⟩

set_option maxHeartbeats 8000000 in
set_option maxRecDepth 100000 in
theorem refOfCalls (ok : Nat → Prop) (v : Value) (xs : List Chg) (tb : ByteArray) (kd : Int) (w : World) (h : Sl tChg ok w v xs) (hl : xs.length ≤ 1000) :
    Calls Try.prog 25 #[v, .string tb, .int .i64 kd] w fun e w' => ∃ vo, e = .returned vo ∧ Own tChg 43 (fun k => ok k ∧ k < w.heap.size) w' w.heap.size vo (xs.filter (Chg.isOf tb kd)) ∧ Below w.heap.size w w' := by
  obtain ⟨A, c, rfl, l1, l2, l3⟩ := h.shape
  have KS := put h
  have HL := put hl
  obtain ⟨m, hm⟩ : ∃ m, m = xs.length := ⟨_, rfl⟩
  rw [← hm] at l1 l3 KS ⊢
  have HM := put hm
  clear h hm hl
  go_enter Try.func25, Try.ntmps25
  go_wp2_with fail
  go_loopg [7, 8] m (fun kx s7 s8 wr => ∃ (i : Nat) (Ao : Option Addr) (mo co : Nat), s7 = .slice Ao mo co ∧ s8 = .int .i64 i ∧ i ≤ m ∧ mo ≤ i ∧ m - i ≤ kx ∧ Kp (mo = ((xs.take i).filter (Chg.isOf tb kd)).length) ∧ Kp (Own tChg 43 (fun k => ok k ∧ k < w.heap.size) wr w.heap.size (.slice Ao mo co) ((xs.take i).filter (Chg.isOf tb kd))) ∧ Kp (Below w.heap.size w wr))
  case atStart => exact ⟨0, _, 0, _, rfl, rfl, Nat.zero_le _, Nat.le_refl _, Nat.le_refl _, put (by simp), put (Own.lit _ _ _ _), put ((Below.refl _ _).alloc (Nat.le_refl _) _)⟩
  case round =>
    obtain ⟨i, Ao, mo, co, rfl, rfl, hi, hmi, hkx, HMO, KO, KB⟩ := hrel
    by_cases hlt : i < m
    · have hlz : (i : Int) < (m : Int) := by omega
      have i0 : (0 : Int) ≤ (i : Int) := by omega
      obtain ⟨ad, x, A2, k2, A3, k3, rfl, hx, x0, x1, x2, x3, KR, hok⟩ := chgs_at (KS.out.elder KB.out).row.1 i (by rw [← HM.out]; exact hlt)
      have KX := put hx
      have HT := put (filter_take (p := Chg.isOf tb kd) hx)
      have hA : ad.block < wr.heap.size := Nat.lt_of_lt_of_le hok.2 KB.out.size
      have HA := put hA
      clear hx hok
      generalize (xs.take i).filter (Chg.isOf tb kd) = out at *
      by_cases h1 : x.table = tb
      · have z1 := kind_b0 h1
        have K1 := put h1
        clear h1
        by_cases h2 : x.kind = kd
        · have z2 : (x.kind == kd) = true := by simp [h2]
          have HI : Kp ((xs.take (i + 1)).filter (Chg.isOf tb kd) = out ++ [x]) := ⟨by rw [HT.out, if_pos (by simp [Chg.isOf, K1.out, h2])]⟩
          clear h2 HT
          go_wp2_with (first | (go_at_call 22; refine (refKindCalls _ x [.string x.table, .int .i64 x.id, .slice A2 x.old.length k2, .slice A3 x.new.length k3] wr KR.out).mono ?_; rintro e w5 ⟨rfl, hb5⟩; have d0 := (hb5.cell (p := ad.add (i * 4)) (by rw [add_block]; exact hA)).trans x0; have d1 := (hb5.cell (p := ⟨(ad.add (i * 4)).block, (ad.add (i * 4)).off + 1, none⟩) (by show (ad.add (i * 4)).block < _; rw [add_block]; exact hA)).trans x1; have d2 := (hb5.cell (p := ⟨(ad.add (i * 4)).block, (ad.add (i * 4)).off + 2, none⟩) (by show (ad.add (i * 4)).block < _; rw [add_block]; exact hA)).trans x2; have d3 := (hb5.cell (p := ⟨(ad.add (i * 4)).block, (ad.add (i * 4)).off + 3, none⟩) (by show (ad.add (i * 4)).block < _; rw [add_block]; exact hA)).trans x3; have HB5 := put hb5; have HP : Kp (tChg.R (fun k => (ok k ∧ k < w.heap.size) ∧ some k ≠ (Value.slice Ao mo co).ownBlock) w5 x [.string x.table, .int .i64 x.id, .slice A2 x.old.length k2, .slice A3 x.new.length k3]) := put (tChg.mono (fun k hk => ⟨hk, fun e => by have := (KO.out.lt k e.symm).1; omega⟩) (Ty.below KR.out hb5)); have HOW := put (KO.out.below hb5); clear hb5) | (at_builtin; refine wpList_push tChg w.heap.size rfl _ _ 32 43 _ 72 rfl Try.underlying32 infoRef rfl (by decide) (by decide) (.slice Ao mo co) out x [.string x.table, .int .i64 x.id, .slice A2 x.old.length k2, .slice A3 x.new.length k3] (fun k => ok k ∧ k < w.heap.size) rfl rfl HP.out HOW.out (Nat.le_trans KB.out.size HB5.out.size) (by rw [← HMO.out]; have := HL.out; have := HM.out; omega) ?_; intro v1 w7 hown hg hat; obtain ⟨A9, c9, e9, _, _⟩ := hown.form; rw [show (out ++ [x]).length = mo + 1 by rw [HMO.out]; simp] at e9; subst e9; have hb7 : Below w.heap.size w w7 := (KB.out.trans (HB5.out.mono KB.out.size)).grown hg (Nat.le_trans KB.out.size HB5.out.size) (fun k hk => (HOW.out.lt k hk).1); have HB7 := put hb7; have HOWN := put hown; clear hown hg hat hb7))
          go_roundg (m - (i + 1))
          case measure => omega
          case rel => exact ⟨i + 1, _, mo + 1, _, by go_num, by go_num, by omega, by omega, Nat.le_refl _, put (by rw [HI.out, HMO.out]; simp), put (by rw [HI.out]; exact HOWN.out), HB7⟩
        · have z2 : (x.kind == kd) = false := by simp [h2]
          have HI : Kp ((xs.take (i + 1)).filter (Chg.isOf tb kd) = out) := ⟨by rw [HT.out, if_neg (by simp [Chg.isOf, h2])]; simp⟩
          clear h2 HT
          go_wp2_with (first | (go_at_call 22; refine (refKindCalls _ x [.string x.table, .int .i64 x.id, .slice A2 x.old.length k2, .slice A3 x.new.length k3] wr KR.out).mono ?_; rintro e w5 ⟨rfl, hb5⟩; have HB5 := put hb5; clear hb5))
          go_roundg (m - (i + 1))
          case measure => omega
          case rel => exact ⟨i + 1, _, mo, _, by go_num, by go_num, by omega, by omega, Nat.le_refl _, put (by rw [HI.out, HMO.out]), put (by rw [HI.out]; exact KO.out.below HB5.out), put (KB.out.trans (HB5.out.mono KB.out.size))⟩
      · have z1 := kind_b1 h1
        have HI : Kp ((xs.take (i + 1)).filter (Chg.isOf tb kd) = out) := ⟨by rw [HT.out, if_neg (by simp [Chg.isOf, h1])]; simp⟩
        clear h1 HT
        go_wp2_with fail
        go_roundg (m - (i + 1))
        case measure => omega
        case rel => exact ⟨i + 1, _, mo, _, by go_num, by go_num, by omega, by omega, Nat.le_refl _, put (by rw [HI.out, HMO.out]), put (by rw [HI.out]; exact KO.out), KB⟩
    · have hlz : ¬ (i : Int) < (m : Int) := by omega
      go_wp2
      go_ret
      obtain rfl : i = m := by omega
      have hk := KO.out
      rw [List.take_of_length_le (by rw [HM.out]; exact Nat.le_refl _)] at hk
      exact ⟨_, rfl, hk, KB.out⟩

end Go.Proofs.Ytkfoknjflpklpaa.D

namespace Go.Proofs.Ytkfoknjflpklpaa.Mem
open Go Go.RowKit
variable {P : Program} {α : Type}

theorem run_push (d : Ty α) {W : World} (base : Nat) (ty t e : TypeId) (z : Value) (bytes : Nat)
    (ht : P.underlying t = some (.slice e)) (hinfo : (P.info? e).map (fun i => (i.zero, i.size, i.bytes)) = some (some z, d.sz, bytes)) (hz : z.cells.size = d.sz) (hs0 : 0 < d.sz) (hb0 : 0 < bytes)
    (v : Value) (xs : List α) (p : α) (cs : List Value) (ok : Nat → Prop)
    (hp : d.R (fun k => ok k ∧ some k ≠ v.ownBlock) W p cs) (HO : Own d e ok W base v xs) (hbase : base ≤ W.heap.size) (hl : (xs.length + 1) * bytes ≤ 140737488355328) :
    ∃ v1 w1, (Builtin.append_ #[t, t] ty #[v, .slice (some ⟨W.heap.size, 0, none⟩) 1 1]).run P (W.alloc (.cells cs.toArray e)) = .ok v1 w1 ∧ Own d e ok w1 base v1 (xs ++ [p]) ∧ W.grownBy w1 v.ownBlock ∧ (v1.ownBlock = v.ownBlock ∨ ∃ b, v1.ownBlock = some b ∧ W.heap.size ≤ b) := by
  obtain ⟨i0, hi, hzz⟩ := Option.map_eq_some_iff.1 hinfo
  simp only [Prod.mk.injEq] at hzz
  obtain ⟨hz0, hz1, hz2⟩ := hzz
  have hlen : xs.length + 1 ≤ 140737488355328 := Nat.le_trans (Nat.le_mul_of_pos_right _ hb0) hl
  obtain ⟨cells, hlc, hown, hr⟩ := HO
  obtain ⟨v1, w1, hrun, hown1, hg, _, hat⟩ := run_append_own_at (P := P) (W.alloc (.cells cs.toArray e)) base t ty e i0 z d.sz bytes ht hi hz0 hz1 hz2 hz hs0 v xs.length cells.flatten (hown.alloc _) ⟨W.heap.size, 0, none⟩ 1 1 cs (by rw [d.len hp, Nat.one_mul])
    (news_lit W cs e) (d.one hp) (by simp only [maxLen]; omega) hl (by simp; omega)
  have hg' : W.grownBy w1 v.ownBlock := World.grownBy.trans (World.grownBy_alloc W _ _) hg
  have hat' : v1.ownBlock = v.ownBlock ∨ ∃ b, v1.ownBlock = some b ∧ W.heap.size ≤ b := by
    rcases hat with hat | hat
    · exact .inl hat
    · exact .inr ⟨_, hat, by simp⟩
  refine ⟨v1, w1, hrun, Own.appended (ys := [p]) (news := [cs]) hlc hr rfl (fun i y c hy hc => ?_) (by simpa using hown1) hg' hat', hg', hat'⟩
  rcases i with _ | i
  · simp only [List.getElem?_cons_zero, Option.some.injEq] at hy hc
    subst hy; subst hc; exact hp
  · simp at hy

theorem run_pushes (d : Ty α) {W : World} (base : Nat) (ty t e : TypeId) (z : Value) (bytes : Nat)
    (ht : P.underlying t = some (.slice e)) (hinfo : (P.info? e).map (fun i => (i.zero, i.size, i.bytes)) = some (some z, d.sz, bytes)) (hz : z.cells.size = d.sz) (hs0 : 0 < d.sz) (hb0 : 0 < bytes)
    (v u : Value) (xs ys : List α) (ok okp : Nat → Prop)
    (HS : Sl d okp W u ys) (hokp : ∀ k, okp k → ok k ∧ some k ≠ v.ownBlock) (HO : Own d e ok W base v xs) (hbase : base ≤ W.heap.size) (hl : (xs.length + ys.length) * bytes ≤ 140737488355328) :
    ∃ v1 w1, (Builtin.append_ #[t, t] ty #[v, u]).run P W = .ok v1 w1 ∧ Own d e ok w1 base v1 (xs ++ ys) ∧ W.grownBy w1 v.ownBlock ∧ (v1.ownBlock = v.ownBlock ∨ ∃ b, v1.ownBlock = some b ∧ W.heap.size ≤ b) := by
  obtain ⟨i0, hi, hzz⟩ := Option.map_eq_some_iff.1 hinfo
  simp only [Prod.mk.injEq] at hzz
  obtain ⟨hz0, hz1, hz2⟩ := hzz
  have hlen : xs.length + ys.length ≤ 140737488355328 := Nat.le_trans (Nat.le_mul_of_pos_right _ hb0) hl
  have HO' := HO
  obtain ⟨cells, hlc, hown, hr⟩ := HO
  obtain ⟨A, c, rfl, _, _, _, hnil, hrow⟩ := HS
  cases A with
  | some ad =>
    obtain ⟨news, hnl, hnr, hnc⟩ := hrow.cells
    have hcl := Own.lens hnl hnr
    have hfl : ∀ l : List (List Value), (∀ c ∈ l, c.length = d.sz) → l.flatten.length = l.length * d.sz := by
      intro l
      induction l with
      | nil => intro _; simp
      | cons c l ih => intro hl; rw [List.flatten_cons, List.length_append, ih (fun c hc => hl c (List.mem_cons_of_mem _ hc)), hl c List.mem_cons_self, List.length_cons, Nat.add_mul, Nat.one_mul, Nat.add_comm]
    obtain ⟨v1, w1, hrun, hown1, hg, _, hat⟩ := run_append_own_at (P := P) W base t ty e i0 z d.sz bytes ht hi hz0 hz1 hz2 hz hs0 v xs.length cells.flatten hown ad ys.length c news.flatten (by rw [hfl _ hcl, hnl]) hnc (fun u hu => by
      obtain ⟨l, hl1, hl2⟩ := List.mem_flatten.1 hu
      obtain ⟨i, hi', rfl⟩ := List.mem_iff_getElem.1 hl1
      exact d.one (hnr i ys[i] _ (List.getElem?_eq_getElem (by omega)) (List.getElem?_eq_getElem hi')) u hl2) (by simp only [maxLen]; omega) hl hbase
    have hat' : v1.ownBlock = v.ownBlock ∨ ∃ b, v1.ownBlock = some b ∧ W.heap.size ≤ b := by
      rcases hat with hat | hat
      · exact .inl hat
      · exact .inr ⟨_, hat, Nat.le_refl _⟩
    exact ⟨v1, w1, hrun, Own.appended hlc hr hnl (fun i y c hy hc => d.mono hokp (hnr i y c hy hc)) hown1 hg hat', hg, hat'⟩
  | none =>
    have hys : ys = [] := by
      by_cases hne : ys = []
      · exact hne
      · obtain ⟨ad, e, _⟩ := hrow hne; cases e
    subst hys
    obtain rfl := hnil rfl
    have hrun := run_append_owned_none (P := P) (w := W) base t ty e i0 d.sz ht hi v xs.length cells.flatten hown
    exact ⟨v, W, hrun, by simpa using HO', ⟨rfl, rfl, rfl, Nat.le_refl _, fun _ _ _ => rfl⟩, .inl rfl⟩

section
variable {ops : Array Oper} {o : Oper} {a : Act} {K : Act → World → Prop} {Q : Exit → Act → World → Prop} {E : Prop} {W : World}

theorem step_append (hgd : o.guard = none) (s x : Operand) (t : TypeId) (ho : o.op = .call { callee := .builtin .append, args := #[s, x], argTypes := #[t, t] }) (v u : Value) (hs : a.eval s = v) (hx : a.eval x = u) {v1 : Value} {w1 : World}
    (hr : (Builtin.append_ #[t, t] o.type #[v, u]).run P W = .ok v1 w1) (h : K (a.put o.dst v1) w1) : if Region.wanted o (yielded ops a.tmps) = true then Oper.wp P o a W K Q else E := by
  have hw : Region.wanted o (yielded ops a.tmps) = true := by simp [Region.wanted, hgd]
  rw [if_pos hw]
  unfold Oper.wp execOp
  simp only [ho, resolve, invoke, builtin, Sem.run_bind, Sem.run_pure, Result.andThen_ok, List.map_toArray, List.map_cons, List.map_nil, hs, hx, hr]
  exact h

/-- append(v, x) in a drawn region, behind the literal's block. -/
theorem step_push (d : Ty α) (base : Nat) (hgd : o.guard = none) (s x : Operand) (t e : TypeId) (z : Value) (bytes : Nat)
    (ho : o.op = .call { callee := .builtin .append, args := #[s, x], argTypes := #[t, t] })
    (ht : P.underlying t = some (.slice e)) (hinfo : (P.info? e).map (fun i => (i.zero, i.size, i.bytes)) = some (some z, d.sz, bytes)) (hz : z.cells.size = d.sz) (hs0 : 0 < d.sz) (hb0 : 0 < bytes)
    (v : Value) (xs : List α) (p : α) (cs : List Value) (ok : Nat → Prop) (hs : a.eval s = v) (hx : a.eval x = .slice (some ⟨W.heap.size, 0, none⟩) 1 1)
    (hp : d.R (fun k => ok k ∧ some k ≠ v.ownBlock) W p cs) (HO : Own d e ok W base v xs) (hbase : base ≤ W.heap.size) (hl : (xs.length + 1) * bytes ≤ 140737488355328)
    (h : ∀ v1 w1, Own d e ok w1 base v1 (xs ++ [p]) → W.grownBy w1 v.ownBlock → (v1.ownBlock = v.ownBlock ∨ ∃ b, v1.ownBlock = some b ∧ W.heap.size ≤ b) → K (a.put o.dst v1) w1) :
    if Region.wanted o (yielded ops a.tmps) = true then Oper.wp P o a (W.alloc (.cells cs.toArray e)) K Q else E := by
  obtain ⟨v1, w1, hr, h1, h2, h3⟩ := run_push (P := P) d base o.type t e z bytes ht hinfo hz hs0 hb0 v xs p cs ok hp HO hbase hl
  exact step_append hgd s x t ho v _ hs hx hr (h v1 w1 h1 h2 h3)

/-- append(v, ys...) in a drawn region. -/
theorem step_pushes (d : Ty α) (base : Nat) (hgd : o.guard = none) (s x : Operand) (t e : TypeId) (z : Value) (bytes : Nat)
    (ho : o.op = .call { callee := .builtin .append, args := #[s, x], argTypes := #[t, t] })
    (ht : P.underlying t = some (.slice e)) (hinfo : (P.info? e).map (fun i => (i.zero, i.size, i.bytes)) = some (some z, d.sz, bytes)) (hz : z.cells.size = d.sz) (hs0 : 0 < d.sz) (hb0 : 0 < bytes)
    (v u : Value) (xs ys : List α) (ok okp : Nat → Prop) (hs : a.eval s = v) (hx : a.eval x = u)
    (HS : Sl d okp W u ys) (hokp : ∀ k, okp k → ok k ∧ some k ≠ v.ownBlock) (HO : Own d e ok W base v xs) (hbase : base ≤ W.heap.size) (hl : (xs.length + ys.length) * bytes ≤ 140737488355328)
    (h : ∀ v1 w1, Own d e ok w1 base v1 (xs ++ ys) → W.grownBy w1 v.ownBlock → (v1.ownBlock = v.ownBlock ∨ ∃ b, v1.ownBlock = some b ∧ W.heap.size ≤ b) → K (a.put o.dst v1) w1) :
    if Region.wanted o (yielded ops a.tmps) = true then Oper.wp P o a W K Q else E := by
  obtain ⟨v1, w1, hr, h1, h2, h3⟩ := run_pushes (P := P) d base o.type t e z bytes ht hinfo hz hs0 hb0 v u xs ys ok okp HS hokp HO hbase hl
  exact step_append hgd s x t ho v u hs hx hr (h v1 w1 h1 h2 h3)
end

end Go.Proofs.Ytkfoknjflpklpaa.Mem

namespace Go.Proofs.Ytkfoknjflpklpaa.Mem
open Go Go.RowKit
variable {P : Program} {α : Type}

theorem run_push1 (d : Ty α) {W : World} (base : Nat) (ty t e : TypeId) (z : Value) (bytes : Nat)
    (ht : P.underlying t = some (.slice e)) (hinfo : (P.info? e).map (fun i => (i.zero, i.size, i.bytes)) = some (some z, d.sz, bytes)) (hz : z.cells.size = d.sz) (hs0 : 0 < d.sz) (hb0 : 0 < bytes)
    (v : Value) (b : Nat) (xs : List α) (p : α) (cs : List Value) (ok : Nat → Prop)
    (hb : W.heap[b]? = some (.cells cs.toArray e (0, 0))) (hp : d.R (fun k => ok k ∧ some k ≠ v.ownBlock) W p cs) (HO : Own d e ok W base v xs) (hbase : base ≤ W.heap.size) (hl : (xs.length + 1) * bytes ≤ 140737488355328) :
    ∃ v1 w1, (Builtin.append_ #[t, t] ty #[v, .slice (some ⟨b, 0, none⟩) 1 1]).run P W = .ok v1 w1 ∧ Own d e ok w1 base v1 (xs ++ [p]) ∧ W.grownBy w1 v.ownBlock ∧ (v1.ownBlock = v.ownBlock ∨ ∃ b, v1.ownBlock = some b ∧ W.heap.size ≤ b) := by
  obtain ⟨i0, hi, hzz⟩ := Option.map_eq_some_iff.1 hinfo
  simp only [Prod.mk.injEq] at hzz
  obtain ⟨hz0, hz1, hz2⟩ := hzz
  have hlen : xs.length + 1 ≤ 140737488355328 := Nat.le_trans (Nat.le_mul_of_pos_right _ hb0) hl
  obtain ⟨cells, hlc, hown, hr⟩ := HO
  obtain ⟨v1, w1, hrun, hown1, hg, _, hat⟩ := run_append_own_at (P := P) W base t ty e i0 z d.sz bytes ht hi hz0 hz1 hz2 hz hs0 v xs.length cells.flatten hown ⟨b, 0, none⟩ 1 1 cs (by rw [d.len hp, Nat.one_mul])
    (fun j u hu => Go.World.news_of_block hb j u (by simpa using hu)) (d.one hp) (by simp only [maxLen]; omega) hl hbase
  have hat' : v1.ownBlock = v.ownBlock ∨ ∃ b, v1.ownBlock = some b ∧ W.heap.size ≤ b := by
    rcases hat with hat | hat
    · exact .inl hat
    · exact .inr ⟨_, hat, Nat.le_refl _⟩
  refine ⟨v1, w1, hrun, Own.appended (ys := [p]) (news := [cs]) hlc hr rfl (fun i y c hy hc => ?_) (by simpa using hown1) hg hat', hg, hat'⟩
  rcases i with _ | i
  · simp only [List.getElem?_cons_zero, Option.some.injEq] at hy hc
    subst hy; subst hc; exact hp
  · simp at hy

section
variable {ops : Array Oper} {o : Oper} {a : Act} {K : Act → World → Prop} {Q : Exit → Act → World → Prop} {E : Prop} {W : World}
/-- append(v, x) in a drawn region; the literal lies in block b. -/
theorem step_push1 (d : Ty α) (base : Nat) (hgd : o.guard = none) (s x : Operand) (t e : TypeId) (z : Value) (bytes : Nat)
    (ho : o.op = .call { callee := .builtin .append, args := #[s, x], argTypes := #[t, t] })
    (ht : P.underlying t = some (.slice e)) (hinfo : (P.info? e).map (fun i => (i.zero, i.size, i.bytes)) = some (some z, d.sz, bytes)) (hz : z.cells.size = d.sz) (hs0 : 0 < d.sz) (hb0 : 0 < bytes)
    (v : Value) (b : Nat) (xs : List α) (p : α) (cs : List Value) (ok : Nat → Prop) (hs : a.eval s = v) (hx : a.eval x = .slice (some ⟨b, 0, none⟩) 1 1)
    (hb : W.heap[b]? = some (.cells cs.toArray e (0, 0))) (hp : d.R (fun k => ok k ∧ some k ≠ v.ownBlock) W p cs) (HO : Own d e ok W base v xs) (hbase : base ≤ W.heap.size) (hl : (xs.length + 1) * bytes ≤ 140737488355328)
    (h : ∀ v1 w1, Own d e ok w1 base v1 (xs ++ [p]) → W.grownBy w1 v.ownBlock → (v1.ownBlock = v.ownBlock ∨ ∃ b, v1.ownBlock = some b ∧ W.heap.size ≤ b) → K (a.put o.dst v1) w1) :
    if Region.wanted o (yielded ops a.tmps) = true then Oper.wp P o a W K Q else E := by
  obtain ⟨v1, w1, hr, h1, h2, h3⟩ := run_push1 (P := P) d base o.type t e z bytes ht hinfo hz hs0 hb0 v b xs p cs ok hb hp HO hbase hl
  exact step_append hgd s x t ho v _ hs hx hr (h v1 w1 h1 h2 h3)
end
end Go.Proofs.Ytkfoknjflpklpaa.Mem

namespace Go.Proofs.Ytkfoknjflpklpaa.D
open Go Go.RowKit Go.Proofs.Ytkfoknjflpklpaa.Mem

/-- v's own block, if it has one, is a row that nothing shares. -/
def Loose (w : World) (v : Value) : Prop := ∀ k, v.ownBlock = some k → ∃ cs t, w.heap[k]? = some (.cells cs t (0, 0))

def tChgU : Ty Chg where
  sz := 4
  R := fun ok w x cs => tChg.R ok w x cs ∧ ∀ v3, cs[3]? = some v3 → x.new ≠ [] → Loose w v3
  len := fun h => tChg.len h.1
  one := fun h => tChg.one h.1
  mono := fun hok h => ⟨tChg.mono hok h.1, h.2⟩
  move := fun {ok w w' x cs} hm h => ⟨tChg.move hm h.1, fun v3 h3 hne k hk => by
    obtain ⟨cells, t, hc⟩ := h.2 v3 h3 hne k hk
    obtain ⟨u2, u3, e, _, s3⟩ := h.1
    subst e
    simp only [List.getElem?_cons_succ, List.getElem?_cons_zero, Option.some.injEq] at h3
    subst h3
    obtain ⟨A, c, rfl, _, _, _, _, hrow⟩ := s3
    obtain ⟨ad, rfl, hok, hlt, _⟩ := hrow hne
    simp only [Value.ownBlock, Option.some.injEq] at hk
    subst hk
    exact ⟨cells, t, (hm _ hok hlt).trans hc⟩⟩
  bnd := fun h => ⟨tChg.bnd h.1, h.2⟩

theorem Own.plainer {E base : Nat} {ok : Nat → Prop} {w : World} {v : Value} {xs : List Chg} (h : Own tChgU E ok w base v xs) : Own tChg E ok w base v xs := by
  obtain ⟨cells, hl, ho, hr⟩ := h
  exact ⟨cells, hl, ho, fun i x c hx hc => (hr i x c hx hc).1⟩

theorem Own.bnd {α : Type} {d : Ty α} {E base : Nat} {ok : Nat → Prop} {w : World} {v : Value} {xs : List α} (h : Own d E ok w base v xs) : Own d E (fun k => ok k ∧ k < w.heap.size) w base v xs := by
  obtain ⟨cells, hl, ho, hr⟩ := h
  exact ⟨cells, hl, ho, fun i x c hx hc => d.mono (fun k hk => ⟨⟨hk.1.1, hk.2⟩, hk.1.2⟩) (d.bnd (hr i x c hx hc))⟩

theorem cloned_RU {W : World} {BW N B : Nat} {vo v2 v3 : Value} {cc : Chg} (h1 : N ≤ BW) (h2 : BW ≤ B) (ho : ∀ k, vo.ownBlock = some k → N ≤ k ∧ k < BW) (h3 : Own tVal 55 (fun _ => False) W B v2 cc.old) (h4 : Own tVal 55 (fun _ => False) W B v3 cc.new) (n1 : cc.old.length ≤ 140737488355328) (n2 : cc.new.length ≤ 140737488355328) :
    tChgU.R (fun k => N ≤ k ∧ some k ≠ vo.ownBlock) W cc [.string cc.table, .int .i64 cc.id, v2, v3] :=
  ⟨cloned_R h1 h2 ho h3 h4 n1 n2, fun u hu _ k hk => by
    simp only [List.getElem?_cons_succ, List.getElem?_cons_zero, Option.some.injEq] at hu
    subst hu
    obtain ⟨cells, _, hown, _⟩ := h4
    rcases hown.2 with ⟨rfl, _⟩ | ⟨g, cap, cur, rfl, _, hg, _⟩
    · simp [Value.ownBlock] at hk
    · simp only [Value.ownBlock, Option.some.injEq] at hk
      subst hk
      exact ⟨_, _, hg⟩⟩

section
variable {P : Program} {α : Type}
/-- append(v, x) where v is full: it is copied into a row of one's own. -/
theorem run_push_full (d : Ty α) {W : World} (ty t e : TypeId) (z : Value) (bytes : Nat)
    (ht : P.underlying t = some (.slice e)) (hinfo : (P.info? e).map (fun i => (i.zero, i.size, i.bytes)) = some (some z, d.sz, bytes)) (hz : z.cells.size = d.sz) (hs0 : 0 < d.sz) (hb0 : 0 < bytes)
    (ad : Addr) (n b : Nat) (xs : List α) (p : α) (cs : List Value) (okv ok : Nat → Prop)
    (hv : Sl d okv W (.slice (some ad) n n) xs)
    (hb : W.heap[b]? = some (.cells cs.toArray e (0, 0))) (hp : d.R ok W p cs) (hl : (xs.length + 1) * bytes ≤ 140737488355328)
    (hok1 : ∀ k, okv k → k < W.heap.size → ok k) (hlt : ∀ k, ok k → k < W.heap.size) :
    ∃ v1 w1, (Builtin.append_ #[t, t] ty #[.slice (some ad) n n, .slice (some ⟨b, 0, none⟩) 1 1]).run P W = .ok v1 w1 ∧ Own d e ok w1 W.heap.size v1 (xs ++ [p]) ∧ W.grownBy w1 none := by
  obtain ⟨i0, hi, hzz⟩ := Option.map_eq_some_iff.1 hinfo
  simp only [Prod.mk.injEq] at hzz
  obtain ⟨hz0, hz1, hz2⟩ := hzz
  have hlen : xs.length + 1 ≤ 140737488355328 := Nat.le_trans (Nat.le_mul_of_pos_right _ hb0) hl
  obtain ⟨hrow, hn, _, _, _, _⟩ := hv.bnd.row
  subst hn
  obtain ⟨news, hnl, hnr, hnc⟩ := hrow.cells
  have hcl := Own.lens hnl hnr
  have hfl : ∀ l : List (List Value), (∀ c ∈ l, c.length = d.sz) → l.flatten.length = l.length * d.sz := by
    intro l
    induction l with
    | nil => intro _; simp
    | cons c l ih => intro hl; rw [List.flatten_cons, List.length_append, ih (fun c hc => hl c (List.mem_cons_of_mem _ hc)), hl c List.mem_cons_self, List.length_cons, Nat.add_mul, Nat.one_mul, Nat.add_comm]
  obtain ⟨v1, w1, hrun, hown, hg⟩ := run_append_arg_grows (P := P) W t ty e i0 z d.sz bytes ht hi hz0 hz1 hz2 hz hs0 ad xs.length xs.length news.flatten (by rw [hfl _ hcl, hnl]) hnc ⟨b, 0, none⟩ 1 1 cs (by rw [d.len hp, Nat.one_mul])
    (fun j u hu => Go.World.news_of_block hb j u (by simpa using hu)) (by omega) (by simp only [maxLen]; omega) hl
  have hmv : ∀ {x : α} {c : List Value}, d.R ok W x c → d.R (fun k => ok k ∧ some k ≠ v1.ownBlock) w1 x c := fun {x c} h => by
    refine d.mono (fun k hk => ⟨hk, fun e => ?_⟩) (d.move (fun k hk hlt => hg.block k hlt (by simp)) h)
    have := (hown.lt k e.symm).1
    have := hlt k hk
    omega
  refine ⟨v1, w1, hrun, ⟨news ++ [cs], by simp [hnl], ?_, fun i x c hx hc => ?_⟩, hg⟩
  · rw [List.flatten_append, List.length_append, List.length_singleton]
    simpa using hown
  · rcases Nat.lt_or_ge i xs.length with h | h
    · rw [List.getElem?_append_left h] at hx
      rw [List.getElem?_append_left (by omega)] at hc
      exact hmv (d.mono (fun k hk => hok1 k hk.1 hk.2) (hnr i x c hx hc))
    · obtain ⟨j, rfl⟩ : ∃ j, i = xs.length + j := ⟨i - xs.length, by omega⟩
      rw [List.getElem?_append_right (by omega), Nat.add_sub_cancel_left] at hx
      rw [List.getElem?_append_right (by omega), hnl, Nat.add_sub_cancel_left] at hc
      rcases j with _ | j
      · simp only [List.getElem?_cons_zero, Option.some.injEq] at hx hc
        subst hx; subst hc
        exact hmv hp
      · simp at hx
end
end Go.Proofs.Ytkfoknjflpklpaa.D
