/- The stable sort is the sort by insertion behind what doesn't stand behind. -/
import Derived.Test.YtkfoknjflpklpaaStabPure
namespace Go.Proofs.Ytkfoknjflpklpaa.Stab
open Go.Sort
variable {α : Type} [Inhabited α]
variable {lt : α → α → Bool} {tag : α → Nat}

/-- lt, and where neither is less, by tags. -/
def byTag (lt : α → α → Bool) (tag : α → Nat) (x y : α) : Bool := lt x y || (!lt y x && decide (tag x < tag y))

omit [Inhabited α] in
theorem byTag_true {x y : α} : byTag lt tag x y = true ↔ lt x y = true ∨ (lt y x = false ∧ tag x < tag y) := by simp [byTag]
omit [Inhabited α] in
theorem byTag_false {x y : α} : byTag lt tag x y = false ↔ lt x y = false ∧ (lt y x = true ∨ ¬ tag x < tag y) := by
  unfold byTag
  cases lt x y <;> cases lt y x <;> simp

omit [Inhabited α] in
theorem swo_byTag (h : SWO lt) : SWO (byTag lt tag) where
  irrefl x := by rw [byTag_false]; exact ⟨h.irrefl x, Or.inr (Nat.lt_irrefl _)⟩
  trans x y z h1 h2 := by
    rw [byTag_true] at *
    have nt : ∀ a b c, lt a c = true → lt a b = true ∨ lt b c = true := fun a b c hac => by
      cases hab : lt a b with
      | true => exact Or.inl rfl
      | false => cases hbc : lt b c with
        | true => exact Or.inr rfl
        | false => rw [h.ntrans _ _ _ hab hbc] at hac; cases hac
    rcases h1 with h1 | ⟨h1, t1⟩ <;> rcases h2 with h2 | ⟨h2, t2⟩
    · exact Or.inl (h.trans _ _ _ h1 h2)
    · rcases nt x z y h1 with g | g
      · exact Or.inl g
      · rw [h2] at g; cases g
    · rcases nt y x z h2 with g | g
      · rw [h1] at g; cases g
      · exact Or.inl g
    · exact Or.inr ⟨h.ntrans _ _ _ h2 h1, by omega⟩
  ntrans x y z h1 h2 := by
    rw [byTag_false] at *
    refine ⟨h.ntrans _ _ _ h1.1 h2.1, ?_⟩
    cases hzx : lt z x with
    | true => exact Or.inl rfl
    | false =>
      refine Or.inr ?_
      have a : lt y x = false := by
        cases hyx : lt y x with
        | false => rfl
        | true => rw [h.ntrans y z x h2.1 hzx] at hyx; cases hyx
      have b : lt z y = false := by
        cases hzy : lt z y with
        | false => rfl
        | true => rw [h.ntrans z x y hzx h1.1] at hzy; cases hzy
      rcases h1.2 with g | g
      · rw [a] at g; cases g
      · rcases h2.2 with g2 | g2
        · rw [b] at g2; cases g2
        · omega

omit [Inhabited α] in
theorem agree {x y : α} (h : tag x < tag y) : lt y x = byTag lt tag y x := by
  unfold byTag
  rw [show decide (tag y < tag x) = false from decide_eq_false (by omega)]
  simp

/-! ### insertion sort by lt, and by tags -/
theorem insInner_eq (a : Nat) : ∀ (j : Nat) (d : Array α), j < d.size → (∀ p, a ≤ p → p < j → tag d[p]! < tag d[j]!) → insInner lt a j d = insInner (byTag lt tag) a j d := by
  intro j
  induction j with
  | zero => intro d _ _; rw [insInner, insInner]
  | succ j ih =>
    intro d hs ht
    rw [insInner, insInner]
    by_cases c : j + 1 > a
    · have e := agree (lt := lt) (ht j (by omega) (by omega))
      rw [← e]
      have g := fun y => swp_get d (show j + 1 < d.size by omega) (show j < d.size by omega) y
      rw [ih (swp d (j + 1) j) (by rw [size_swp]; omega) (fun p p1 p2 => by
        rw [g, g, if_neg (by omega), if_neg (by omega), if_pos rfl]
        exact ht p p1 (by omega))]
    · have e : decide (j + 1 > a) = false := decide_eq_false c
      rw [e, Bool.false_and, Bool.false_and, if_neg (by simp), if_neg (by simp)]

theorem insOuter_eq (hr : SWO lt) (a b : Nat) : ∀ (n i : Nat) (d : Array α), b - i = n → a < i → b ≤ d.size → SortedIn (byTag lt tag) a i d →
    (∀ p q, a ≤ p → p < q → i ≤ q → q < b → tag d[p]! < tag d[q]!) → insOuter lt a b i d = insOuter (byTag lt tag) a b i d := by
  intro n
  induction n with
  | zero => intro i d h _ _ _ _; rw [insOuter.eq_def lt, insOuter.eq_def (byTag lt tag), if_neg (by omega), if_neg (by omega)]
  | succ n ih =>
    intro i d h hi hb hs ht
    rw [insOuter.eq_def lt a b i d, insOuter.eq_def (byTag lt tag) a b i d, if_pos (by omega), if_pos (by omega)]
    rw [insInner_eq (tag := tag) a i d (by omega) (fun p p1 p2 => ht p i p1 p2 (Nat.le_refl _) (by omega))]
    have h1 := insInner_spec (swo_byTag (tag := tag) hr) swp_permIn permIn_refl permIn_trans a (i + 1) i (by omega) i d (by omega) (Nat.le_refl _) (by omega) ⟨fun p q hap hpq hqi _ hq => hs p q hap hpq (by omega), fun q h1 h2 => by omega⟩
    refine ih (i + 1) _ (by omega) (by omega) (by rw [h1.1.1]; exact hb) h1.2 (fun p q p1 p2 q1 q2 => ?_)
    rw [h1.1.2.1 q (Or.inr (by omega))]
    by_cases c : p < i + 1
    · exact permIn_all d _ a (i + 1) (fun z => tag z < tag d[q]!) (by omega) h1.1 (fun p' p1' p2' => ht p' q p1' (by omega) (by omega) q2) p p1 c
    · rw [h1.1.2.1 p (Or.inr (by omega))]
      exact ht p q p1 p2 (by omega) q2

theorem insertionSort_tag (hr : SWO lt) (a b : Nat) (d : Array α) (hab : a ≤ b) (hb : b ≤ d.size) (ht : ∀ p q, a ≤ p → p < q → q < b → tag d[p]! < tag d[q]!) :
    PermIn a b d (insertionSort lt d a b) ∧ SortedIn (byTag lt tag) a b (insertionSort lt d a b) := by
  have e : insertionSort lt d a b = insertionSort (byTag lt tag) d a b := by
    unfold insertionSort
    exact insOuter_eq hr a b _ (a + 1) d rfl (by omega) hb (fun i j h1 h2 h3 => by omega) (fun p q p1 p2 _ q2 => ht p q p1 p2 q2)
  rw [e]
  exact insertionSort_of swp_permIn permIn_refl permIn_trans (swo_byTag hr) d a b hab hb

/-! ### blocks -/
/-- What lies ahead of c has lesser tags than what lies from c on. -/
def Cut (tag : α → Nat) (n c : Nat) (d : Array α) : Prop := ∀ i j, i < c → c ≤ j → j < n → tag d[i]! < tag d[j]!

theorem Cut.perm {n c a b : Nat} {d d' : Array α} (h : Cut tag n c d) (hp : PermIn a b d d') (hb : b ≤ d.size) (hbn : b ≤ n) (hc : c ≤ a ∨ b ≤ c) : Cut tag n c d' := by
  intro i j hi hj hjn
  rcases hc with hc | hc
  · rw [hp.2.1 i (Or.inl (by omega))]
    by_cases q : a ≤ j ∧ j < b
    · exact permIn_all d d' a b (fun z => tag d[i]! < tag z) hb hp (fun j' h1 h2 => h i j' hi (by omega) (by omega)) j q.1 q.2
    · rw [hp.2.1 j (by omega)]; exact h i j hi hj hjn
  · rw [hp.2.1 j (Or.inr (by omega))]
    by_cases q : a ≤ i ∧ i < b
    · exact permIn_all d d' a b (fun z => tag z < tag d[j]!) hb hp (fun i' h1 h2 => h i' j (by omega) hj hjn) i q.1 q.2
    · rw [hp.2.1 i (by omega)]; exact h i j hi hj hjn

theorem SortedIn.outside {r : α → α → Bool} {a b x y : Nat} {d d' : Array α} (h : SortedIn r x y d) (hp : PermIn a b d d') (hc : y ≤ a ∨ b ≤ x) : SortedIn r x y d' := by
  intro i j h1 h2 h3
  rw [hp.2.1 i (by omega), hp.2.1 j (by omega)]
  exact h i j h1 h2 h3

def Blocks (r : α → α → Bool) (tag : α → Nat) (bs n : Nat) (d : Array α) : Prop :=
  (∀ c, bs ∣ c → Cut tag n c d) ∧ ∀ c, bs ∣ c → SortedIn r c (min (c + bs) n) d

theorem dvd_between {bs a c : Nat} (h1 : bs ∣ a) (h2 : bs ∣ c) (h3 : a < c) : a + bs ≤ c := by
  obtain ⟨x, rfl⟩ := h1
  obtain ⟨y, rfl⟩ := h2
  have : x < y := by
    rcases Nat.lt_or_ge x y with h | h
    · exact h
    · exact absurd h3 (by have := Nat.mul_le_mul_left bs h; omega)
  have := Nat.mul_le_mul_left bs (show x + 1 ≤ y from this)
  rw [Nat.mul_add, Nat.mul_one] at this
  exact this

theorem insBlocks_spec (hr : SWO lt) (bs n : Nat) (hbs : 0 < bs) : ∀ (k a b : Nat) (d : Array α), n + bs - b = k → b = a + bs → bs ∣ a → a ≤ n → d.size = n →
    (∀ c, bs ∣ c → Cut tag n c d) → (∀ i j, a ≤ i → i < j → j < n → tag d[i]! < tag d[j]!) → (∀ c, bs ∣ c → c + bs ≤ a → SortedIn (byTag lt tag) c (c + bs) d) →
    PermIn 0 n d (insBlocks lt bs n a b d) ∧ Blocks (byTag lt tag) tag bs n (insBlocks lt bs n a b d) := by
  intro k
  induction k using Nat.strongRecOn with
  | _ k ih =>
    intro a b d hk hb hda han hsz hcut htag hso
    rw [insBlocks]
    by_cases c : b ≤ n
    · rw [if_pos ⟨c, hbs⟩]
      obtain ⟨p1, s1⟩ := insertionSort_tag (tag := tag) hr a b d (by omega) (by omega) (fun p q h1 h2 h3 => htag p q h1 h2 (by omega))
      have hdb : bs ∣ b := by rw [hb]; exact Nat.dvd_add hda (Nat.dvd_refl _)
      obtain ⟨p2, s2⟩ := ih (n + bs - (b + bs)) (by omega) b (b + bs) _ rfl rfl hdb c (by rw [p1.1]; exact hsz)
        (fun x hx => (hcut x hx).perm p1 (by omega) c (by
          rcases Nat.lt_or_ge a x with h | h
          · exact Or.inr (by have := dvd_between hda hx h; omega)
          · exact Or.inl h))
        (fun i j h1 h2 h3 => by rw [p1.2.1 i (Or.inr h1), p1.2.1 j (Or.inr (by omega))]; exact htag i j (by omega) h2 h3)
        (fun x hx hxb => by
          rcases Nat.lt_or_ge x a with h | h
          · exact SortedIn.outside (hso x hx (dvd_between hx hda h)) p1 (Or.inl (dvd_between hx hda h))
          · obtain rfl : x = a := by omega
            rw [← hb]; exact s1)
      exact ⟨permIn_trans _ _ _ _ _ (permIn_mono _ _ a b _ _ (Nat.zero_le _) c (by omega) p1) p2, s2⟩
    · rw [if_neg (by omega)]
      obtain ⟨p1, s1⟩ := insertionSort_tag (tag := tag) hr a n d han (by omega) (fun p q h1 h2 h3 => htag p q h1 h2 h3)
      refine ⟨permIn_mono _ _ a n _ _ (Nat.zero_le _) (Nat.le_refl _) (by omega) p1, fun x hx => ?_, fun x hx => ?_⟩
      · rcases Nat.lt_or_ge a x with h | h
        · have := dvd_between hda hx h
          intro i j hi hj hjn; omega
        · exact (hcut x hx).perm p1 (by omega) (Nat.le_refl _) (Or.inl h)
      · rcases Nat.lt_trichotomy x a with h | h | h
        · have := dvd_between hx hda h
          rw [Nat.min_eq_left (by omega)]
          exact SortedIn.outside (hso x hx this) p1 (Or.inl this)
        · subst h
          rw [Nat.min_eq_right (by omega)]
          exact s1
        · have := dvd_between hda hx h
          intro i j hi hij hj
          have := Nat.min_le_right (x + bs) n
          omega

theorem mergePass_spec (hr : SWO lt) (bs n : Nat) (hbs : 0 < bs) : ∀ (k a b : Nat) (d : Array α), n + 2 * bs - b = k → b = a + 2 * bs → 2 * bs ∣ a → d.size = n →
    (∀ c, 2 * bs ∣ c → Cut tag n c d) → (∀ c, bs ∣ c → a ≤ c → ∀ i j, a ≤ i → i < c → c ≤ j → j < n → tag d[i]! < tag d[j]!) →
    (∀ c, bs ∣ c → a ≤ c → SortedIn (byTag lt tag) c (min (c + bs) n) d) → (∀ c, 2 * bs ∣ c → c + 2 * bs ≤ a → SortedIn (byTag lt tag) c (min (c + 2 * bs) n) d) →
    PermIn 0 n d (mergePass lt bs n a b d) ∧ Blocks (byTag lt tag) tag (2 * bs) n (mergePass lt bs n a b d) := by
  intro k
  induction k using Nat.strongRecOn with
  | _ k ih =>
    intro a b d hk hb hda hsz hcut hmid hs1 hs2
    have hbd : bs ∣ 2 * bs := ⟨2, by rw [Nat.mul_comm]⟩
    have hba : bs ∣ a := Nat.dvd_trans hbd hda
    rw [mergePass]
    by_cases c : b ≤ n
    · rw [if_pos ⟨c, hbs⟩]
      obtain ⟨p1, s1⟩ := symMerge_spec (lt := lt) (swo_byTag (tag := tag) hr) _ a (a + bs) b d rfl (by omega) (by omega) (by omega)
        (fun i j h1 h2 h3 h4 => agree (hmid (a + bs) (Nat.dvd_add hba (Nat.dvd_refl _)) (by omega) i j h1 h2 h3 (by omega)))
        (by have := hs1 a hba (Nat.le_refl _); rwa [Nat.min_eq_left (by omega)] at this)
        (by have := hs1 (a + bs) (Nat.dvd_add hba (Nat.dvd_refl _)) (by omega); rwa [Nat.min_eq_left (by omega), show a + bs + bs = b by omega] at this)
      have hdb : 2 * bs ∣ b := by rw [hb]; exact Nat.dvd_add hda (Nat.dvd_refl _)
      obtain ⟨p2, s2⟩ := ih (n + 2 * bs - (b + 2 * bs)) (by omega) b (b + 2 * bs) _ rfl rfl hdb (by rw [p1.1]; exact hsz)
        (fun x hx => (hcut x hx).perm p1 (by omega) c (by
          rcases Nat.lt_or_ge a x with h | h
          · exact Or.inr (by have := dvd_between hda hx h; omega)
          · exact Or.inl h))
        (fun x hx hbx i j h1 h2 h3 h4 => by rw [p1.2.1 i (Or.inr h1), p1.2.1 j (Or.inr (by omega))]; exact hmid x hx (by omega) i j (by omega) h2 h3 h4)
        (fun x hx hbx => SortedIn.outside (hs1 x hx (by omega)) p1 (Or.inr hbx))
        (fun x hx hxb => by
          rcases Nat.lt_or_ge x a with h | h
          · have := dvd_between hx hda h
            exact SortedIn.outside (hs2 x hx this) p1 (Or.inl (by have := Nat.min_le_left (x + 2 * bs) n; omega))
          · obtain rfl : x = a := by omega
            rw [Nat.min_eq_left (by omega), ← hb]; exact s1)
      exact ⟨permIn_trans _ _ _ _ _ (permIn_mono _ _ a b _ _ (Nat.zero_le _) c (by omega) p1) p2, s2⟩
    · rw [if_neg (by omega)]
      by_cases c2 : a + bs < n
      · rw [if_pos c2]
        obtain ⟨p1, s1⟩ := symMerge_spec (lt := lt) (swo_byTag (tag := tag) hr) _ a (a + bs) n d rfl (by omega) (by omega) (by omega)
          (fun i j h1 h2 h3 h4 => agree (hmid (a + bs) (Nat.dvd_add hba (Nat.dvd_refl _)) (by omega) i j h1 h2 h3 (by omega)))
          (by have := hs1 a hba (Nat.le_refl _); rwa [Nat.min_eq_left (by omega)] at this)
          (by have := hs1 (a + bs) (Nat.dvd_add hba (Nat.dvd_refl _)) (by omega); rwa [Nat.min_eq_right (by omega)] at this)
        refine ⟨permIn_mono _ _ a n _ _ (Nat.zero_le _) (Nat.le_refl _) (by omega) p1, fun x hx => ?_, fun x hx => ?_⟩
        · rcases Nat.lt_or_ge a x with h | h
          · have := dvd_between hda hx h
            intro i j hi hj hjn; omega
          · exact (hcut x hx).perm p1 (by omega) (Nat.le_refl _) (Or.inl h)
        · rcases Nat.lt_trichotomy x a with h | h | h
          · have := dvd_between hx hda h
            exact SortedIn.outside (hs2 x hx this) p1 (Or.inl (by have := Nat.min_le_left (x + 2 * bs) n; omega))
          · subst h
            rw [Nat.min_eq_right (by omega)]
            exact s1
          · have := dvd_between hda hx h
            intro i j hi hij hj
            have := Nat.min_le_right (x + 2 * bs) n
            omega
      · rw [if_neg c2]
        refine ⟨permIn_refl _ _ _, hcut, fun x hx => ?_⟩
        rcases Nat.lt_trichotomy x a with h | h | h
        · exact hs2 x hx (dvd_between hx hda h)
        · subst h
          have := hs1 x hba (Nat.le_refl _)
          rw [Nat.min_eq_right (by omega)] at this ⊢
          exact this
        · have := dvd_between hda hx h
          intro i j hi hij hj
          have := Nat.min_le_right (x + 2 * bs) n
          omega

theorem mergeAll_spec (hr : SWO lt) (n : Nat) : ∀ (k bs : Nat) (d : Array α), n - bs = k → 0 < bs → d.size = n → Blocks (byTag lt tag) tag bs n d →
    PermIn 0 n d (mergeAll lt bs n d) ∧ SortedIn (byTag lt tag) 0 n (mergeAll lt bs n d) := by
  intro k
  induction k using Nat.strongRecOn with
  | _ k ih =>
    intro bs d hk hbs hsz hB
    rw [mergeAll]
    by_cases c : bs < n
    · rw [if_pos ⟨c, hbs⟩]
      have hbd : ∀ x, 2 * bs ∣ x → bs ∣ x := fun x hx => Nat.dvd_trans ⟨2, by rw [Nat.mul_comm]⟩ hx
      obtain ⟨p1, B1⟩ := mergePass_spec (tag := tag) hr bs n hbs _ 0 (2 * bs) d rfl (by omega) (Nat.dvd_zero _) hsz (fun x hx => hB.1 x (hbd x hx))
        (fun x hx _ i j _ h2 h3 h4 => hB.1 x hx i j h2 h3 h4) (fun x hx _ => hB.2 x hx) (fun x _ hx2 => by omega)
      rw [Nat.mul_comm 2 bs] at B1 p1 ⊢
      obtain ⟨p2, s2⟩ := ih (n - bs * 2) (by omega) (bs * 2) _ rfl (by omega) (by rw [p1.1]; exact hsz) B1
      exact ⟨permIn_trans _ _ _ _ _ p1 p2, s2⟩
    · rw [if_neg (by omega)]
      refine ⟨permIn_refl _ _ _, ?_⟩
      have := hB.2 0 (Nat.dvd_zero _)
      rwa [Nat.min_eq_right (by omega)] at this

theorem stable_spec (hr : SWO lt) (d : Array α) (ht : ∀ i j, i < j → j < d.size → tag d[i]! < tag d[j]!) :
    PermIn 0 d.size d (stable lt d) ∧ SortedIn (byTag lt tag) 0 d.size (stable lt d) := by
  unfold stable
  obtain ⟨p1, B1⟩ := insBlocks_spec (tag := tag) hr 20 d.size (by omega) _ 0 20 d rfl rfl (Nat.dvd_zero _) (Nat.zero_le _) rfl (fun c _ i j h1 h2 h3 => ht i j (by omega) h3) (fun i j _ h2 h3 => ht i j h2 h3) (fun c _ h => by omega)
  obtain ⟨p2, s2⟩ := mergeAll_spec hr d.size _ 20 _ rfl (by omega) p1.1 B1
  exact ⟨permIn_trans _ _ _ _ _ p1 p2, s2⟩

/-! ### lists -/
/-- x behind all that it doesn't stand ahead of. -/
def ins (lt : α → α → Bool) (x : α) : List α → List α
  | [] => [x]
  | y :: ys => if lt x y then x :: y :: ys else y :: ins lt x ys
def isort (lt : α → α → Bool) (l : List α) : List α := l.foldl (fun out x => ins lt x out) []

omit [Inhabited α] in
theorem ins_perm (x : α) : ∀ l : List α, (ins lt x l).Perm (x :: l)
  | [] => List.Perm.refl _
  | y :: ys => by
    rw [ins]
    split
    · exact List.Perm.refl _
    · exact ((ins_perm x ys).cons y).trans (List.Perm.swap x y ys)

omit [Inhabited α] in
theorem foldl_ins_perm : ∀ (l out : List α), (l.foldl (fun out x => ins lt x out) out).Perm (out ++ l)
  | [], out => by simp
  | x :: l, out => by
    rw [List.foldl_cons]
    exact (foldl_ins_perm l _).trans (((ins_perm x out).append_right l).trans (by simpa using (List.perm_middle (a := x) (l₁ := out) (l₂ := l)).symm))

omit [Inhabited α] in
theorem isort_perm (l : List α) : (isort lt l).Perm l := by simpa [isort] using foldl_ins_perm (lt := lt) l []

omit [Inhabited α] in
/-- Sorted by tags: x has a greater tag than all that is there. -/
theorem ins_sorted (hr : SWO lt) (x : α) : ∀ l : List α, (∀ y ∈ l, tag y < tag x) → l.Pairwise (fun a b => byTag lt tag a b = true) → (ins lt x l).Pairwise (fun a b => byTag lt tag a b = true)
  | [], _, _ => by simp [ins]
  | y :: ys, ht, hp => by
    have hR := swo_byTag (tag := tag) hr
    rw [List.pairwise_cons] at hp
    rw [ins]
    split
    · rename_i hxy
      have h1 : byTag lt tag x y = true := byTag_true.2 (Or.inl hxy)
      refine List.pairwise_cons.2 ⟨fun z hz => ?_, List.pairwise_cons.2 hp⟩
      rcases List.mem_cons.1 hz with rfl | hz
      · exact h1
      · exact hR.trans _ _ _ h1 (hp.1 z hz)
    · rename_i hxy
      refine List.pairwise_cons.2 ⟨fun z hz => ?_, ins_sorted hr x ys (fun z hz => ht z (List.mem_cons_of_mem _ hz)) hp.2⟩
      rcases List.mem_cons.1 ((ins_perm x ys).subset hz) with rfl | hz
      · exact byTag_true.2 (Or.inr ⟨by simpa using hxy, ht y List.mem_cons_self⟩)
      · exact hp.1 z hz

omit [Inhabited α] in
theorem foldl_ins_sorted (hr : SWO lt) : ∀ (l out : List α), (∀ y ∈ out, ∀ x ∈ l, tag y < tag x) → l.Pairwise (fun a b => tag a < tag b) → out.Pairwise (fun a b => byTag lt tag a b = true) →
    (l.foldl (fun out x => ins lt x out) out).Pairwise (fun a b => byTag lt tag a b = true)
  | [], _, _, _, hp => hp
  | x :: l, out, ho, hl, hp => by
    rw [List.foldl_cons]
    rw [List.pairwise_cons] at hl
    refine foldl_ins_sorted hr l _ (fun y hy z hz => ?_) hl.2 (ins_sorted hr x out (fun y hy => ho y hy x List.mem_cons_self) hp)
    rcases List.mem_cons.1 ((ins_perm x out).subset hy) with rfl | hy
    · exact hl.1 z hz
    · exact ho y hy z (List.mem_cons_of_mem _ hz)

omit [Inhabited α] in
theorem isort_sorted (hr : SWO lt) (l : List α) (ht : l.Pairwise (fun a b => tag a < tag b)) : (isort lt l).Pairwise (fun a b => byTag lt tag a b = true) :=
  foldl_ins_sorted hr l [] (by simp) ht List.Pairwise.nil

theorem getElem!_toList (d : Array α) (i : Nat) (h : i < d.toList.length) : d.toList[i] = d[i]! := by
  rw [Array.getElem_toList]
  exact (getElem!_pos d i (by simpa using h)).symm

theorem stable_isort (hr : SWO lt) (d : Array α) (ht : ∀ i j, i < j → j < d.size → tag d[i]! < tag d[j]!) : (stable lt d).toList = isort lt d.toList := by
  obtain ⟨hp, hs⟩ := stable_spec (tag := tag) hr d ht
  have hl : d.toList.Pairwise (fun a b => tag a < tag b) := by
    rw [List.pairwise_iff_getElem]
    intro i j hi hj hij
    rw [getElem!_toList, getElem!_toList]
    exact ht i j hij (by simpa using hj)
  have hperm : (stable lt d).toList.Perm d.toList := by
    have := hp.2.2
    rwa [show (stable lt d).extract 0 d.size = stable lt d by rw [← hp.1]; simp, show d.extract 0 d.size = d by simp] at this
  -- tags part any two
  have hne : ∀ a ∈ d.toList, ∀ b ∈ d.toList, byTag lt tag a b = false → byTag lt tag b a = false → a = b := by
    intro a ha b hb h1 h2
    rw [byTag_false] at h1 h2
    have ht1 : tag a = tag b := by
      rcases h1.2 with g | g
      · rw [h2.1] at g; cases g
      · rcases h2.2 with g2 | g2
        · rw [h1.1] at g2; cases g2
        · omega
    obtain ⟨i, hi, rfl⟩ := List.mem_iff_getElem.1 ha
    obtain ⟨j, hj, rfl⟩ := List.mem_iff_getElem.1 hb
    rw [List.pairwise_iff_getElem] at hl
    rcases Nat.lt_trichotomy i j with h | h | h
    · have := hl i j hi hj h; omega
    · subst h; rfl
    · have := hl j i hj hi h; omega
  have hR := swo_byTag (tag := tag) hr
  refine List.Perm.eq_of_pairwise (le := fun a b => byTag lt tag b a = false) (fun a b ha hb h1 h2 => ?_) ?_ ?_ (hperm.trans (isort_perm _).symm)
  · exact hne a (hperm.subset ha) b ((isort_perm _).subset hb) h2 h1
  · rw [List.pairwise_iff_getElem]
    intro i j hi hj hij
    rw [getElem!_toList, getElem!_toList]
    exact hs i j (Nat.zero_le _) hij (by rw [← hp.1]; simpa using hj)
  · exact (isort_sorted hr _ hl).imp (fun h => hR.asymmA h)

end Go.Proofs.Ytkfoknjflpklpaa.Stab
