/- Layer 3 (heap): heaps as plain lists. -/
namespace Go.Proofs.Ytpkmcokkapfnmaa
set_option linter.unusedVariables false

/-- a thing: rank, place, turn, and what it is -/
structure Th (X : Type) where
  r : Int
  p : Int
  t : Int
  x : X
def leT {X : Type} (a b : Th X) : Prop := a.r < b.r ∨ (a.r = b.r ∧ (a.p < b.p ∨ (a.p = b.p ∧ a.t ≤ b.t)))
def ltB {X : Type} (a b : Th X) : Bool := if a.r ≠ b.r then decide (a.r < b.r) else if a.p ≠ b.p then decide (a.p < b.p) else decide (a.t < b.t)
theorem ltB_le {X : Type} {a b : Th X} (h : ltB a b = true) : leT a b := by
  unfold ltB at h; unfold leT
  split at h
  · simp at h; omega
  · split at h <;> simp at h <;> omega
theorem ltB_not {X : Type} {a b : Th X} (h : ltB a b = false) : leT b a := by
  unfold ltB at h; unfold leT
  split at h
  · simp at h; omega
  · split at h <;> simp at h <;> omega
theorem leT_refl {X : Type} (a : Th X) : leT a a := by unfold leT; omega
theorem leT_trans {X : Type} {a b c : Th X} (h : leT a b) (k : leT b c) : leT a c := by unfold leT at *; omega

def swapT {α : Type} (l : List α) (i k : Nat) : List α := if h : i < l.length ∧ k < l.length then (l.set i l[k]).set k l[i] else l
theorem swap_len {α : Type} (l : List α) (i k : Nat) : (swapT l i k).length = l.length := by unfold swapT; split <;> simp
theorem swap_perm {α : Type} (l : List α) (i k : Nat) : (swapT l i k).Perm l := by
  unfold swapT
  split
  · rename_i h; exact List.set_set_perm h.1 h.2
  · exact List.Perm.refl _
theorem swap_at {α : Type} (l : List α) (i k j : Nat) (hi : i < l.length) (hk : k < l.length) (hj : j < (swapT l i k).length) : (swapT l i k)[j] = if j = k then l[i] else if j = i then l[k] else l[j]'(by rw [swap_len] at hj; exact hj) := by
  have e : swapT l i k = (l.set i l[k]).set k l[i] := by unfold swapT; rw [dif_pos ⟨hi, hk⟩]
  simp only [e, List.getElem_set]
  by_cases h1 : j = k
  · subst h1; simp
  · rw [if_neg (fun h => h1 h.symm), if_neg h1]
    by_cases h2 : j = i
    · subst h2; simp
    · rw [if_neg (fun h => h2 h.symm), if_neg h2]

section
variable {X : Type}
def upT (l : List (Th X)) (i : Nat) : List (Th X) :=
  if h : 0 < i ∧ i < l.length then (if ltB l[i] (l[(i - 1) / 2]'(by omega)) then upT (swapT l i ((i - 1) / 2)) ((i - 1) / 2) else l) else l
termination_by i
decreasing_by omega
/-- the lesser child, or i -/
def lstT (l : List (Th X)) (i m : Nat) (k : Nat) : Nat := if h : k < l.length ∧ m < l.length then (if ltB l[k] l[m] then k else m) else m
def leastT (l : List (Th X)) (i : Nat) : Nat := lstT l i (lstT l i i (2 * i + 1)) (2 * i + 2)
theorem lst_or (l : List (Th X)) (i m k : Nat) : lstT l i m k = m ∨ (lstT l i m k = k ∧ k < l.length) := by
  unfold lstT
  split
  · rename_i h; split
    · exact .inr ⟨rfl, h.1⟩
    · exact .inl rfl
  · exact .inl rfl
theorem least_or (l : List (Th X)) (i : Nat) : leastT l i = i ∨ (leastT l i < l.length ∧ (leastT l i = 2 * i + 1 ∨ leastT l i = 2 * i + 2)) := by
  unfold leastT
  rcases lst_or l i (lstT l i i (2 * i + 1)) (2 * i + 2) with h | ⟨h, h2⟩
  · rw [h]
    rcases lst_or l i i (2 * i + 1) with h | ⟨h, h2⟩
    · exact .inl h
    · rw [h]; exact .inr ⟨h2, .inl rfl⟩
  · rw [h]; exact .inr ⟨h2, .inr rfl⟩
def downT (l : List (Th X)) (i : Nat) : List (Th X) :=
  if h : leastT l i = i then l else downT (swapT l i (leastT l i)) (leastT l i)
termination_by l.length - i
decreasing_by
  rw [swap_len]
  rcases least_or l i with h1 | ⟨h1, h2⟩
  · exact absurd h1 h
  · omega
theorem up_len (l : List (Th X)) (i : Nat) : (upT l i).length = l.length := by
  fun_induction upT l i with
  | case1 l i h h1 ih => rw [ih, swap_len]
  | case2 => rfl
  | case3 => rfl
theorem up_perm (l : List (Th X)) (i : Nat) : (upT l i).Perm l := by
  fun_induction upT l i with
  | case1 l i h h1 ih => exact ih.trans (swap_perm _ _ _)
  | case2 => exact List.Perm.refl _
  | case3 => exact List.Perm.refl _
theorem down_len (l : List (Th X)) (i : Nat) : (downT l i).length = l.length := by
  fun_induction downT l i with
  | case1 => rfl
  | case2 l i h ih => rw [ih, swap_len]
theorem down_perm (l : List (Th X)) (i : Nat) : (downT l i).Perm l := by
  fun_induction downT l i with
  | case1 => exact List.Perm.refl _
  | case2 l i h ih => exact ih.trans (swap_perm _ _ _)

/-- each thing is not less than the one over it -/
def HeapT (l : List (Th X)) : Prop := ∀ j (h : j < l.length), 0 < j → leT (l[(j - 1) / 2]'(by omega)) l[j]
/-- but perhaps i -/
def UpT (l : List (Th X)) (i : Nat) : Prop := (∀ j (h : j < l.length), 0 < j → j ≠ i → leT (l[(j - 1) / 2]'(by omega)) l[j]) ∧
  (∀ j (h : j < l.length) (_ : 0 < j) (_ : 0 < i) (_ : (j - 1) / 2 = i), leT (l[(i - 1) / 2]'(by omega)) l[j])
theorem up_heap (l : List (Th X)) (i : Nat) (hi : i < l.length) (h : UpT l i) : HeapT (upT l i) := by
  fun_induction upT l i with
  | case1 l i h0 h1 ih =>
    refine ih (by rw [swap_len]; omega) ⟨?_, ?_⟩
    · intro j hj hj0 hjp
      rw [swap_len] at hj
      have ho : (i - 1) / 2 < l.length := by omega
      rw [swap_at l i _ _ hi ho, swap_at l i _ _ hi ho]
      have hle := ltB_le h1
      rw [if_neg hjp]
      by_cases hji : j = i
      · subst hji
        rw [if_pos rfl, if_pos rfl]
        exact hle
      · rw [if_neg hji]
        by_cases hp : (j - 1) / 2 = (i - 1) / 2
        · rw [if_pos hp]
          have := h.1 j hj hj0 hji
          simp only [hp] at this
          exact leT_trans hle this
        · rw [if_neg hp]
          by_cases hp2 : (j - 1) / 2 = i
          · rw [if_pos hp2]
            exact h.2 j hj hj0 h0.1 hp2
          · rw [if_neg hp2]
            exact h.1 j hj hj0 hji
    · intro j hj hj0 hp0 hjp
      rw [swap_len] at hj
      have ho : (i - 1) / 2 < l.length := by omega
      have hne : ((i - 1) / 2 - 1) / 2 ≠ (i - 1) / 2 := by omega
      have hne2 : ((i - 1) / 2 - 1) / 2 ≠ i := by omega
      have hj1 : j ≠ (i - 1) / 2 := by omega
      rw [swap_at l i _ _ hi ho, swap_at l i _ _ hi ho, if_neg hne, if_neg hne2, if_neg hj1]
      have h3 := h.1 ((i - 1) / 2) ho hp0 (by omega)
      by_cases hji : j = i
      · subst hji
        rw [if_pos rfl]
        exact h3
      · rw [if_neg hji]
        have h4 := h.1 j hj hj0 hji
        simp only [hjp] at h4
        exact leT_trans h3 h4
  | case2 l i h0 h1 =>
    intro j hj hj0
    by_cases hji : j = i
    · subst hji
      exact ltB_not (by simpa using h1)
    · exact h.1 j hj hj0 hji
  | case3 l i h0 =>
    intro j hj hj0
    exact h.1 j hj hj0 (by omega)

/-- but perhaps those below i -/
def DownT (l : List (Th X)) (i : Nat) : Prop := (∀ j (h : j < l.length), 0 < j → (j - 1) / 2 ≠ i → leT (l[(j - 1) / 2]'(by omega)) l[j]) ∧
  (∀ j (h : j < l.length) (_ : 0 < j) (_ : 0 < i) (_ : (j - 1) / 2 = i), leT (l[(i - 1) / 2]'(by omega)) l[j])
theorem lst_le (l : List (Th X)) (i m k : Nat) (hm : m < l.length) : (∀ h : lstT l i m k < l.length, leT l[lstT l i m k] l[m]) ∧ (∀ h : lstT l i m k < l.length, ∀ hk : k < l.length, leT l[lstT l i m k] l[k]) := by
  by_cases hk : k < l.length
  · by_cases hb : ltB l[k] l[m] = true
    · have e : lstT l i m k = k := by unfold lstT; rw [dif_pos ⟨hk, hm⟩, if_pos hb]
      simp only [e]
      exact ⟨fun _ => ltB_le hb, fun _ _ => leT_refl _⟩
    · have e : lstT l i m k = m := by unfold lstT; rw [dif_pos ⟨hk, hm⟩, if_neg hb]
      simp only [e]
      exact ⟨fun _ => leT_refl _, fun _ _ => ltB_not (by simpa using hb)⟩
  · have e : lstT l i m k = m := by unfold lstT; rw [dif_neg (fun h => hk h.1)]
    simp only [e]
    exact ⟨fun _ => leT_refl _, fun _ h => absurd h hk⟩
theorem least_lt (l : List (Th X)) (i : Nat) (hi : i < l.length) : leastT l i < l.length := by
  rcases least_or l i with h | h
  · rw [h]; exact hi
  · exact h.1
theorem least_le (l : List (Th X)) (i : Nat) (hi : i < l.length) : leT (l[leastT l i]'(least_lt l i hi)) l[i] ∧ ∀ k, (hk : k < l.length) → (k = 2 * i + 1 ∨ k = 2 * i + 2) → leT (l[leastT l i]'(least_lt l i hi)) l[k] := by
  have h1 : lstT l i i (2 * i + 1) < l.length := by
    rcases lst_or l i i (2 * i + 1) with h | ⟨h, h2⟩
    · rw [h]; exact hi
    · rw [h]; exact h2
  obtain ⟨a1, a2⟩ := lst_le l i i (2 * i + 1) hi
  obtain ⟨b1, b2⟩ := lst_le l i (lstT l i i (2 * i + 1)) (2 * i + 2) h1
  have hl := least_lt l i hi
  unfold leastT at hl ⊢
  refine ⟨leT_trans (b1 hl) (a1 h1), ?_⟩
  intro k hk hor
  rcases hor with rfl | rfl
  · exact leT_trans (b1 hl) (a2 h1 hk)
  · exact b2 hl hk
theorem down_heap (l : List (Th X)) (i : Nat) (hi : i < l.length) (h : DownT l i) : HeapT (downT l i) := by
  fun_induction downT l i with
  | case1 l i h0 =>
    intro j hj hj0
    by_cases hji : (j - 1) / 2 = i
    · obtain ⟨_, h2⟩ := least_le l i hi
      have := h2 j hj (by omega)
      simp only [h0] at this
      simp only [hji]
      exact this
    · exact h.1 j hj hj0 hji
  | case2 l i h0 ih =>
    obtain ⟨le1, le2⟩ := least_le l i hi
    have hl := least_lt l i hi
    rcases least_or l i with hh | ⟨_, hor⟩
    · exact absurd hh h0
    obtain ⟨m, hm⟩ : ∃ m, leastT l i = m := ⟨_, rfl⟩
    simp only [hm] at le1 le2 hl hor ih h0 ⊢
    refine ih (by rw [swap_len]; exact hl) ⟨?_, ?_⟩
    · intro j hj hj0 hjm
      rw [swap_len] at hj
      rw [swap_at l i m _ hi hl, swap_at l i m _ hi hl, if_neg hjm]
      by_cases hjm2 : j = m
      · subst hjm2
        have : (j - 1) / 2 = i := by omega
        simp only [this, if_true]
        exact le1
      · rw [if_neg hjm2]
        by_cases hp : (j - 1) / 2 = i
        · rw [if_pos hp]
          have hji : j ≠ i := by omega
          rw [if_neg hji]
          exact le2 j hj (by omega)
        · rw [if_neg hp]
          by_cases hji : j = i
          · subst hji
            rw [if_pos rfl]
            exact h.2 m hl (by omega) hj0 (by omega)
          · rw [if_neg hji]
            exact h.1 j hj hj0 hp
    · intro j hj hj0 hm0 hjm
      rw [swap_len] at hj
      have hmi : (m - 1) / 2 = i := by omega
      have hj1 : j ≠ m := by omega
      have hj2 : j ≠ i := by omega
      rw [swap_at l i m _ hi hl, swap_at l i m _ hi hl, if_neg hj1, if_neg hj2]
      have e1 : (m - 1) / 2 ≠ m := by omega
      rw [if_neg e1, if_pos hmi]
      have := h.1 j hj hj0 (by omega)
      simp only [hjm] at this
      exact this
/-- the first is the least -/
theorem heap_min (l : List (Th X)) (h : HeapT l) : ∀ j (hj : j < l.length), leT (l[0]'(by omega)) l[j] := by
  intro j
  induction j using Nat.strongRecOn with
  | _ j ih =>
    intro hj
    by_cases h0 : j = 0
    · subst h0; exact leT_refl _
    · exact leT_trans (ih ((j - 1) / 2) (by omega) (by omega)) (h j hj (by omega))

def pushT (l : List (Th X)) (a : Th X) : List (Th X) := upT (l ++ [a]) l.length
theorem push_perm (l : List (Th X)) (a : Th X) : (pushT l a).Perm (a :: l) := (up_perm _ _).trans (List.perm_append_comm)
theorem push_len (l : List (Th X)) (a : Th X) : (pushT l a).length = l.length + 1 := by unfold pushT; rw [up_len]; simp
theorem push_heap (l : List (Th X)) (a : Th X) (h : HeapT l) : HeapT (pushT l a) := by
  refine up_heap _ _ (by simp) ⟨?_, ?_⟩
  · intro j hj hj0 hne
    simp only [List.length_append, List.length_singleton] at hj
    rw [List.getElem_append_left (by omega), List.getElem_append_left (by omega)]
    exact h j (by omega) hj0
  · intro j hj hj0 _ hp
    simp only [List.length_append, List.length_singleton] at hj
    omega
def popT (l : List (Th X)) : List (Th X) := downT ((swapT l 0 (l.length - 1)).take (l.length - 1)) 0
theorem pop_len (l : List (Th X)) : (popT l).length = l.length - 1 := by unfold popT; rw [down_len, List.length_take, swap_len]; omega
theorem pop_perm (l : List (Th X)) (h : 0 < l.length) : l.Perm (l[0] :: popT l) := by
  have h1 := (swap_perm l 0 (l.length - 1)).symm
  refine h1.trans ?_
  have hlen : l.length - 1 < (swapT l 0 (l.length - 1)).length := by rw [swap_len]; omega
  have e : swapT l 0 (l.length - 1) = (swapT l 0 (l.length - 1)).take (l.length - 1) ++ [l[0]] := by
    conv => lhs; rw [← List.take_append_drop (l.length - 1) (swapT l 0 (l.length - 1))]
    congr 1
    rw [List.drop_eq_getElem_cons hlen, swap_at l 0 _ _ h (by omega), if_pos rfl, List.drop_eq_nil_of_le (by rw [swap_len]; omega)]
  rw [e]
  refine (List.perm_append_comm).trans ?_
  exact List.Perm.cons _ (down_perm _ _).symm
theorem pop_heap (l : List (Th X)) (h : HeapT l) : HeapT (popT l) := by
  by_cases h1 : l.length ≤ 1
  · intro j hj hj0
    rw [pop_len] at hj
    omega
  · have hlen : ((swapT l 0 (l.length - 1)).take (l.length - 1)).length = l.length - 1 := by rw [List.length_take, swap_len]; omega
    refine down_heap _ _ (by rw [hlen]; omega) ⟨?_, ?_⟩
    · intro j hj hj0 hp
      rw [hlen] at hj
      rw [List.getElem_take, List.getElem_take, swap_at l 0 _ _ (by omega) (by omega), swap_at l 0 _ _ (by omega) (by omega)]
      rw [if_neg (by omega), if_neg (by omega), if_neg (by omega), if_neg (by omega)]
      exact h j (by omega) hj0
    · intro j hj hj0 h0
      exact absurd h0 (Nat.lt_irrefl 0)
end
end Go.Proofs.Ytpkmcokkapfnmaa
