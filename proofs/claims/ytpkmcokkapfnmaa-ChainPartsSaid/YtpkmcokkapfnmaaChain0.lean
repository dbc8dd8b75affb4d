/- Layer 5 (chain): the merges one by one; what one step of the queue changes: the plain law. -/
import Derived.Test.YtpkmcokkapfnmaaHeap0
namespace Go.Proofs.Ytpkmcokkapfnmaa
set_option linter.unusedVariables false
/-- each a, b side by side, from the left, becomes c -/
def rep (a b c : Int) : List Int → List Int
  | x :: y :: l => if x = a ∧ y = b then c :: rep a b c l else x :: rep a b c (y :: l)
  | l => l
/-- the merges one by one, the first one's number being c -/
def seqE : List (Int × Int) → Int → List Int → List Int
  | [], _, l => l
  | m :: M, c, l => seqE M (c + 1) (rep m.1 m.2 c l)
/-- do a, b stand side by side? -/
def Adj (l : List Int) (a b : Int) : Prop := ∃ p q, l = p ++ a :: b :: q
theorem adj_nil (a b : Int) : ¬ Adj [] a b := by rintro ⟨p, q, h⟩; simp at h
theorem adj_one (x a b : Int) : ¬ Adj [x] a b := by
  rintro ⟨p, q, h⟩
  rcases p with _ | ⟨y, p⟩
  · simp at h
  · simp at h
theorem adj_cons2 (x y : Int) (l : List Int) (a b : Int) : Adj (x :: y :: l) a b ↔ (x = a ∧ y = b) ∨ Adj (y :: l) a b := by
  constructor
  · rintro ⟨p, q, h⟩
    rcases p with _ | ⟨z, p⟩
    · simp at h; exact Or.inl ⟨h.1, h.2.1⟩
    · simp at h; exact Or.inr ⟨p, q, h.2⟩
  · rintro (⟨rfl, rfl⟩ | ⟨p, q, h⟩)
    · exact ⟨[], l, rfl⟩
    · exact ⟨x :: p, q, by rw [h]; rfl⟩
theorem rep_id (a b c : Int) : ∀ l, ¬ Adj l a b → rep a b c l = l
  | [], _ => rfl
  | [x], _ => rfl
  | x :: y :: l, h => by
    rw [adj_cons2] at h
    rw [rep, if_neg (fun e => h (Or.inl e)), rep_id a b c (y :: l) (fun e => h (Or.inr e))]
/-- nothing ahead of the first two that fit -/
theorem rep_at (a b c : Int) : ∀ (L1 L2 : List Int), ¬ Adj (L1 ++ [a]) a b → rep a b c (L1 ++ a :: b :: L2) = L1 ++ c :: rep a b c L2
  | [], L2, _ => by show rep a b c (a :: b :: L2) = _; rw [rep, if_pos ⟨rfl, rfl⟩]; rfl
  | [x], L2, h => by
    show rep a b c (x :: a :: b :: L2) = _
    have h1 : ¬ (x = a ∧ a = b) := fun e => h ⟨[], [], by simp [e.1, ← e.2]⟩
    rw [rep, if_neg h1, rep, if_pos ⟨rfl, rfl⟩]; rfl
  | x :: y :: L1, L2, h => by
    show rep a b c (x :: y :: (L1 ++ a :: b :: L2)) = _
    have h2 : ¬ ((x = a ∧ y = b) ∨ Adj (y :: (L1 ++ [a])) a b) := fun e => h ((adj_cons2 x y (L1 ++ [a]) a b).2 e)
    have ih := rep_at a b c (y :: L1) L2 (fun e => h2 (Or.inr e))
    rw [rep, if_neg (fun e => h2 (Or.inl e))]
    have ih' : rep a b c (y :: (L1 ++ a :: b :: L2)) = (y :: L1) ++ c :: rep a b c L2 := ih
    rw [ih']; rfl
theorem rep_skip (a b c : Int) (hca : c ≠ a) (hcb : c ≠ b) : ∀ (L1 L2 : List Int), ¬ Adj (L1 ++ [a]) a b → rep a b c (L1 ++ c :: L2) = L1 ++ c :: rep a b c L2
  | [], [], _ => rfl
  | [], y :: L2, _ => by show rep a b c (c :: y :: L2) = _; rw [rep, if_neg (fun e => hca e.1)]; rfl
  | [x], L2, h => by
    show rep a b c (x :: c :: L2) = _
    rw [rep, if_neg (fun e => hcb e.2)]
    have := rep_skip a b c hca hcb [] L2 (adj_one a a b)
    have h3 : rep a b c (c :: L2) = c :: rep a b c L2 := this
    rw [h3]; rfl
  | x :: y :: L1, L2, h => by
    show rep a b c (x :: y :: (L1 ++ c :: L2)) = _
    have h2 : ¬ ((x = a ∧ y = b) ∨ Adj (y :: (L1 ++ [a])) a b) := fun e => h ((adj_cons2 x y (L1 ++ [a]) a b).2 e)
    have ih : rep a b c (y :: (L1 ++ c :: L2)) = (y :: L1) ++ c :: rep a b c L2 := rep_skip a b c hca hcb (y :: L1) L2 (fun e => h2 (Or.inr e))
    rw [rep, if_neg (fun e => h2 (Or.inl e)), ih]; rfl
theorem adj_append (l r : List Int) (a b : Int) : Adj (l ++ r) a b ↔ Adj l a b ∨ Adj r a b ∨ (l.getLast? = some a ∧ r.head? = some b) := by
  induction l with
  | nil =>
    simp only [List.nil_append, List.getLast?_nil, reduceCtorEq, false_and, or_false]
    exact ⟨Or.inr, fun h => h.resolve_left (adj_nil a b)⟩
  | cons x l ih =>
    rcases l with _ | ⟨y, l⟩
    · rcases r with _ | ⟨z, r⟩
      · simp [adj_one, adj_nil]
      · show Adj (x :: z :: r) a b ↔ _
        rw [adj_cons2]
        simp only [adj_one, false_or, List.getLast?_singleton, Option.some.injEq, List.head?_cons]
        exact ⟨fun h => h.symm, fun h => h.symm⟩
    · show Adj (x :: y :: (l ++ r)) a b ↔ _
      rw [adj_cons2, adj_cons2]
      have ih' : Adj (y :: (l ++ r)) a b ↔ Adj (y :: l) a b ∨ Adj r a b ∨ ((y :: l).getLast? = some a ∧ r.head? = some b) := ih
      rw [ih', List.getLast?_cons_cons]
      constructor
      · rintro (h | h | h | h)
        · exact Or.inl (Or.inl h)
        · exact Or.inl (Or.inr h)
        · exact Or.inr (Or.inl h)
        · exact Or.inr (Or.inr h)
      · rintro ((h | h) | h | h)
        · exact Or.inl h
        · exact Or.inr (Or.inl h)
        · exact Or.inr (Or.inr (Or.inl h))
        · exact Or.inr (Or.inr (Or.inr h))
/-- what stands side by side once c has taken the place of a, b: with c, or as before -/
theorem adj_new {L1 L2 : List Int} {a b c x y : Int} (h : Adj (L1 ++ c :: L2) x y) : x = c ∨ y = c ∨ Adj (L1 ++ a :: b :: L2) x y := by
  rw [adj_append] at h
  rcases h with h | h | ⟨h1, h2⟩
  · right; right; rw [adj_append]; exact Or.inl h
  · rcases L2 with _ | ⟨z, L2⟩
    · exact absurd h (adj_one c x y)
    · rw [adj_cons2] at h
      rcases h with ⟨h1, h2⟩ | h
      · exact Or.inl h1.symm
      · right; right
        rw [adj_append]
        right; left
        rw [adj_cons2, adj_cons2]
        exact Or.inr (Or.inr h)
  · simp at h2; exact Or.inr (Or.inl h2.symm)
/-- merges: parents come first -/
def OkM (M : List (Int × Int)) (c0 : Int) : Prop := ∀ (k : Nat) m, M[k]? = some m → m.1 < c0 + k ∧ m.2 < c0 + k
theorem OkM.tail {m : Int × Int} {M : List (Int × Int)} {c0 : Int} (h : OkM (m :: M) c0) : OkM M (c0 + 1) := by
  intro k x hx
  have := h (k + 1) x hx
  omega
/-- one step: the two of the least rank, the first ones of that rank, become one: nothing else changes -/
theorem seqE_step (a b : Int) : ∀ (M : List (Int × Int)) (c0 : Int) (k : Nat) (L1 L2 : List Int), OkM M c0 → M[k]? = some (a, b) →
    (∀ k', k' < k → ∀ m, M[k']? = some m → ¬ Adj (L1 ++ a :: b :: L2) m.1 m.2) → ¬ Adj (L1 ++ [a]) a b →
    seqE M c0 (L1 ++ a :: b :: L2) = seqE M c0 (L1 ++ (c0 + k) :: L2) := by
  intro M
  induction M with
  | nil => intro c0 k L1 L2 _ h; simp at h
  | cons m M ih =>
    intro c0 k L1 L2 hok hk hno had
    rcases k with _ | k
    · simp at hk
      subst hk
      have h0 := hok 0 (a, b) rfl
      simp only [Int.natCast_zero, Int.add_zero] at h0 ⊢
      rw [seqE, seqE, rep_at a b c0 L1 L2 had, rep_skip a b c0 (by omega) (by omega) L1 L2 had]
    · have hm := hno 0 (by omega) m rfl
      have h0 := hok 0 m rfl
      have hm2 : ¬ Adj (L1 ++ (c0 + ((k + 1 : Nat) : Int)) :: L2) m.1 m.2 := by
        intro e
        rcases adj_new (a := a) (b := b) e with h | h | h
        · have := h0.1; omega
        · have := h0.2; omega
        · exact hm h
      rw [seqE, seqE, rep_id _ _ _ _ hm, rep_id _ _ _ _ hm2]
      have := ih (c0 + 1) k L1 L2 hok.tail hk (fun k' hk' x hx => hno (k' + 1) (by omega) x hx) had
      rw [this]
      congr 3
      omega
theorem seqE_id : ∀ (M : List (Int × Int)) (c0 : Int) (l : List Int), (∀ (k : Nat) m, M[k]? = some m → ¬ Adj l m.1 m.2) → seqE M c0 l = l := by
  intro M
  induction M with
  | nil => intro c0 l _; rfl
  | cons m M ih =>
    intro c0 l h
    rw [seqE, rep_id _ _ _ _ (h 0 m rfl)]
    exact ih (c0 + 1) l (fun k x hx => h (k + 1) x hx)
end Go.Proofs.Ytpkmcokkapfnmaa
