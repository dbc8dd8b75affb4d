/- Layer 5 (chain): the chain of nodes and the queue: the plain law. -/
import Derived.Test.YtpkmcokkapfnmaaChain0
namespace Go.Proofs.Ytpkmcokkapfnmaa
set_option linter.unusedVariables false

/-- two nodes that wait: the first one's place, and what both were -/
structure Wt where
  i : Int
  a : Int
  b : Int
abbrev Nd := Int × Int
def idsC (L : List Nd) : List Int := L.map Prod.snd
/-- P: of two tokens the one that they become (below the limit) -/
structure Mach (P : Int → Int → Option Int) (L : List Nd) (Q : List (Th Wt)) : Prop where
  ent : ∀ e ∈ Q, P e.x.a e.x.b = some e.r ∧ e.p = e.x.i
  com : ∀ (i a j b : Int) (p q : List Nd), L = p ++ (i, a) :: (j, b) :: q → ∀ r, P a b = some r → ∃ e ∈ Q, e.r = r ∧ e.p = i ∧ e.x = ⟨i, a, b⟩
  srt : L.Pairwise (fun x y => x.1 < y.1)
theorem adj_ids {L : List Nd} {a b : Int} (h : Adj (idsC L) a b) : ∃ p i j q, L = p ++ (i, a) :: (j, b) :: q := by
  obtain ⟨p, q, h⟩ := h
  unfold idsC at h
  obtain ⟨L1, L2, rfl, h1, h2⟩ := List.map_eq_append_iff.1 h
  obtain ⟨x, L3, rfl, h3, h4⟩ := List.map_eq_cons_iff.1 h2
  obtain ⟨y, L4, rfl, h5, h6⟩ := List.map_eq_cons_iff.1 h4
  obtain ⟨i, a'⟩ := x
  obtain ⟨j, b'⟩ := y
  simp only at h3 h5
  subst h3
  subst h5
  exact ⟨L1, i, j, L4, rfl⟩
/-- in a chain whose places grow a place stands once -/
theorem place_once {L1 L2 p q : List Nd} {i a a' : Int} (h : (L1 ++ (i, a) :: L2).Pairwise (fun x y => x.1 < y.1)) (e : L1 ++ (i, a) :: L2 = p ++ (i, a') :: q) : L1 = p ∧ a = a' ∧ L2 = q := by
  induction L1 generalizing p with
  | nil =>
    rcases p with _ | ⟨y, p⟩
    · simp at e; exact ⟨rfl, e.1, e.2⟩
    · simp at e
      exfalso
      rw [List.nil_append, List.pairwise_cons] at h
      have := h.1 (i, a') (by rw [e.2]; simp)
      simp at this
  | cons x L1 ih =>
    rcases p with _ | ⟨y, p⟩
    · simp at e
      exfalso
      rw [List.cons_append, List.pairwise_cons] at h
      have := h.1 (i, a) (by simp)
      rw [e.1] at this
      simp at this
    · simp at e
      rw [List.cons_append, List.pairwise_cons] at h
      obtain ⟨h1, h2, h3⟩ := ih h.2 e.2
      exact ⟨by rw [e.1, h1], h2, h3⟩
/-- the least one that waits, and is still so: its two become one, and what will be made stays -/
theorem join_same {P : Int → Int → Option Int} {M : List (Int × Int)} {c0 : Int} (hP : ∀ a b r, P a b = some r ↔ ∃ k : Nat, M[k]? = some (a, b) ∧ r = c0 + k) (hM : OkM M c0)
    {L1 L2 : List Nd} {Q : List (Th Wt)} {i a j b : Int} {e0 : Th Wt} (h : Mach P (L1 ++ (i, a) :: (j, b) :: L2) Q) (hm : e0 ∈ Q) (hl : ∀ e ∈ Q, leT e0 e) (hx : e0.x = ⟨i, a, b⟩) :
    seqE M c0 (idsC (L1 ++ (i, a) :: (j, b) :: L2)) = seqE M c0 (idsC (L1 ++ (i, e0.r) :: L2)) := by
  have h0 := h.ent e0 hm
  rw [hx] at h0
  obtain ⟨k, hk, hr⟩ := (hP a b e0.r).1 h0.1
  have e1 : idsC (L1 ++ (i, a) :: (j, b) :: L2) = idsC L1 ++ a :: b :: idsC L2 := by simp [idsC]
  have e2 : idsC (L1 ++ (i, e0.r) :: L2) = idsC L1 ++ (c0 + k) :: idsC L2 := by simp [idsC, hr]
  rw [e1, e2]
  refine seqE_step a b M c0 k (idsC L1) (idsC L2) hM hk ?_ ?_
  · intro k' hk' m hmk had
    rw [← e1] at had
    obtain ⟨p, i', j', q, heq⟩ := adj_ids had
    obtain ⟨e, he, g1, g2, g3⟩ := h.com i' m.1 j' m.2 p q heq (c0 + k') ((hP _ _ _).2 ⟨k', hmk, rfl⟩)
    have := hl e he
    unfold leT at this
    omega
  · intro had
    have e3 : idsC L1 ++ [a] = idsC (L1 ++ [(i, a)]) := by simp [idsC]
    rw [e3] at had
    obtain ⟨p, i', j', q, heq⟩ := adj_ids had
    have heq2 : L1 ++ (i, a) :: (j, b) :: L2 = p ++ (i', a) :: (j', b) :: (q ++ (j, b) :: L2) := by
      have : L1 ++ (i, a) :: (j, b) :: L2 = (L1 ++ [(i, a)]) ++ (j, b) :: L2 := by simp
      rw [this, heq]; simp
    obtain ⟨e, he, g1, g2, g3⟩ := h.com i' a j' b p _ heq2 e0.r h0.1
    have hlt : i' < i := by
      have hs : (L1 ++ [(i, a)]).Pairwise (fun x y => x.1 < y.1) := by
        have := h.srt
        rw [show L1 ++ (i, a) :: (j, b) :: L2 = (L1 ++ [(i, a)]) ++ (j, b) :: L2 by simp] at this
        exact (List.pairwise_append.1 this).1
      rcases List.eq_nil_or_concat q with rfl | ⟨q', y, rfl⟩
      · have hl2 : (i, a) = (j', b) := by
          have := congrArg List.getLast? heq
          simpa using this
        rw [heq, List.pairwise_append] at hs
        have := (List.pairwise_cons.1 hs.2.1).1 (j', b) (by simp)
        rw [← hl2] at this
        exact this
      · have hl2 : (i, a) = y := by
          have heq' : L1 ++ [(i, a)] = (p ++ (i', a) :: (j', b) :: q') ++ [y] := by rw [heq]; simp
          have := congrArg List.getLast? heq'
          rw [List.getLast?_concat, List.getLast?_concat] at this
          exact Option.some.inj this
        rw [heq, List.pairwise_append] at hs
        have := (List.pairwise_cons.1 hs.2.1).1 y (by simp)
        rw [← hl2] at this
        exact this
    have := hl e he
    unfold leT at this
    have hp0 : e0.p = i := h0.2
    omega
/-- nothing waits: nothing becomes anything -/
theorem done_same {P : Int → Int → Option Int} {M : List (Int × Int)} {c0 : Int} (hP : ∀ a b r, P a b = some r ↔ ∃ k : Nat, M[k]? = some (a, b) ∧ r = c0 + k)
    {L : List Nd} (h : Mach P L []) : seqE M c0 (idsC L) = idsC L := by
  refine seqE_id M c0 _ (fun k m hk had => ?_)
  obtain ⟨p, i, j, q, heq⟩ := adj_ids had
  obtain ⟨e, he, _⟩ := h.com i m.1 j m.2 p q heq (c0 + k) ((hP _ _ _).2 ⟨k, hk, rfl⟩)
  simp at he
/-- what is stale is passed over -/
theorem Mach.stale {P : Int → Int → Option Int} {L : List Nd} {Q Q' : List (Th Wt)} {e0 : Th Wt} (h : Mach P L Q) (hp : Q.Perm (e0 :: Q')) (hs : ∀ p j q, L ≠ p ++ (e0.x.i, e0.x.a) :: (j, e0.x.b) :: q) : Mach P L Q' := by
  refine ⟨fun e he => h.ent e (hp.mem_iff.2 (List.mem_cons_of_mem _ he)), ?_, h.srt⟩
  intro i a j b p q heq r hr
  obtain ⟨e, he, g1, g2, g3⟩ := h.com i a j b p q heq r hr
  rcases List.mem_cons.1 (hp.mem_iff.1 he) with rfl | he
  · exfalso
    rw [g3] at hs
    exact hs p j q heq
  · exact ⟨e, he, g1, g2, g3⟩
/-- two have become one: what waits then -/
theorem Mach.join {P : Int → Int → Option Int} {L1 L2 : List Nd} {Q Q' Q'' : List (Th Wt)} {e0 : Th Wt} {i a j b : Int} (h : Mach P (L1 ++ (i, a) :: (j, b) :: L2) Q) (hp : Q.Perm (e0 :: Q')) (hx : e0.x = ⟨i, a, b⟩)
    (hsub : ∀ e ∈ Q', e ∈ Q'')
    (hnew : ∀ e ∈ Q'', e ∈ Q' ∨ (P e.x.a e.x.b = some e.r ∧ e.p = e.x.i))
    (hl : ∀ p i' a', L1 = p ++ [(i', a')] → ∀ r, P a' e0.r = some r → ∃ e ∈ Q'', e.r = r ∧ e.p = i' ∧ e.x = ⟨i', a', e0.r⟩)
    (hr : ∀ j' b' q, L2 = (j', b') :: q → ∀ r, P e0.r b' = some r → ∃ e ∈ Q'', e.r = r ∧ e.p = i ∧ e.x = ⟨i, e0.r, b'⟩) : Mach P (L1 ++ (i, e0.r) :: L2) Q'' := by
  have hs := h.srt
  have hs1 := (List.pairwise_append.1 hs).1
  have hs2 := (List.pairwise_append.1 hs).2.1
  have hs3 := (List.pairwise_append.1 hs).2.2
  have hs4 := (List.pairwise_cons.1 hs2).2
  have old : ∀ e ∈ Q, e.p ≠ i ∨ e ≠ e0 → e.x ≠ ⟨i, a, b⟩ → e ∈ Q'' := by
    intro e he _ hne
    rcases List.mem_cons.1 (hp.mem_iff.1 he) with rfl | he
    · exact absurd hx hne
    · exact hsub e he
  refine ⟨?_, ?_, ?_⟩
  · intro e he
    rcases hnew e he with he | he
    · exact h.ent e (hp.mem_iff.2 (List.mem_cons_of_mem _ he))
    · exact he
  · intro i1 a1 j1 b1 p q heq r hP1
    rcases List.append_eq_append_iff.1 heq with ⟨u, hu1, hu2⟩ | ⟨u, hu1, hu2⟩
    · -- p = L1 ++ u
      rcases u with _ | ⟨y, u⟩
      · simp at hu2
        obtain ⟨⟨rfl, rfl⟩, hq⟩ := hu2
        exact hr j1 b1 q hq r hP1
      · simp at hu2
        obtain ⟨rfl, hq⟩ := hu2
        obtain ⟨e, he, g1, g2, g3⟩ := h.com i1 a1 j1 b1 (L1 ++ (i, a) :: (j, b) :: u) q (by rw [hq]; simp) r hP1
        have hlt : i < i1 := (List.pairwise_cons.1 hs2).1 (i1, a1) (by rw [hq]; simp)
        refine ⟨e, old e he (Or.inl (by omega)) (fun e2 => ?_), g1, g2, g3⟩
        rw [g3] at e2
        simp at e2
        omega
    · -- L1 = p ++ u
      rcases u with _ | ⟨y, u⟩
      · simp at hu2
        obtain ⟨⟨rfl, rfl⟩, hq⟩ := hu2
        exact hr j1 b1 q hq.symm r hP1
      · simp at hu2
        obtain ⟨rfl, hq⟩ := hu2
        have hlt : i1 < i := hs3 (i1, a1) (by rw [hu1]; simp) (i, a) (by simp)
        rcases u with _ | ⟨z, u⟩
        · simp at hq
          obtain ⟨⟨rfl, rfl⟩, _⟩ := hq
          exact hl p i1 a1 hu1 r hP1
        · simp at hq
          obtain ⟨rfl, hq⟩ := hq
          obtain ⟨e, he, g1, g2, g3⟩ := h.com i1 a1 j1 b1 p (u ++ (i, a) :: (j, b) :: L2) (by rw [hu1]; simp) r hP1
          refine ⟨e, old e he (Or.inl (by omega)) (fun e2 => ?_), g1, g2, g3⟩
          rw [g3] at e2
          simp at e2
          omega
  · rw [List.pairwise_append]
    refine ⟨hs1, ?_, ?_⟩
    · rw [List.pairwise_cons]
      refine ⟨fun x hx => (List.pairwise_cons.1 hs2).1 x (List.mem_cons_of_mem _ hx), (List.pairwise_cons.1 hs4).2⟩
    · intro x hx y hy
      rcases List.mem_cons.1 hy with rfl | hy
      · exact hs3 x hx (i, a) (by simp)
      · exact hs3 x hx y (by simp [hy])
end Go.Proofs.Ytpkmcokkapfnmaa
