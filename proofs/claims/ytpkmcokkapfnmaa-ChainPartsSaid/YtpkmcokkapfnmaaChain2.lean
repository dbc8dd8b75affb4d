/- Layer 5 (chain): nodes in a row against the chain of those that live; what waits; one step of the queue: the plain law. -/
import Derived.Test.YtpkmcokkapfnmaaChain1
namespace Go.Proofs.Ytpkmcokkapfnmaa
set_option linter.unusedVariables false
set_option linter.unusedSimpArgs false

/-- a node: its token, who is ahead, who is next -/
abbrev Node := Int × Int × Int
def lastI (p : List Nd) : Int := (p.getLast?.map Prod.fst).getD (-1)
def headI (q : List Nd) : Int := (q.head?.map Prod.fst).getD (-1)
theorem lastI_nil : lastI [] = -1 := rfl
theorem headI_nil : headI [] = -1 := rfl
theorem lastI_snoc (p : List Nd) (x : Nd) : lastI (p ++ [x]) = x.1 := by simp [lastI]
theorem lastI_mid (p u : List Nd) (x y : Nd) : lastI (p ++ y :: (u ++ [x])) = x.1 := by
  have : p ++ y :: (u ++ [x]) = (p ++ y :: u) ++ [x] := by simp
  rw [this, lastI_snoc]
theorem headI_cons (x : Nd) (q : List Nd) : headI (x :: q) = x.1 := rfl

/-- N's nodes, of which those of L live -/
structure Lives (N : List Node) (L : List Nd) : Prop where
  at_ : ∀ (p : List Nd) (i a : Int) (q : List Nd), L = p ++ (i, a) :: q → ∃ k : Nat, i = k ∧ N[k]? = some (a, lastI p, headI q)
  dead : ∀ (k : Nat) (x : Node), N[k]? = some x → (∀ a : Int, ((k : Int), a) ∉ L) → x.1 = -2
  first : N ≠ [] → ∃ (a : Int) (q : List Nd), L = (0, a) :: q
  nn : ∀ x ∈ L, 0 ≤ x.2 ∧ x.2 < 1000000
  srt : L.Pairwise (fun x y => x.1 < y.1)

def idN (v : Int) (x : Node) : Node := (v, x.2.1, x.2.2)
def aheadN (v : Int) (x : Node) : Node := (x.1, v, x.2.2)
def nextN (v : Int) (x : Node) : Node := (x.1, x.2.1, v)
def aftI : Option Nat → Int
  | none => -1
  | some k => k
def aheadO (N : List Node) (i : Nat) : Option Nat → List Node
  | none => N
  | some k => N.modify k (aheadN i)
/-- i takes in the next one, j; k is behind that -/
def joinN (N : List Node) (i j : Nat) (r : Int) (k : Option Nat) : List Node :=
  aheadO (((N.modify j (idN (-2))).modify i (idN r)).modify i (nextN (aftI k))) i k
theorem joinN_len (N : List Node) (i j : Nat) (r : Int) (k : Option Nat) : (joinN N i j r k).length = N.length := by
  cases k <;> simp [joinN, aheadO]
theorem joinN_at (N : List Node) (i j : Nat) (r : Int) (k : Option Nat) (m : Nat) :
    (joinN N i j r k)[m]? = (N[m]?).map (fun x => (if m = i then r else if m = j then -2 else x.1, if k = some m then (i : Int) else x.2.1, if m = i then aftI k else x.2.2)) := by
  cases h : N[m]? with
  | none =>
    rw [List.getElem?_eq_none_iff] at h
    rw [Option.map_none, List.getElem?_eq_none_iff, joinN_len]
    exact h
  | some x =>
    cases k with
    | none =>
      simp only [joinN, aheadO, List.getElem?_modify, h]
      by_cases h1 : i = m
      · subst h1
        by_cases h2 : j = i
        · subst h2; simp [idN, nextN, aftI]
        · simp [idN, nextN, aftI, h2]
      · by_cases h2 : j = m
        · subst h2; simp [idN, nextN, aftI, h1, Ne.symm h1]
        · simp [idN, nextN, aftI, h1, h2, Ne.symm h1, Ne.symm h2]
    | some k =>
      simp only [joinN, aheadO, List.getElem?_modify, h]
      by_cases h3 : k = m
      · subst h3
        by_cases h1 : i = k
        · subst h1
          by_cases h2 : j = i
          · subst h2; simp [idN, nextN, aheadN, aftI]
          · simp [idN, nextN, aheadN, aftI, h2]
        · by_cases h2 : j = k
          · subst h2; simp [idN, nextN, aheadN, aftI, h1, Ne.symm h1]
          · simp [idN, nextN, aheadN, aftI, h1, h2, Ne.symm h1, Ne.symm h2]
      · by_cases h1 : i = m
        · subst h1
          by_cases h2 : j = i
          · subst h2; simp [idN, nextN, aheadN, aftI, h3]
          · simp [idN, nextN, aheadN, aftI, h2, h3]
        · by_cases h2 : j = m
          · subst h2; simp [idN, nextN, aheadN, aftI, h1, Ne.symm h1, h3]
          · simp [idN, nextN, aheadN, aftI, h1, h2, Ne.symm h1, Ne.symm h2, h3]

/-- the first place of what is behind -/
def kOf (L2 : List Nd) : Option Nat := L2.head?.map (fun x => x.1.toNat)

theorem Lives.place {N : List Node} {L : List Nd} (h : Lives N L) {x : Nd} (hx : x ∈ L) : ∃ k : Nat, x.1 = k ∧ k < N.length := by
  obtain ⟨p, q, rfl⟩ := List.append_of_mem hx
  obtain ⟨k, h1, h2⟩ := h.at_ p x.1 x.2 q rfl
  exact ⟨k, h1, (List.getElem?_eq_some_iff.1 h2).1⟩

theorem Lives.aft {N : List Node} {L1 L2 : List Nd} {x : Nd} (h : Lives N (L1 ++ x :: L2)) : aftI (kOf L2) = headI L2 := by
  rcases L2 with _ | ⟨y, L2⟩
  · rfl
  · obtain ⟨k, h1, _⟩ := h.place (x := y) (by simp)
    show aftI (some y.1.toNat) = y.1
    show ((y.1.toNat : Nat) : Int) = y.1
    omega

theorem Lives.join {N : List Node} {L1 L2 : List Nd} {i j : Nat} {a b r : Int} (h : Lives N (L1 ++ ((i : Int), a) :: ((j : Int), b) :: L2)) (hr : 0 ≤ r ∧ r < 1000000) :
    Lives (joinN N i j r (kOf L2)) (L1 ++ ((i : Int), r) :: L2) := by
  have hs := h.srt
  have hs1 := (List.pairwise_append.1 hs).1
  have hs2 := (List.pairwise_append.1 hs).2.1
  have hs3 := (List.pairwise_append.1 hs).2.2
  have hs4 := (List.pairwise_cons.1 hs2).2
  have hij : (i : Int) < j := (List.pairwise_cons.1 hs2).1 ((j : Int), b) (by simp)
  have hsrt : (L1 ++ ((i : Int), r) :: L2).Pairwise (fun x y => x.1 < y.1) := by
    rw [List.pairwise_append]
    refine ⟨hs1, ?_, ?_⟩
    · rw [List.pairwise_cons]
      exact ⟨fun x hx => (List.pairwise_cons.1 hs2).1 x (List.mem_cons_of_mem _ hx), (List.pairwise_cons.1 hs4).2⟩
    · intro x hx y hy
      rcases List.mem_cons.1 hy with rfl | hy
      · exact hs3 x hx ((i : Int), a) (by simp)
      · exact hs3 x hx y (by simp [hy])
  have hL1 : ∀ x ∈ L1, x.1 < i := fun x hx => hs3 x hx ((i : Int), a) (by simp)
  have hL2 : ∀ x ∈ L2, (j : Int) < x.1 := fun x hx => (List.pairwise_cons.1 hs4).1 x hx
  have hk : ∀ m : Nat, kOf L2 = some m → ∃ c q, L2 = ((m : Int), c) :: q := by
    intro m hm
    rcases L2 with _ | ⟨y, L2⟩
    · simp [kOf] at hm
    · simp only [kOf, List.head?_cons, Option.map_some, Option.some.injEq] at hm
      have := hL2 y (by simp)
      refine ⟨y.2, L2, ?_⟩
      have : y.1 = (m : Int) := by omega
      rw [← this]
  refine ⟨?_, ?_, ?_, ?_, hsrt⟩
  · intro p x c q heq
    rcases List.append_eq_append_iff.1 heq with ⟨u, hu1, hu2⟩ | ⟨u, hu1, hu2⟩
    · -- p = L1 ++ u
      rcases u with _ | ⟨y, u⟩
      · simp at hu2
        obtain ⟨⟨rfl, rfl⟩, rfl⟩ := hu2
        simp only [List.append_nil] at hu1
        subst hu1
        obtain ⟨m, e1, hm⟩ := h.at_ p i a _ rfl
        have e1 : i = m := by omega
        subst e1
        refine ⟨i, rfl, ?_⟩
        have haft := Lives.aft (N := N) (L1 := p ++ [((i : Int), a)]) (x := ((j : Int), b)) (L2 := L2) (by simpa using h)
        rw [joinN_at, hm]
        have hne : kOf L2 ≠ some i := by
          intro e
          obtain ⟨c', q', e'⟩ := hk i e
          have := hL2 ((i : Int), c') (by rw [e']; simp)
          simp at this
          omega
        simp [hne, haft]
      · simp at hu2
        obtain ⟨rfl, hq⟩ := hu2
        obtain ⟨m, e1, hm⟩ := h.at_ (L1 ++ ((i : Int), a) :: ((j : Int), b) :: u) x c q (by rw [hq]; simp)
        subst e1
        have hlt : (j : Int) < (m : Int) := hL2 ((m : Int), c) (by rw [hq]; simp)
        refine ⟨m, rfl, ?_⟩
        rw [joinN_at, hm, hu1]
        rcases List.eq_nil_or_concat u with rfl | ⟨u', y, rfl⟩
        · have hkm : kOf L2 = some m := by rw [hq]; simp [kOf]
          have h1 : m ≠ i := by omega
          have h2 : m ≠ j := by omega
          have e2 : lastI (L1 ++ [((i : Int), r)]) = i := lastI_snoc _ _
          simp [hkm, h1, h2, e2]
        · have h1 : m ≠ i := by omega
          have h2 : m ≠ j := by omega
          have h3 : kOf L2 ≠ some m := by
            intro e
            obtain ⟨c', q', e'⟩ := hk m e
            have hs5 := (List.pairwise_cons.1 hs4).2
            rw [hq, List.concat_eq_append] at hs5
            rw [hq, List.concat_eq_append] at e'
            have hy : y ∈ u' ++ [y] := by simp
            have h6 := (List.pairwise_append.1 hs5).2.2
            rcases u' with _ | ⟨z, u'⟩
            · simp at e'
              have := h6 y (by simp) ((m : Int), c) (by simp)
              rw [e'.1] at this
              simp at this
            · simp at e'
              have := h6 z (by simp) ((m : Int), c) (by simp)
              rw [e'.1] at this
              simp at this
          rw [List.concat_eq_append]
          have e2 : lastI (L1 ++ ((i : Int), r) :: (u' ++ [y])) = y.1 := lastI_mid _ _ _ _
          have e3 : lastI (L1 ++ ((i : Int), a) :: ((j : Int), b) :: (u' ++ [y])) = y.1 := by
            have : L1 ++ ((i : Int), a) :: ((j : Int), b) :: (u' ++ [y]) = (L1 ++ [((i : Int), a)]) ++ ((j : Int), b) :: (u' ++ [y]) := by simp
            rw [this, lastI_mid]
          simp [h1, h2, h3, e2, e3]
    · -- L1 = p ++ u
      rcases u with _ | ⟨y, u⟩
      · simp at hu2
        obtain ⟨⟨rfl, rfl⟩, rfl⟩ := hu2
        simp only [List.append_nil] at hu1
        subst hu1
        obtain ⟨m, e1, hm⟩ := h.at_ L1 i a _ rfl
        have e1 : i = m := by omega
        subst e1
        refine ⟨i, rfl, ?_⟩
        have haft := Lives.aft (N := N) (L1 := L1 ++ [((i : Int), a)]) (x := ((j : Int), b)) (L2 := q) (by simpa using h)
        rw [joinN_at, hm]
        have hne : kOf q ≠ some i := by
          intro e
          obtain ⟨c', q', e'⟩ := hk i e
          have := hL2 ((i : Int), c') (by rw [e']; simp)
          simp at this
          omega
        simp [hne, haft]
      · simp at hu2
        obtain ⟨rfl, hq⟩ := hu2
        obtain ⟨m, e1, hm⟩ := h.at_ p x c (u ++ ((i : Int), a) :: ((j : Int), b) :: L2) (by rw [hu1]; simp)
        subst e1
        have hlt : (m : Int) < i := hL1 ((m : Int), c) (by rw [hu1]; simp)
        have h1 : m ≠ i := by omega
        have h2 : m ≠ j := by omega
        have h3 : kOf L2 ≠ some m := by
          intro e
          obtain ⟨c', q', e'⟩ := hk m e
          have := hL2 ((m : Int), c') (by rw [e']; simp)
          simp at this
          omega
        refine ⟨m, rfl, ?_⟩
        rw [joinN_at, hm, hq]
        have e2 : headI (u ++ ((i : Int), a) :: ((j : Int), b) :: L2) = headI (u ++ ((i : Int), r) :: L2) := by cases u <;> rfl
        simp [h1, h2, h3, e2]
  · intro m x hx hno
    rw [joinN_at, Option.map_eq_some_iff] at hx
    obtain ⟨y, hy, rfl⟩ := hx
    by_cases h1 : m = i
    · subst h1
      exact absurd (by simp) (hno r)
    · by_cases h2 : m = j
      · subst h2; simp [h1]
      · simp only [h1, h2, if_false]
        refine h.dead m y hy (fun c hc => ?_)
        rw [List.mem_append, List.mem_cons, List.mem_cons] at hc
        rcases hc with hc | hc | hc | hc
        · exact hno c (by simp [hc])
        · simp at hc; omega
        · simp at hc; omega
        · exact hno c (by simp [hc])
  · intro hne
    have hN : N ≠ [] := by
      intro e
      subst e
      apply hne
      apply List.eq_nil_of_length_eq_zero
      rw [joinN_len]; rfl
    obtain ⟨c, q, e⟩ := h.first hN
    rcases L1 with _ | ⟨y, L1⟩
    · simp at e
      exact ⟨r, L2, by rw [List.nil_append, e.1.1]; rfl⟩
    · simp at e
      exact ⟨c, L1 ++ ((i : Int), r) :: L2, by rw [e.1]; rfl⟩
  · intro x hx
    rw [List.mem_append, List.mem_cons] at hx
    rcases hx with hx | rfl | hx
    · exact h.nn x (by simp [hx])
    · exact hr
    · exact h.nn x (by simp [hx])
end Go.Proofs.Ytpkmcokkapfnmaa
