/- Layer 4 (token): tables of tokens as plain lists. -/
namespace Go.Proofs.Ytpkmcokkapfnmaa

/-- a token: its bytes, its parents (-1, -1: a byte) -/
abbrev Ent := List UInt8 × Int × Int
def baseT : List Ent := (List.range 256).map fun i => ([UInt8.ofNat i], -1, -1)
def hasT (T : List Ent) (id : Int) : Bool := decide (0 ≤ id) && decide (id < (T.length : Int))
def entT (T : List Ent) (id : Int) : Ent := T.getD id.toNat ([], -1, -1)
def findT (T : List Ent) (s : List UInt8) : Option Nat := T.findIdx? (fun e => e.1 == s)
def pairT (T : List Ent) (m : Int × Int) : Option Nat := T.findIdx? (fun e => e.2 == m && m != (-1, -1))
def longT (T : List Ent) : Nat := T.foldl (fun n e => max n e.1.length) 1
/-- Add: the number, the error's number, the table -/
def addT (T : List Ent) (a b : Int) : Int × Int × List Ent :=
  if !(hasT T a && hasT T b) then (0, 4, T)
  else if ((entT T a).1 ++ (entT T b).1).length > 64 then (0, 3, T)
  else if T.length ≥ 1000 then (0, 5, T)
  else if (findT T ((entT T a).1 ++ (entT T b).1)).isSome then (0, 10, T)
  else (T.length, 0, T ++ [((entT T a).1 ++ (entT T b).1, a, b)])

theorem find_snoc {α : Type} (p : α → Bool) (l : List α) (x : α) : (l ++ [x]).findIdx? p = if (l.findIdx? p).isSome then l.findIdx? p else if p x then some l.length else none := by
  rw [List.findIdx?_append]
  cases h : l.findIdx? p with
  | some i => simp
  | none => cases hp : p x <;> simp [List.findIdx?_cons, hp]
theorem findT_snoc (T : List Ent) (s : List UInt8) (e : Ent) (h : findT T e.1 = none) : findT (T ++ [e]) s = if s = e.1 then some T.length else findT T s := by
  unfold findT at *
  rw [find_snoc]
  by_cases hs : s = e.1
  · subst hs
    rw [h]
    simp
  · rw [if_neg hs]
    cases hf : T.findIdx? (fun e => e.1 == s) with
    | some i => simp
    | none => simp; exact fun h => hs h.symm
theorem pairT_snoc (T : List Ent) (m : Int × Int) (e : Ent) (h : pairT T e.2 = none) (he : e.2 ≠ (-1, -1)) : pairT (T ++ [e]) m = if m = e.2 then some T.length else pairT T m := by
  unfold pairT at *
  rw [find_snoc]
  by_cases hs : m = e.2
  · subst hs
    rw [h]
    simp [he]
  · rw [if_neg hs]
    cases hf : T.findIdx? (fun e => e.2 == m && m != (-1, -1)) with
    | some i => simp
    | none => simp; exact fun h => absurd h.symm hs
theorem longT_snoc (T : List Ent) (e : Ent) : longT (T ++ [e]) = max (longT T) e.1.length := by simp [longT]

/-- a table as it may be -/
structure OkT (T : List Ent) : Prop where
  base : ∃ M, T = baseT ++ M
  small : T.length ≤ 1000
  len : ∀ e ∈ T, 0 < e.1.length ∧ e.1.length ≤ 64
  nodup : ∀ i j, i < T.length → j < T.length → (entT T (i : Nat)).1 = (entT T (j : Nat)).1 → i = j
  made : ∀ i, 256 ≤ i → i < T.length → 0 ≤ (entT T (i : Nat)).2.1 ∧ (entT T (i : Nat)).2.1 < (i : Int) ∧ 0 ≤ (entT T (i : Nat)).2.2 ∧ (entT T (i : Nat)).2.2 < (i : Int) ∧ (entT T (i : Nat)).1 = (entT T (entT T (i : Nat)).2.1).1 ++ (entT T (entT T (i : Nat)).2.2).1

theorem base_len : baseT.length = 256 := by simp [baseT]
theorem entT_nat (T : List Ent) (i : Nat) (h : i < T.length) : entT T (i : Int) = T[i] := by
  simp [entT, List.getD_eq_getElem?_getD, h]
theorem base_at (i : Nat) (h : i < 256) : baseT[i]'(by rw [base_len]; exact h) = ([UInt8.ofNat i], -1, -1) := by simp [baseT]

theorem okT_base : OkT baseT := by
  refine ⟨⟨[], by simp⟩, by simp [base_len], ?_, ?_, ?_⟩
  · intro e he
    obtain ⟨i, _, rfl⟩ := List.mem_map.1 he
    simp
  · intro i j hi hj h
    rw [entT_nat _ _ hi, entT_nat _ _ hj] at h
    rw [base_len] at hi hj
    rw [base_at i hi, base_at j hj] at h
    simp only [List.cons.injEq, and_true] at h
    have h1 : (UInt8.ofNat i).toNat = (UInt8.ofNat j).toNat := by rw [h]
    simp only [UInt8.toNat_ofNat'] at h1
    omega
  · intro i h1 h2
    rw [base_len] at h2
    omega

theorem entT_append (T : List Ent) (e : Ent) (i : Int) (h : hasT T i = true) : entT (T ++ [e]) i = entT T i := by
  simp only [hasT, Bool.and_eq_true, decide_eq_true_eq] at h
  unfold entT
  rw [List.getD_eq_getElem?_getD, List.getD_eq_getElem?_getD, List.getElem?_append_left (by omega)]
theorem entT_last (T : List Ent) (e : Ent) : entT (T ++ [e]) (T.length : Nat) = e := by
  unfold entT
  simp
theorem findT_none {T : List Ent} {s : List UInt8} (h : findT T s = none) (i : Nat) (hi : i < T.length) : (entT T (i : Nat)).1 ≠ s := by
  rw [entT_nat _ _ hi]
  unfold findT at h
  rw [List.findIdx?_eq_none_iff] at h
  have := h T[i] (List.getElem_mem hi)
  simpa using this

theorem okT_add {T : List Ent} (h : OkT T) (a b : Int) (he : (addT T a b).2.1 = 0) : OkT (addT T a b).2.2 := by
  unfold addT at *
  by_cases h1 : (!(hasT T a && hasT T b)) = true
  · rw [if_pos h1] at he; simp at he
  rw [if_neg h1] at he ⊢
  by_cases h2 : ((entT T a).1 ++ (entT T b).1).length > 64
  · rw [if_pos h2] at he; simp at he
  rw [if_neg h2] at he ⊢
  by_cases h3 : T.length ≥ 1000
  · rw [if_pos h3] at he; simp at he
  rw [if_neg h3] at he ⊢
  by_cases h4 : (findT T ((entT T a).1 ++ (entT T b).1)).isSome = true
  · rw [if_pos h4] at he; simp at he
  rw [if_neg h4]
  simp only [Bool.not_eq_true', Bool.not_eq_false, Bool.and_eq_true] at h1
  have h4' : findT T ((entT T a).1 ++ (entT T b).1) = none := by
    cases hf : findT T ((entT T a).1 ++ (entT T b).1) with
    | none => rfl
    | some i => rw [hf] at h4; simp at h4
  have ha := h1.1
  have hb := h1.2
  have ha' := ha
  have hb' := hb
  simp only [hasT, Bool.and_eq_true, decide_eq_true_eq] at ha' hb'
  obtain ⟨M, hM⟩ := h.base
  have hlen : ∀ i : Int, hasT T i = true → 0 < (entT T i).1.length := by
    intro i hi
    simp only [hasT, Bool.and_eq_true, decide_eq_true_eq] at hi
    obtain ⟨k, rfl⟩ := Int.eq_ofNat_of_zero_le hi.1
    rw [entT_nat _ _ (by omega)]
    exact (h.len _ (List.getElem_mem _)).1
  refine ⟨⟨M ++ [_], by rw [hM, List.append_assoc]⟩, by simp; omega, ?_, ?_, ?_⟩
  · intro e hm
    rcases List.mem_append.1 hm with hm | hm
    · exact h.len e hm
    · rw [List.mem_singleton] at hm
      subst hm
      refine ⟨?_, by simpa using h2⟩
      have := hlen a ha
      simp only [List.length_append]
      omega
  · intro i j hi hj hij
    simp only [List.length_append, List.length_singleton] at hi hj
    by_cases hi' : i < T.length
    · have e1 : hasT T (i : Int) = true := by simp [hasT]; omega
      rw [entT_append _ _ _ e1] at hij
      by_cases hj' : j < T.length
      · have e2 : hasT T (j : Int) = true := by simp [hasT]; omega
        rw [entT_append _ _ _ e2] at hij
        exact h.nodup i j hi' hj' hij
      · have : j = T.length := by omega
        subst this
        rw [entT_last] at hij
        exact absurd hij (findT_none h4' i hi')
    · have : i = T.length := by omega
      subst this
      rw [entT_last] at hij
      by_cases hj' : j < T.length
      · have e2 : hasT T (j : Int) = true := by simp [hasT]; omega
        rw [entT_append _ _ _ e2] at hij
        exact absurd hij.symm (findT_none h4' j hj')
      · omega
  · intro i hi1 hi2
    simp only [List.length_append, List.length_singleton] at hi2
    by_cases hi' : i < T.length
    · have e1 : hasT T (i : Int) = true := by simp [hasT]; omega
      rw [entT_append _ _ _ e1]
      obtain ⟨q1, q2, q3, q4, q5⟩ := h.made i hi1 hi'
      refine ⟨q1, q2, q3, q4, ?_⟩
      rw [entT_append _ _ _ (by simp only [hasT, Bool.and_eq_true, decide_eq_true_eq]; omega), entT_append _ _ _ (by simp only [hasT, Bool.and_eq_true, decide_eq_true_eq]; omega)]
      exact q5
    · have : i = T.length := by omega
      subst this
      rw [entT_last]
      refine ⟨ha'.1, ha'.2, hb'.1, hb'.2, ?_⟩
      simp only
      rw [entT_append _ _ _ ha, entT_append _ _ _ hb]

/-- parents occur once -/
theorem pairT_none {T : List Ent} (h : OkT T) {a b : Int} (hn : findT T ((entT T a).1 ++ (entT T b).1) = none) (hab : (a, b) ≠ ((-1 : Int), (-1 : Int))) : pairT T (a, b) = none := by
  unfold pairT
  rw [List.findIdx?_eq_none_iff]
  intro e he
  obtain ⟨i, hi, rfl⟩ := List.getElem_of_mem he
  rw [Bool.eq_false_iff]
  intro hh
  simp only [Bool.and_eq_true, beq_iff_eq] at hh
  have he2 := hh.1
  by_cases h256 : i < 256
  · obtain ⟨M, hM⟩ := h.base
    have : T[i] = ([UInt8.ofNat i], -1, -1) := by
      have h0 : (baseT ++ M)[i]? = some ([UInt8.ofNat i], -1, -1) := by
        rw [List.getElem?_append_left (by rw [base_len]; exact h256), List.getElem?_eq_getElem (by rw [base_len]; exact h256), base_at i h256]
      rw [← hM, List.getElem?_eq_getElem hi] at h0
      exact Option.some.inj h0
    rw [this] at he2
    exact hab he2.symm
  · obtain ⟨q1, q2, q3, q4, q5⟩ := h.made i (by omega) hi
    rw [entT_nat _ _ hi, he2] at q5
    have := findT_none hn i hi
    rw [entT_nat _ _ hi] at this
    exact this q5
end Go.Proofs.Ytpkmcokkapfnmaa
