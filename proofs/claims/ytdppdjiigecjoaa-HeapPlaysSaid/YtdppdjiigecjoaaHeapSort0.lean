/- Layer 3 (heap): what is pushed is popped in order: the plain law. -/
import Derived.Test.YtdppdjiigecjoaaHeapI7
namespace Go.Proofs.Ytdppdjiigecjoaa
set_option linter.unusedVariables false

abbrev Act3 := Int × Int × Int
def thK (l : List Act3) (k : Nat) : Th Int := ⟨(l.getD k (0, 0, 0)).2.1, (l.getD k (0, 0, 0)).2.2, k, k⟩
def pushN (l : List Act3) : Nat → List (Th Int)
  | 0 => []
  | k + 1 => pushT (pushN l k) (thK l k)
theorem pushN_heap (l : List Act3) : ∀ k, HeapT (pushN l k)
  | 0 => by intro j hj; simp [pushN] at hj
  | k + 1 => push_heap _ _ (pushN_heap l k)
theorem pushN_perm (l : List Act3) : ∀ k, (pushN l k).Perm ((List.range k).map (thK l))
  | 0 => by simp [pushN]
  | k + 1 => by
    rw [List.range_succ, List.map_append]
    refine (push_perm _ _).trans ?_
    exact (List.Perm.cons _ (pushN_perm l k)).trans (List.perm_append_comm (l₁ := [thK l k]))
theorem pushN_len (l : List Act3) (k : Nat) : (pushN l k).length = k := by rw [(pushN_perm l k).length_eq]; simp

/-- the things in order -/
def sortN (l : List Act3) : List (Th Int) := drainT (pushN l l.length)
theorem sortN_len (l : List Act3) : (sortN l).length = l.length := by unfold sortN; rw [drain_len, pushN_len]
theorem sortN_perm (l : List Act3) : (sortN l).Perm ((List.range l.length).map (thK l)) := (drain_perm _).trans (pushN_perm l _)
theorem sortN_at (l : List Act3) (i : Nat) (hi : i < (sortN l).length) : ∃ k, k < l.length ∧ (sortN l)[i] = thK l k := by
  have := (sortN_perm l).mem_iff.1 (List.getElem_mem hi)
  obtain ⟨k, hk, e⟩ := List.mem_map.1 this
  exact ⟨k, List.mem_range.1 hk, e.symm⟩
theorem sortN_le (l : List Act3) (i : Nat) (hi : i + 1 < (sortN l).length) : leT ((sortN l)[i]'(by omega)) (sortN l)[i + 1] := by
  have := drain_sorted _ (pushN_heap l l.length)
  exact List.pairwise_iff_getElem.1 this i (i + 1) (by have := hi; unfold sortN at this; omega) hi (by omega)
theorem sortN_nodup (l : List Act3) : ((sortN l).map (·.x)).Nodup := by
  have h : ((sortN l).map (·.x)).Perm ((List.range l.length).map (fun k : Nat => (k : Int))) := by
    have := (sortN_perm l).map (fun a : Th Int => a.x)
    rw [List.map_map] at this
    exact this
  refine h.nodup_iff.2 ?_
  rw [List.nodup_iff_pairwise_ne, List.pairwise_map]
  refine (List.nodup_iff_pairwise_ne.1 List.nodup_range).imp ?_
  intro a b hab e
  exact hab (by omega)
/-- has j been popped among the first i? -/
def seenB (l : List Act3) (i j : Nat) : Bool := ((sortN l).take i).any (fun a => a.x == (j : Int))
theorem seen_no (l : List Act3) (i k : Nat) (hi : i < (sortN l).length) (e : (sortN l)[i].x = (k : Int)) : seenB l i k = false := by
  unfold seenB
  rw [Bool.eq_false_iff]
  intro h
  rw [List.any_eq_true] at h
  obtain ⟨a, ha, hx⟩ := h
  obtain ⟨j, hj, rfl⟩ := List.getElem_of_mem ha
  rw [List.length_take] at hj
  rw [List.getElem_take, beq_iff_eq] at hx
  have hn := sortN_nodup l
  have hp := List.nodup_iff_pairwise_ne.1 hn
  have := List.pairwise_iff_getElem.1 hp j i (by simp; omega) (by simpa using hi) (by omega)
  simp only [List.getElem_map] at this
  exact this (hx.trans e.symm)
theorem seen_next (l : List Act3) (i k j : Nat) (hi : i < (sortN l).length) (e : (sortN l)[i].x = (k : Int)) : seenB l (i + 1) j = (if j = k then true else seenB l i j) := by
  unfold seenB
  rw [List.take_succ_eq_append_getElem hi, List.any_append]
  simp only [List.any_cons, List.any_nil, Bool.or_false, e]
  by_cases h : j = k
  · subst h; simp
  · have : ¬ ((k : Int) == (j : Int)) = true := by simp; omega
    simp [h, this]
def seenL (l : List Act3) (i : Nat) : List Bool := (List.range l.length).map (seenB l i)
theorem seenL_zero (l : List Act3) : seenL l 0 = List.replicate l.length false := by
  unfold seenL
  apply List.ext_getElem
  · simp
  · intro j h1 h2; simp [seenB]
theorem seenL_next (l : List Act3) (i k : Nat) (hi : i < (sortN l).length) (e : (sortN l)[i].x = (k : Int)) : seenL l (i + 1) = (seenL l i).set k true := by
  unfold seenL
  apply List.ext_getElem
  · simp
  · intro j h1 h2
    simp only [List.getElem_map, List.getElem_range, List.getElem_set]
    rw [seen_next l i k j hi e]
    by_cases h : j = k
    · subst h; simp
    · rw [if_neg h, if_neg (fun h' => h h'.symm)]
/-- the heap behind i pops -/
def popsN (l : List Act3) : Nat → List (Th Int)
  | 0 => pushN l l.length
  | i + 1 => popT (popsN l i)
theorem popsN_drain (l : List Act3) : ∀ i, drainT (popsN l i) = (sortN l).drop i
  | 0 => by simp [popsN, sortN]
  | i + 1 => by
    have ih := popsN_drain l i
    by_cases h : 0 < (popsN l i).length
    · rw [drain_cons _ h] at ih
      have : (sortN l).drop (i + 1) = ((sortN l).drop i).drop 1 := by rw [List.drop_drop]
      rw [this, ← ih]
      rfl
    · have e : popsN l i = [] := List.eq_nil_of_length_eq_zero (by omega)
      have e2 : (popsN l (i + 1)).length = 0 := by show (popT (popsN l i)).length = 0; rw [pop_len]; omega
      have e3 : popsN l (i + 1) = [] := List.eq_nil_of_length_eq_zero e2
      rw [e3, drain_nil]
      rw [e, drain_nil] at ih
      have : (sortN l).drop (i + 1) = ((sortN l).drop i).drop 1 := by rw [List.drop_drop]
      rw [this, ← ih]; rfl
theorem popsN_len (l : List Act3) (i : Nat) : (popsN l i).length = l.length - i := by
  rw [← drain_len, popsN_drain, List.length_drop, sortN_len]
theorem popsN_top (l : List Act3) (i : Nat) (hi : i < l.length) (h : 0 < (popsN l i).length) : (popsN l i)[0] = (sortN l)[i]'(by rw [sortN_len]; exact hi) := by
  have := popsN_drain l i
  rw [drain_cons _ h, List.drop_eq_getElem_cons (by rw [sortN_len]; exact hi)] at this
  exact (List.cons.inj this).1
end Go.Proofs.Ytdppdjiigecjoaa
