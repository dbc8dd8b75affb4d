/- Layer 3 (heap): what HeapPlays keeps beside the heap: the plain law. -/
import Derived.Test.YtdppdjiigecjoaaHeapLeast
namespace Go.Proofs.Ytdppdjiigecjoaa
set_option linter.unusedVariables false

def toTn (a : Th Int) : Tn := ⟨a.r, a.p, a.x, ()⟩
structure Pl (H : List (Th Int)) (N : List Tn) (turn i : Int) : Prop where
  heap : HeapT H
  perm : N.Perm (H.map toTn)
  lt : ∀ a ∈ H, a.t < turn ∧ a.x < i
  mono : ∀ a ∈ H, ∀ b ∈ H, (a.t ≤ b.t ↔ a.x ≤ b.x)
theorem pl_nil (turn i : Int) : Pl [] [] turn i := ⟨by intro j hj; simp at hj, by simp, by simp, by simp⟩
theorem pl_next {H : List (Th Int)} {N : List Tn} {turn i j : Int} (h : Pl H N turn i) (hj : i ≤ j) : Pl H N turn j :=
  ⟨h.heap, h.perm, fun a ha => ⟨(h.lt a ha).1, by have := (h.lt a ha).2; omega⟩, h.mono⟩
theorem pl_len {H : List (Th Int)} {N : List Tn} {turn i : Int} (h : Pl H N turn i) : N.length = H.length := by rw [h.perm.length_eq, List.length_map]
theorem pl_push {H : List (Th Int)} {N : List Tn} {turn i : Int} (h : Pl H N turn i) (r p : Int) : Pl (pushT H ⟨r, p, turn, i⟩) (N ++ [⟨r, p, i, ()⟩]) (turn + 1) (i + 1) := by
  have hm : ∀ a, a ∈ pushT H ⟨r, p, turn, i⟩ ↔ a = ⟨r, p, turn, i⟩ ∨ a ∈ H := by
    intro a
    rw [(push_perm H ⟨r, p, turn, i⟩).mem_iff, List.mem_cons]
  refine ⟨push_heap _ _ h.heap, ?_, ?_, ?_⟩
  · refine List.Perm.trans ?_ ((push_perm H ⟨r, p, turn, i⟩).map toTn).symm
    rw [List.map_cons]
    exact (List.perm_append_comm).trans (List.Perm.cons _ h.perm)
  · intro a ha
    rcases (hm a).1 ha with rfl | ha
    · simp only; omega
    · have := h.lt a ha; omega
  · intro a ha b hb
    rcases (hm a).1 ha with rfl | ha <;> rcases (hm b).1 hb with rfl | hb
    · simp
    · have := h.lt b hb; simp only; omega
    · have := h.lt a ha; simp only; omega
    · exact h.mono a ha b hb
theorem pl_top {H : List (Th Int)} {N : List Tn} {turn i : Int} (h : Pl H N turn i) (h0 : 0 < H.length) (hN : 0 < N.length) : N[lesT N]'(lesK_lt N hN _) = toTn H[0] := by
  have hm : N[lesT N]'(lesK_lt N hN _) ∈ H.map toTn := h.perm.mem_iff.1 (List.getElem_mem _)
  obtain ⟨b, hb, eb⟩ := List.mem_map.1 hm
  obtain ⟨j, hj, rfl⟩ := List.getElem_of_mem hb
  have h1 := heap_min H h.heap j hj
  have hm2 : toTn H[0] ∈ N := h.perm.mem_iff.2 (List.mem_map.2 ⟨H[0], List.getElem_mem _, rfl⟩)
  obtain ⟨q, hq, eq⟩ := List.getElem_of_mem hm2
  have h2 := lesK_le N hN N.length (Nat.le_refl _) q hq hq
  have hmo := h.mono H[0] (List.getElem_mem _) H[j] (List.getElem_mem _)
  have h3 : leT (toTn H[j]) (toTn H[0]) := by
    rw [eb, ← eq]
    exact h2
  rw [← eb]
  unfold leT toTn at h3
  unfold leT at h1
  simp only at h3
  have : H[j].r = H[0].r ∧ H[j].p = H[0].p ∧ H[j].x = H[0].x := by omega
  unfold toTn
  rw [this.1, this.2.1, this.2.2]
theorem pl_pop {H : List (Th Int)} {N : List Tn} {turn i : Int} (h : Pl H N turn i) (h0 : 0 < H.length) (hN : 0 < N.length) : Pl (popT H) (N.take (lesT N) ++ N.drop (lesT N + 1)) turn i := by
  have hp := pop_perm H h0
  have hm : ∀ a, a ∈ popT H → a ∈ H := fun a ha => hp.mem_iff.2 (List.mem_cons_of_mem _ ha)
  refine ⟨pop_heap H h.heap, ?_, fun a ha => h.lt a (hm a ha), fun a ha b hb => h.mono a (hm a ha) b (hm b hb)⟩
  have hk := lesK_lt N hN N.length
  have e : N = N.take (lesT N) ++ (toTn H[0] :: N.drop (lesT N + 1)) := by
    rw [← pl_top h h0 hN]
    have h9 : N.take (lesK N N.length) ++ (N[lesK N N.length] :: N.drop (lesK N N.length + 1)) = N := by
      rw [← List.drop_eq_getElem_cons hk, List.take_append_drop]
    exact h9.symm
  have h1 : (toTn H[0] :: (N.take (lesT N) ++ N.drop (lesT N + 1))).Perm N := by
    conv => rhs; rw [e]
    exact (List.perm_middle).symm
  have h2 : (H.map toTn).Perm (toTn H[0] :: (popT H).map toTn) := by
    have := hp.map toTn
    rwa [List.map_cons] at this
  exact (List.perm_cons _).1 (h1.trans (h.perm.trans h2))
end Go.Proofs.Ytdppdjiigecjoaa
