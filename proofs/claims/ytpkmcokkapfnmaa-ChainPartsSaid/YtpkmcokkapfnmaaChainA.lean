/- Layer 5 (chain): the nodes at the beginning: the plain law. -/
import Derived.Test.YtpkmcokkapfnmaaChain3
namespace Go.Proofs.Ytpkmcokkapfnmaa
set_option linter.unusedVariables false
set_option linter.unusedSimpArgs false

/-- a byte as a token -/
def byI (s : List UInt8) (i : Nat) : Int := (s.getD i 0).toNat
def rawN (s : List UInt8) (k : Nat) : List Node := (List.range k).map fun (i : Nat) => (byI s i, (i : Int) - 1, (i : Int) + 1)
def begN (s : List UInt8) : List Node := (List.range s.length).map fun (i : Nat) => (byI s i, (i : Int) - 1, if i + 1 < s.length then (i : Int) + 1 else -1)
def begL (s : List UInt8) : List Nd := (List.range s.length).map fun (i : Nat) => ((i : Int), byI s i)
def bysI (s : List UInt8) : List Int := s.map fun c => (c.toNat : Int)
theorem rawN_len (s : List UInt8) (k : Nat) : (rawN s k).length = k := by simp [rawN]
theorem begN_len (s : List UInt8) : (begN s).length = s.length := by simp [begN]
theorem begL_len (s : List UInt8) : (begL s).length = s.length := by simp [begL]
theorem rawN_succ (s : List UInt8) (k : Nat) : rawN s (k + 1) = rawN s k ++ [(byI s k, (k : Int) - 1, (k : Int) + 1)] := by simp [rawN, List.range_succ]
theorem begL_ids (s : List UInt8) : idsC (begL s) = bysI s := by
  apply List.ext_getElem
  · simp [idsC, begL, bysI]
  · intro i h1 h2
    simp [idsC, begL, bysI, byI] at h1 ⊢
    rw [List.getElem?_eq_getElem h1]
    rfl
theorem begN_raw (s : List UInt8) (h : 0 < s.length) : (rawN s s.length).modify (s.length - 1) (nextN (-1)) = begN s := by
  apply List.ext_getElem
  · simp [rawN, begN]
  · intro i h1 h2
    simp [rawN, begN, List.getElem_modify] at h1 ⊢
    by_cases e : s.length - 1 = i
    · have : ¬ i + 1 < s.length := by omega
      simp [e, nextN, this]
    · have : i + 1 < s.length := by omega
      simp [e, this]
theorem begN_nil : begN [] = [] := rfl
theorem byI_nn (s : List UInt8) (i : Nat) : 0 ≤ byI s i ∧ byI s i < 256 := by
  unfold byI
  have := (s.getD i 0).toNat_lt
  omega
theorem begL_srt (s : List UInt8) : (begL s).Pairwise (fun x y => x.1 < y.1) := by
  unfold begL
  rw [List.pairwise_map]
  exact List.pairwise_lt_range.imp (fun h => by simpa using h)
theorem begL_at (s : List UInt8) {p q : List Nd} {x : Nd} (h : begL s = p ++ x :: q) : x.1 = p.length ∧ x.2 = byI s p.length ∧ p.length < s.length ∧ lastI p = (p.length : Int) - 1 ∧ headI q = (if p.length + 1 < s.length then (p.length : Int) + 1 else -1) := by
  have hl : (begL s).length = p.length + (q.length + 1) := by rw [h]; simp
  rw [begL_len] at hl
  have at_ : ∀ k (hk : k < s.length), (begL s)[k]? = some ((k : Int), byI s k) := by
    intro k hk
    simp [begL, hk]
  have h0 := at_ p.length (by omega)
  rw [h, List.getElem?_append_right (Nat.le_refl _)] at h0
  simp at h0
  refine ⟨by rw [h0], by rw [h0], by omega, ?_, ?_⟩
  · rcases List.eq_nil_or_concat p with rfl | ⟨p', y, rfl⟩
    · rfl
    · rw [List.concat_eq_append] at *
      rw [lastI_snoc]
      have h1 := at_ p'.length (by simp at hl; omega)
      rw [h] at h1
      simp at h1
      rw [h1]
      simp
  · rcases q with _ | ⟨y, q⟩
    · rw [headI_nil, if_neg (by simp at hl; omega)]
    · rw [headI_cons, if_pos (by simp at hl; omega)]
      have h1 := at_ (p.length + 1) (by simp at hl; omega)
      rw [h, List.getElem?_append_right (by omega)] at h1
      have e : p.length + 1 - p.length = 1 := by omega
      rw [e] at h1
      simp at h1
      rw [h1]
theorem begL_split (s : List UInt8) {k : Nat} (hk : k < s.length) : ∃ p q, begL s = p ++ ((k : Int), byI s k) :: q ∧ p.length = k := by
  have hk' : k < (begL s).length := by rw [begL_len]; exact hk
  refine ⟨(begL s).take k, (begL s).drop (k + 1), ?_, by rw [List.length_take]; omega⟩
  have h1 : (begL s)[k] = ((k : Int), byI s k) := by simp [begL]
  rw [← h1, List.getElem_cons_drop, List.take_append_drop]
theorem beg_lives (s : List UInt8) : Lives (begN s) (begL s) := by
  refine ⟨?_, ?_, ?_, ?_, begL_srt s⟩
  · intro p i a q h
    obtain ⟨h1, h2, h3, h4, h5⟩ := begL_at s h
    refine ⟨p.length, h1, ?_⟩
    simp only at h2
    rw [h2, h4, h5]
    simp [begN, h3]
  · intro k x hk hno
    exfalso
    have hlt := (List.getElem?_eq_some_iff.1 hk).1
    rw [begN_len] at hlt
    exact hno (byI s k) (by simp [begL]; exact ⟨k, hlt, rfl, rfl⟩)
  · intro h
    rcases s with _ | ⟨c, s⟩
    · exact absurd rfl h
    · exact ⟨byI (c :: s) 0, (List.range s.length).map (fun i => (((i + 1 : Nat) : Int), byI (c :: s) (i + 1))), by simp [begL, List.range_succ_eq_map]⟩
  · intro x hx
    simp [begL] at hx
    obtain ⟨i, _, rfl⟩ := hx
    have := byI_nn s i
    exact ⟨this.1, by simp; omega⟩
end Go.Proofs.Ytpkmcokkapfnmaa
