/- Layer 4 (token): what is grown can be added again; a made token's parents. -/
import Derived.Test.YtpkmcokkapfnmaaGrow1
import Derived.Test.YtpkmcokkapfnmaaToken5
namespace Go.Proofs.Ytpkmcokkapfnmaa
open Go.RowKit Go.Maps Go.WideMaps
set_option linter.unusedVariables false
set_option linter.unusedSimpArgs false

theorem addT_fine {T : List Ent} {a b : Int} (he : (addT T a b).2.1 = 0) : hasT T a = true ∧ hasT T b = true ∧ (addT T a b).2.2 = T ++ [((entT T a).1 ++ (entT T b).1, a, b)] ∧ T.length < 1000 := by
  unfold addT at *
  by_cases h1 : (!(hasT T a && hasT T b)) = true
  · rw [if_pos h1] at he; simp at he
  rw [if_neg h1] at he ⊢
  by_cases h2 : ((entT T a).1 ++ (entT T b).1).length > 64
  · rw [if_pos h2] at he; simp at he
  rw [if_neg h2] at he ⊢
  by_cases h3 : T.length ≥ 1000
  · rw [if_pos h3] at he; simp at he
  rw [if_neg h3] at he ⊢
  by_cases h4 : (findT T ((entT T a).1 ++ (entT T b).1)).isSome = true
  · rw [if_pos h4] at he; simp at he
  rw [if_neg h4]
  simp only [Bool.not_eq_true, Bool.not_eq_eq_eq_not, Bool.not_false, Bool.and_eq_true] at h1
  simp only [Bool.not_true, Bool.and_eq_false_imp, Bool.not_eq_false] at h1
  have : hasT T a = true ∧ hasT T b = true := by
    revert h1; cases hasT T a <;> cases hasT T b <;> simp
  exact ⟨this.1, this.2, rfl, by omega⟩

/-- a table that can be added, merge by merge -/
def AddsT (T : List Ent) : Prop := OkT T ∧ addsT baseT (mrgsT T) = some T
theorem addsT_base : AddsT baseT := by
  refine ⟨okT_base, ?_⟩
  have : mrgsT baseT = [] := by
    apply List.eq_nil_of_length_eq_zero
    rw [mrgs_len, base_len]
  rw [this]; rfl
theorem addsT_add {T : List Ent} (h : AddsT T) (a b : Int) (he : (addT T a b).2.1 = 0) : AddsT (addT T a b).2.2 := by
  refine ⟨okT_add h.1 a b he, ?_⟩
  obtain ⟨ha, hb, e, _⟩ := addT_fine he
  have h256 := okT_256 h.1
  have em : mrgsT (addT T a b).2.2 = mrgsT T ++ [(a, b)] := by
    rw [e]
    unfold mrgsT
    rw [List.drop_append_of_le_length h256]
    simp
  rw [em, addsT_snoc, h.2]
  simp [he]
theorem addsT_grow (l : List Nat) : ∀ j, AddsT (growT l j)
  | 0 => addsT_base
  | j + 1 => by
    show AddsT (growStep (growT l j) (l.getD (2 * j) 0) (l.getD (2 * j + 1) 0))
    unfold growStep
    split
    · rename_i h0; exact addsT_add (addsT_grow l j) _ _ h0
    · exact addsT_grow l j
theorem grow_small (l : List Nat) : ∀ j, (growT l j).length ≤ 256 + j
  | 0 => by simp [growT, base_len]
  | j + 1 => by
    show (growStep (growT l j) (l.getD (2 * j) 0) (l.getD (2 * j + 1) 0)).length ≤ _
    unfold growStep
    have := grow_small l j
    split
    · rename_i h0
      rw [(addT_fine h0).2.2.1]; simp; omega
    · omega

theorem base_ent {T : List Ent} (h : OkT T) {i : Nat} (hi : i < 256) : entT T (i : Int) = ([UInt8.ofNat i], -1, -1) := by
  obtain ⟨M, hM⟩ := h.base
  have h2 := okT_256 h
  rw [entT_nat _ _ (by omega)]
  have h0 : (baseT ++ M)[i]? = some ([UInt8.ofNat i], -1, -1) := by
    rw [List.getElem?_append_left (by rw [base_len]; exact hi), List.getElem?_eq_getElem (by rw [base_len]; exact hi), base_at i hi]
  rw [← hM, List.getElem?_eq_getElem (by omega)] at h0
  exact Option.some.inj h0

/-- of a token that was made: its parents are there, its bytes are theirs, it is their token -/
theorem made_all {T : List Ent} (h : OkT T) {i : Nat} (h1 : 256 ≤ i) (h2 : i < T.length) :
    bornT T (i : Int) = true ∧ hasT T (parT T (i : Int)).1 = true ∧ hasT T (parT T (i : Int)).2 = true ∧ hasT T (i : Int) = true ∧
    bytesT T (i : Int) = bytesT T (parT T (i : Int)).1 ++ bytesT T (parT T (i : Int)).2 ∧ pairT T (parT T (i : Int)) = some i ∧
    0 ≤ (parT T (i : Int)).1 ∧ 0 ≤ (parT T (i : Int)).2 ∧ (parT T (i : Int)).1 < i ∧ (parT T (i : Int)).2 < i := by
  obtain ⟨q1, q2, q3, q4, q5⟩ := h.made i h1 h2
  have hi : hasT T (i : Int) = true := by simp [hasT]; omega
  have hne : (entT T (i : Int)).2 ≠ (-1, -1) := by intro e; rw [e] at q1; simp at q1
  have hborn : bornT T (i : Int) = true := by
    unfold bornT
    rw [hi]
    simpa using hne
  have hpar : parT T (i : Int) = (entT T (i : Int)).2 := by unfold parT; rw [if_pos hborn]
  rw [hpar]
  have ha : hasT T (entT T (i : Int)).2.1 = true := by simp [hasT]; omega
  have hb : hasT T (entT T (i : Int)).2.2 = true := by simp [hasT]; omega
  refine ⟨hborn, ha, hb, hi, ?_, ?_, q1, q3, q2, q4⟩
  · unfold bytesT
    rw [if_pos hi, if_pos ha, if_pos hb]
    exact q5
  · unfold pairT
    rw [List.findIdx?_eq_some_iff_getElem]
    refine ⟨h2, ?_, ?_⟩
    · rw [entT_nat _ _ h2] at hne ⊢
      simpa using hne
    · intro j hj
      rw [Bool.not_eq_true, Bool.eq_false_iff]
      intro hh
      simp only [Bool.and_eq_true, beq_iff_eq] at hh
      have hjl : j < T.length := by omega
      by_cases hj2 : j < 256
      · have := base_ent h hj2
        rw [entT_nat _ _ hjl] at this
        rw [this] at hh
        exact hne hh.1.symm
      · obtain ⟨p1, p2, p3, p4, p5⟩ := h.made j (by omega) hjl
        have e2 : (entT T (j : Int)).2 = (entT T (i : Int)).2 := by rw [entT_nat _ _ hjl]; exact hh.1
        rw [e2, ← q5] at p5
        have := h.nodup j i hjl h2 p5
        omega

/-- numbers that came in, as natural ones -/
theorem nats_of {w : World} {A : Option Addr} {xs : List Int} (hw : ∀ y ∈ xs, (Lit.int .u16 y).wf = true) (hs : Sl1 w A (Value.int .u16) xs) :
    ∃ l : List Nat, l.length = xs.length ∧ (∀ x ∈ l, x < 65536) ∧ Sl1 w A (fun x : Nat => .int .u16 (x : Int)) l := by
  have hr : ∀ y ∈ xs, 0 ≤ y ∧ y < 65536 := by
    intro y hy
    have := hw y hy
    have e1 : IntKind.u16.min = 0 := by decide
    have e2 : IntKind.u16.max = 65535 := by decide
    simp only [Lit.wf, e1, e2, Bool.and_eq_true, decide_eq_true_eq] at this
    omega
  refine ⟨xs.map Int.toNat, by simp, ?_, ?_⟩
  · intro x hx
    obtain ⟨y, hy, rfl⟩ := List.mem_map.1 hx
    have := hr y hy
    omega
  · intro i x hx
    rw [List.getElem?_map, Option.map_eq_some_iff] at hx
    obtain ⟨y, hy, rfl⟩ := hx
    obtain ⟨b, o, e, hc⟩ := hs i y hy
    have := hr y (List.mem_of_getElem? hy)
    refine ⟨b, o, e, ?_⟩
    show w.cell? _ = some (Value.int .u16 (y.toNat : Int))
    rw [hc, Int.toNat_of_nonneg this.1]
end Go.Proofs.Ytpkmcokkapfnmaa
