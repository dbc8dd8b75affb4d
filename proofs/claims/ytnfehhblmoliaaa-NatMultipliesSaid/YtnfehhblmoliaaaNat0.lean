/- Layer 1 (nat): digits of a number to any base: the plain facts. -/
import Derived.Test.YtnfehhblmoliaaaMem
namespace Go.Proofs.Ytnfehhblmoliaaa
set_option linter.unusedVariables false
/-- the digits of n to the base b, the lowest first -/
def dg (b n : Nat) : List Nat := if h : 1 < b ∧ 0 < n then n % b :: dg b (n / b) else []
termination_by n
decreasing_by exact Nat.div_lt_self h.2 h.1
def vl (b : Nat) : List Nat → Nat
  | [] => 0
  | x :: l => x + b * vl b l
def atL (l : List Nat) (i : Nat) : Nat := l[i]?.getD 0
theorem dg_zero (b : Nat) : dg b 0 = [] := by rw [dg]; simp
theorem dg_pos {b n : Nat} (hb : 1 < b) (h : 0 < n) : dg b n = n % b :: dg b (n / b) := by rw [dg, dif_pos ⟨hb, h⟩]
theorem vl_dg {b : Nat} (hb : 1 < b) (n : Nat) : vl b (dg b n) = n := by
  induction n using Nat.strongRecOn with
  | ind n ih =>
    rcases Nat.eq_zero_or_pos n with rfl | h
    · rw [dg_zero]; rfl
    · rw [dg_pos hb h, vl, ih _ (Nat.div_lt_self h hb)]
      exact Nat.mod_add_div n b
theorem dg_lt {b : Nat} (hb : 1 < b) (n : Nat) : ∀ x ∈ dg b n, x < b := by
  induction n using Nat.strongRecOn with
  | ind n ih =>
    rcases Nat.eq_zero_or_pos n with rfl | h
    · rw [dg_zero]; intro x hx; simp at hx
    · rw [dg_pos hb h]
      intro x hx
      rcases List.mem_cons.1 hx with rfl | hx
      · exact Nat.mod_lt _ (by omega)
      · exact ih _ (Nat.div_lt_self h hb) x hx
theorem atL_lt {b : Nat} {l : List Nat} (hb : 0 < b) (h : ∀ x ∈ l, x < b) (i : Nat) : atL l i < b := by
  unfold atL
  rcases Nat.lt_or_ge i l.length with hi | hi
  · rw [List.getElem?_eq_getElem hi]; exact h _ (List.getElem_mem _)
  · rw [List.getElem?_eq_none hi]; exact hb
theorem atL_get {l : List Nat} {i : Nat} (h : i < l.length) : atL l i = l[i] := by unfold atL; rw [List.getElem?_eq_getElem h]; rfl
theorem atL_ge {l : List Nat} {i : Nat} (h : l.length ≤ i) : atL l i = 0 := by unfold atL; rw [List.getElem?_eq_none h]; rfl
theorem atL_succ (x : Nat) (l : List Nat) (i : Nat) : atL (x :: l) (i + 1) = atL l i := rfl
theorem vl_zero {b : Nat} {l : List Nat} (h : ∀ i, atL l i = 0) : vl b l = 0 := by
  induction l with
  | nil => rfl
  | cons x l ih =>
    have h0 : x = 0 := h 0
    rw [vl, h0, ih (fun i => h (i + 1))]; simp
theorem vl_take_succ (b : Nat) (l : List Nat) (i : Nat) : vl b (l.take (i + 1)) = vl b (l.take i) + b ^ i * atL l i := by
  induction l generalizing i with
  | nil => simp [vl, atL]
  | cons x l ih =>
    cases i with
    | zero => simp [vl, atL]
    | succ i =>
      rw [List.take_succ_cons, List.take_succ_cons, vl, vl, ih, atL_succ, Nat.mul_add, ← Nat.add_assoc, Nat.pow_succ]
      congr 1
      rw [← Nat.mul_assoc, Nat.mul_comm (b ^ i) b]
theorem vl_take_drop (b : Nat) (l : List Nat) (i : Nat) (h : i ≤ l.length) : vl b l = vl b (l.take i) + b ^ i * vl b (l.drop i) := by
  induction l generalizing i with
  | nil => simp at h; subst h; simp [vl]
  | cons x l ih =>
    cases i with
    | zero => simp [vl]
    | succ i =>
      rw [List.take_succ_cons, List.drop_succ_cons, vl, vl, ih i (by simpa using h), Nat.mul_add, ← Nat.add_assoc, Nat.pow_succ]
      congr 1
      rw [← Nat.mul_assoc, Nat.mul_comm (b ^ i) b]
theorem vl_drop (b : Nat) (l : List Nat) (i : Nat) (h : i < l.length) : vl b (l.drop i) = atL l i + b * vl b (l.drop (i + 1)) := by
  rw [List.drop_eq_getElem_cons h, vl, atL_get h]
theorem vl_lt {b : Nat} {l : List Nat} (hb : 0 < b) (h : ∀ x ∈ l, x < b) : vl b l < b ^ l.length := by
  induction l with
  | nil => simp [vl]
  | cons x l ih =>
    have h1 := ih (fun y hy => h y (List.mem_cons_of_mem _ hy))
    have h2 := h x (List.mem_cons_self ..)
    rw [vl, List.length_cons, Nat.pow_succ]
    have h3 : b * (vl b l + 1) ≤ b * b ^ l.length := Nat.mul_le_mul_left _ h1
    rw [Nat.mul_add, Nat.mul_one] at h3
    rw [Nat.mul_comm (b ^ l.length) b]
    omega
theorem vl_append (b : Nat) (l r : List Nat) : vl b (l ++ r) = vl b l + b ^ l.length * vl b r := by
  have := vl_take_drop b (l ++ r) l.length (by simp)
  simpa using this
theorem vl_snoc (b : Nat) (l : List Nat) (x : Nat) : vl b (l ++ [x]) = vl b l + b ^ l.length * x := by
  rw [vl_append]; simp [vl]
/-- what is left behind the noughts at the end is the digits -/
theorem trim_dg {b : Nat} (hb : 1 < b) (l : List Nat) (h : ∀ x ∈ l, x < b) (n : Nat) (hn : n ≤ l.length) (h0 : ∀ i, n ≤ i → atL l i = 0) (h1 : n = 0 ∨ atL l (n - 1) ≠ 0) : dg b (vl b l) = l.take n := by
  induction l generalizing n with
  | nil => simp at hn; subst hn; simp [vl, dg_zero]
  | cons x l ih =>
    cases n with
    | zero => rw [vl_zero (fun i => h0 i (Nat.zero_le _)), dg_zero]; simp
    | succ m =>
      have hx := h x (List.mem_cons_self ..)
      have hl := fun y hy => h y (List.mem_cons_of_mem _ hy)
      have hm : m = 0 ∨ atL l (m - 1) ≠ 0 := by
        rcases Nat.eq_zero_or_pos m with h2 | h2
        · exact Or.inl h2
        · right
          rcases h1 with h1 | h1
          · omega
          · rw [show m + 1 - 1 = (m - 1) + 1 by omega, atL_succ] at h1; exact h1
      have e := ih hl m (by simpa using hn) (fun i hi => by have := h0 (i + 1) (by omega); rwa [atL_succ] at this) hm
      have hpos : 0 < x + b * vl b l := by
        rcases Nat.eq_zero_or_pos m with h2 | h2
        · subst h2
          rcases h1 with h1 | h1
          · omega
          · have : x ≠ 0 := h1
            omega
        · have : vl b l ≠ 0 := by
            intro hv
            rw [hv, dg_zero] at e
            have := congrArg List.length e
            rw [List.length_take] at this
            have : m ≤ l.length := by simpa using hn
            simp at *
            omega
          have : 0 < b * vl b l := Nat.mul_pos (by omega) (Nat.pos_of_ne_zero this)
          omega
      rw [vl, dg_pos hb hpos, Nat.add_mul_mod_self_left, Nat.mod_eq_of_lt hx, Nat.add_mul_div_left _ _ (by omega), Nat.div_eq_of_lt hx, Nat.zero_add, e, List.take_succ_cons]
theorem dg_last {b : Nat} (hb : 1 < b) (n : Nat) : dg b n = [] ∨ atL (dg b n) ((dg b n).length - 1) ≠ 0 := by
  induction n using Nat.strongRecOn with
  | ind n ih =>
    rcases Nat.eq_zero_or_pos n with rfl | h
    · left; exact dg_zero b
    · right
      rw [dg_pos hb h]
      rcases ih _ (Nat.div_lt_self h hb) with e | e
      · rw [e]
        have h0 : n / b = 0 := by have := vl_dg hb (n / b); rw [e] at this; exact this.symm
        have : n < b := by rcases Nat.div_eq_zero_iff.1 h0 with h | h <;> omega
        simp [atL, Nat.mod_eq_of_lt this]; omega
      · cases hd : dg b (n / b) with
        | nil => rw [hd] at e; exact absurd rfl e
        | cons y l =>
          rw [hd] at e
          simpa [atL] using e
/-- lists of digits without noughts at the end are equal where their numbers are -/
theorem dg_ne_nil {b n : Nat} (hb : 1 < b) (h : 0 < n) : dg b n ≠ [] := by rw [dg_pos hb h]; simp
theorem dg_len_zero {b n : Nat} (hb : 1 < b) : (dg b n).length = 0 ↔ n = 0 := by
  constructor
  · intro h
    have := vl_dg hb n
    rw [List.eq_nil_of_length_eq_zero h] at this
    exact this.symm
  · rintro rfl; rw [dg_zero]; rfl
theorem pow_le_of_dg {b n : Nat} (hb : 1 < b) (h : 0 < n) : b ^ ((dg b n).length - 1) ≤ n := by
  have hl : 0 < (dg b n).length := List.length_pos_iff.2 (dg_ne_nil hb h)
  rcases dg_last hb n with e | e
  · exact absurd e (dg_ne_nil hb h)
  · have := vl_take_succ b (dg b n) ((dg b n).length - 1)
    rw [show (dg b n).length - 1 + 1 = (dg b n).length by omega, List.take_length, vl_dg hb] at this
    have h2 : b ^ ((dg b n).length - 1) * 1 ≤ b ^ ((dg b n).length - 1) * atL (dg b n) ((dg b n).length - 1) := Nat.mul_le_mul_left _ (Nat.pos_of_ne_zero e)
    omega
theorem lt_pow_dg {b : Nat} (hb : 1 < b) (n : Nat) : n < b ^ (dg b n).length := by
  have := vl_lt (by omega) (dg_lt hb n)
  rwa [vl_dg hb] at this
theorem dg_len_lt {b m n : Nat} (hb : 1 < b) (h : (dg b m).length < (dg b n).length) : m < n := by
  have h1 := lt_pow_dg hb m
  have hn : 0 < n := by
    rcases Nat.eq_zero_or_pos n with rfl | h2
    · rw [dg_zero] at h; simp at h
    · exact h2
  have h2 := pow_le_of_dg hb hn
  have h3 : b ^ (dg b m).length ≤ b ^ ((dg b n).length - 1) := Nat.pow_le_pow_right (by omega) (by omega)
  omega
theorem dg_len_le {b n k : Nat} (hb : 1 < b) (h : n < b ^ k) : (dg b n).length ≤ k := by
  rcases Nat.eq_zero_or_pos n with rfl | hn
  · rw [dg_zero]; exact Nat.zero_le _
  · have h2 := pow_le_of_dg hb hn
    have h3 : b ^ ((dg b n).length - 1) < b ^ k := by omega
    have := (Nat.pow_lt_pow_iff_right hb).1 h3
    omega
/-- from above: where the upper digits are equal and one is less, the number is less -/
theorem vl_lt_at {b : Nat} {l r : List Nat} {i : Nat} (hb : 1 < b) (hl : ∀ x ∈ l, x < b) (hr : ∀ x ∈ r, x < b) (h1 : i < l.length) (h2 : i < r.length) (he : vl b (l.drop (i + 1)) = vl b (r.drop (i + 1))) (hi : atL l i < atL r i) : vl b l < vl b r := by
  rw [vl_take_drop b l i (by omega), vl_take_drop b r i (by omega), vl_drop b l i h1, vl_drop b r i h2, he]
  have h3 : vl b (l.take i) < b ^ i := by
    have := vl_lt (b := b) (l := l.take i) (by omega) (fun x hx => hl x (List.mem_of_mem_take hx))
    rwa [List.length_take, Nat.min_eq_left (by omega)] at this
  have h4 : b ^ i * (atL l i + 1) ≤ b ^ i * atL r i := Nat.mul_le_mul_left _ hi
  rw [Nat.mul_add, Nat.mul_one] at h4
  rw [Nat.mul_add, Nat.mul_add]
  omega
end Go.Proofs.Ytnfehhblmoliaaa
