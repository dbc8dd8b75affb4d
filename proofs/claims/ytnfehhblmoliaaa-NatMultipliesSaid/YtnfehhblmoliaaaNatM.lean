/- Layer 1 (nat): the laws' common ground. -/
import Derived.Test.YtnfehhblmoliaaaNatL
import Derived.Test.YtnfehhblmoliaaaOpen
namespace Go.Proofs.Ytnfehhblmoliaaa
open Go.RowKit Go.Maps Go.WideMaps
set_option maxRecDepth 100000
set_option linter.unusedVariables false
set_option linter.unusedSimpArgs false

theorem sl_u32 {w : World} {A : Option Addr} {xs : List Int} (h : Sl1 w A (Value.int .u32) xs) (hwf : ∀ y ∈ xs, (Lit.int .u32 y).wf = true) : Sl1 w A u32V (xs.map Int.toNat) ∧ ∀ x ∈ xs.map Int.toNat, x < B32 := by
  have key : ∀ y ∈ xs, 0 ≤ y ∧ y ≤ 4294967295 := by
    intro y hy
    have := hwf y hy
    simpa [Lit.wf, IntKind.min, IntKind.max, IntKind.bits, IntKind.signed] using this
  constructor
  · intro i x hx
    rw [List.getElem?_map] at hx
    obtain ⟨y, hy, rfl⟩ := Option.map_eq_some_iff.1 hx
    obtain ⟨b, o, e, hc⟩ := h i y hy
    refine ⟨b, o, e, ?_⟩
    rw [hc]
    have := key y (List.mem_of_getElem? hy)
    unfold u32V
    rw [Int.toNat_of_nonneg this.1]
  · intro x hx
    obtain ⟨y, hy, rfl⟩ := List.mem_map.1 hx
    have := key y hy
    show y.toNat < 4294967296
    omega
/-- what is printed is read -/
theorem isDig_dec (d : Nat) (h : d < 10) : isDig (UInt8.ofNat (d + 48)) = true ∧ (UInt8.ofNat (d + 48)).toNat = d + 48 := by
  have : (UInt8.ofNat (d + 48)).toNat = d + 48 := by rw [UInt8.toNat_ofNat']; omega
  refine ⟨?_, this⟩
  simp [isDig, this]; omega
theorem decB_form (n : Nat) : ∃ l : List Nat, (∀ d ∈ l, d < 10) ∧ (decB n).map UInt8.ofNat = l.reverse.map (fun d => UInt8.ofNat (d + 48)) ∧ vl 10 l = n ∧ l ≠ [] ∧ (1 < l.length → atL l (l.length - 1) ≠ 0) ∧ (dg 10 n).length ≤ l.length ∧ l.length ≤ (dg 10 n).length + 1 := by
  unfold decB
  by_cases h : n = 0
  · subst h
    exact ⟨[0], by simp, by simp, rfl, by simp, by simp, by rw [dg_zero]; simp, by rw [dg_zero]; simp⟩
  · rw [if_neg h]
    have hp := Nat.pos_of_ne_zero h
    refine ⟨dg 10 n, dg_lt (by decide) n, by simp [List.map_map, Function.comp_def], vl_dg (by decide) n, dg_ne_nil (by decide) hp, fun _ => ?_, Nat.le_refl _, by omega⟩
    rcases dg_last (b := 10) (by decide) n with e | e
    · exact absurd e (dg_ne_nil (by decide) hp)
    · exact e
theorem valP_rev (l : List Nat) (h : ∀ d ∈ l, d < 10) : valP (l.reverse.map (fun d => UInt8.ofNat (d + 48))) = vl 10 l := by
  rw [← vl_digs]
  congr 1
  simp only [digs, ← List.map_reverse, List.reverse_reverse, List.map_map]
  conv => rhs; rw [← List.map_id l]
  refine List.map_congr_left (fun d hd => ?_)
  have := (isDig_dec d (h d hd)).2
  show (UInt8.ofNat (d + 48)).toNat - 48 = d
  omega
theorem parse_dec (n : Nat) (w : World) (hl : (dg 10 n).length ≤ 9000) :
    Calls Try.prog 29 #[.string (decS n)] w fun e w' => ∃ v, e = .returned (.tuple #[v, .bool true]) ∧ NatIs w' v n ∧ Below w.heap.size w w' := by
  obtain ⟨l, h1, h2, h3, h4, h5, h6, h7⟩ := decB_form n
  unfold decS
  rw [h2]
  have hall : (l.reverse.map (fun d => UInt8.ofNat (d + 48))).all isDig = true := by
    refine List.all_eq_true.2 (fun x hx => ?_)
    obtain ⟨d, hd, rfl⟩ := List.mem_map.1 hx
    exact (isDig_dec d (h1 d (List.mem_reverse.1 hd))).1
  refine parse_rest _ w true n hall ?_ ?_ ?_ ?_
  · rw [if_pos rfl, valP_rev l h1, h3]
  · simpa using h4
  · simp; omega
  · rintro ⟨ha, hb⟩
    simp at ha
    have h8 := h5 (by simpa using ha)
    rw [List.head?_map, List.head?_reverse] at hb
    obtain ⟨d, hd, he⟩ := Option.map_eq_some_iff.1 hb
    have hd2 : l.getLast? = some d := hd
    rw [List.getLast?_eq_getElem?] at hd2
    have hd3 : d < 10 := h1 d (List.mem_of_getElem? hd2)
    have h9 := (isDig_dec d hd3).2
    rw [he] at h9
    have h10 : d = 0 := by have : (48 : UInt8).toNat = 48 := rfl; omega
    apply h8
    unfold atL
    rw [hd2, h10]; rfl
theorem dec10_le (l : List Nat) (h : ∀ x ∈ l, x < B32) (hl : l.length ≤ 100) : (dg 10 (vl B32 l)).length ≤ 1000 := Nat.le_trans (dec_len l h _ (Nat.le_refl _)) (by omega)
theorem dg32_le (l : List Nat) (h : ∀ x ∈ l, x < B32) (k : Nat) (hl : l.length ≤ k) : (dg B32 (vl B32 l)).length ≤ k := Nat.le_trans (dg_len_le (by decide) (vl_lt (by decide) h)) hl
/-- how many limbs are left, and which -/
theorem dg_take (l : List Nat) (h : ∀ x ∈ l, x < B32) : dg B32 (vl B32 l) = l.take (dg B32 (vl B32 l)).length := by
  have key : ∀ k, k ≤ l.length → (∀ i, k ≤ i → atL l i = 0) → ∃ n, n ≤ k ∧ (∀ i, n ≤ i → atL l i = 0) ∧ (n = 0 ∨ atL l (n - 1) ≠ 0) := by
    intro k
    induction k with
    | zero => intro _ h0; exact ⟨0, Nat.le_refl _, h0, Or.inl rfl⟩
    | succ k ih =>
      intro hk h0
      by_cases hz : atL l k = 0
      · obtain ⟨n, h1, h2, h3⟩ := ih (by omega) (fun i hi => by
          rcases Nat.eq_or_lt_of_le hi with e | e
          · rw [← e]; exact hz
          · exact h0 i e)
        exact ⟨n, by omega, h2, h3⟩
      · exact ⟨k + 1, Nat.le_refl _, h0, Or.inr hz⟩
  obtain ⟨n, h1, h2, h3⟩ := key l.length (Nat.le_refl _) (fun i hi => atL_ge hi)
  have e := trim_dg (b := B32) (by decide) l h n h1 h2 h3
  rw [e, List.length_take, Nat.min_eq_left h1]
theorem few_no (x : Bool) : (x = false ∨ x = true) := by cases x <;> simp
/-- the cells of a slice of slices that was just built -/
theorem few_cells1 (w : World) (A : Option Addr) (n c : Nat) : ∀ i m, [n][i]? = some m → ∃ g o A' c', (some (⟨w.heap.size, 0, none⟩ : Addr)) = some ⟨g, o, none⟩ ∧ (w.alloc (.cells #[.slice A n c] 22)).cell? ⟨g, o + i, none⟩ = some (.slice A' m c') := by
  intro i m hm
  refine ⟨w.heap.size, 0, A, c, rfl, ?_⟩
  rw [Nat.zero_add, blk_cell (blk_new w _)]
  rcases i with _ | i <;> simp at hm
  subst hm; rfl
theorem few_cells2 (w : World) (A A2 : Option Addr) (n n2 c c2 : Nat) : ∀ i m, [n, n2][i]? = some m → ∃ g o A' c', (some (⟨w.heap.size, 0, none⟩ : Addr)) = some ⟨g, o, none⟩ ∧ (w.alloc (.cells #[.slice A n c, .slice A2 n2 c2] 22)).cell? ⟨g, o + i, none⟩ = some (.slice A' m c') := by
  intro i m hm
  rcases i with _ | _ | i <;> simp at hm
  · subst hm
    refine ⟨w.heap.size, 0, A, c, rfl, ?_⟩
    rw [Nat.zero_add, blk_cell (blk_new w _)]; rfl
  · subst hm
    refine ⟨w.heap.size, 0, A2, c2, rfl, ?_⟩
    rw [Nat.zero_add, blk_cell (blk_new w _)]; rfl
theorem few_cells3 (w : World) (A A2 A3 : Option Addr) (n n2 n3 c c2 c3 : Nat) : ∀ i m, [n, n2, n3][i]? = some m → ∃ g o A' c', (some (⟨w.heap.size, 0, none⟩ : Addr)) = some ⟨g, o, none⟩ ∧ (w.alloc (.cells #[.slice A n c, .slice A2 n2 c2, .slice A3 n3 c3] 22)).cell? ⟨g, o + i, none⟩ = some (.slice A' m c') := by
  intro i m hm
  rcases i with _ | _ | _ | i <;> simp at hm
  · subst hm
    refine ⟨w.heap.size, 0, A, c, rfl, ?_⟩
    rw [Nat.zero_add, blk_cell (blk_new w _)]; rfl
  · subst hm
    refine ⟨w.heap.size, 0, A2, c2, rfl, ?_⟩
    rw [Nat.zero_add, blk_cell (blk_new w _)]; rfl
  · subst hm
    refine ⟨w.heap.size, 0, A3, c3, rfl, ?_⟩
    rw [Nat.zero_add, blk_cell (blk_new w _)]; rfl
end Go.Proofs.Ytnfehhblmoliaaa
