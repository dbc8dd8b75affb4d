/- Layer 8 (bound): what the pieces are: none is empty, each is whole, between each two it is cut; how many two texts together have. -/
import Derived.Test.YtdppdjiigecjoaaPieces
namespace Go.Proofs.Ytdppdjiigecjoaa

/-- within l nothing is cut -/
def noCutIn (cut : Nat → Nat → Bool) : List UInt8 → Prop
  | a :: b :: l => cut a.toNat b.toNat = false ∧ noCutIn cut (b :: l)
  | _ => True
theorem noCutIn_snoc {cut : Nat → Nat → Bool} {p : List UInt8} {d c : UInt8} (h : noCutIn cut (p ++ [d])) (hc : cut d.toNat c.toNat = false) : noCutIn cut (p ++ [d] ++ [c]) := by
  induction p with
  | nil => exact ⟨hc, trivial⟩
  | cons a p ih =>
    cases p with
    | nil => exact ⟨h.1, hc, trivial⟩
    | cons b p => exact ⟨h.1, ih h.2⟩
theorem noCutIn_init {cut : Nat → Nat → Bool} {p : List UInt8} {d : UInt8} (h : noCutIn cut (p ++ [d])) : noCutIn cut p := by
  induction p with
  | nil => trivial
  | cons a p ih =>
    cases p with
    | nil => trivial
    | cons b p => exact ⟨h.1, ih h.2⟩
theorem noCutIn_last {cut : Nat → Nat → Bool} {p : List UInt8} {d c : UInt8} (h : noCutIn cut (p ++ [d] ++ [c])) : cut d.toNat c.toNat = false := by
  induction p with
  | nil => exact h.1
  | cons a p ih =>
    cases p with
    | nil => exact ih h.2
    | cons b p => exact ih h.2
theorem snoc_cases (l : List UInt8) : l = [] ∨ ∃ p d, l = p ++ [d] := by
  rcases List.eq_nil_or_concat l with h | ⟨p, d, h⟩
  · exact .inl h
  · exact .inr ⟨p, d, by simpa using h⟩
theorem pcs_whole {cut : Nat → Nat → Bool} : ∀ (n : Nat) (l : List UInt8), l.length = n → noCutIn cut l → l ≠ [] → pcs cut l = [l] := by
  intro n
  induction n with
  | zero => intro l hl _ hne; exact absurd (List.eq_nil_of_length_eq_zero hl) hne
  | succ n ih =>
    intro l hl h hne
    rcases snoc_cases l with rfl | ⟨p, c, rfl⟩
    · exact absurd rfl hne
    · rcases snoc_cases p with rfl | ⟨q, d, rfl⟩
      · rfl
      · have hn : (q ++ [d]).length = n := by simp only [List.length_append, List.length_singleton] at hl ⊢; omega
        rw [pcs_snoc, ih _ hn (noCutIn_init h) (by simp)]
        have := addByte_grow (acc := []) (p := q) (noCutIn_last h)
        simpa using this

/-- pieces as they should be -/
structure Good (cut : Nat → Nat → Bool) (ps : List (List UInt8)) : Prop where
  full : ∀ p ∈ ps, p ≠ []
  whole : ∀ p ∈ ps, noCutIn cut p
  cuts : ∀ i p q, ps[i]? = some p → ps[i + 1]? = some q → ∃ d c, p.getLast? = some d ∧ q.head? = some c ∧ cut d.toNat c.toNat = true

theorem good_nil (cut : Nat → Nat → Bool) : Good cut [] := ⟨by simp, by simp, by simp⟩
theorem good_one (cut : Nat → Nat → Bool) (c : UInt8) : Good cut [[c]] := ⟨by simp, by simp [noCutIn], by intro i p q h1 h2; simp at h2⟩
theorem good_new {cut : Nat → Nat → Bool} {acc : List (List UInt8)} {p : List UInt8} {d c : UInt8} (h : Good cut (acc ++ [p ++ [d]])) (hc : cut d.toNat c.toNat = true) : Good cut (acc ++ [p ++ [d]] ++ [[c]]) := by
  refine ⟨?_, ?_, ?_⟩
  · intro q hq
    rcases List.mem_append.1 hq with hq | hq
    · exact h.full q hq
    · rw [List.mem_singleton] at hq; subst hq; simp
  · intro q hq
    rcases List.mem_append.1 hq with hq | hq
    · exact h.whole q hq
    · rw [List.mem_singleton] at hq; subst hq; trivial
  · intro i x y hx hy
    have hl : (acc ++ [p ++ [d]]).length = acc.length + 1 := by simp
    by_cases hi : i + 1 < acc.length + 1
    · rw [List.getElem?_append_left (by rw [hl]; omega)] at hx hy
      exact h.cuts i x y hx hy
    · have hb := (List.getElem?_eq_some_iff.1 hy).1
      rw [List.length_append, hl, List.length_singleton] at hb
      have he : i = acc.length := by omega
      subst he
      rw [List.getElem?_append_left (by rw [hl]; omega), List.getElem?_append_right (Nat.le_refl _), Nat.sub_self] at hx
      rw [List.getElem?_append_right (by rw [hl]; omega), hl, Nat.sub_self] at hy
      simp at hx hy
      subst hx hy
      exact ⟨d, c, by simp, rfl, hc⟩
theorem good_grow {cut : Nat → Nat → Bool} {acc : List (List UInt8)} {p : List UInt8} {d c : UInt8} (h : Good cut (acc ++ [p ++ [d]])) (hc : cut d.toNat c.toNat = false) : Good cut (acc ++ [p ++ [d] ++ [c]]) := by
  refine ⟨?_, ?_, ?_⟩
  · intro q hq
    rcases List.mem_append.1 hq with hq | hq
    · exact h.full q (List.mem_append_left _ hq)
    · rw [List.mem_singleton] at hq; subst hq; simp
  · intro q hq
    rcases List.mem_append.1 hq with hq | hq
    · exact h.whole q (List.mem_append_left _ hq)
    · rw [List.mem_singleton] at hq; subst hq
      exact noCutIn_snoc (h.whole _ (by simp)) hc
  · intro i x y hx hy
    have hb := (List.getElem?_eq_some_iff.1 hy).1
    rw [List.length_append, List.length_singleton] at hb
    rw [List.getElem?_append_left (by omega)] at hx
    by_cases hi : i + 1 < acc.length
    · rw [List.getElem?_append_left hi] at hy
      exact h.cuts i x y (by rw [List.getElem?_append_left (by omega)]; exact hx) (by rw [List.getElem?_append_left hi]; exact hy)
    · have he : i + 1 = acc.length := by omega
      rw [List.getElem?_append_right (by omega), show i + 1 - acc.length = 0 by omega] at hy
      simp at hy
      obtain ⟨e, f, h1, h2, h3⟩ := h.cuts i x (p ++ [d]) (by rw [List.getElem?_append_left (by omega)]; exact hx) (by rw [List.getElem?_append_right (by omega), show i + 1 - acc.length = 0 by omega]; rfl)
      refine ⟨e, f, h1, ?_, h3⟩
      rw [← hy]
      cases p with
      | nil => simpa using h2
      | cons a p => simpa using h2
theorem good_add {cut : Nat → Nat → Bool} {acc : List (List UInt8)} (h : Good cut acc) (c : UInt8) : Good cut (addByte cut acc c) := by
  rcases List.eq_nil_or_concat acc with rfl | ⟨ini, p, rfl⟩
  · exact good_one cut c
  · rw [List.concat_eq_append] at *
    rcases snoc_cases p with rfl | ⟨q, d, rfl⟩
    · exact absurd rfl (h.full [] (by simp))
    · cases hc : cut d.toNat c.toNat with
      | true => rw [addByte_new hc]; exact good_new h hc
      | false => rw [addByte_grow hc]; exact good_grow h hc
theorem good_pcs (cut : Nat → Nat → Bool) (l : List UInt8) : Good cut (pcs cut l) := by
  have key : ∀ (l : List UInt8) (acc : List (List UInt8)), Good cut acc → Good cut (l.foldl (addByte cut) acc) := by
    intro l
    induction l with
    | nil => intro acc h; exact h
    | cons c l ih => intro acc h; rw [List.foldl_cons]; exact ih _ (good_add h c)
  exact key l [] (good_nil cut)

theorem fold_len (cut : Nat → Nat → Bool) (l : List UInt8) : ∀ (ini : List (List UInt8)) (q : List UInt8) (y : UInt8), (l.foldl (addByte cut) (ini ++ [q ++ [y]])).length = ini.length + (l.foldl (addByte cut) [[y]]).length := by
  induction l with
  | nil => intro ini q y; simp
  | cons c l ih =>
    intro ini q y
    rw [List.foldl_cons, List.foldl_cons]
    cases hc : cut y.toNat c.toNat with
    | true =>
      rw [addByte_new hc, show addByte cut [[y]] c = [[y]] ++ [[] ++ [c]] from addByte_new (acc := []) (p := []) hc]
      rw [show ini ++ [q ++ [y]] ++ [[c]] = (ini ++ [q ++ [y]]) ++ [[] ++ [c]] from rfl, ih, ih]
      simp only [List.length_append, List.length_singleton]
      omega
    | false =>
      rw [addByte_grow hc, show addByte cut [[y]] c = [] ++ [[y] ++ [c]] from addByte_grow (acc := []) (p := []) hc]
      rw [ih, ih]
      simp

/-- how many pieces two texts together have -/
def joined (cut : Nat → Nat → Bool) (a b : List UInt8) : Nat :=
  match a.getLast?, b.head? with
  | some x, some y => if cut x.toNat y.toNat then 0 else 1
  | _, _ => 0
theorem pcs_append_len (cut : Nat → Nat → Bool) (a b : List UInt8) : (pcs cut (a ++ b)).length + joined cut a b = (pcs cut a).length + (pcs cut b).length := by
  have e : pcs cut (a ++ b) = b.foldl (addByte cut) (pcs cut a) := by simp [pcs]
  rw [e]
  cases b with
  | nil => simp only [joined, List.head?_nil, List.foldl_nil, pcs_nil, List.length_nil]; split <;> first | contradiction | rfl
  | cons y b =>
    rcases snoc_cases a with rfl | ⟨p, x, rfl⟩
    · simp [joined, pcs]
    · obtain ⟨ini, q, h⟩ := pcs_ends cut p x
      have eb : pcs cut (y :: b) = b.foldl (addByte cut) [[y]] := rfl
      rw [h, List.foldl_cons, eb]
      simp only [joined, List.getLast?_append, List.getLast?_singleton, Option.some_or, List.head?_cons]
      cases hc : cut x.toNat y.toNat with
      | true =>
        rw [addByte_new hc, show ini ++ [q ++ [x]] ++ [[y]] = (ini ++ [q ++ [x]]) ++ [[] ++ [y]] from rfl, fold_len]
        simp
      | false =>
        rw [addByte_grow hc, fold_len]
        simp
        omega
theorem pcs_len_zero {cut : Nat → Nat → Bool} {l : List UInt8} (h : (pcs cut l).length = 0) : l = [] := by
  rw [← pcs_flatten cut l, List.eq_nil_of_length_eq_zero h]; rfl
theorem joined_zero {cut : Nat → Nat → Bool} {a b : List UInt8} (h : (pcs cut a).length = 0 ∨ (pcs cut b).length = 0) : joined cut a b = 0 := by
  rcases h with h | h
  · rw [pcs_len_zero h]; rfl
  · rw [pcs_len_zero h]; simp only [joined, List.head?_nil]; split <;> first | contradiction | rfl
theorem pcs_empty {cut : Nat → Nat → Bool} {a : List UInt8} (h : 0 < (pcs cut a).length) : a ≠ [] := by
  rintro rfl
  simp [pcs_nil] at h
end Go.Proofs.Ytdppdjiigecjoaa
