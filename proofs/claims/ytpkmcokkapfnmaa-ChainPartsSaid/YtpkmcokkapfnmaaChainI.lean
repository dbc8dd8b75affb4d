/- Layer 5 (chain): of what is made: its bytes, what stands side by side, where it may be cut: the plain law. -/
import Derived.Test.YtpkmcokkapfnmaaChainH
namespace Go.Proofs.Ytpkmcokkapfnmaa
set_option linter.unusedVariables false
set_option linter.unusedSimpArgs false

theorem rep_len (a b c : Int) : ∀ l, (rep a b c l).length ≤ l.length
  | [] => Nat.le_refl _
  | [x] => Nat.le_refl _
  | x :: y :: l => by
    rw [rep]
    split
    · have := rep_len a b c l
      simp only [List.length_cons]; omega
    · have := rep_len a b c (y :: l)
      simp only [List.length_cons] at this ⊢; omega
theorem seqE_len : ∀ (M : List (Int × Int)) (c : Int) (l : List Int), (seqE M c l).length ≤ l.length
  | [], _, _ => Nat.le_refl _
  | m :: M, c, l => Nat.le_trans (seqE_len M (c + 1) (rep m.1 m.2 c l)) (rep_len _ _ _ _)
theorem encT_len (T : List Ent) (bel : Int) (s : ByteArray) : (encT T bel s.data.toList).length ≤ s.size := by
  refine Nat.le_trans (seqE_len _ _ _) ?_
  unfold bysI
  rw [List.length_map, dataLen]
  exact Nat.le_refl _

/-! what stands side by side -/
theorem adj_cons (x : Int) (R : List Int) (u v : Int) : Adj (x :: R) u v ↔ (u = x ∧ R.head? = some v) ∨ Adj R u v := by
  rcases R with _ | ⟨y, R⟩
  · simp [adj_one, adj_nil]
  · rw [adj_cons2]
    simp only [List.head?_cons, Option.some.injEq]
    constructor
    · rintro (⟨h1, h2⟩ | h)
      · exact .inl ⟨h1.symm, h2⟩
      · exact .inr h
    · rintro (⟨h1, h2⟩ | h)
      · exact .inl ⟨h1.symm, h2⟩
      · exact .inr h
theorem rep_head (a b c : Int) : ∀ (l : List Int) (z : Int), (rep a b c l).head? = some z → z = c ∨ l.head? = some z
  | [], z, h => .inr h
  | [x], z, h => .inr h
  | x :: y :: l, z, h => by
    rw [rep] at h
    split at h
    · simp at h; exact .inl h.symm
    · simp at h; exact .inr (by simp [h])
theorem rep_adj (a b c : Int) : ∀ (l : List Int) (x y : Int), Adj (rep a b c l) x y → x = c ∨ y = c ∨ Adj l x y
  | [], x, y, h => .inr (.inr h)
  | [z], x, y, h => .inr (.inr h)
  | u :: v :: l, x, y, h => by
    rw [rep] at h
    split at h
    · rw [adj_cons] at h
      rcases h with ⟨h1, _⟩ | h
      · exact .inl h1
      · rcases rep_adj a b c l x y h with h | h | h
        · exact .inl h
        · exact .inr (.inl h)
        · refine .inr (.inr ?_)
          rw [adj_cons, adj_cons]
          exact .inr (.inr h)
    · rw [adj_cons] at h
      rcases h with ⟨h1, h2⟩ | h
      · rcases rep_head a b c (v :: l) y h2 with h | h
        · exact .inr (.inl h)
        · refine .inr (.inr ?_)
          rw [adj_cons]
          exact .inl ⟨h1, h⟩
      · rcases rep_adj a b c (v :: l) x y h with h | h | h
        · exact .inl h
        · exact .inr (.inl h)
        · refine .inr (.inr ?_)
          rw [adj_cons]
          exact .inr h
theorem rep_no (a b c : Int) (h1 : c ≠ a) (h2 : c ≠ b) : ∀ l : List Int, ¬ Adj (rep a b c l) a b
  | [], h => adj_nil _ _ h
  | [x], h => adj_one _ _ _ h
  | x :: y :: l, h => by
    rw [rep] at h
    split at h
    · rw [adj_cons] at h
      rcases h with ⟨e, _⟩ | h
      · exact h1 e.symm
      · exact rep_no a b c h1 h2 l h
    · rename_i hn
      rw [adj_cons] at h
      rcases h with ⟨e, e2⟩ | h
      · rcases rep_head a b c (y :: l) b e2 with e3 | e3
        · exact h2 e3.symm
        · simp at e3
          exact hn ⟨e.symm, e3⟩
      · exact rep_no a b c h1 h2 (y :: l) h
theorem seqE_keep (a b : Int) : ∀ (M : List (Int × Int)) (c : Int) (l : List Int), a < c → b < c → ¬ Adj l a b → ¬ Adj (seqE M c l) a b
  | [], _, _, _, _, h => h
  | m :: M, c, l, ha, hb, h => seqE_keep a b M (c + 1) (rep m.1 m.2 c l) (by omega) (by omega) (fun e => by
      rcases rep_adj _ _ _ _ _ _ e with h1 | h1 | h1
      · omega
      · omega
      · exact h h1)
theorem seqE_no : ∀ (M : List (Int × Int)) (c : Int) (l : List Int), OkM M c → ∀ (k : Nat) m, M[k]? = some m → ¬ Adj (seqE M c l) m.1 m.2
  | [], _, _, _, k, m, h => by simp at h
  | x :: M, c, l, ho, 0, m, h => by
    simp at h
    subst h
    have h0 := ho 0 x rfl
    exact seqE_keep _ _ M (c + 1) _ (by omega) (by omega) (rep_no _ _ _ (by omega) (by omega) l)
  | x :: M, c, l, ho, k + 1, m, h => seqE_no M (c + 1) _ ho.tail k m (by simpa using h)

/-! the bytes -/
theorem rep_cat (T : List Ent) (a b c : Int) (h : bytesT T c = bytesT T a ++ bytesT T b) : ∀ l : List Int, catT T (rep a b c l) = catT T l
  | [] => rfl
  | [x] => rfl
  | x :: y :: l => by
    rw [rep]
    split
    · rename_i e
      have ih := rep_cat T a b c h l
      unfold catT at ih ⊢
      rw [List.flatMap_cons, List.flatMap_cons, List.flatMap_cons, ih, h, e.1, e.2, List.append_assoc]
    · have ih := rep_cat T a b c h (y :: l)
      unfold catT at ih ⊢
      rw [List.flatMap_cons, ih]
      simp
theorem seqE_cat (T : List Ent) : ∀ (M : List (Int × Int)) (c : Int) (l : List Int), (∀ (k : Nat) m, M[k]? = some m → bytesT T (c + k) = bytesT T m.1 ++ bytesT T m.2) → catT T (seqE M c l) = catT T l
  | [], _, _, _ => rfl
  | m :: M, c, l, h => by
    rw [seqE, seqE_cat T M (c + 1) _ (fun k x hx => by have := h (k + 1) x (by simpa using hx); rw [← this]; congr 1; omega)]
    exact rep_cat T _ _ _ (by have := h 0 m rfl; simpa using this) l
theorem rep_all (p : Int → Prop) (a b c : Int) (hc : p c) : ∀ l : List Int, (∀ x ∈ l, p x) → ∀ x ∈ rep a b c l, p x
  | [], h => h
  | [x], h => h
  | x :: y :: l, h => by
    rw [rep]
    split
    · intro z hz
      rcases List.mem_cons.1 hz with rfl | hz
      · exact hc
      · exact rep_all p a b c hc l (fun u hu => h u (by simp [hu])) z hz
    · intro z hz
      rcases List.mem_cons.1 hz with rfl | hz
      · exact h _ (by simp)
      · exact rep_all p a b c hc (y :: l) (fun u hu => h u (List.mem_cons_of_mem _ hu)) z hz
theorem seqE_all (p : Int → Prop) : ∀ (M : List (Int × Int)) (c : Int) (l : List Int), (∀ k : Nat, k < M.length → p (c + k)) → (∀ x ∈ l, p x) → ∀ x ∈ seqE M c l, p x
  | [], _, _, _, h => h
  | m :: M, c, l, hM, h => by
    rw [seqE]
    refine seqE_all p M (c + 1) _ (fun k hk => ?_) (rep_all p _ _ _ ?_ l h)
    · have := hM (k + 1) (by simpa using hk)
      rw [show c + 1 + (k : Int) = c + ((k + 1 : Nat) : Int) by omega]
      exact this
    · have := hM 0 (by simp)
      simpa using this
theorem mrgsB_at {T : List Ent} (hT : OkT T) {bel : Int} {k : Nat} {m : Int × Int} (h : (mrgsB T bel)[k]? = some m) : hasT T (256 + (k : Int)) = true ∧ bytesT T (256 + (k : Int)) = bytesT T m.1 ++ bytesT T m.2 := by
  unfold mrgsB at h
  rw [List.getElem?_take] at h
  by_cases hlt : k < (bel - 256).toNat
  · rw [if_pos hlt] at h
    obtain ⟨h1, h2⟩ := mrgs_at h
    obtain ⟨q1, _, _, q4, q5, _⟩ := made_all hT (i := 256 + k) (by omega) h1
    have e : parT T ((256 + k : Nat) : Int) = m := by unfold parT; rw [if_pos q1]; exact h2
    rw [e] at q5
    rw [show (256 : Int) + (k : Int) = ((256 + k : Nat) : Int) by omega]
    exact ⟨q4, q5⟩
  · rw [if_neg hlt] at h; simp at h
theorem byte_has {T : List Ent} (hT : OkT T) {i : Nat} (hi : i < 256) : hasT T (i : Int) = true ∧ bytesT T (i : Int) = [UInt8.ofNat i] := by
  have h2 := okT_256 hT
  have hh : hasT T (i : Int) = true := by simp [hasT]; omega
  refine ⟨hh, ?_⟩
  unfold bytesT
  rw [if_pos hh, base_ent hT hi]
theorem bysI_cat {T : List Ent} (hT : OkT T) (s : List UInt8) : catT T (bysI s) = s := by
  induction s with
  | nil => rfl
  | cons x s ih =>
    have e : catT T (bysI (x :: s)) = bytesT T (x.toNat : Int) ++ catT T (bysI s) := rfl
    rw [e, ih, (byte_has hT x.toNat_lt).2]
    simp
theorem bysI_has {T : List Ent} (hT : OkT T) (s : List UInt8) : ∀ x ∈ bysI s, hasT T x = true := by
  intro x hx
  unfold bysI at hx
  obtain ⟨c, _, rfl⟩ := List.mem_map.1 hx
  exact (byte_has hT c.toNat_lt).1
/-- the tokens' bytes are the bytes again -/
theorem encT_cat {T : List Ent} (hT : OkT T) (bel : Int) (s : List UInt8) : catT T (encT T bel s) = s := by
  unfold encT
  rw [seqE_cat T _ _ _ (fun k m h => (mrgsB_at hT h).2), bysI_cat hT]
theorem encT_has {T : List Ent} (hT : OkT T) (bel : Int) (s : List UInt8) : ∀ x ∈ encT T bel s, hasT T x = true := by
  unfold encT
  refine seqE_all (fun x => hasT T x = true) _ _ _ (fun k hk => (mrgsB_at hT (List.getElem?_eq_getElem hk)).1) (bysI_has hT s)
/-- what stands side by side are no token's parents -/
theorem encT_no {T : List Ent} (hT : OkT T) (s : List UInt8) {a b : Int} (h : Adj (encT T T.length s) a b) : pairT T (a, b) = none := by
  cases hp : pairT T (a, b) with
  | none => rfl
  | some i =>
    exfalso
    have hlt : i < T.length := by
      unfold pairT at hp
      rw [List.findIdx?_eq_some_iff_getElem] at hp
      exact hp.1
    have hb : pairB T T.length a b = some (i : Int) := by unfold pairB; rw [hp]; simp; omega
    obtain ⟨k, hk, _⟩ := (pairB_iff hT _ a b _).1 hb
    exact seqE_no _ _ _ (mrgsB_ok hT _) k _ hk h

/-! where it may be cut -/
theorem rep_split (a b c : Int) : ∀ (l W1 W2 : List Int), rep a b c l = W1 ++ W2 → ∃ U1 U2, l = U1 ++ U2 ∧ W1 = rep a b c U1 ∧ W2 = rep a b c U2
  | l, [], W2, h => ⟨[], l, rfl, rfl, h.symm⟩
  | [], w :: W1, W2, h => by simp [rep] at h
  | [x], w :: W1, W2, h => by
    simp [rep] at h
    obtain ⟨rfl, rfl, rfl⟩ := h
    exact ⟨[x], [], rfl, rfl, rfl⟩
  | x :: y :: l, w :: W1, W2, h => by
    rw [rep] at h
    split at h
    · rename_i e
      simp at h
      obtain ⟨rfl, h⟩ := h
      obtain ⟨U1, U2, rfl, rfl, rfl⟩ := rep_split a b c l W1 W2 h
      exact ⟨x :: y :: U1, U2, rfl, by rw [rep, if_pos e], rfl⟩
    · rename_i e
      simp at h
      obtain ⟨rfl, h⟩ := h
      obtain ⟨U1, U2, h1, rfl, rfl⟩ := rep_split a b c (y :: l) W1 W2 h
      refine ⟨x :: U1, U2, by rw [List.cons_append, ← h1], ?_, rfl⟩
      rcases U1 with _ | ⟨z, U1⟩
      · rfl
      · simp at h1
        rw [← h1.1, rep, if_neg e]
theorem seqE_split : ∀ (M : List (Int × Int)) (c : Int) (l W1 W2 : List Int), seqE M c l = W1 ++ W2 → ∃ U1 U2, l = U1 ++ U2 ∧ W1 = seqE M c U1 ∧ W2 = seqE M c U2
  | [], _, l, W1, W2, h => ⟨W1, W2, h, rfl, rfl⟩
  | m :: M, c, l, W1, W2, h => by
    obtain ⟨V1, V2, h1, rfl, rfl⟩ := seqE_split M (c + 1) _ W1 W2 h
    obtain ⟨U1, U2, rfl, rfl, rfl⟩ := rep_split _ _ _ l V1 V2 h1
    exact ⟨U1, U2, rfl, rfl, rfl⟩
theorem bysI_len (s : List UInt8) : (bysI s).length = s.length := by unfold bysI; rw [List.length_map]
theorem bysI_append (a b : List UInt8) : bysI (a ++ b) = bysI a ++ bysI b := by unfold bysI; rw [List.map_append]
theorem cat_len_bys {T : List Ent} (hT : OkT T) (U : List Int) (s : List UInt8) (h : ∀ x ∈ U, x ∈ bysI s) : (catT T U).length = U.length := by
  induction U with
  | nil => rfl
  | cons x U ih =>
    have hx := h x (by simp)
    unfold bysI at hx
    obtain ⟨c, _, rfl⟩ := List.mem_map.1 hx
    have e : catT T ((c.toNat : Int) :: U) = bytesT T (c.toNat : Int) ++ catT T U := rfl
    rw [e, List.length_append, ih (fun y hy => h y (by simp [hy])), (byte_has hT c.toNat_lt).2]
    simp; omega
/-- where nothing goes across, both sides are made alone -/
theorem encT_cut {T : List Ent} (hT : OkT T) (bel : Int) (a b : List UInt8) {W1 W2 : List Int} (h : encT T bel (a ++ b) = W1 ++ W2) (hl : (catT T W1).length = a.length) : W1 = encT T bel a ∧ W2 = encT T bel b := by
  unfold encT at h ⊢
  obtain ⟨U1, U2, h1, h2, h3⟩ := seqE_split _ _ _ _ _ h
  have hmem : ∀ x ∈ U1, x ∈ bysI (a ++ b) := fun x hx => by rw [h1]; simp [hx]
  have hc : (catT T W1).length = U1.length := by
    rw [h2, seqE_cat T _ _ _ (fun k m h => (mrgsB_at hT h).2)]
    exact cat_len_bys hT U1 (a ++ b) hmem
  rw [bysI_append] at h1
  obtain ⟨e1, e2⟩ := List.append_inj h1 (by rw [bysI_len]; omega)
  rw [e1, e2]
  exact ⟨h2, h3⟩
end Go.Proofs.Ytpkmcokkapfnmaa
