/- Layer 1 (nat): a number in memory; trim, Of, Int. -/
import Derived.Test.YtnfehhblmoliaaaProg
import Derived.Test.YtnfehhblmoliaaaCell
import Derived.Test.YtnfehhblmoliaaaNat0
namespace Go.Proofs.Ytnfehhblmoliaaa
open Go.RowKit Go.Maps Go.WideMaps
set_option maxRecDepth 100000
set_option linter.unusedVariables false
set_option linter.unusedSimpArgs false

abbrev B32 : Nat := 4294967296
def u32V (x : Nat) : Value := .int .u32 (x : Int)
/-- a number in memory: a struct of its limbs -/
def NatIs (w : World) (v : Value) (n : Nat) : Prop := ∃ A c, v = .agg #[.slice A (dg B32 n).length c] ∧ Sl1 w A u32V (dg B32 n) ∧ (dg B32 n).length ≤ c
theorem NatIs.below {w w' : World} {v : Value} {n : Nat} (h : NatIs w v n) {B : Nat} (hb : Below B w w') (hB : w.heap.size ≤ B) : NatIs w' v n := by
  obtain ⟨A, c, rfl, h1, h2⟩ := h
  exact ⟨A, c, rfl, h1.below hb hB, h2⟩
theorem info_u32 : (Try.prog.info? 50).map (fun i => (i.zero, i.size, i.bytes)) = some (some (.int .u32 0), 1, 4) := by kernel_rfl
theorem one_u32 (l : List Nat) : ∀ u ∈ l.map u32V, u.oneCell' = true := by
  intro u hu
  obtain ⟨e, _, rfl⟩ := List.mem_map.1 hu
  rfl
theorem load_nat {w : World} {r : Nat} {v : Value} {t : TypeId} (h : w.heap[r]? = some (.cells #[v] t)) : (loadVar 26 ⟨r, 0, none⟩).run Try.prog w = .ok (.agg #[v]) w := by
  have n0 := blk_cell h 0
  simp only [List.getElem?_toArray, List.getElem?_cons_zero] at n0
  simp [go_sem, n0]

theorem Sl1.take {α : Type} {w : World} {A : Option Addr} {enc : α → Value} {xs : List α} (h : Sl1 w A enc xs) (k : Nat) : Sl1 w A enc (xs.take k) := by
  intro i x hx
  rw [List.getElem?_take] at hx
  split at hx
  · exact h i x hx
  · cases hx
theorem trim_at (l : List Nat) (A : Option Addr) (c : Nat) (w : World) (h : Sl1 w A u32V l) (hc : l.length ≤ c) (hb : ∀ x ∈ l, x < B32) (hlen : l.length < 1000000000) :
    Calls Try.prog 32 #[.slice A l.length c] w fun e w' => ∃ v, e = .returned v ∧ NatIs w' v (vl B32 l) ∧ Below w.heap.size w w' ∧ ∃ n c', v = .agg #[.slice A n c'] := by
  have HL := Lib.hid h
  have HB := Lib.hid hb
  clear h hb
  go_enter Try.func32, Try.ntmps32
  go_wp2_with fail
  have HBEL := Lib.hid ((Below.refl w.heap.size w).alloc (Nat.le_refl _) (.cells #[.slice none 0 0] 26))
  have HN := Lib.hid (blk_new w (.cells #[.slice none 0 0] 26))
  generalize hW : w.alloc (.cells #[.slice none 0 0] 26) = W0 at *
  obtain ⟨r, hr⟩ : ∃ r, w.heap.size = r := ⟨_, rfl⟩
  rw [hr]
  have HR := Lib.hid hr
  clear hW hr
  have f0 : W0.cell? ⟨r, 0, none⟩ = some (.slice none 0 0) := by have := blk_cell HN.out 0; rw [HR.out] at this; simpa using this
  have f1 : W0.frozen? ⟨r, 0, none⟩ = false := by have := blk_froz HN.out 0; rwa [HR.out] at this
  go_loopg [3] l.length (fun m v W => ∃ k : Nat, k = m ∧ v = .int .i64 (k : Int) ∧ k ≤ l.length ∧ (∀ i, k ≤ i → atL l i = 0) ∧ W = W0)
  case atStart => exact ⟨l.length, rfl, rfl, Nat.le_refl _, fun i hi => atL_ge hi, rfl⟩
  case round =>
    obtain ⟨k, rfl, rfl, hk, hz, rfl⟩ := hrel
    rename World => W1
    have HZ := Lib.hid hz
    clear hz
    have HNX : Hid (∀ v, (W1.setCell ⟨r, 0, none⟩ v).heap[r]? = some (.cells #[v] 26)) := Lib.hid (fun v => by have := blk_set HN.out 0 v; rw [HR.out] at this; simpa using this)
    have HBX : Hid (∀ v, Below w.heap.size w (W1.setCell ⟨r, 0, none⟩ v)) := Lib.hid (fun v => HBEL.out.setCell (p := ⟨r, 0, none⟩) (by rw [HR.out]; exact Nat.le_refl _) v)
    rcases Nat.eq_zero_or_pos k with rfl | hk0
    · have hE : (dg B32 (vl B32 l)) = [] := by rw [trim_dg (by decide) l HB.out 0 (Nat.zero_le _) HZ.out (Or.inl rfl)]; rfl
      have HE := Lib.hid hE
      clear hE
      have hcc : (0 : Int) ≤ (c : Int) := by omega
      go_wp2_with fail
      refine ret_cell1 rfl rfl (load_nat (HNX.out _)) ?_
      refine ⟨_, rfl, ⟨A, 0, by rw [HE.out]; rfl, by rw [HE.out]; exact Sl1.nil _ _ _, by rw [HE.out]; exact Nat.le_refl _⟩, HBX.out _, _, _, rfl⟩
    · obtain ⟨j, rfl⟩ : ∃ j, k = j + 1 := ⟨k - 1, by omega⟩
      obtain ⟨b, o, rfl, hcell⟩ := HL.out.at j (by omega)
      have j0 : (0 : Int) ≤ (j : Int) := by omega
      have j1 : (j : Int) < (l.length : Int) := by omega
      have wk : IntKind.i64.wrap ((j : Int) + 1 - 1) = (j : Int) := by rw [IntWalk.i64_in _ (by omega)]; omega
      have hcell' : W1.cell? ⟨b, o + j, none⟩ = some (.int .u32 (l[j] : Int)) := below_cell HBEL.out (Nat.le_refl _) hcell
      have HAJ := Lib.hid (atL_get (l := l) (i := j) (by omega))
      clear hcell
      generalize l[j] = x at *
      by_cases hx : x = 0
      · subst hx
        go_wp2_with fail
        go_roundg j
        case measure => omega
        case rel => exact ⟨j, rfl, rfl, by omega, fun i hi => by
          rcases Nat.eq_or_lt_of_le hi with e | e
          · rw [← e]; exact HAJ.out
          · exact HZ.out i (by omega), rfl⟩
      · have hx' : ¬ (x : Int) = 0 := by omega
        have HE : Hid (dg B32 (vl B32 l) = l.take (j + 1)) := Lib.hid (trim_dg (by decide) l HB.out (j + 1) hk HZ.out (Or.inr (by rw [Nat.add_sub_cancel, HAJ.out]; exact hx)))
        have hkc : ((j : Int) + 1) ≤ (c : Int) := by omega
        go_wp2_with fail
        refine ret_cell1 rfl rfl (load_nat (HNX.out _)) ?_
        have hln : (l.take (j + 1)).length = j + 1 := by rw [List.length_take, Nat.min_eq_left hk]
        refine ⟨_, rfl, ⟨some ⟨b, o, none⟩, j + 1, by rw [HE.out, hln], by rw [HE.out]; exact (HL.out.below (HBX.out _) (Nat.le_refl _)).take _, by rw [HE.out, hln]; exact Nat.le_refl _⟩, HBX.out _, _, _, rfl⟩
theorem trim_any (l : List Nat) (A : Option Addr) (c : Nat) (w : World) (h : Sl1 w A u32V l) (hc : l.length ≤ c) (hb : ∀ x ∈ l, x < B32) (hlen : l.length < 1000000000) :
    Calls Try.prog 32 #[.slice A l.length c] w fun e w' => ∃ v, e = .returned v ∧ NatIs w' v (vl B32 l) ∧ Below w.heap.size w w' := by
  refine (trim_at l A c w h hc hb hlen).mono ?_
  rintro e w1 ⟨v, h1, h2, h3, _⟩
  exact ⟨v, h1, h2, h3⟩

theorem eql_u32 (A : Option Addr) (n c : Nat) (w : World) : (binOp .eql 22 (.slice A n c) (.slice none 0 0)).run Try.prog w = .ok (.bool A.isNone) w := by
  cases A with
  | none => kernel_rfl
  | some a => kernel_rfl
theorem made_u32 (w : World) : (w.alloc (.cells #[] 50)).ownsRow w.heap.size 50 1 (.slice (some ⟨w.heap.size, 0, none⟩) 0 0) 0 [] :=
  ⟨by simp, .inr ⟨w.heap.size, 0, #[], rfl, Nat.le_refl _, blk_new w _, Nat.le_refl _, Nat.zero_le _, by simp, by simp⟩⟩
theorem own_len {w : World} {base n c : Nat} {e : TypeId} {size : Nat} {A : Option Addr} {xs : List Value} (h : w.ownsRow base e size (.slice A n c) n xs) : n ≤ c := by
  rcases h.2 with ⟨h1, h2⟩ | ⟨g', cap', cur, h1, hb, hg, hc1, hc2, hc3, ht⟩
  · omega
  · cases h1; exact hc1
theorem clone_u32 (l : List Nat) (A : Option Addr) (c : Nat) (w : World) (h : Sl1 w A u32V l) (hlen : l.length ≤ 1000) :
    Calls Try.prog 33 #[.slice A l.length c] w fun e w' => ∃ A' c', e = .returned (.slice A' l.length c') ∧ l.length ≤ c' ∧ Sl1 w' A' u32V l ∧ Below w.heap.size w w' := by
  have HL := Lib.hid h
  clear h
  cases A with
  | none =>
    have hl0 : l = [] := by
      rcases l with _ | ⟨x, l⟩
      · rfl
      · obtain ⟨b, o, e, _⟩ := HL.out 0 x rfl
        cases e
    subst hl0
    have heq := eql_u32 none 0 c w
    simp only [Option.isNone_none] at heq
    go_enter Try.func33, Try.ntmps33
    go_wp2_with fail
    go_ret
    exact ⟨none, 0, rfl, Nat.le_refl _, Sl1.nil _ _ _, Below.refl _ _⟩
  | some a =>
    have heq := eql_u32 (some a) l.length c w
    simp only [Option.isNone_some] at heq
    have HE := Lib.hid (made_u32 w)
    have HN : Hid (∀ j u, (l.map u32V)[j]? = some u → (w.alloc (.cells #[] 50)).cell? (a.add j) = some u) := Lib.hid (by
      intro j u hu
      rw [List.getElem?_map] at hu
      obtain ⟨x, hx, rfl⟩ := Option.map_eq_some_iff.1 hu
      obtain ⟨b, o, e, hc⟩ := HL.out j x hx
      cases e
      rw [add_plain]
      exact below_cell ((Below.refl w.heap.size w).alloc (Nat.le_refl _) _) (Nat.le_refl _) hc)
    have H1 := Lib.hid (one_u32 l)
    have HLEN : Hid ((l.map u32V).length = l.length * 1) := Lib.hid (by simp)
    obtain ⟨i, hif, hz0, hz1, hz2⟩ := info_parts info_u32
    have HI := Lib.hid hif
    have HZ := Lib.hid (And.intro hz0 (And.intro hz1 hz2))
    clear hif hz0 hz1 hz2
    go_enter Try.func33, Try.ntmps33
    go_wp2_with (at_builtin; refine wpList_append_own_at _ rfl _ _ 22 rfl w.heap.size 50 i (.int .u32 0) 1 4 Try.underlying22 HI.out HZ.out.1 HZ.out.2.1 HZ.out.2.2 rfl (by decide) _ 0 [] rfl HE.out a l.length c _ rfl HLEN.out HN.out H1.out (by unfold maxLen; omega) (by omega) (by simp) ?_)
    intro v' w' r1 r2 _ _
    have hb : Below w.heap.size w w' := by
      have h0 := (Below.refl w.heap.size w).alloc (Nat.le_refl _) (.cells #[] 50)
      have hk : Keep (fun k => k = w.heap.size) (w.alloc (.cells #[] 50)) w' := Keep.of_grown r2 (fun k hk => by simpa [Value.ownBlock] using hk.symm)
      exact h0.trans (hk.below (by simp) (fun x hx => by omega))
    obtain ⟨A, c', rfl⟩ := own_slice r1
    have HB := Lib.hid hb
    have HR := Lib.hid r1
    clear r1 r2 hb
    go_wp2_with fail
    go_ret
    exact ⟨_, _, rfl, own_len HR.out, own_sl1 HR.out, HB.out⟩

/-- a slice of limbs does not lie in the block of a struct -/
theorem sl1_ne {V : World} {r : Nat} {A : Option Addr} {l : List Nat} {s : Value} {t : TypeId} (h : V.heap[r]? = some (.cells #[s] t)) (hs : ∀ x : Nat, s ≠ u32V x) (hl : Sl1 V A u32V l) (hne : l ≠ []) : ∀ a, A = some a → a.block ≠ r := by
  intro a ha e
  obtain ⟨x, l', rfl⟩ := List.exists_cons_of_ne_nil hne
  obtain ⟨b, o, hA, hc⟩ := hl 0 x rfl
  rw [hA] at ha
  cases ha
  simp only at e
  subst e
  rw [blk_cell h, Nat.add_zero] at hc
  rcases o with _ | o
  · simp at hc; exact hs _ hc
  · simp at hc
theorem sl1_put {V : World} {r : Nat} {A : Option Addr} {l : List Nat} {s : Value} {t : TypeId} (h : V.heap[r]? = some (.cells #[s] t)) (hs : ∀ x : Nat, s ≠ u32V x) (hl : Sl1 V A u32V l) (u : Value) : Sl1 (V.setCell ⟨r, 0, none⟩ u) A u32V l := by
  by_cases hne : l = []
  · subst hne; exact Sl1.nil _ _ _
  · exact sl1_keep hl (Keep.setCell (F := fun g => g = r) (p := ⟨r, 0, none⟩) (Keep.refl _ _) (Or.inl rfl) u) (sl1_ne h hs hl hne)
theorem NatIs.put {V : World} {r : Nat} {v : Value} {n : Nat} {s : Value} {t : TypeId} (hl : NatIs V v n) (h : V.heap[r]? = some (.cells #[s] t)) (hs : ∀ x : Nat, s ≠ u32V x) (u : Value) : NatIs (V.setCell ⟨r, 0, none⟩ u) v n := by
  obtain ⟨A, c, rfl, h1, h2⟩ := hl
  exact ⟨A, c, rfl, sl1_put h hs h1 u, h2⟩
theorem sl_ne_u32 (A : Option Addr) (n c : Nat) : ∀ x : Nat, Value.slice A n c ≠ u32V x := by intro x; unfold u32V; simp
/-- the cell of a result: read, written -/
theorem cell_facts {V : World} {r : Nat} {s : Value} {t : TypeId} (h : V.heap[r]? = some (.cells #[s] t)) : V.cell? ⟨r, 0, none⟩ = some s ∧ V.frozen? ⟨r, 0, none⟩ = false := by
  refine ⟨?_, blk_froz h 0⟩
  have := blk_cell h 0
  simpa using this
theorem cell_put {V : World} {r : Nat} {s : Value} {t : TypeId} (h : V.heap[r]? = some (.cells #[s] t)) (u : Value) : (V.setCell ⟨r, 0, none⟩ u).heap[r]? = some (.cells #[u] t) := by
  simpa using blk_set h 0 u
theorem cell_stays {w V : World} {o : Obj} (hb : Below (w.alloc o).heap.size (w.alloc o) V) : V.heap[w.heap.size]? = some o := blk_below hb (by rw [size_alloc]; omega) (blk_new w o)

theorem of_any (l : List Nat) (A : Option Addr) (c : Nat) (w : World) (h : Sl1 w A u32V l) (hb : ∀ x ∈ l, x < B32) (hlen : l.length ≤ 1000) :
    Calls Try.prog 12 #[.slice A l.length c] w fun e w' => ∃ v, e = .returned v ∧ NatIs w' v (vl B32 l) ∧ Below w.heap.size w w' := by
  have hb0 := (Below.refl w.heap.size w).alloc (Nat.le_refl _) (.cells #[.slice none 0 0] 26)
  have HL := Lib.hid (h.below hb0 (Nat.le_refl _))
  have HX := Lib.hid hb
  have HB0 := Lib.hid hb0
  have HR := Lib.hid (blk_new w (.cells #[.slice none 0 0] 26))
  have HS : Hid (w.heap.size < (w.alloc (.cells #[.slice none 0 0] 26)).heap.size) := Lib.hid (by simp)
  clear h hb hb0
  go_enter Try.func12, Try.ntmps12
  go_wp2_with fail
  generalize w.alloc (.cells #[.slice none 0 0] 26) = W0 at *
  generalize hr : w.heap.size = r at *
  have HSR := Lib.hid hr
  clear hr
  refine (clone_u32 l A c _ HL.out hlen).mono ?_
  rintro e w1 ⟨A1, c1, rfl, hc1, h1, b1⟩
  have H1 := Lib.hid h1
  have B1 := Lib.hid b1
  clear h1 b1
  go_wp2_with fail
  refine (trim_any l A1 c1 w1 H1.out hc1 HX.out (by omega)).mono ?_
  rintro e w2 ⟨v, rfl, ⟨A2, c2, rfl, h2, h3⟩, b2⟩
  have hR := blk_below B1.out HS.out HR.out
  have hR2 := blk_below b2 (Nat.lt_of_lt_of_le HS.out B1.out.size) hR
  obtain ⟨f0, f1⟩ := cell_facts hR2
  have HP := Lib.hid (cell_put hR2 (.slice A2 (dg B32 (vl B32 l)).length c2))
  have HN := Lib.hid (NatIs.put ⟨A2, c2, rfl, h2, h3⟩ hR2 (sl_ne_u32 _ _ _) (.slice A2 (dg B32 (vl B32 l)).length c2))
  have HB := Lib.hid (((HB0.out.trans (B1.out.mono (Nat.le_of_lt HS.out))).trans (b2.mono (Nat.le_trans (Nat.le_of_lt HS.out) B1.out.size))).setCell (p := ⟨r, 0, none⟩) (Nat.le_refl _) (.slice A2 (dg B32 (vl B32 l)).length c2))
  clear h2 h3 b2 hR hR2
  go_wp2_with fail
  refine ret_cell1 rfl rfl (load_nat HP.out) ?_
  exact ⟨_, rfl, HN.out, by rw [HSR.out]; exact HB.out⟩
end Go.Proofs.Ytnfehhblmoliaaa
