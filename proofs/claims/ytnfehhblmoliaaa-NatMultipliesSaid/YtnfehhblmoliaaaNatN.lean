/- Layer 1 (nat): slices of slices that came in; numbers that were just made; rows of numbers. -/
import Derived.Test.YtnfehhblmoliaaaNatM
import Derived.Test.YtnfehhblmoliaaaNatLawD
namespace Go.Proofs.Ytnfehhblmoliaaa
open Go.RowKit Go.Maps Go.WideMaps
set_option maxRecDepth 100000
set_option linter.unusedVariables false
set_option linter.unusedSimpArgs false

section
open Go.ChangeShapes Go.WideShapes Go.Deep
variable {P : Program} {H : Type} {enc : TypeId × Value → H} {w : World} {base : Nat} {spare : Nat → Bool} {held : Bool}
/-- a slice of slices of integers -/
def RowsIs (w : World) (A : Option Addr) (k : IntKind) (xss : List (List Int)) : Prop :=
  ∀ i xs, xss[i]? = some xs → ∃ b o A' c', A = some ⟨b, o, none⟩ ∧ w.cell? ⟨b, o + i, none⟩ = some (.slice A' xs.length c') ∧ Sl1 w A' (Value.int k) xs ∧ ∀ y ∈ xs, (Lit.int k y).wf = true
theorem arg_rows {t e e2 : TypeId} {k : IntKind} {fuel : Nat} {A : Option Addr} {n c : Nat} {x : DataW H × List MemPlace} (ht : P.underlying t = some (.slice e)) (hC : P.cellsOf e = 1) (he : P.underlying e = some (.slice e2)) (he2 : P.underlying e2 = some (.int k)) (hC2 : P.cellsOf e2 = 1)
    (h : DataW.trod enc P w base spare held fuel t [.slice A n c] = some x) :
    ∃ xss : List (List Int), xss.length = n ∧ n ≤ c ∧ c ≤ maxLen ∧ RowsIs w A k xss := by
  rcases open_slice1 ht hC h with ⟨h0, _⟩ | ⟨a, len, cap, m, f, V, D, Pl, hcs, hb, hl, hm, hmm, hx, hi⟩
  · cases h0
    exact ⟨[], rfl, Nat.le_refl _, Nat.zero_le _, fun i xs h => by simp at h⟩
  · cases hcs
    have hlm : n ≤ m := by rw [hmm]; split <;> omega
    obtain ⟨g, hg⟩ := choose_lt (α := List Int) (p := fun i y => ∃ A' c', V i = .slice A' y.length c' ∧ Sl1 w A' (Value.int k) y ∧ ∀ z ∈ y, (Lit.int k z).wf = true) (n := m) (fun i him => by
      obtain ⟨_, h2⟩ := hi i him
      rcases open_slice1 he hC2 h2 with ⟨h0, _⟩ | ⟨a', len', cap', m', f', V', D', Pl', hcs', _⟩
      · simp only [List.cons.injEq, and_true] at h0
        exact ⟨[], none, 0, h0, Sl1.nil _ _ _, by simp⟩
      · simp only [List.cons.injEq, and_true] at hcs'
        rw [hcs'] at h2
        obtain ⟨ys, h3, _, _, h4, h5⟩ := arg_ints he he2 hC2 h2
        exact ⟨ys, some a', cap', by rw [hcs', h3], h5, h4⟩)
    refine ⟨(List.range n).map g, by simp, hl, hm, ?_⟩
    intro i y hy
    rw [List.getElem?_map, Option.map_eq_some_iff] at hy
    obtain ⟨i', hi', rfl⟩ := hy
    obtain ⟨hlt, hi''⟩ := List.getElem?_eq_some_iff.1 hi'
    rw [List.getElem_range] at hi''
    subst hi''
    rw [List.length_range] at hlt
    obtain ⟨A', c', h1, h2, h3⟩ := hg i (by omega)
    have hc := (hi i (by omega)).1
    rw [h1] at hc
    have h0 := addr_plain (hi 0 (by omega)).1
    have ha : a = ⟨a.block, a.off, none⟩ := by
      have : a.add 0 = a := by unfold Addr.add; simp
      rwa [this] at h0
    refine ⟨a.block, a.off, A', c', by rw [← ha], ?_, h2, h3⟩
    rw [ha] at hc
    have hadd := add_plain a.block a.off i
    rwa [hadd] at hc
end
/-- a copy, all its own -/
theorem clone_at (l : List Nat) (A : Option Addr) (c : Nat) (w : World) (h : Sl1 w A u32V l) (hlen : l.length ≤ 1000) :
    Calls Try.prog 33 #[.slice A l.length c] w fun e w' => ∃ A' c', e = .returned (.slice A' l.length c') ∧ l.length ≤ c' ∧ Sl1 w' A' u32V l ∧ Below w.heap.size w w' ∧ ∀ a, A' = some a → w.heap.size ≤ a.block ∧ a.block < w'.heap.size := by
  have HL := Lib.hid h
  clear h
  cases A with
  | none =>
    have hl0 : l = [] := by
      rcases l with _ | ⟨x, l⟩
      · rfl
      · obtain ⟨b, o, e, _⟩ := HL.out 0 x rfl
        cases e
    subst hl0
    have heq := eql_u32 none 0 c w
    simp only [Option.isNone_none] at heq
    go_enter Try.func33, Try.ntmps33
    go_wp2_with fail
    go_ret
    exact ⟨none, 0, rfl, Nat.le_refl _, Sl1.nil _ _ _, Below.refl _ _, fun a ha => by cases ha⟩
  | some a =>
    have heq := eql_u32 (some a) l.length c w
    simp only [Option.isNone_some] at heq
    have HE := Lib.hid (made_u32 w)
    have HN : Hid (∀ j u, (l.map u32V)[j]? = some u → (w.alloc (.cells #[] 50)).cell? (a.add j) = some u) := Lib.hid (by
      intro j u hu
      rw [List.getElem?_map] at hu
      obtain ⟨x, hx, rfl⟩ := Option.map_eq_some_iff.1 hu
      obtain ⟨b, o, e, hc⟩ := HL.out j x hx
      cases e
      rw [add_plain]
      exact below_cell ((Below.refl w.heap.size w).alloc (Nat.le_refl _) _) (Nat.le_refl _) hc)
    have H1 := Lib.hid (one_u32 l)
    have HLEN : Hid ((l.map u32V).length = l.length * 1) := Lib.hid (by simp)
    obtain ⟨i, hif, hz0, hz1, hz2⟩ := info_parts info_u32
    have HI := Lib.hid hif
    have HZ := Lib.hid (And.intro hz0 (And.intro hz1 hz2))
    clear hif hz0 hz1 hz2
    go_enter Try.func33, Try.ntmps33
    go_wp2_with (at_builtin; refine wpList_append_own_at _ rfl _ _ 22 rfl w.heap.size 50 i (.int .u32 0) 1 4 Try.underlying22 HI.out HZ.out.1 HZ.out.2.1 HZ.out.2.2 rfl (by decide) _ 0 [] rfl HE.out a l.length c _ rfl HLEN.out HN.out H1.out (by unfold maxLen; omega) (by omega) (by simp) ?_)
    intro v' w' r1 r2 _ _
    have hb : Below w.heap.size w w' := by
      have h0 := (Below.refl w.heap.size w).alloc (Nat.le_refl _) (.cells #[] 50)
      have hk : Keep (fun k => k = w.heap.size) (w.alloc (.cells #[] 50)) w' := Keep.of_grown r2 (fun k hk => by simpa [Value.ownBlock] using hk.symm)
      exact h0.trans (hk.below (by simp) (fun x hx => by omega))
    obtain ⟨A, c', rfl⟩ := own_slice r1
    have HB := Lib.hid hb
    have HR := Lib.hid r1
    clear r1 r2 hb
    go_wp2_with fail
    go_ret
    refine ⟨_, _, rfl, own_len HR.out, own_sl1 HR.out, HB.out, fun a ha => ?_⟩
    subst ha
    rcases HR.out.2 with ⟨h1, _⟩ | ⟨g, cap, cur, h1, hb, hg, _⟩
    · cases h1
    · cases h1; exact ⟨hb, blk_lt hg⟩

/-- a number that was just made: its limbs lie in a block that is new -/
theorem of_at (l : List Nat) (A : Option Addr) (c : Nat) (w : World) (h : Sl1 w A u32V l) (hb : ∀ x ∈ l, x < B32) (hlen : l.length ≤ 1000) :
    Calls Try.prog 12 #[.slice A l.length c] w fun e w' => ∃ A' n c', e = .returned (.agg #[.slice A' n c']) ∧ NatIs w' (.agg #[.slice A' n c']) (vl B32 l) ∧ Below w.heap.size w w' ∧ ∀ a, A' = some a → w.heap.size ≤ a.block ∧ a.block < w'.heap.size := by
  have hb0 := (Below.refl w.heap.size w).alloc (Nat.le_refl _) (.cells #[.slice none 0 0] 26)
  have HL := Lib.hid (h.below hb0 (Nat.le_refl _))
  have HX := Lib.hid hb
  have HB0 := Lib.hid hb0
  have HR := Lib.hid (blk_new w (.cells #[.slice none 0 0] 26))
  have HS : Hid (w.heap.size < (w.alloc (.cells #[.slice none 0 0] 26)).heap.size) := Lib.hid (by simp)
  clear h hb hb0
  go_enter Try.func12, Try.ntmps12
  go_wp2_with fail
  generalize w.alloc (.cells #[.slice none 0 0] 26) = W0 at *
  generalize hr : w.heap.size = r at *
  have HSR := Lib.hid hr
  clear hr
  refine (clone_at l A c _ HL.out hlen).mono ?_
  rintro e w1 ⟨A1, c1, rfl, hc1, h1, b1, hfr⟩
  have H1 := Lib.hid h1
  have B1 := Lib.hid b1
  have HFR := Lib.hid hfr
  clear h1 b1 hfr
  go_wp2_with fail
  refine (trim_at l A1 c1 w1 H1.out hc1 HX.out (by omega)).mono ?_
  rintro e w2 ⟨v, rfl, ⟨A2, c2, rfl, h2, h3⟩, b2, n9, c9, he⟩
  have HA2 : Hid (A2 = A1) := Lib.hid (by simp at he; exact he.1)
  have hR := blk_below B1.out HS.out HR.out
  have hR2 := blk_below b2 (Nat.lt_of_lt_of_le HS.out B1.out.size) hR
  obtain ⟨f0, f1⟩ := cell_facts hR2
  have HP := Lib.hid (cell_put hR2 (.slice A2 (dg B32 (vl B32 l)).length c2))
  have HN := Lib.hid (NatIs.put ⟨A2, c2, rfl, h2, h3⟩ hR2 (sl_ne_u32 _ _ _) (.slice A2 (dg B32 (vl B32 l)).length c2))
  have HB := Lib.hid (((HB0.out.trans (B1.out.mono (Nat.le_of_lt HS.out))).trans (b2.mono (Nat.le_trans (Nat.le_of_lt HS.out) B1.out.size))).setCell (p := ⟨r, 0, none⟩) (Nat.le_refl _) (.slice A2 (dg B32 (vl B32 l)).length c2))
  have HZ := Lib.hid b2.size
  clear h2 h3 b2 hR hR2 he
  generalize (dg B32 (vl B32 l)).length = L at HP HN HB ⊢
  go_wp2_with fail
  refine ret_cell1 rfl rfl (load_nat HP.out) ?_
  refine ⟨A2, L, c2, rfl, HN.out, by rw [HSR.out]; exact HB.out, fun a ha => ?_⟩
  rw [HA2.out] at ha
  obtain ⟨h1, h2⟩ := HFR.out a ha
  refine ⟨by rw [HSR.out]; exact Nat.le_trans (Nat.le_of_lt HS.out) h1, ?_⟩
  have h3 : a.block < w2.heap.size := Nat.lt_of_lt_of_le h2 HZ.out
  simpa using h3

theorem info_nat : (Try.prog.info? 26).map (fun i => (i.zero, i.size, i.bytes)) = some (some (.agg #[.slice none 0 0]), 1, 24) := by kernel_rfl
/-- a row of numbers of the call's own -/
structure AllIs (w W : World) (ns : List Nat) (A : Option Addr) (c : Nat) (ss : List Value) : Prop where
  row : W.ownsRow w.heap.size 26 1 (.slice A ns.length c) ns.length ss
  each : ∀ (i n : Nat), ns[i]? = some n → ∃ A' l' c', ss[i]? = some (Value.slice A' l' c') ∧ NatIs W (.agg #[.slice A' l' c']) n ∧ ∀ a, A' = some a → (Value.slice A ns.length c).ownBlock ≠ some a.block ∧ a.block < W.heap.size
  below : Below w.heap.size w W
theorem AllIs.step {w W V : World} {ns : List Nat} {A : Option Addr} {c : Nat} {ss : List Value} (h : AllIs w W ns A c ss) (hb : Below W.heap.size W V) : AllIs w V ns A c ss :=
  ⟨own_below h.row hb (Nat.le_refl _), fun i n hn => by
    obtain ⟨A', l', c', h1, h2, h3⟩ := h.each i n hn
    exact ⟨A', l', c', h1, h2.below hb (Nat.le_refl _), fun a ha => ⟨(h3 a ha).1, Nat.lt_of_lt_of_le (h3 a ha).2 hb.size⟩⟩, h.below.trans (hb.mono h.below.size)⟩
theorem AllIs.grow {w W V : World} {ns : List Nat} {A : Option Addr} {c : Nat} {ss : List Value} {n l' c' : Nat} {A' : Option Addr} (h : AllIs w W ns A c ss) (hn : NatIs W (.agg #[.slice A' l' c']) n)
    (hf : ∀ a, A' = some a → (Value.slice A ns.length c).ownBlock ≠ some a.block ∧ a.block < W.heap.size) {v' : Value}
    (hown : V.ownsRow w.heap.size 26 1 v' (ns.length + 1) (ss ++ [.slice A' l' c'])) (hg : W.grownBy V (Value.slice A ns.length c).ownBlock) (hnew : v'.ownBlock = (Value.slice A ns.length c).ownBlock ∨ ∃ g, v'.ownBlock = some g ∧ W.heap.size ≤ g) :
    ∃ A2 c2, v' = .slice A2 (ns.length + 1) c2 ∧ AllIs w V (ns ++ [n]) A2 c2 (ss ++ [.slice A' l' c']) := by
  obtain ⟨A2, c2, rfl⟩ := own_slice hown
  have hk : Keep (fun g => (Value.slice A ns.length c).ownBlock = some g) W V := Keep.of_grown hg (fun g hg => hg)
  have hsl : ss.length = ns.length := by have := h.row.1; simpa using this
  have hlen : (ns ++ [n]).length = ns.length + 1 := by simp
  have hkeep : ∀ {A' : Option Addr} {l' c' n : Nat}, NatIs W (.agg #[.slice A' l' c']) n → (∀ a, A' = some a → (Value.slice A ns.length c).ownBlock ≠ some a.block ∧ a.block < W.heap.size) → NatIs V (.agg #[.slice A' l' c']) n ∧ ∀ a, A' = some a → (Value.slice A2 (ns.length + 1) c2).ownBlock ≠ some a.block ∧ a.block < V.heap.size := by
    intro A' l' c' n hn hf
    constructor
    · obtain ⟨A3, c3, e2, h1, h2⟩ := hn
      refine ⟨A3, c3, e2, ?_, h2⟩
      simp only [Value.agg.injEq, List.cons.injEq, Array.mk.injEq, and_true, Value.slice.injEq] at e2
      obtain ⟨e3, _, _⟩ := e2
      subst e3
      exact sl1_keep h1 hk (fun a ha e => (hf a ha).1 e)
    · intro a ha
      obtain ⟨h1, h2⟩ := hf a ha
      refine ⟨?_, Nat.lt_of_lt_of_le h2 hk.size⟩
      rcases hnew with e | ⟨g, e, hg⟩
      · rw [e]; exact h1
      · rw [e]; intro e2; simp at e2; omega
  refine ⟨A2, c2, rfl, by rw [hlen]; exact hown, ?_, h.below.trans (hk.below (B := w.heap.size) h.below.size (fun x hx => own_base h.row x hx))⟩
  intro i m hm
  rw [hlen]
  by_cases hi : i < ns.length
  · rw [List.getElem?_append_left hi] at hm
    obtain ⟨A3, l3, c3, h1, h2, h3⟩ := h.each i m hm
    obtain ⟨k1, k2⟩ := hkeep h2 h3
    exact ⟨A3, l3, c3, by rw [List.getElem?_append_left (by omega)]; exact h1, k1, k2⟩
  · rw [List.getElem?_append_right (by omega)] at hm
    have hi2 : i = ns.length := by
      have := (List.getElem?_eq_some_iff.1 hm).1
      simp at this
      omega
    subst hi2
    simp at hm
    subst hm
    obtain ⟨k1, k2⟩ := hkeep hn hf
    exact ⟨A', l', c', by rw [List.getElem?_append_right (by omega), hsl, Nat.sub_self]; rfl, k1, k2⟩
theorem AllIs.nats {w W : World} {ns : List Nat} {A : Option Addr} {c : Nat} {ss : List Value} (h : AllIs w W ns A c ss) : NatsIs W A ns := by
  intro i n hn
  obtain ⟨A', l', c', h1, h2, _⟩ := h.each i n hn
  have hpos : 0 < ns.length := by have := (List.getElem?_eq_some_iff.1 hn).1; omega
  obtain ⟨g, cap, e, _, _, hc⟩ := own_open h.row hpos
  simp only [Value.slice.injEq, true_and] at e
  exact ⟨g, 0, _, e.1, by rw [Nat.zero_add]; exact (hc i _ h1).1, h2⟩
end Go.Proofs.Ytnfehhblmoliaaa
