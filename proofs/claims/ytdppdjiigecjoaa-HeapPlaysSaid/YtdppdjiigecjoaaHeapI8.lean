/- Layer 3 (heap): heaps of numbers: Clear. -/
import Derived.Test.YtdppdjiigecjoaaHeapI7
import Derived.Lib.SliceRun
namespace Go.Proofs.Ytdppdjiigecjoaa.hi
open Go.RowKit Go.Maps Go.WideMaps
set_option maxRecDepth 100000
set_option linter.unusedVariables false
set_option linter.unusedSimpArgs false

theorem own_setCells {base n cap g : Nat} {e : TypeId} {size : Nat} : ∀ (vals : List Value) (o : Nat) (w : World) (xs : List Value), w.ownsRow base e size (.slice (some ⟨g, 0, none⟩) n cap) n xs →
    ∃ xs', (w.setCells g o vals).ownsRow base e size (.slice (some ⟨g, 0, none⟩) n cap) n xs' ∧ Keep (fun x => x = g) w (w.setCells g o vals)
  | [], o, w, xs, h => ⟨xs, h, Keep.refl _ _⟩
  | v :: vals, o, w, xs, h => by
    obtain ⟨xs', h1, h2⟩ := own_setCells vals (o + 1) (w.setCell ⟨g, o, none⟩ v) _ (own_set h o v)
    refine ⟨xs', h1, ?_⟩
    exact (Keep.setCell (F := fun x => x = g) (p := ⟨g, o, none⟩) (Keep.refl _ w) (.inl rfl) v).trans h2 (fun x hx => .inl hx)
theorem zero_th (w : World) : (zeroValue 123).run Try.prog w = .ok (.agg #[.int .i64 0, .int .i64 0, .int .i64 0, .int .i64 0]) w := by kernel_rfl

theorem clear_run {w : World} {base hb : Nat} {l : List (Th Int)} {turn : Int} {A : Option Addr} {c : Nat} (h : HeapIs w base hb l turn A c) (ty : TypeId) :
    ∃ w', (Builtin.clear_ #[117] ty #[.slice A l.length c]).run Try.prog w = .ok (.tuple #[]) w' ∧ (∃ xs, w'.ownsRow base 123 4 (.slice A l.length c) l.length xs) ∧ Keep (fun g => A = some ⟨g, 0, none⟩) w w' := by
  by_cases h0 : l.length = 0
  · refine ⟨w, ?_, ⟨_, h.row⟩, Keep.refl _ _⟩
    rw [h0]
    cases A <;> simp [Builtin.clear_, run_underlying Try.underlying117]
  · obtain ⟨g, cap, e1, _, _, hc⟩ := own_open h.row (by omega)
    injection e1 with e1 e2 e3
    subst e1
    have hrow := h.row
    obtain ⟨m, hm⟩ : ∃ m, l.length = m + 1 := ⟨l.length - 1, by omega⟩
    obtain ⟨vals, hv⟩ : ∃ vals, (Builtin.zeroCells (Value.agg #[.int .i64 0, .int .i64 0, .int .i64 0, .int .i64 0]).cells l.length).toList = vals := ⟨_, rfl⟩
    have hlen : vals.length = l.length * 4 := by rw [← hv]; simp [Builtin.zeroCells, Value.cells]
    have hone : ∀ v ∈ vals, v.oneCell' = true := by
      intro v hvm
      rw [← hv] at hvm
      simp only [Builtin.zeroCells, Value.cells] at hvm
      simp at hvm
      obtain ⟨i, _, rfl⟩ := hvm
      have h4 : i % 4 < 4 := Nat.mod_lt _ (by omega)
      rcases (by omega : i % 4 = 0 ∨ i % 4 = 1 ∨ i % 4 = 2 ∨ i % 4 = 3) with e | e | e | e <;> rw [e] <;> rfl
    have hst := run_storeCells_cells (P := Try.prog) g 0 vals 0 w (by
      intro j hj
      have := own_cells hrow (by omega) j (by omega)
      obtain ⟨⟨v, hv⟩, _⟩ := this
      simp [hv]) (by
      intro j hj
      have := (own_cells hrow (by omega) j (by omega)).2
      simpa using this) hone
    obtain ⟨xs', r1, r2⟩ := own_setCells vals 0 w _ hrow
    refine ⟨w.setCells g 0 vals, ?_, ⟨xs', r1⟩, r2.mono (fun x hx => by subst hx; rfl)⟩
    simp only [Nat.add_zero] at hst
    rw [hm] at hv ⊢
    simp [Builtin.clear_, run_underlying Try.underlying117, zero_th, hv, hst]

theorem clear_h {w : World} {base hb : Nat} {l : List (Th Int)} {turn : Int} {A : Option Addr} {c : Nat} (h : HeapIs w base hb l turn A c) :
    Calls Try.prog 39 #[.pointer (some ⟨hb, 0, none⟩)] w fun e w' => e = .returned (.tuple #[]) ∧ HeapIs w' base hb [] turn A c ∧ Keep (heapF hb A) w w' := by
  obtain ⟨w1, hrun, ⟨xs, hrow⟩, hk⟩ := clear_run h 0
  have HROW := Lib.hid hrow
  have HK := Lib.hid hk
  have HH := Lib.hid h
  have h0 := blk_cell h.blk 0
  have b1 := hk.blk h.blk (fun e => row_ne h.row h.blk (by decide) (by rw [e]; rfl))
  have h1 := blk_cell b1 0
  have f1 := blk_froz b1 0
  simp only [List.getElem?_toArray, List.getElem?_cons_zero, List.getElem?_cons_succ] at h0 h1
  have b2 := blk_set b1 0 (.slice A 0 c)
  simp only [List.setIfInBounds_toArray, List.set_cons_zero] at b2
  have hcap := own_cap h.row
  have q0 : (0 : Int) ≤ (c : Int) := by omega
  have HB2 := Lib.hid b2
  have hne : ∀ x, (Value.slice A l.length c).ownBlock = some x → ¬ x = hb := fun x hx e => row_ne hrow b1 (by decide) (by rw [hx, e])
  have K3 : Keep (fun x => x = hb) w1 (w1.setCell ⟨hb, 0, none⟩ (.slice A 0 c)) := Keep.setCell (F := fun x => x = hb) (p := ⟨hb, 0, none⟩) (Keep.refl _ _) (Or.inl rfl) _
  have hrow2 := own_keep hrow K3 hne
  have hrow3 : (w1.setCell ⟨hb, 0, none⟩ (.slice A 0 c)).ownsRow base 123 4 (.slice A 0 c) 0 [] := by
    by_cases hl : l.length = 0
    · rw [hl] at hrow2
      have := hrow2.1
      have hx : xs = [] := List.eq_nil_of_length_eq_zero (by simpa using this)
      rw [hx] at hrow2
      exact hrow2
    · have := own_take hrow2 (m := 0) (Nat.zero_le _) (by omega)
      simpa using this
  have HN : Hid (HeapIs (w1.setCell ⟨hb, 0, none⟩ (.slice A 0 c)) base hb [] turn A c) := Lib.hid ⟨b2, by simpa using hrow3, h.le⟩
  have HKK := Lib.hid ((hk.mono (G := heapF hb A) (fun x hx => .inr hx)).setCell (p := ⟨hb, 0, none⟩) (.inl (.inl rfl)) (.slice A 0 c))
  clear h hk hrow b1 b2 hne K3 hrow2 hrow3
  go_enter Try.func39, Try.ntmps39
  go_wp2_with fail
  go_end0
  exact ⟨rfl, HN.out, HKK.out⟩
end Go.Proofs.Ytdppdjiigecjoaa.hi
