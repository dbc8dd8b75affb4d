/- Arguments of a law, opened: slices of integers, of texts, of structs of integers. -/
import Derived.Test.YtpkmcokkapfnmaaMem
import Derived.Deep.Slices
import Derived.Deep.Fields
import Derived.ChangeSame
import Derived.SliceStrings
import Derived.OpenShut
namespace Go.Proofs.Ytpkmcokkapfnmaa
open Go.ChangeShapes Go.WideShapes Go.Deep

/-- A law's walk: the call returns true, and nothing that was there has turned. -/
def RetTrue (w : World) (e : Ending) (w' : World) : Prop := e = .returned (.bool true) ∧ Go.RowKit.Below w.heap.size w w'

theorem addr_plain {w : World} {a : Addr} {v : Value} (h : w.cell? a = some v) : a = ⟨a.block, a.off, none⟩ := by
  have := World.cell?_spot h
  cases a
  simp_all

/-- an integer's cells -/
def encInts (k : IntKind) (l : List Int) : List Value := l.map (Value.int k)

section
variable {H : Type} {enc : TypeId × Value → H} {P : Program} {w : World} {base : Nat} {spare : Nat → Bool} {held : Bool}

/-- A slice of integers that came in. -/
theorem arg_ints {t e : TypeId} {k : IntKind} {fuel : Nat} {A : Option Addr} {n c : Nat} {x : DataW H × List MemPlace} (ht : P.underlying t = some (.slice e)) (he : P.underlying e = some (.int k)) (hC : P.cellsOf e = 1)
    (h : DataW.trod enc P w base spare held fuel t [.slice A n c] = some x) :
    ∃ xs : List Int, xs.length = n ∧ n ≤ c ∧ c ≤ maxLen ∧ (∀ y ∈ xs, (Lit.int k y).wf = true) ∧ Sl1 w A (Value.int k) xs := by
  rcases open_slice1 ht hC h with ⟨h0, _⟩ | ⟨a, len, cap, m, f, V, D, Pl, hcs, hb, hl, hm, hmm, hx, hi⟩
  · cases h0
    exact ⟨[], rfl, Nat.le_refl _, Nat.zero_le _, by simp, Sl1.nil _ _ _⟩
  · cases hcs
    have hlm : n ≤ m := by rw [hmm]; split <;> omega
    obtain ⟨g, hg⟩ := choose_lt (α := Int) (p := fun i y => V i = .int k y ∧ (Lit.int k y).wf = true) (n := m) (fun i him => by
      obtain ⟨_, h2⟩ := hi i him
      obtain ⟨y, e1, _, e3⟩ := DataW.trod_int he h2
      exact ⟨y, by simpa using e1, e3⟩)
    refine ⟨(List.range n).map g, by simp, hl, hm, ?_, ?_⟩
    · intro y hy
      obtain ⟨i, hir, rfl⟩ := List.mem_map.1 hy
      rw [List.mem_range] at hir
      exact (hg i (by omega)).2
    · intro i y hy
      rw [List.getElem?_map, Option.map_eq_some_iff] at hy
      obtain ⟨i', hi', rfl⟩ := hy
      obtain ⟨hlt, hi''⟩ := List.getElem?_eq_some_iff.1 hi'
      rw [List.getElem_range] at hi''
      subst hi''
      rw [List.length_range] at hlt
      have hc := (hi i (by omega)).1
      rw [(hg i (by omega)).1] at hc
      have h0 := addr_plain (hi 0 (by omega)).1
      have ha : a = ⟨a.block, a.off, none⟩ := by
        have : a.add 0 = a := by unfold Addr.add; simp
        rwa [this] at h0
      refine ⟨a.block, a.off, by rw [← ha], ?_⟩
      rw [ha] at hc
      have hadd := add_plain a.block a.off i
      rwa [hadd] at hc

/-- A slice of texts that came in. -/
theorem arg_strs {t e : TypeId} {fuel : Nat} {A : Option Addr} {n c : Nat} {x : DataW H × List MemPlace} (ht : P.underlying t = some (.slice e)) (he : P.underlying e = some .string) (hC : P.cellsOf e = 1)
    (h : DataW.trod enc P w base spare held fuel t [.slice A n c] = some x) :
    ∃ xs : List (List UInt8), xs.length = n ∧ n ≤ c ∧ c ≤ maxLen ∧ (∀ y ∈ xs, y.length ≤ maxLen) ∧ Sl1 w A strV xs := by
  rcases open_strings ht he hC h with ⟨h0, _⟩ | ⟨a, len, cap, ss, hcs, hb, hl, hm, hss, hx, hi, hw⟩
  · cases h0
    exact ⟨[], rfl, Nat.le_refl _, Nat.zero_le _, by simp, Sl1.nil _ _ _⟩
  · cases hcs
    have hlm : n ≤ ss.length := by rw [hss]; split <;> omega
    refine ⟨(ss.take n).map (fun s => s.data.toList), by simp; omega, hl, hm, ?_, ?_⟩
    · intro y hy
      obtain ⟨s, hs, rfl⟩ := List.mem_map.1 hy
      have := hw s (List.mem_of_mem_take hs)
      simpa using this
    · intro i y hy
      rw [List.getElem?_map, Option.map_eq_some_iff] at hy
      obtain ⟨s, hs, rfl⟩ := hy
      have hlt : i < n := by
        have := (List.getElem?_eq_some_iff.1 hs).1
        rw [List.length_take] at this
        omega
      rw [List.getElem?_take, if_pos hlt] at hs
      have hc := hi i (by omega)
      rw [List.getD_eq_getElem?_getD, hs] at hc
      have h0 := addr_plain (hi 0 (by omega))
      have ha : a = ⟨a.block, a.off, none⟩ := by
        have : a.add 0 = a := by unfold Addr.add; simp
        rwa [this] at h0
      refine ⟨a.block, a.off, by rw [← ha], ?_⟩
      rw [ha] at hc
      have hadd := add_plain a.block a.off i
      rw [hadd] at hc
      rw [hc]
      simp [strV, bs_data]

/-- all fields are integers -/
def allInts (P : Program) (fs : Array Field) : Prop := ∀ (j : Nat) (f : Field), fs[j]? = some f → P.underlying f.type = some (.int .i64)

theorem arg_structs {t e : TypeId} {fs : Array Field} {fuel : Nat} {A : Option Addr} {n c : Nat} {x : DataW H × List MemPlace} (ht : P.underlying t = some (.slice e)) (he : P.underlying e = some (.struct fs))
    (hone : oneCellFields P fs = true) (hC : P.cellsOf e = fs.size) (hint : allInts P fs) (h0s : 0 < fs.size)
    (h : DataW.trod enc P w base spare held fuel t [.slice A n c] = some x) :
    ∃ xs : List (List Int), xs.length = n ∧ n ≤ c ∧ c ≤ maxLen ∧ (∀ y ∈ xs, y.length = fs.size ∧ ∀ z ∈ y, (Lit.int .i64 z).wf = true) ∧ Sl w A (encInts .i64) fs.size xs := by
  rcases open_slice ht h with ⟨h0, _⟩ | ⟨a, len, cap, m, f, D, Pl, hcs, hb, hl, hm, hmm, hx, hi⟩
  · cases h0
    exact ⟨[], rfl, Nat.le_refl _, Nat.zero_le _, by simp, Sl.nil _ _ _ _⟩
  · cases hcs
    have hlm : n ≤ m := by rw [hmm]; split <;> omega
    obtain ⟨g, hg⟩ := choose_lt (α := List Int) (p := fun i y => y.length = fs.size ∧ (∀ z ∈ y, (Lit.int .i64 z).wf = true) ∧ ∀ j z, y[j]? = some z → w.cell? (a.add (i * fs.size + j)) = some (.int .i64 z)) (n := m) (fun i him => by
      obtain ⟨cs', hc, ht'⟩ := hi i him
      rw [hC] at hc
      obtain ⟨ys, n', hn', hy, hlen, hyl, hf⟩ := DataW.trod_struct he ht'
      obtain ⟨_, hcl, hat⟩ := World.cells?_some hc
      have key : ∀ j, j < fs.size → ∃ z, cs'[j]? = some (.int .i64 z) ∧ (Lit.int .i64 z).wf = true := by
        intro j hjl
        obtain ⟨fj, hj⟩ : ∃ fj, fs[j]? = some fj := ⟨fs[j], by simp [hjl]⟩
        obtain ⟨ho, hk⟩ := hone_of hone j fj hj
        have h1 := hf j fj hj
        rw [ho, hk] at h1
        have hone' : (cs'.drop j).take 1 = [cs'[j]'(by omega)] := by
          rw [List.drop_eq_getElem_cons (by omega)]
          rfl
        rw [hone'] at h1
        have hys : ys[j]? = some (ys[j]'(by omega)) := List.getElem?_eq_getElem (by omega)
        rw [hys] at h1
        obtain ⟨z, e1, _, e3⟩ := DataW.trod_int (hint j fj hj) h1
        refine ⟨z, ?_, e3⟩
        rw [List.getElem?_eq_getElem (by omega)]
        simpa using e1
      obtain ⟨q, hq⟩ := choose_lt (α := Int) key
      refine ⟨(List.range fs.size).map q, by simp, ?_, ?_⟩
      · intro z hz
        obtain ⟨j, hj, rfl⟩ := List.mem_map.1 hz
        exact (hq j (List.mem_range.1 hj)).2
      · intro j z hz
        rw [List.getElem?_map, Option.map_eq_some_iff] at hz
        obtain ⟨j', hj', rfl⟩ := hz
        obtain ⟨hlt, hj''⟩ := List.getElem?_eq_some_iff.1 hj'
        rw [List.getElem_range] at hj''
        subst hj''
        rw [List.length_range] at hlt
        rw [← Go.Deep.add_add, hat j hlt, (hq j hlt).1])
    refine ⟨(List.range n).map g, by simp, hl, hm, ?_, ?_⟩
    · intro y hy
      obtain ⟨i, hir, rfl⟩ := List.mem_map.1 hy
      rw [List.mem_range] at hir
      exact ⟨(hg i (by omega)).1, (hg i (by omega)).2.1⟩
    · intro i y hy
      rw [List.getElem?_map, Option.map_eq_some_iff] at hy
      obtain ⟨i', hi', rfl⟩ := hy
      obtain ⟨hlt, hi''⟩ := List.getElem?_eq_some_iff.1 hi'
      rw [List.getElem_range] at hi''
      subst hi''
      rw [List.length_range] at hlt
      obtain ⟨z0, hz0⟩ : ∃ z, (g 0)[0]? = some z := ⟨(g 0)[0]'(by rw [(hg 0 (by omega)).1]; exact h0s), by simp⟩
      have h0 := addr_plain ((hg 0 (by omega)).2.2 0 z0 hz0)
      have ha : a = ⟨a.block, a.off, none⟩ := by
        have : a.add (0 * fs.size + 0) = a := by unfold Addr.add; simp
        rwa [this] at h0
      refine ⟨a.block, a.off, by rw [← ha], fun j v hv => ?_⟩
      unfold encInts at hv
      rw [List.getElem?_map, Option.map_eq_some_iff] at hv
      obtain ⟨z, hz, rfl⟩ := hv
      have hc := (hg i (by omega)).2.2 j z hz
      rw [ha] at hc
      have hadd := add_plain a.block a.off
      rw [hadd, ← Nat.add_assoc] at hc
      exact hc
end
end Go.Proofs.Ytpkmcokkapfnmaa
