/- Layer 3 (heap): less. -/
import Derived.Test.YtpkmcokkapfnmaaHeap0
import Derived.Test.YtpkmcokkapfnmaaRegion
import Derived.Test.YtpkmcokkapfnmaaToken2
namespace Go.Proofs.Ytpkmcokkapfnmaa
open Go.RowKit Go.Maps Go.WideMaps
set_option maxRecDepth 100000
set_option linter.unusedVariables false
set_option linter.unusedSimpArgs false

def keyV {X : Type} (a : Th X) : Value := .agg #[.int .i64 a.r, .int .i64 a.p, .int .i64 a.t]
theorem less_any {X : Type} (a b : Th X) (w : World) : Calls Try.prog 65 #[keyV a, keyV b] w fun e w' => e = .returned (.bool (ltB a b)) ∧ Below w.heap.size w w' := by
  have hL : ltB a b = if a.r ≠ b.r then decide (a.r < b.r) else if a.p ≠ b.p then decide (a.p < b.p) else decide (a.t < b.t) := rfl
  obtain ⟨B, hB⟩ : ∃ B, ltB a b = B := ⟨_, rfl⟩
  rw [hB] at hL ⊢
  clear hB
  unfold keyV
  generalize a.r = r at *
  generalize a.p = p at *
  generalize a.t = t at *
  generalize b.r = r' at *
  generalize b.p = p' at *
  generalize b.t = t' at *
  have hb1 := (Below.refl w.heap.size w).alloc (Nat.le_refl _) (.cells #[.int .i64 r, .int .i64 p, .int .i64 t] 121)
  have hb2 := hb1.alloc (by simp) (.cells #[.int .i64 r', .int .i64 p', .int .i64 t'] 121)
  have n1 := blk_alloc (blk_new w (.cells #[.int .i64 r, .int .i64 p, .int .i64 t] 121)) (.cells #[.int .i64 r', .int .i64 p', .int .i64 t'] 121)
  have n2 := blk_new (w.alloc (.cells #[.int .i64 r, .int .i64 p, .int .i64 t] 121)) (.cells #[.int .i64 r', .int .i64 p', .int .i64 t'] 121)
  rw [size_alloc] at n2
  have a0 := blk_cell n1 0
  have a1 := blk_cell n1 1
  have a2 := blk_cell n1 2
  have b0 := blk_cell n2 0
  have b1 := blk_cell n2 1
  have b2 := blk_cell n2 2
  simp only [List.getElem?_toArray, List.getElem?_cons_zero, List.getElem?_cons_succ] at a0 a1 a2 b0 b1 b2
  have HB := Lib.hid hb2
  have HL := Lib.hid hL
  clear hb1 hb2 n1 n2 hL
  by_cases h1 : r = r'
  · subst h1
    by_cases h2 : p = p'
    · subst h2
      go_enter Try.func65, Try.ntmps65
      go_wp2_with fail
      go_ret
      exact ⟨ret_bool (by rw [HL.out]; simp), HB.out⟩
    · have HN := Lib.hid h2
      have e2 : (p != p') = true := by simpa using h2
      clear h2
      go_enter Try.func65, Try.ntmps65
      go_wp2_with fail
      go_ret
      exact ⟨ret_bool (by rw [HL.out]; simp [HN.out]), HB.out⟩
  · have HN := Lib.hid h1
    have e2 : (r != r') = true := by simpa using h1
    clear h1
    go_enter Try.func65, Try.ntmps65
    go_wp2_with fail
    go_ret
    exact ⟨ret_bool (by rw [HL.out]; simp [HN.out]), HB.out⟩
end Go.Proofs.Ytpkmcokkapfnmaa
