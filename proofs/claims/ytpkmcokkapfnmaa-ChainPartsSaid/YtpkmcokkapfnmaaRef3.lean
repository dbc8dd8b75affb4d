/- Layer 4 (token): the document's answer: Add, where it adds nothing. -/
import Derived.Test.YtpkmcokkapfnmaaRef2
namespace Go.Proofs.Ytpkmcokkapfnmaa
open Go.RowKit Go.Maps Go.WideMaps
set_option maxRecDepth 100000
set_option linter.unusedVariables false
set_option linter.unusedSimpArgs false

/-- Add's own memory: the table, the merge, the result -/
structure RAdd (w W : World) (base : Nat) (T : List Ent) (A : Option Addr) (c : Nat) (A2 : Option Addr) (c2 : Nat) (a b : Int) (r0 r1 r2 : Nat) : Prop where
  t : W.heap[r0]? = some (.cells #[.slice A T.length c, .slice A2 (mrgsT T).length c2] 28)
  m : W.heap[r1]? = some (.cells #[.int .i64 a, .int .i64 b] 71)
  r : W.heap[r2]? = some (.cells #[.slice none 0 0, .slice none 0 0] 28)
  ref : RefIs W base T (.slice A T.length c) (.slice A2 (mrgsT T).length c2)
  below : Below w.heap.size w W
  le : w.heap.size ≤ r0 ∧ w.heap.size ≤ r1 ∧ w.heap.size ≤ r2
theorem RAdd.step {w W W' : World} {base : Nat} {T : List Ent} {A : Option Addr} {c : Nat} {A2 : Option Addr} {c2 : Nat} {a b : Int} {r0 r1 r2 : Nat} (h : RAdd w W base T A c A2 c2 a b r0 r1 r2) (hb : Below W.heap.size W W') : RAdd w W' base T A c A2 c2 a b r0 r1 r2 :=
  ⟨blk_below hb (blk_lt h.t) h.t, blk_below hb (blk_lt h.m) h.m, blk_below hb (blk_lt h.r) h.r, h.ref.below hb (Nat.le_refl _), h.below.trans (hb.mono h.below.size), h.le⟩
theorem RAdd.drewN {w W : World} {base : Nat} {T : List Ent} {A : Option Addr} {c : Nat} {A2 : Option Addr} {c2 : Nat} {a b : Int} {r0 r1 r2 : Nat} (h : RAdd w W base T A c A2 c2 a b r0 r1 r2) (n : Nat) : RAdd w (W.drewN n) base T A c A2 c2 a b r0 r1 r2 := h.step (below_drewN (Below.refl _ _) n)
theorem RAdd.cells {w W : World} {base : Nat} {T : List Ent} {A : Option Addr} {c : Nat} {A2 : Option Addr} {c2 : Nat} {a b : Int} {r0 r1 r2 : Nat} (h : RAdd w W base T A c A2 c2 a b r0 r1 r2) :
    W.cell? ⟨r0, 0, none⟩ = some (.slice A T.length c) ∧ W.cell? ⟨r0, 1, none⟩ = some (.slice A2 (mrgsT T).length c2) ∧ W.cell? ⟨r1, 0, none⟩ = some (.int .i64 a) ∧ W.cell? ⟨r1, 1, none⟩ = some (.int .i64 b) ∧
    W.cell? ⟨r2, 0, none⟩ = some (.slice none 0 0) ∧ W.cell? ⟨r2, 1, none⟩ = some (.slice none 0 0) ∧ W.frozen? ⟨r2, 0, none⟩ = false ∧ W.frozen? ⟨r2, 1, none⟩ = false :=
  ⟨blk_cell h.t 0, blk_cell h.t 1, blk_cell h.m 0, blk_cell h.m 1, blk_cell h.r 0, blk_cell h.r 1, blk_froz h.r 0, blk_froz h.r 1⟩
theorem radd_start {w : World} {base : Nat} {T : List Ent} {A : Option Addr} {c : Nat} {A2 : Option Addr} {c2 : Nat} (a b : Int) (h : RefIs w base T (.slice A T.length c) (.slice A2 (mrgsT T).length c2)) :
    RAdd w (((w.alloc (.cells #[.slice A T.length c, .slice A2 (mrgsT T).length c2] 28)).alloc (.cells #[.int .i64 a, .int .i64 b] 71)).alloc (.cells #[.slice none 0 0, .slice none 0 0] 28)) base T A c A2 c2 a b w.heap.size (w.heap.size + 1) (w.heap.size + 1 + 1) := by
  have hb := (((Below.refl w.heap.size w).alloc (Nat.le_refl _) (.cells #[.slice A T.length c, .slice A2 (mrgsT T).length c2] 28)).alloc (by simp) (.cells #[.int .i64 a, .int .i64 b] 71)).alloc (by simp; omega) (.cells #[.slice none 0 0, .slice none 0 0] 28)
  refine ⟨blk_alloc (blk_alloc (blk_new w _) _) _, ?_, ?_, h.below hb (Nat.le_refl _), hb, by omega⟩
  · refine blk_alloc ?_ _
    have := blk_new (w.alloc (.cells #[.slice A T.length c, .slice A2 (mrgsT T).length c2] 28)) (.cells #[.int .i64 a, .int .i64 b] 71)
    rwa [size_alloc] at this
  · have := blk_new ((w.alloc (.cells #[.slice A T.length c, .slice A2 (mrgsT T).length c2] 28)).alloc (.cells #[.int .i64 a, .int .i64 b] 71)) (.cells #[.slice none 0 0, .slice none 0 0] 28)
    rwa [size_alloc, size_alloc] at this

/-- a struct of two slices and a number -/
theorem ret_ref {fn : Func} {R : Ending → World → Prop} {tmps : Array Value} {w : World} {r : Nat} {A B : Option Addr} {n m c d : Nat} {x : Int} {p q : Tmp}
    (h : fn.results = #[.cell p 28, .tmp q]) (hp : tmps.getD p undef = .pointer (some ⟨r, 0, none⟩)) (hq : tmps.getD q undef = .int .i64 x)
    (hl : w.heap[r]? = some (.cells #[.slice A n c, .slice B m d] 28))
    (hR : R (.returned (.tuple #[.agg #[.slice A n c, .slice B m d], .int .i64 x])) w) : bodyPost Try.prog fn R .ret ⟨tmps, []⟩ w := by
  refine bodyPost_ret (v := .tuple #[.agg #[.slice A n c, .slice B m d], .int .i64 x]) ?_ rfl hR
  rw [results_cell_tmp h, hp, hq]
  simp [asAddr, load_ref hl, Result.andThen]
/-- the result is what came in -/
theorem RAdd.same {w W : World} {base : Nat} {T : List Ent} {A : Option Addr} {c : Nat} {A2 : Option Addr} {c2 : Nat} {a b : Int} {r0 r1 r2 : Nat} (h : RAdd w W base T A c A2 c2 a b r0 r1 r2) :
    ((W.setCell ⟨r2, 0, none⟩ (.slice A T.length c)).setCell ⟨r2, 1, none⟩ (.slice A2 (mrgsT T).length c2)).heap[r2]? = some (.cells #[.slice A T.length c, .slice A2 (mrgsT T).length c2] 28) ∧
    Below w.heap.size w ((W.setCell ⟨r2, 0, none⟩ (.slice A T.length c)).setCell ⟨r2, 1, none⟩ (.slice A2 (mrgsT T).length c2)) ∧
    RefIs ((W.setCell ⟨r2, 0, none⟩ (.slice A T.length c)).setCell ⟨r2, 1, none⟩ (.slice A2 (mrgsT T).length c2)) base T (.slice A T.length c) (.slice A2 (mrgsT T).length c2) := by
  have K3 : ∀ (W : World) (i : Nat) (u : Value), Keep (fun g => g = r2) W (W.setCell ⟨r2, i, none⟩ u) := fun W i u => Keep.setCell (F := fun g => g = r2) (p := ⟨r2, i, none⟩) (Keep.refl _ _) (Or.inl rfl) _
  refine ⟨by simpa using blk_set (blk_set h.r 0 _) 1 _, (h.below.setCell (p := ⟨r2, 0, none⟩) h.le.2.2 _).setCell (p := ⟨r2, 1, none⟩) h.le.2.2 _, ?_, ?_, h.ref.nil⟩
  · exact own_keep (own_keep h.ref.row (K3 _ 0 _) (fun g hg e => row_ne h.ref.row h.r (by decide) (by rw [hg, e]))) (K3 _ 1 _) (fun g hg e => row_ne h.ref.row h.r (by decide) (by rw [hg, e]))
  · exact own_keep (own_keep h.ref.mrg (K3 _ 0 _) (fun g hg e => row_ne h.ref.mrg h.r (by decide) (by rw [hg, e]))) (K3 _ 1 _) (fun g hg e => row_ne h.ref.mrg h.r (by decide) (by rw [hg, e]))
end Go.Proofs.Ytpkmcokkapfnmaa
