/- Layer 4 (token): what the document's Grow makes, as plain lists. -/
import Derived.Test.YtpkmcokkapfnmaaRef5
namespace Go.Proofs.Ytpkmcokkapfnmaa

/-- a number as a token: where it is beyond the tokens it is one of those that were made -/
def foldT (T : List Ent) (x : Nat) : Nat := if x % (T.length + (T.length - 256)) ≥ T.length then 256 + x % (T.length + (T.length - 256)) - T.length else x % (T.length + (T.length - 256))
def growStep (T : List Ent) (x y : Nat) : List Ent := if (addT T (foldT T x : Nat) (foldT T y : Nat)).2.1 = 0 then (addT T (foldT T x : Nat) (foldT T y : Nat)).2.2 else T
/-- the table behind j rounds -/
def growT (l : List Nat) : Nat → List Ent
  | 0 => baseT
  | j + 1 => growStep (growT l j) (l.getD (2 * j) 0) (l.getD (2 * j + 1) 0)
theorem okT_step {T : List Ent} (h : OkT T) (x y : Nat) : OkT (growStep T x y) := by
  unfold growStep
  split
  · rename_i h0; exact okT_add h _ _ h0
  · exact h
theorem okT_grow (l : List Nat) : ∀ j, OkT (growT l j)
  | 0 => okT_base
  | j + 1 => okT_step (okT_grow l j) _ _
theorem okT_256 {T : List Ent} (h : OkT T) : 256 ≤ T.length := by
  obtain ⟨M, hM⟩ := h.base
  rw [hM, List.length_append, base_len]
  omega
theorem mrgs_len {T : List Ent} : (mrgsT T).length = T.length - 256 := by simp [mrgsT]
end Go.Proofs.Ytpkmcokkapfnmaa
