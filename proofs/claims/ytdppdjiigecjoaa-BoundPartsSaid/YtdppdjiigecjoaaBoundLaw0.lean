/- Layer 8 (bound): what the walks of the laws share: classes and joins as the law is handed them; contracts that hand on what is known. -/
import Derived.Test.YtdppdjiigecjoaaBoundAwake
import Derived.Test.YtdppdjiigecjoaaOpen
namespace Go.Proofs.Ytdppdjiigecjoaa
open Go.RowKit
set_option maxRecDepth 100000
set_option linter.unusedVariables false
set_option linter.unusedSimpArgs false

def toCls (l : List Int) : Cls := ⟨l.getD 0 0, l.getD 1 0, l.getD 2 0⟩
def toJn (l : List Int) : Jn := ⟨l.getD 0 0, l.getD 1 0⟩
theorem sl_map {α β : Type} {w : World} {A : Option Addr} {enc : α → List Value} {enc' : β → List Value} {sz : Nat} {xs : List α} (f : α → β) (h : Sl w A enc sz xs) (he : ∀ x ∈ xs, enc' (f x) = enc x) : Sl w A enc' sz (xs.map f) := by
  intro i y hy
  rw [List.getElem?_map, Option.map_eq_some_iff] at hy
  obtain ⟨x, hx, rfl⟩ := hy
  rw [he x (List.mem_of_getElem? hx)]
  exact h i x hx
theorem enc_toCls (l : List Int) (h : l.length = 3) : encCls (toCls l) = encInts .i64 l := by
  match l, h with
  | [a, b, c], _ => rfl
theorem enc_toJn (l : List Int) (h : l.length = 2) : encJn (toJn l) = encInts .i64 l := by
  match l, h with
  | [a, b], _ => rfl

/-- What a law knows of memory behind New: its arguments, the table. -/
structure LT (w0 : World) (cs : List Cls) (js : List Jn) (A B : Option Addr) (p : Option Addr) (w : World) : Prop where
  tab : RTab w0 cs js A B w
  tp : TP w p (cutB (Cof cs) (Jof js))
theorem LT.step {w0 w w' : World} {cs : List Cls} {js : List Jn} {A B p : Option Addr} (h : LT w0 cs js A B p w) (hb : Below w.heap.size w w') : LT w0 cs js A B p w' :=
  ⟨h.tab.step hb, h.tp.below hb (Nat.le_refl _)⟩
theorem LT.drewN {w0 w : World} {cs : List Cls} {js : List Jn} {A B p : Option Addr} (h : LT w0 cs js A B p w) (n : Nat) : LT w0 cs js A B p (w.drewN n) := h.step (below_drewN (Below.refl _ _) n)
theorem LT.drew {w0 w : World} {cs : List Cls} {js : List Jn} {A B p : Option Addr} (h : LT w0 cs js A B p w) : LT w0 cs js A B p w.drew := h.step (Below.refl _ _).drew
theorem LT.alloc {w0 w : World} {cs : List Cls} {js : List Jn} {A B p : Option Addr} (h : LT w0 cs js A B p w) (o : Obj) : LT w0 cs js A B p (w.alloc o) := h.step ((Below.refl _ _).alloc (Nat.le_refl _) _)
end Go.Proofs.Ytdppdjiigecjoaa
