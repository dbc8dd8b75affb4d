/- Maps of the call's own, as functions from plain keys to numbers; and which blocks a call may have turned. -/
import Derived.Test.YtpkmcokkapfnmaaMem
import Derived.Maps.OwnSet
import Derived.Maps.OwnOps
import Derived.DeepKeys4
namespace Go.Proofs.Ytpkmcokkapfnmaa
open Go.RowKit Go.Maps

/-! blocks that a call may have turned -/
/-- but for the blocks of F, w' is as w was -/
structure Keep (F : Nat → Prop) (w w' : World) : Prop where
  os : w'.os = w.os
  tape : w'.tape = w.tape
  output : w'.output = w.output
  size : w.heap.size ≤ w'.heap.size
  block : ∀ k, k < w.heap.size → ¬ F k → w'.heap[k]? = w.heap[k]?
theorem Keep.refl (F : Nat → Prop) (w : World) : Keep F w w := ⟨rfl, rfl, rfl, Nat.le_refl _, fun _ _ _ => rfl⟩
theorem Keep.trans {F G : Nat → Prop} {a b c : World} (h : Keep F a b) (k : Keep G b c) (hG : ∀ x, G x → F x ∨ a.heap.size ≤ x) : Keep F a c :=
  ⟨k.os.trans h.os, k.tape.trans h.tape, k.output.trans h.output, Nat.le_trans h.size k.size, fun i hi hf => (k.block i (Nat.lt_of_lt_of_le hi h.size) (fun g => by rcases hG i g with h1 | h1; exact hf h1; omega)).trans (h.block i hi hf)⟩
theorem Keep.mono {F G : Nat → Prop} {a b : World} (h : Keep F a b) (hFG : ∀ x, F x → G x) : Keep G a b := ⟨h.os, h.tape, h.output, h.size, fun k hk hg => h.block k hk (fun hf => hg (hFG k hf))⟩
theorem Keep.below {F : Nat → Prop} {w w' : World} (h : Keep F w w') {B : Nat} (hB : B ≤ w.heap.size) (hF : ∀ x, F x → B ≤ x) : Below B w w' :=
  ⟨h.os, h.tape, h.output, h.size, fun k hk => h.block k (by omega) (fun hf => by have := hF k hf; omega)⟩
theorem Keep.of_below {F : Nat → Prop} {w w' : World} (h : Below w.heap.size w w') : Keep F w w' := ⟨h.os, h.tape, h.output, h.size, fun k hk _ => h.block k hk⟩
theorem Keep.of_grown {F : Nat → Prop} {w w' : World} {row : Option Nat} (h : w.grownBy w' row) (hr : ∀ k, row = some k → F k) : Keep F w w' :=
  ⟨h.os, h.tape, h.output, h.size, fun k hk hf => h.block k hk (fun e => hf (hr k e.symm))⟩
theorem Keep.drew {F : Nat → Prop} {a w : World} (h : Keep F a w) : Keep F a w.drew := ⟨h.os, h.tape, h.output, h.size, h.block⟩
theorem Keep.drewN {F : Nat → Prop} {a w : World} (h : Keep F a w) (n : Nat) : Keep F a (w.drewN n) := ⟨h.os, h.tape, h.output, h.size, h.block⟩
theorem Keep.alloc {F : Nat → Prop} {a w : World} (h : Keep F a w) (o : Obj) : Keep F a (w.alloc o) :=
  ⟨h.os, h.tape, h.output, Nat.le_trans h.size (by simp), fun k hk hf => (Below.heap_alloc w o k (Nat.lt_of_lt_of_le hk h.size)).trans (h.block k hk hf)⟩
theorem Keep.setCell {F : Nat → Prop} {a w : World} (h : Keep F a w) {p : Addr} (hp : F p.block ∨ a.heap.size ≤ p.block) (u : Value) : Keep F a (w.setCell p u) :=
  ⟨h.os, h.tape, h.output, Nat.le_trans h.size (by simp [World.setCell]), fun k hk hf => (Below.heap_setCell w p u k (fun e => by subst e; rcases hp with h1 | h1; exact hf h1; omega)).trans (h.block k hk hf)⟩
theorem Keep.blk {F : Nat → Prop} {w w' : World} (h : Keep F w w') {g : Nat} {o : Obj} (hb : w.heap[g]? = some o) (hf : ¬ F g) : w'.heap[g]? = some o := (h.block g (blk_lt hb) hf).trans hb
theorem own_keep {F : Nat → Prop} {w w' : World} {base : Nat} {e : TypeId} {size n : Nat} {v : Value} {xs : List Value} (h : w.ownsRow base e size v n xs) (k : Keep F w w') (hf : ∀ g, v.ownBlock = some g → ¬ F g) : w'.ownsRow base e size v n xs := by
  obtain ⟨hl, h⟩ := h
  refine ⟨hl, ?_⟩
  rcases h with h | ⟨g, cap, cur, rfl, hb, hg, r⟩
  · exact .inl h
  · exact .inr ⟨g, cap, cur, rfl, hb, k.blk hg (hf g rfl), r⟩
theorem sl1_keep {α : Type} {F : Nat → Prop} {w w' : World} {A : Option Addr} {enc : α → Value} {xs : List α} (h : Sl1 w A enc xs) (k : Keep F w w') (hf : ∀ a, A = some a → ¬ F a.block) : Sl1 w' A enc xs := by
  intro i x hx
  obtain ⟨b, o, rfl, hc⟩ := h i x hx
  exact ⟨b, o, rfl, (World.cell?_of_block (w := w) (k.block b (World.block_lt_of_cell? w _ hc) (hf _ rfl))).trans hc⟩
theorem sl_keep {α : Type} {F : Nat → Prop} {w w' : World} {A : Option Addr} {enc : α → List Value} {sz : Nat} {xs : List α} (h : Sl w A enc sz xs) (k : Keep F w w') (hf : ∀ a, A = some a → ¬ F a.block) : Sl w' A enc sz xs := by
  intro i x hx
  obtain ⟨b, o, rfl, hc⟩ := h i x hx
  exact ⟨b, o, rfl, fun j v hv => (World.cell?_of_block (w := w) (k.block b (World.block_lt_of_cell? w _ (hc j v hv)) (hf _ rfl))).trans (hc j v hv)⟩

/-! maps -/
/-- Block b is a map with at most n entries, whose keys are kv's values, and that holds f. -/
def MapOf {α : Type} (P : Program) (K E : TypeId) (kv : α → Value) (w : World) (b n : Nat) (f : α → Option Int) : Prop :=
  ∃ D : DataW Unit, w.ownsMap P K (plainElem P E) b n D ∧ IsMap D ∧ ∀ a l, keyOf P K (kv a) = some l → Maps.has D l = (f a).isSome ∧ ∀ v, f a = some v → D.atKey l (.lit (.int .i64 0)) = .lit (.int .i64 v)

section
variable {α : Type} {P : Program} {K E : TypeId} {kv : α → Value} {w w' : World} {b n : Nat} {f : α → Option Int}

theorem MapOf.made (w : World) (P : Program) (K E : TypeId) (kv : α → Value) : MapOf P K E kv (w.alloc (.map #[] 0)) w.heap.size 0 (fun _ => none) :=
  ⟨.map [], World.ownsMap_made _ _ _ _, isMap_empty, fun a l _ => ⟨rfl, fun v h => by simp at h⟩⟩
theorem MapOf.lt (h : MapOf P K E kv w b n f) : b < w.heap.size := by obtain ⟨D, h1, _⟩ := h; exact h1.lt
theorem MapOf.kept {row : Option Nat} (h : MapOf P K E kv w b n f) (hg : w.grownBy w' row) (hne : some b ≠ row) : MapOf P K E kv w' b n f := by
  obtain ⟨D, h1, h2⟩ := h; exact ⟨D, h1.kept hg hne, h2⟩
theorem MapOf.keep {F : Nat → Prop} (h : MapOf P K E kv w b n f) (k : Keep F w w') (hf : ¬ F b) : MapOf P K E kv w' b n f := by
  obtain ⟨D, ⟨es, clock, hb, r⟩, h2⟩ := h
  exact ⟨D, ⟨es, clock, k.blk hb hf, r⟩, h2⟩
theorem MapOf.below {B : Nat} (h : MapOf P K E kv w b n f) (hb : Below B w w') (hB : b < B) : MapOf P K E kv w' b n f := by
  obtain ⟨D, ⟨es, clock, hm, r⟩, h2⟩ := h
  exact ⟨D, ⟨es, clock, blk_below hb hB hm, r⟩, h2⟩
theorem MapOf.isMap (h : MapOf P K E kv w b n f) : ∃ es clock, w.heap[b]? = some (.map es clock) := by
  obtain ⟨D, ⟨es, clock, hm, _⟩, _⟩ := h; exact ⟨es, clock, hm⟩

/-- 'v, ok := m[k]' -/
theorem map_look {ops : Array Oper} {rest : List Oper} {o : Oper} {a : Act} {Q : Exit → Act → World → Prop} (t : TypeId) (m x : Operand)
    (hg : o.guard = none) (hop : o.op = Op.lookup t m x true)
    (law : Keyed P K) (ht : P.underlying t = some (.map K E)) (he : P.underlying E = some (.int .i64)) (hz : (zeroValue E).run P w = .ok (.int .i64 0) w)
    (hm : a.eval m = .map (some b)) (h : MapOf P K E kv w b n f) (y : α) (hx : a.eval x = kv y) (hkey : ∃ l, keyOf P K (kv y) = some l)
    (hK : wpList P ops Q rest (a.put o.dst (.tuple #[.int .i64 ((f y).getD 0), .bool (f y).isSome])) w) : wpList P ops Q (o :: rest) a w := by
  obtain ⟨D, hown, hD, hf⟩ := h
  obtain ⟨l, hl⟩ := hkey
  obtain ⟨h1, h2⟩ := hf y l hl
  refine wpList_lookup_own_ok_int w hg m x t hop K E .i64 law ht he hz b n D hm hown _ l hx hl ?_
  intro c hc _
  rw [h1]
  cases hy : f y with
  | none =>
    rw [hy] at h1 hK
    have := atKey_of_not_has (by rw [h1]; rfl) (.lit (.int .i64 0) : DataW Unit)
    rw [this] at hc
    cases hc
    exact hK
  | some v =>
    have hc2 := h2 v hy
    rw [hc2] at hc
    cases hc
    rw [hy] at hK
    exact hK

/-- 'm[k] = v' -/
theorem map_put [DecidableEq α] {ops : Array Oper} {rest : List Oper} {o : Oper} {a : Act} {Q : Exit → Act → World → Prop} (t : TypeId) (m x v : Operand)
    (hg : o.guard = none) (hop : o.op = Op.mapUpdate t m x v)
    (law : Keyed P K) (ht : P.underlying t = some (.map K E)) (he : P.underlying E = some (.int .i64)) (hinj : ∀ x y, kv x = kv y → x = y)
    (hm : a.eval m = .map (some b)) (h : MapOf P K E kv w b n f) (hn : n < maxLen) (y : α) (hx : a.eval x = kv y) (hkey : ∃ l, keyOf P K (kv y) = some l)
    (c : Int) (hv : a.eval v = .int .i64 c) (hc : (Lit.int .i64 c).wf = true)
    (hK : ∀ w', MapOf P K E kv w' b (n + 1) (fun x => if x = y then some c else f x) → w.grownBy w' (some b) → wpList P ops Q rest (a.put o.dst undef) w') : wpList P ops Q (o :: rest) a w := by
  obtain ⟨D, hown, hD, hf⟩ := h
  obtain ⟨l, hl⟩ := hkey
  refine wpList_mapUpdate_own w hg m x v t hop K E law ht (plainElem P E) b n D hm hown hn _ _ l hx hv hl (.lit (.int .i64 c)) [] (plainElem_int he hc) ?_
  intro w' hown' hgr
  refine hK w' ⟨_, hown', hD.put _ _, ?_⟩ hgr
  intro a' l' hl'
  by_cases e : a' = y
  · subst e
    have : l' = l := by rw [hl] at hl'; exact (Option.some.inj hl').symm
    subst this
    rw [has_put_same hD (law.key hl')]
    dsimp only
    rw [if_pos rfl]
    refine ⟨rfl, fun v hv => ?_⟩
    cases hv
    exact atKey_put_same hD (law.key hl') _ _
  · have hne : l' ≠ l := by
      intro h
      subst h
      exact e (hinj _ _ (law.inj hl' hl))
    rw [has_put_other hne]
    dsimp only
    rw [if_neg e]
    obtain ⟨h1, h2⟩ := hf a' l' hl'
    refine ⟨h1, fun v hv => ?_⟩
    rw [atKey_put_other hne]
    exact h2 v hv
end
end Go.Proofs.Ytpkmcokkapfnmaa
