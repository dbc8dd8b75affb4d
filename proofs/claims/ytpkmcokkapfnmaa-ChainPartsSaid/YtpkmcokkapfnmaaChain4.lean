/- Layer 5 (chain): a chain in memory: its nodes, its queue, the table; asks. -/
import Derived.Test.YtpkmcokkapfnmaaHeapW6
import Derived.Test.YtpkmcokkapfnmaaChain3
import Derived.Test.YtpkmcokkapfnmaaToken6
namespace Go.Proofs.Ytpkmcokkapfnmaa
open Go.RowKit Go.Maps Go.WideMaps
set_option maxRecDepth 100000
set_option linter.unusedVariables false
set_option linter.unusedSimpArgs false

def encN (x : Node) : List Value := [.int .i64 x.1, .int .i64 x.2.1, .int .i64 x.2.2]
theorem encN_len (x : Node) : (encN x).length = 3 := rfl
theorem flatN_len (N : List Node) : (N.flatMap encN).length = N.length * 3 := by
  induction N with
  | nil => rfl
  | cons a l ih => rw [List.flatMap_cons, List.length_append, ih, encN_len, List.length_cons]; omega
theorem info_node : (Try.prog.info? 107).map (fun i => (i.zero, i.size, i.bytes)) = some (some (.agg #[.int .i64 0, .int .i64 0, .int .i64 0]), 3, 24) := by kernel_rfl
theorem flat_modify (N : List Node) (f : Node → Node) (o : Nat) (v : Node → Value) (hf : ∀ x, encN (f x) = (encN x).set o (v x)) (ho : o < 3) : ∀ (k : Nat) (x : Node), N[k]? = some x → (N.modify k f).flatMap encN = (N.flatMap encN).set (k * 3 + o) (v x) := by
  induction N with
  | nil => intro k x h; simp at h
  | cons a N ih =>
    intro k x h
    cases k with
    | zero =>
      simp at h
      subst h
      simp only [List.modify_zero_cons, List.flatMap_cons, hf]
      rw [List.set_append_left _ _ (by rw [encN_len]; omega)]
      congr 1
      simp
    | succ k =>
      simp at h
      simp only [List.modify_succ_cons, List.flatMap_cons, ih k x h]
      have e : (k + 1) * 3 + o = (encN a).length + (k * 3 + o) := by rw [encN_len]; omega
      rw [e, List.set_append_right _ _ (Nat.le_add_right _ _), Nat.add_sub_cancel_left]
theorem flat_id (N : List Node) (u : Int) (k : Nat) (hk : k < N.length) : (N.modify k (idN u)).flatMap encN = (N.flatMap encN).set (k * 3) (.int .i64 u) :=
  flat_modify N (idN u) 0 (fun _ => .int .i64 u) (fun x => rfl) (by omega) k N[k] (List.getElem?_eq_getElem hk)
theorem flat_ahead (N : List Node) (u : Int) (k : Nat) (hk : k < N.length) : (N.modify k (aheadN u)).flatMap encN = (N.flatMap encN).set (k * 3 + 1) (.int .i64 u) :=
  flat_modify N (aheadN u) 1 (fun _ => .int .i64 u) (fun x => rfl) (by omega) k N[k] (List.getElem?_eq_getElem hk)
theorem flat_next (N : List Node) (u : Int) (k : Nat) (hk : k < N.length) : (N.modify k (nextN u)).flatMap encN = (N.flatMap encN).set (k * 3 + 2) (.int .i64 u) :=
  flat_modify N (nextN u) 2 (fun _ => .int .i64 u) (fun x => rfl) (by omega) k N[k] (List.getElem?_eq_getElem hk)

/-- a chain's own block and its nodes -/
structure LinkIs (w : World) (base cb tb qb : Nat) (N : List Node) (bel steps : Int) (A : Option Addr) (c : Nat) : Prop where
  blk : w.heap[cb]? = some (.cells #[.pointer (some ⟨tb, 0, none⟩), .slice A N.length c, .pointer (some ⟨qb, 0, none⟩), .int .i64 bel, .int .i64 steps] 78)
  row : w.ownsRow base 107 3 (.slice A N.length c) N.length (N.flatMap encN)
  le : base ≤ cb
theorem LinkIs.below {B : Nat} {w w' : World} {base cb tb qb : Nat} {N : List Node} {bel steps : Int} {A : Option Addr} {c : Nat} (h : LinkIs w base cb tb qb N bel steps A c) (hb : Below B w w') (hB : w.heap.size ≤ B) : LinkIs w' base cb tb qb N bel steps A c :=
  ⟨blk_below hb (Nat.lt_of_lt_of_le (blk_lt h.blk) hB) h.blk, own_below h.row hb hB, h.le⟩
theorem LinkIs.keep {F : Nat → Prop} {w w' : World} {base cb tb qb : Nat} {N : List Node} {bel steps : Int} {A : Option Addr} {c : Nat} (h : LinkIs w base cb tb qb N bel steps A c) (k : Keep F w w') (hF : ¬ F cb) (hA : ∀ g, A = some ⟨g, 0, none⟩ → ¬ F g) : LinkIs w' base cb tb qb N bel steps A c :=
  ⟨k.blk h.blk hF, own_keep h.row k (fun g hg => hA g (hw.own_addr h.row g hg)), h.le⟩
/-- a node, where it lies -/
theorem LinkIs.at {w : World} {base cb tb qb : Nat} {N : List Node} {bel steps : Int} {A : Option Addr} {c : Nat} (h : LinkIs w base cb tb qb N bel steps A c) (i : Nat) (x : Node) (hi : N[i]? = some x) :
    ∃ g, A = some ⟨g, 0, none⟩ ∧ w.cell? ⟨g, i * 3, none⟩ = some (.int .i64 x.1) ∧ w.cell? ⟨g, i * 3 + 1, none⟩ = some (.int .i64 x.2.1) ∧ w.cell? ⟨g, i * 3 + 2, none⟩ = some (.int .i64 x.2.2) := by
  have hlt := (List.getElem?_eq_some_iff.1 hi).1
  obtain ⟨g, cap, e, _, _, _⟩ := own_open h.row (by omega)
  injection e with e1 e2 e3
  subst e1
  obtain ⟨b, o, e2, hc⟩ := (own_sl encN_len h.row (by decide)) i x hi
  injection e2 with e2
  injection e2 with e2 e3
  subst e2; subst e3
  refine ⟨_, rfl, ?_, ?_, ?_⟩
  · have := hc 0 _ rfl; simpa using this
  · have := hc 1 _ rfl; simpa using this
  · have := hc 2 _ rfl; simpa using this
theorem row_row {w : World} {b1 b2 n1 n2 s1 s2 c1 c2 : Nat} {e1 e2 : TypeId} {A1 A2 : Option Addr} {x1 x2 : List Value} (h1 : w.ownsRow b1 e1 s1 (.slice A1 n1 c1) n1 x1) (h2 : w.ownsRow b2 e2 s2 (.slice A2 n2 c2) n2 x2) (hne : e1 ≠ e2) : ∀ g, A1 = some ⟨g, 0, none⟩ → A2 ≠ some ⟨g, 0, none⟩ := by
  intro g hg1 hg2
  rcases h1.2 with ⟨q1, _⟩ | ⟨g1, cap1, cur1, q1, _, hb1, _⟩
  · injection q1 with q1; rw [hg1] at q1; cases q1
  · rcases h2.2 with ⟨q2, _⟩ | ⟨g2, cap2, cur2, q2, _, hb2, _⟩
    · injection q2 with q2; rw [hg2] at q2; cases q2
    · injection q1 with q1; rw [hg1] at q1; injection q1 with q1; injection q1 with q1; subst q1
      injection q2 with q2; rw [hg2] at q2; injection q2 with q2; injection q2 with q2; subst q2
      rw [hb1] at hb2
      injection hb2 with hb2
      injection hb2 with _ hb2 _
      exact hne hb2
theorem row_ne2 {w : World} {b1 n1 s1 c1 : Nat} {e1 e2 : TypeId} {A1 : Option Addr} {x1 : List Value} {g : Nat} {cs : Array Value} {fz : Nat × Nat} (h1 : w.ownsRow b1 e1 s1 (.slice A1 n1 c1) n1 x1) (h2 : w.heap[g]? = some (.cells cs e2 fz)) (hne : e1 ≠ e2) : A1 ≠ some ⟨g, 0, none⟩ := by
  intro hg1
  rcases h1.2 with ⟨q1, _⟩ | ⟨g1, cap1, cur1, q1, _, hb1, _⟩
  · injection q1 with q1; rw [hg1] at q1; cases q1
  · injection q1 with q1; rw [hg1] at q1; injection q1 with q1; injection q1 with q1; subst q1
    rw [hb1] at h2
    injection h2 with h2
    injection h2 with _ h2 _
    exact hne h2
theorem blk_ne {w : World} {e1 e2 : TypeId} {g1 g2 : Nat} {c1 c2 : Array Value} {f1 f2 : Nat × Nat} (h1 : w.heap[g1]? = some (.cells c1 e1 f1)) (h2 : w.heap[g2]? = some (.cells c2 e2 f2)) (hne : e1 ≠ e2) : g1 ≠ g2 := by
  rintro rfl
  rw [h1] at h2
  injection h2 with h2
  injection h2 with _ h2 _
  exact hne h2

/-- a chain, its queue and its table -/
structure ChainIs (w : World) (base tbase tb : Nat) (T : List Ent) (sv : Value) (mb mp cb qb : Nat) (N : List Node) (bel steps : Int) (A : Option Addr) (c : Nat) (Q : List (Th Wt)) (turn : Int) (Aq : Option Addr) (cq : Nat) : Prop where
  lk : LinkIs w base cb tb qb N bel steps A c
  hp : hw.HeapWs w base qb Q turn Aq cq
  tab : TabIs w tbase tb T sv mb mp
  tlt : ∀ x, tabF tb sv mb mp x → x < base
section
variable {w w' : World} {base tbase tb : Nat} {T : List Ent} {sv : Value} {mb mp cb qb : Nat} {N : List Node} {bel steps : Int} {A : Option Addr} {c : Nat} {Q : List (Th Wt)} {turn : Int} {Aq : Option Addr} {cq : Nat}
theorem ChainIs.below {B : Nat} (h : ChainIs w base tbase tb T sv mb mp cb qb N bel steps A c Q turn Aq cq) (hb : Below B w w') (hB : w.heap.size ≤ B) : ChainIs w' base tbase tb T sv mb mp cb qb N bel steps A c Q turn Aq cq :=
  ⟨h.lk.below hb hB, h.hp.below hb hB, h.tab.below hb hB, h.tlt⟩
theorem ChainIs.drew (h : ChainIs w base tbase tb T sv mb mp cb qb N bel steps A c Q turn Aq cq) : ChainIs w.drew base tbase tb T sv mb mp cb qb N bel steps A c Q turn Aq cq :=
  h.below (B := w.heap.size) ⟨rfl, rfl, rfl, Nat.le_refl _, fun _ _ => rfl⟩ (Nat.le_refl _)
theorem ChainIs.sizes (h : ChainIs w base tbase tb T sv mb mp cb qb N bel steps A c Q turn Aq cq) : base ≤ w.heap.size := Nat.le_trans h.lk.le (Nat.le_of_lt (blk_lt h.lk.blk))
/-- the queue has turned -/
theorem ChainIs.queue {Q' : List (Th Wt)} {turn' : Int} {Aq' : Option Addr} {cq' : Nat} (h : ChainIs w base tbase tb T sv mb mp cb qb N bel steps A c Q turn Aq cq) (hq : hw.HeapWs w' base qb Q' turn' Aq' cq') (k : Keep (hw.heapF qb Aq) w w') : ChainIs w' base tbase tb T sv mb mp cb qb N bel steps A c Q' turn' Aq' cq' ∧ Below base w w' := by
  have hF : ∀ g, hw.heapF qb Aq g → base ≤ g := h.hp.base
  refine ⟨⟨h.lk.keep k ?_ ?_, hq, h.tab.keep k ?_, h.tlt⟩, k.below h.sizes hF⟩
  · rintro (e | e)
    · exact blk_ne h.lk.blk h.hp.blk (by decide) e
    · exact row_ne2 h.hp.row h.lk.blk (by decide) e
  · rintro g e (e2 | e2)
    · subst e2; exact row_ne2 h.lk.row h.hp.blk (by decide) e
    · exact row_row h.lk.row h.hp.row (by decide) g e e2
  · intro x hx hx2
    have := h.tlt x hx
    have := hF x hx2
    omega
/-- the nodes, or the chain's block, have turned -/
theorem ChainIs.link {N' : List Node} {steps' : Int} {A' : Option Addr} {c' : Nat} (h : ChainIs w base tbase tb T sv mb mp cb qb N bel steps A c Q turn Aq cq) (hl : LinkIs w' base cb tb qb N' bel steps' A' c') (k : Keep (fun g => g = cb ∨ A = some ⟨g, 0, none⟩) w w') : ChainIs w' base tbase tb T sv mb mp cb qb N' bel steps' A' c' Q turn Aq cq ∧ Below base w w' := by
  have hF : ∀ g, (g = cb ∨ A = some ⟨g, 0, none⟩) → base ≤ g := by
    rintro g (e | e)
    · rw [e]; exact h.lk.le
    · exact own_base h.lk.row g (hw.addr_own e)
  refine ⟨⟨hl, h.hp.keep k ?_, h.tab.keep k ?_, h.tlt⟩, k.below h.sizes hF⟩
  · rintro g (e | e) (e2 | e2)
    · exact blk_ne h.lk.blk h.hp.blk (by decide) (e2.symm.trans e)
    · subst e; exact row_ne2 h.lk.row h.hp.blk (by decide) e2
    · subst e2; exact row_ne2 h.hp.row h.lk.blk (by decide) e
    · exact row_row h.lk.row h.hp.row (by decide) g e2 e
  · intro x hx hx2
    have := h.tlt x hx
    have := hF x hx2
    omega
end
/-- of two tokens the one that they become, below the limit -/
def pairB (T : List Ent) (bel : Int) (a b : Int) : Option Int := (pairT T (a, b)).bind (fun r => if (r : Int) < bel then some (r : Int) else none)
end Go.Proofs.Ytpkmcokkapfnmaa
