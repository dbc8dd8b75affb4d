/- Layer 8 (bound): a table of classes and joins in memory, and the contracts of class, span, Class, Cuts. -/
import Derived.Test.YtdppdjiigecjoaaProg
import Derived.Test.YtdppdjiigecjoaaMem
namespace Go.Proofs.Ytdppdjiigecjoaa
open Go.RowKit
set_option maxRecDepth 100000
set_option linter.unusedVariables false
set_option linter.unusedSimpArgs false

structure Cls where
  lo : Int
  hi : Int
  n : Int
structure Jn where
  a : Int
  b : Int
def encCls (c : Cls) : List Value := [.int .i64 c.lo, .int .i64 c.hi, .int .i64 c.n]
def encJn (c : Jn) : List Value := [.int .i64 c.a, .int .i64 c.b]

def tabCell (C : Nat → Int) (J : Nat → Nat → Bool) (i : Nat) : Value := if i < 256 then .int .i64 (C i) else .bool (J ((i - 256) / 16) ((i - 256) % 16))
def tabArr (C : Nat → Int) (J : Nat → Nat → Bool) : Array Value := Array.ofFn (n := 512) fun i => tabCell C J i

theorem zero_tab : Try.zeroCells105 = tabArr (fun _ => 0) (fun _ _ => false) := by
  have : Try.zeroCells105.toList = (tabArr (fun _ => 0) (fun _ _ => false)).toList := by
    unfold tabArr
    rw [Array.toList_ofFn]
    kernel_rfl
  exact Array.toList_inj.1 this

theorem tab_get (C : Nat → Int) (J : Nat → Nat → Bool) (i : Nat) (h : i < 512) : (tabArr C J)[i]? = some (tabCell C J i) := by
  simp [tabArr, h]

theorem tab_cls (C : Nat → Int) (J : Nat → Nat → Bool) (i : Nat) (h : i < 256) : (tabArr C J)[i]? = some (.int .i64 (C i)) := by
  rw [tab_get _ _ _ (by omega), tabCell, if_pos h]
theorem tab_jn (C : Nat → Int) (J : Nat → Nat → Bool) (x y : Nat) (hx : x < 16) (hy : y < 16) : (tabArr C J)[256 + x * 16 + y]? = some (.bool (J x y)) := by
  rw [tab_get _ _ _ (by omega), tabCell, if_neg (by omega)]
  have e1 : (256 + x * 16 + y - 256) / 16 = x := by omega
  have e2 : (256 + x * 16 + y - 256) % 16 = y := by omega
  rw [e1, e2]

theorem tab_setC (C : Nat → Int) (J : Nat → Nat → Bool) (i : Nat) (n : Int) (h : i < 256) : (tabArr C J).setIfInBounds i (.int .i64 n) = tabArr (fun j => if j = i then n else C j) J := by
  apply Array.ext_getElem?
  intro j
  rw [Array.getElem?_setIfInBounds]
  by_cases hj : j < 512
  · by_cases e : i = j
    · subst e
      rw [if_pos rfl, if_pos (by simp [tabArr]; omega), tab_cls _ _ _ h, if_pos rfl]
    · rw [if_neg e, tab_get _ _ _ hj, tab_get _ _ _ hj]
      unfold tabCell
      simp only [Option.some.injEq]
      split
      · rw [if_neg (by omega)]
      · rfl
  · have e : i ≠ j := by omega
    rw [if_neg e]
    simp [tabArr, hj]

theorem tab_setJ (C : Nat → Int) (J : Nat → Nat → Bool) (x y : Nat) (u : Bool) (hx : x < 16) (hy : y < 16) : (tabArr C J).setIfInBounds (256 + x * 16 + y) (.bool u) = tabArr C (fun a b => if a = x ∧ b = y then u else J a b) := by
  apply Array.ext_getElem?
  intro j
  rw [Array.getElem?_setIfInBounds]
  by_cases hj : j < 512
  · by_cases e : 256 + x * 16 + y = j
    · subst e
      rw [if_pos rfl, if_pos (by simp [tabArr]; omega), tab_jn _ _ _ _ hx hy, if_pos ⟨rfl, rfl⟩]
    · rw [if_neg e, tab_get _ _ _ hj, tab_get _ _ _ hj]
      unfold tabCell
      simp only [Option.some.injEq]
      split
      · rfl
      · rw [if_neg (by omega)]
  · have e : 256 + x * 16 + y ≠ j := by omega
    rw [if_neg e]
    simp [tabArr, hj]

def clsB (n : Int) : Bool := decide (0 ≤ n ∧ n < 16)
def spanB (c : Cls) : Bool := decide (0 ≤ c.lo ∧ c.lo ≤ c.hi ∧ c.hi < 256 ∧ 0 ≤ c.n ∧ c.n < 16)
def jnB (j : Jn) : Bool := clsB j.a && clsB j.b

theorem class_any (n : Int) (w : World) : Calls Try.prog 60 #[.int .i64 n] w fun e w' => e = .returned (.bool (clsB n)) ∧ w = w' := by
  by_cases h : 0 ≤ n
  · by_cases h2 : n < 16
    · have e : clsB n = true := by simp [clsB, h, h2]
      rw [e]
      go_enter Try.func60, Try.ntmps60
      go_wp2
      go_ret
      exact ⟨by simp, rfl⟩
    · have e : clsB n = false := by simp [clsB, h, h2]
      rw [e]
      go_enter Try.func60, Try.ntmps60
      go_wp2
      go_ret
      exact ⟨by simp, rfl⟩
  · have e : clsB n = false := by simp [clsB, h]
    rw [e]
    go_enter Try.func60, Try.ntmps60
    go_wp2
    go_ret
    exact ⟨by simp, rfl⟩

theorem span_yes (lo hi n : Int) (w : World) (h0 : 0 ≤ lo) (h1 : lo ≤ hi) (h2 : hi < 256) : Calls Try.prog 59 #[.agg #[.int .i64 lo, .int .i64 hi, .int .i64 n]] w fun e w' => e = .returned (.bool (clsB n)) ∧ Below w.heap.size w w' := by
  go_enter Try.func59, Try.ntmps59
  go_wp2_with (go_at_call 60; refine (class_any _ _).mono ?_; rintro e w' ⟨rfl, rfl⟩)
  go_ret
  exact ⟨by simp, (Below.refl _ _).alloc (Nat.le_refl _) _⟩

theorem span_no (lo hi n : Int) (w : World) (h : ¬ (0 ≤ lo ∧ lo ≤ hi ∧ hi < 256)) : Calls Try.prog 59 #[.agg #[.int .i64 lo, .int .i64 hi, .int .i64 n]] w fun e w' => e = .returned (.bool false) ∧ Below w.heap.size w w' := by
  by_cases h0 : 0 ≤ lo
  · by_cases h1 : lo ≤ hi
    · have h2 : decide (hi < 256) = false := by simp; omega
      clear h
      go_enter Try.func59, Try.ntmps59
      go_wp2
      go_ret
      exact ⟨by simp, (Below.refl _ _).alloc (Nat.le_refl _) _⟩
    · have h2 : decide (lo ≤ hi) = false := by simp; omega
      clear h h1
      go_enter Try.func59, Try.ntmps59
      go_wp2
      go_ret
      exact ⟨by simp, (Below.refl _ _).alloc (Nat.le_refl _) _⟩
  · have h2 : decide (0 ≤ lo) = false := by simp; omega
    clear h h0
    go_enter Try.func59, Try.ntmps59
    go_wp2
    go_ret
    exact ⟨by simp, (Below.refl _ _).alloc (Nat.le_refl _) _⟩

theorem span_any (c : Cls) (w : World) : Calls Try.prog 59 #[.agg #[.int .i64 c.lo, .int .i64 c.hi, .int .i64 c.n]] w fun e w' => e = .returned (.bool (spanB c)) ∧ Below w.heap.size w w' := by
  by_cases h : 0 ≤ c.lo ∧ c.lo ≤ c.hi ∧ c.hi < 256
  · refine (span_yes c.lo c.hi c.n w h.1 h.2.1 h.2.2).mono ?_
    rintro e w' ⟨rfl, hb⟩
    refine ⟨?_, hb⟩
    congr 2
    simp only [spanB, clsB, h.1, h.2.1, h.2.2, true_and]
  · refine (span_no c.lo c.hi c.n w h).mono ?_
    rintro e w' ⟨rfl, hb⟩
    refine ⟨?_, hb⟩
    congr 2
    simp only [spanB]
    symm
    rw [decide_eq_false_iff_not]
    omega

/-- A table in memory: its block known whole, its classes small. -/
def BTab (w : World) (bk : Nat) (C : Nat → Int) (J : Nat → Nat → Bool) : Prop :=
  w.heap[bk]? = some (.cells (tabArr C J) 105 (0, 0)) ∧ ∀ i, 0 ≤ C i ∧ C i < 16
theorem BTab.below {B : Nat} {w w' : World} {bk : Nat} {C : Nat → Int} {J : Nat → Nat → Bool} (h : BTab w bk C J) (hb : Below B w w') (hB : bk < B) : BTab w' bk C J := ⟨blk_below hb hB h.1, h.2⟩
def cutB (C : Nat → Int) (J : Nat → Nat → Bool) (a b : Nat) : Bool := decide (C a ≠ C b) && !J (C a).toNat (C b).toNat

theorem cls_nil (a : Int) (w : World) : Calls Try.prog 23 #[.pointer none, .int .u8 a] w fun e w' => e = .returned (.int .i64 0) ∧ ∃ m, w' = w.drewN m := by
  go_enter Try.func23, Try.ntmps23
  go_wp2
  go_ret
  exact ⟨rfl, 0, rfl⟩

theorem cls_tab (bk : Nat) (C : Nat → Int) (J : Nat → Nat → Bool) (a : Nat) (w : World) (ha : a < 256) (h : BTab w bk C J) :
    Calls Try.prog 23 #[.pointer (some ⟨bk, 0, none⟩), .int .u8 (a : Int)] w fun e w' => e = .returned (.int .i64 (C a)) ∧ ∃ m, w' = w.drewN m := by
  have hx := blk_cell h.1 a
  rw [tab_cls _ _ _ ha] at hx
  clear h
  go_enter Try.func23, Try.ntmps23
  go_wp2
  try (go_quiet (fail); go_wp2)
  go_ret
  refine ⟨by simp, ?_⟩
  first | exact ⟨_, rfl⟩ | exact ⟨0, rfl⟩

theorem cuts_nil (a b : Int) (w : World) : Calls Try.prog 25 #[.pointer none, .int .u8 a, .int .u8 b] w fun e w' => e = .returned (.bool false) ∧ ∃ m, w' = w.drewN m := by
  go_enter Try.func25, Try.ntmps25
  go_wp2
  go_ret
  exact ⟨rfl, 0, rfl⟩

theorem cuts_ne (bk : Nat) (a b : Nat) (x y : Int) (j : Bool) (w : World) (ha : a < 256) (hb : b < 256)
   (hx0 : 0 ≤ x) (hx : x < 16) (hy0 : 0 ≤ y) (hy : y < 16)
   (h1 : w.cell? ⟨bk, a, none⟩ = some (.int .i64 x)) (h2 : w.cell? ⟨bk, b, none⟩ = some (.int .i64 y))
   (h3 : w.cell? ⟨bk, 256 + x.toNat * 16 + y.toNat, none⟩ = some (.bool j)) (hne : (x == y) = false) (hne' : (x != y) = true) :
   Calls Try.prog 25 #[.pointer (some ⟨bk, 0, none⟩), .int .u8 (a : Int), .int .u8 (b : Int)] w fun e w' => e = .returned (.bool (!j)) ∧ ∃ m, w' = w.drewN m := by
  go_enter Try.func25, Try.ntmps25
  go_wp2
  go_quiet (fail)
  go_wp2
  go_ret
  exact ⟨by simp, _, rfl⟩

theorem cuts_eq (bk : Nat) (a b : Nat) (x : Int) (w : World) (ha : a < 256) (hb : b < 256)
   (h1 : w.cell? ⟨bk, a, none⟩ = some (.int .i64 x)) (h2 : w.cell? ⟨bk, b, none⟩ = some (.int .i64 x)) :
   Calls Try.prog 25 #[.pointer (some ⟨bk, 0, none⟩), .int .u8 (a : Int), .int .u8 (b : Int)] w fun e w' => e = .returned (.bool false) ∧ ∃ m, w' = w.drewN m := by
  go_enter Try.func25, Try.ntmps25
  go_wp2
  go_quiet (fail)
  go_wp2
  go_ret
  exact ⟨by simp, _, rfl⟩

theorem cuts_tab (bk : Nat) (C : Nat → Int) (J : Nat → Nat → Bool) (a b : Nat) (w : World) (ha : a < 256) (hb : b < 256) (h : BTab w bk C J) :
    Calls Try.prog 25 #[.pointer (some ⟨bk, 0, none⟩), .int .u8 (a : Int), .int .u8 (b : Int)] w fun e w' => e = .returned (.bool (cutB C J a b)) ∧ ∃ m, w' = w.drewN m := by
  have h1 := blk_cell h.1 a
  rw [tab_cls _ _ _ ha] at h1
  have h2 := blk_cell h.1 b
  rw [tab_cls _ _ _ hb] at h2
  have ra := h.2 a
  have rb := h.2 b
  have h3 := blk_cell h.1 (256 + (C a).toNat * 16 + (C b).toNat)
  rw [tab_jn _ _ _ _ (by omega) (by omega)] at h3
  by_cases e : C a = C b
  · have e' : cutB C J a b = false := by simp [cutB, e]
    rw [e']
    rw [← e] at h2
    exact cuts_eq bk a b (C a) w ha hb h1 h2
  · have e' : cutB C J a b = !J (C a).toNat (C b).toNat := by simp [cutB, e]
    rw [e']
    exact cuts_ne bk a b (C a) (C b) _ w ha hb ra.1 ra.2 rb.1 rb.2 h1 h2 h3 (beq_eq_false_iff_ne.2 e) (by rw [bne_iff_ne]; exact e)
end Go.Proofs.Ytdppdjiigecjoaa
