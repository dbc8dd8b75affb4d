/- Texts of several layers, one behind the other: Tok, Trie0, Mem, Maps, MapP, Region, Token0, Token1, Trie1, Trie2, Region2, Trie3, Cell, Heap0, Token2, Chain0, Chain1, HeapW2, HeapW5, HeapW6, Chain2, Chain3, Token3, Token4, Token5, Ref0, Ref1, Ref3, Ref4. -/
import Derived.WalkKit
import Derived.KernelRfl
import Derived.Lib.Hide
import Derived.Deep.QuietTactic
import Derived.BigQuiet
import Derived.OwnWalk
import Derived.Lib.Strings
import Derived.Deep.DeepCutAuto
import Derived.Deep.RegionHeld3
import Derived.StillTailTactics
import Derived.Maps.OwnSet
import Derived.Maps.OwnOps
import Derived.DeepKeys4
import Derived.WideKeyEntry
import Derived.Maps.AppendAt
import Derived.Test.YtkkcekgbnloegaaGreatProg
import Derived.Laws.ResultCell
import Derived.Laws.AppendOwnNone
import Derived.Laws.IdiomStrings
import Derived.Lib.AppendStr
import Derived.Deep.Slices
import Derived.Deep.Fields
import Derived.ChangeSame
import Derived.SliceStrings
import Derived.OpenShut
import Derived.Laws.LoneSync
import Derived.Laws.OwnMore
import Derived.Laws.MakeOwn
import Derived.Laws.Bits64b
import Derived.Laws.BitsAllLaws
import Derived.Tactics
import Derived.Tactics2
import Derived.Defers
import Derived.Laws.Pointers
import Derived.RegionTactic
import Derived.RegionCalls
import Derived.ChangeAlike
import Derived.Test.YtkkcekgbnloegaaGreatRows
import Derived.ProofKit
import Derived.ShutString
import Derived.ChangeOld
import Derived.Below
import Derived.Lib.SmallJoins
set_option maxRecDepth 100000
set_option linter.unusedVariables false
set_option linter.unusedSimpArgs false
namespace Go.Proofs.YtkkcekgbnloegaaGreat
abbrev Ent := List UInt8 × Int × Int
def baseT : List Ent := (List.range 256).map fun i => ([UInt8.ofNat i], -1, -1)
def hasT (T : List Ent) (id : Int) : Bool := decide (0 ≤ id) && decide (id < (T.length : Int))
def entT (T : List Ent) (id : Int) : Ent := T.getD id.toNat ([], -1, -1)
def findT (T : List Ent) (s : List UInt8) : Option Nat := T.findIdx? (fun e => e.1 == s)
def pairT (T : List Ent) (m : Int × Int) : Option Nat := T.findIdx? (fun e => e.2 == m && m != (-1, -1))
def longT (T : List Ent) : Nat := T.foldl (fun n e => max n e.1.length) 1
def addT (T : List Ent) (a b : Int) : Int × Int × List Ent :=
  if !(hasT T a && hasT T b) then (0, 4, T)
  else if ((entT T a).1 ++ (entT T b).1).length > 64 then (0, 3, T)
  else if T.length ≥ 1000 then (0, 5, T)
  else if (findT T ((entT T a).1 ++ (entT T b).1)).isSome then (0, 10, T)
  else (T.length, 0, T ++ [((entT T a).1 ++ (entT T b).1, a, b)])
theorem find_snoc {α : Type} (p : α → Bool) (l : List α) (x : α) : (l ++ [x]).findIdx? p = if (l.findIdx? p).isSome then l.findIdx? p else if p x then some l.length else none := by
  rw [List.findIdx?_append]
  cases h : l.findIdx? p with
  | some i => simp
  | none => cases hp : p x <;> simp [List.findIdx?_cons, hp]
theorem findT_snoc (T : List Ent) (s : List UInt8) (e : Ent) (h : findT T e.1 = none) : findT (T ++ [e]) s = if s = e.1 then some T.length else findT T s := by
  unfold findT at *
  rw [find_snoc]
  by_cases hs : s = e.1
  · subst hs
    rw [h]
    simp
  · rw [if_neg hs]
    cases hf : T.findIdx? (fun e => e.1 == s) with
    | some i => simp
    | none => simp; exact fun h => hs h.symm
theorem pairT_snoc (T : List Ent) (m : Int × Int) (e : Ent) (h : pairT T e.2 = none) (he : e.2 ≠ (-1, -1)) : pairT (T ++ [e]) m = if m = e.2 then some T.length else pairT T m := by
  unfold pairT at *
  rw [find_snoc]
  by_cases hs : m = e.2
  · subst hs
    rw [h]
    simp [he]
  · rw [if_neg hs]
    cases hf : T.findIdx? (fun e => e.2 == m && m != (-1, -1)) with
    | some i => simp
    | none => simp; exact fun h => absurd h.symm hs
theorem longT_snoc (T : List Ent) (e : Ent) : longT (T ++ [e]) = max (longT T) e.1.length := by simp [longT]
structure OkT (T : List Ent) : Prop where
  base : ∃ M, T = baseT ++ M
  small : T.length ≤ 1000
  len : ∀ e ∈ T, 0 < e.1.length ∧ e.1.length ≤ 64
  nodup : ∀ i j, i < T.length → j < T.length → (entT T (i : Nat)).1 = (entT T (j : Nat)).1 → i = j
  made : ∀ i, 256 ≤ i → i < T.length → 0 ≤ (entT T (i : Nat)).2.1 ∧ (entT T (i : Nat)).2.1 < (i : Int) ∧ 0 ≤ (entT T (i : Nat)).2.2 ∧ (entT T (i : Nat)).2.2 < (i : Int) ∧ (entT T (i : Nat)).1 = (entT T (entT T (i : Nat)).2.1).1 ++ (entT T (entT T (i : Nat)).2.2).1
theorem base_len : baseT.length = 256 := by simp [baseT]
theorem entT_nat (T : List Ent) (i : Nat) (h : i < T.length) : entT T (i : Int) = T[i] := by
  simp [entT, List.getD_eq_getElem?_getD, h]
theorem base_at (i : Nat) (h : i < 256) : baseT[i]'(by rw [base_len]; exact h) = ([UInt8.ofNat i], -1, -1) := by simp [baseT]
theorem okT_base : OkT baseT := by
  refine ⟨⟨[], by simp⟩, by simp [base_len], ?_, ?_, ?_⟩
  · intro e he
    obtain ⟨i, _, rfl⟩ := List.mem_map.1 he
    simp
  · intro i j hi hj h
    rw [entT_nat _ _ hi, entT_nat _ _ hj] at h
    rw [base_len] at hi hj
    rw [base_at i hi, base_at j hj] at h
    simp only [List.cons.injEq, and_true] at h
    have h1 : (UInt8.ofNat i).toNat = (UInt8.ofNat j).toNat := by rw [h]
    simp only [UInt8.toNat_ofNat'] at h1
    omega
  · intro i h1 h2
    rw [base_len] at h2
    omega
theorem entT_append (T : List Ent) (e : Ent) (i : Int) (h : hasT T i = true) : entT (T ++ [e]) i = entT T i := by
  simp only [hasT, Bool.and_eq_true, decide_eq_true_eq] at h
  unfold entT
  rw [List.getD_eq_getElem?_getD, List.getD_eq_getElem?_getD, List.getElem?_append_left (by omega)]
theorem entT_last (T : List Ent) (e : Ent) : entT (T ++ [e]) (T.length : Nat) = e := by
  unfold entT
  simp
theorem findT_none {T : List Ent} {s : List UInt8} (h : findT T s = none) (i : Nat) (hi : i < T.length) : (entT T (i : Nat)).1 ≠ s := by
  rw [entT_nat _ _ hi]
  unfold findT at h
  rw [List.findIdx?_eq_none_iff] at h
  have := h T[i] (List.getElem_mem hi)
  simpa using this
theorem okT_add {T : List Ent} (h : OkT T) (a b : Int) (he : (addT T a b).2.1 = 0) : OkT (addT T a b).2.2 := by
  unfold addT at *
  by_cases h1 : (!(hasT T a && hasT T b)) = true
  · rw [if_pos h1] at he; simp at he
  rw [if_neg h1] at he ⊢
  by_cases h2 : ((entT T a).1 ++ (entT T b).1).length > 64
  · rw [if_pos h2] at he; simp at he
  rw [if_neg h2] at he ⊢
  by_cases h3 : T.length ≥ 1000
  · rw [if_pos h3] at he; simp at he
  rw [if_neg h3] at he ⊢
  by_cases h4 : (findT T ((entT T a).1 ++ (entT T b).1)).isSome = true
  · rw [if_pos h4] at he; simp at he
  rw [if_neg h4]
  simp only [Bool.not_eq_true', Bool.not_eq_false, Bool.and_eq_true] at h1
  have h4' : findT T ((entT T a).1 ++ (entT T b).1) = none := by
    cases hf : findT T ((entT T a).1 ++ (entT T b).1) with
    | none => rfl
    | some i => rw [hf] at h4; simp at h4
  have ha := h1.1
  have hb := h1.2
  have ha' := ha
  have hb' := hb
  simp only [hasT, Bool.and_eq_true, decide_eq_true_eq] at ha' hb'
  obtain ⟨M, hM⟩ := h.base
  have hlen : ∀ i : Int, hasT T i = true → 0 < (entT T i).1.length := by
    intro i hi
    simp only [hasT, Bool.and_eq_true, decide_eq_true_eq] at hi
    obtain ⟨k, rfl⟩ := Int.eq_ofNat_of_zero_le hi.1
    rw [entT_nat _ _ (by omega)]
    exact (h.len _ (List.getElem_mem _)).1
  refine ⟨⟨M ++ [_], by rw [hM, List.append_assoc]⟩, by simp; omega, ?_, ?_, ?_⟩
  · intro e hm
    rcases List.mem_append.1 hm with hm | hm
    · exact h.len e hm
    · rw [List.mem_singleton] at hm
      subst hm
      refine ⟨?_, by simpa using h2⟩
      have := hlen a ha
      simp only [List.length_append]
      omega
  · intro i j hi hj hij
    simp only [List.length_append, List.length_singleton] at hi hj
    by_cases hi' : i < T.length
    · have e1 : hasT T (i : Int) = true := by simp [hasT]; omega
      rw [entT_append _ _ _ e1] at hij
      by_cases hj' : j < T.length
      · have e2 : hasT T (j : Int) = true := by simp [hasT]; omega
        rw [entT_append _ _ _ e2] at hij
        exact h.nodup i j hi' hj' hij
      · have : j = T.length := by omega
        subst this
        rw [entT_last] at hij
        exact absurd hij (findT_none h4' i hi')
    · have : i = T.length := by omega
      subst this
      rw [entT_last] at hij
      by_cases hj' : j < T.length
      · have e2 : hasT T (j : Int) = true := by simp [hasT]; omega
        rw [entT_append _ _ _ e2] at hij
        exact absurd hij.symm (findT_none h4' j hj')
      · omega
  · intro i hi1 hi2
    simp only [List.length_append, List.length_singleton] at hi2
    by_cases hi' : i < T.length
    · have e1 : hasT T (i : Int) = true := by simp [hasT]; omega
      rw [entT_append _ _ _ e1]
      obtain ⟨q1, q2, q3, q4, q5⟩ := h.made i hi1 hi'
      refine ⟨q1, q2, q3, q4, ?_⟩
      rw [entT_append _ _ _ (by simp only [hasT, Bool.and_eq_true, decide_eq_true_eq]; omega), entT_append _ _ _ (by simp only [hasT, Bool.and_eq_true, decide_eq_true_eq]; omega)]
      exact q5
    · have : i = T.length := by omega
      subst this
      rw [entT_last]
      refine ⟨ha'.1, ha'.2, hb'.1, hb'.2, ?_⟩
      simp only
      rw [entT_append _ _ _ ha, entT_append _ _ _ hb]
theorem pairT_none {T : List Ent} (h : OkT T) {a b : Int} (hn : findT T ((entT T a).1 ++ (entT T b).1) = none) (hab : (a, b) ≠ ((-1 : Int), (-1 : Int))) : pairT T (a, b) = none := by
  unfold pairT
  rw [List.findIdx?_eq_none_iff]
  intro e he
  obtain ⟨i, hi, rfl⟩ := List.getElem_of_mem he
  rw [Bool.eq_false_iff]
  intro hh
  simp only [Bool.and_eq_true, beq_iff_eq] at hh
  have he2 := hh.1
  by_cases h256 : i < 256
  · obtain ⟨M, hM⟩ := h.base
    have : T[i] = ([UInt8.ofNat i], -1, -1) := by
      have h0 : (baseT ++ M)[i]? = some ([UInt8.ofNat i], -1, -1) := by
        rw [List.getElem?_append_left (by rw [base_len]; exact h256), List.getElem?_eq_getElem (by rw [base_len]; exact h256), base_at i h256]
      rw [← hM, List.getElem?_eq_getElem hi] at h0
      exact Option.some.inj h0
    rw [this] at he2
    exact hab he2.symm
  · obtain ⟨q1, q2, q3, q4, q5⟩ := h.made i (by omega) hi
    rw [entT_nat _ _ hi, he2] at q5
    have := findT_none hn i hi
    rw [entT_nat _ _ hi] at this
    exact this q5
abbrev TN := List UInt8 × Int
def idxN (N : List TN) (s : List UInt8) : Option Nat := N.findIdx? (fun x => x.1 == s)
def extN (N : List TN) (s : List UInt8) : Nat → List TN
  | 0 => N
  | i + 1 => if (idxN (extN N s i) (s.take (i + 1))).isSome then extN N s i else extN N s i ++ [(s.take (i + 1), -1)]
def setN (N : List TN) (s : List UInt8) (id : Int) : List TN := N.map (fun x => if x.1 = s then (x.1, id) else x)
structure OkN (N : List TN) : Prop where
  root : idxN N [] = some 0
  nodup : ∀ (i j : Nat) (x y : TN), N[i]? = some x → N[j]? = some y → x.1 = y.1 → i = j
  pfx : ∀ (t : List UInt8) (c : UInt8), (idxN N (t ++ [c])).isSome → (idxN N t).isSome
theorem idxN_snoc (N : List TN) (s : List UInt8) (x : TN) : idxN (N ++ [x]) s = if (idxN N s).isSome then idxN N s else if x.1 = s then some N.length else none := by
  unfold idxN
  rw [find_snoc]
  by_cases h : x.1 = s <;> simp [h]
theorem idxN_some {N : List TN} {s : List UInt8} {i : Nat} (h : idxN N s = some i) : ∃ x, N[i]? = some x ∧ x.1 = s := by
  unfold idxN at h
  rw [List.findIdx?_eq_some_iff_getElem] at h
  obtain ⟨hi, h1, _⟩ := h
  exact ⟨N[i], List.getElem?_eq_getElem hi, by simpa using h1⟩
theorem idxN_of {N : List TN} {i : Nat} {x : TN} (hN : OkN N) (h : N[i]? = some x) : idxN N x.1 = some i := by
  cases hj : idxN N x.1 with
  | none =>
    exfalso
    unfold idxN at hj
    rw [List.findIdx?_eq_none_iff] at hj
    have := hj x (List.mem_of_getElem? h)
    simp at this
  | some j =>
    obtain ⟨y, hy, e⟩ := idxN_some hj
    rw [hN.nodup j i y x hy h e]
theorem idxN_lt {N : List TN} {s : List UInt8} {i : Nat} (h : idxN N s = some i) : i < N.length := by
  obtain ⟨x, hx, _⟩ := idxN_some h
  exact (List.getElem?_eq_some_iff.1 hx).1
theorem okN_snoc {N : List TN} (hN : OkN N) {t : List UInt8} {c : UInt8} (ht : (idxN N t).isSome = true) (hc : idxN N (t ++ [c]) = none) (id : Int) : OkN (N ++ [(t ++ [c], id)]) := by
  refine ⟨?_, ?_, ?_⟩
  · rw [idxN_snoc, hN.root]; rfl
  · intro i j x y hi hj e
    have key : ∀ (i : Nat) (x : TN), (N ++ [(t ++ [c], id)])[i]? = some x → N[i]? = some x ∨ (i = N.length ∧ x = (t ++ [c], id)) := by
      intro i x hi
      rw [List.getElem?_append] at hi
      split at hi
      · exact .inl hi
      · rename_i h
        right
        have hlt := (List.getElem?_eq_some_iff.1 hi).1
        simp at hlt
        have e0 : i - N.length = 0 := by omega
        rw [e0] at hi
        simp at hi
        exact ⟨by omega, hi.symm⟩
    have no : ∀ (i : Nat) (x : TN), N[i]? = some x → x.1 ≠ t ++ [c] := by
      intro i x hx e
      have := idxN_of hN hx
      rw [e, hc] at this
      cases this
    rcases key i x hi with h1 | ⟨h1, rfl⟩
    · rcases key j y hj with h2 | ⟨h2, rfl⟩
      · exact hN.nodup i j x y h1 h2 e
      · exact absurd e (no i x h1)
    · rcases key j y hj with h2 | ⟨h2, rfl⟩
      · exact absurd e.symm (no j y h2)
      · omega
  · intro u d h
    rw [idxN_snoc] at h ⊢
    by_cases h1 : (idxN N (u ++ [d])).isSome = true
    · rw [if_pos (hN.pfx u d h1)]; exact hN.pfx u d h1
    · rw [if_neg h1] at h
      by_cases h2 : t ++ [c] = u ++ [d]
      · have e := List.append_inj' h2 rfl
        rw [← e.1, if_pos ht]; exact ht
      · rw [if_neg (by simpa using h2)] at h; simp at h
theorem setN_len (N : List TN) (s : List UInt8) (id : Int) : (setN N s id).length = N.length := by simp [setN]
theorem setN_at {N : List TN} {s : List UInt8} {id : Int} {i : Nat} {x : TN} (h : N[i]? = some x) : (setN N s id)[i]? = some (if x.1 = s then (x.1, id) else x) := by
  unfold setN
  rw [List.getElem?_map, h]; rfl
theorem setN_inv {N : List TN} {s : List UInt8} {id : Int} {i : Nat} {y : TN} (h : (setN N s id)[i]? = some y) : ∃ x, N[i]? = some x ∧ y = if x.1 = s then (x.1, id) else x := by
  unfold setN at h
  rw [List.getElem?_map, Option.map_eq_some_iff] at h
  obtain ⟨x, hx, e⟩ := h
  exact ⟨x, hx, e.symm⟩
theorem idxN_set (N : List TN) (s : List UInt8) (id : Int) (t : List UInt8) : idxN (setN N s id) t = idxN N t := by
  unfold idxN setN
  rw [List.findIdx?_map]
  congr 1
  funext x
  simp only [Function.comp_apply]
  split <;> rfl
theorem set_fst (x : TN) (s : List UInt8) (id : Int) : (if x.1 = s then (x.1, id) else x).1 = x.1 := by split <;> rfl
theorem okN_set {N : List TN} (hN : OkN N) (s : List UInt8) (id : Int) : OkN (setN N s id) := by
  refine ⟨by rw [idxN_set]; exact hN.root, ?_, ?_⟩
  · intro i j x y hi hj e
    obtain ⟨x', hx, rfl⟩ := setN_inv hi
    obtain ⟨y', hy, rfl⟩ := setN_inv hj
    rw [set_fst, set_fst] at e
    exact hN.nodup i j x' y' hx hy e
  · intro t c h
    rw [idxN_set] at h ⊢
    exact hN.pfx t c h
theorem take_step {s : List UInt8} {i : Nat} (h : i < s.length) : s.take (i + 1) = s.take i ++ [s[i]] := by rw [List.take_add_one, List.getElem?_eq_getElem h]; rfl
theorem ext_ok {N : List TN} (hN : OkN N) (s : List UInt8) : ∀ i, i ≤ s.length → OkN (extN N s i) ∧ (∀ j, j ≤ i → (idxN (extN N s i) (s.take j)).isSome = true) ∧ (∀ t k, idxN N t = some k → idxN (extN N s i) t = some k)
  | 0, _ => ⟨hN, fun j hj => by rw [Nat.le_zero.1 hj]; simp only [List.take_zero]; rw [extN, hN.root]; rfl, fun t k h => h⟩
  | i + 1, hi => by
    obtain ⟨h1, h2, h3⟩ := ext_ok hN s i (by omega)
    rw [extN]
    split
    · rename_i h
      refine ⟨h1, fun j hj => ?_, h3⟩
      by_cases e : j = i + 1
      · rw [e]; exact h
      · exact h2 j (by omega)
    · rename_i h
      have hn : idxN (extN N s i) (s.take (i + 1)) = none := by simpa using h
      rw [take_step (by omega)] at hn ⊢
      refine ⟨okN_snoc h1 (h2 i (Nat.le_refl _)) hn (-1), fun j hj => ?_, fun t k ht => ?_⟩
      · rw [idxN_snoc]
        by_cases e : j = i + 1
        · rw [e, take_step (by omega), hn]
          simp
        · rw [if_pos (h2 j (by omega))]; exact h2 j (by omega)
      · rw [idxN_snoc, h3 t k ht]; rfl
open Go.RowKit
theorem blk_lt {w : World} {g : Nat} {o : Obj} (h : w.heap[g]? = some o) : g < w.heap.size := (Array.getElem?_eq_some_iff.1 h).1
theorem blk_cell {w : World} {g : Nat} {t : TypeId} {cs : Array Value} {fz : Nat × Nat} (h : w.heap[g]? = some (.cells cs t fz)) (i : Nat) : w.cell? ⟨g, i, none⟩ = cs[i]? := by
  simp [World.cell?, h]
theorem blk_froz {w : World} {g : Nat} {t : TypeId} {cs : Array Value} (h : w.heap[g]? = some (.cells cs t (0, 0))) (i : Nat) : w.frozen? ⟨g, i, none⟩ = false := by
  simp [World.frozen?, h]
theorem blk_below {B : Nat} {w w' : World} (hb : Below B w w') {g : Nat} {o : Obj} (hg : g < B) (h : w.heap[g]? = some o) : w'.heap[g]? = some o := (hb.block g hg).trans h
theorem blk_new (w : World) (o : Obj) : (w.alloc o).heap[w.heap.size]? = some o := heap_alloc_new w o
theorem blk_alloc {w : World} {g : Nat} {o : Obj} (h : w.heap[g]? = some o) (o' : Obj) : (w.alloc o').heap[g]? = some o := (Below.heap_alloc w o' g (blk_lt h)).trans h
theorem blk_set {w : World} {g : Nat} {t : TypeId} {cs : Array Value} {fz : Nat × Nat} (h : w.heap[g]? = some (.cells cs t fz)) (i : Nat) (u : Value) : (w.setCell ⟨g, i, none⟩ u).heap[g]? = some (.cells (cs.setIfInBounds i u) t fz) := by
  simp [World.setCell, Array.getElem?_modify, h]
theorem blk_far {w : World} {g : Nat} {o : Obj} (h : w.heap[g]? = some o) {p : Addr} (hp : g ≠ p.block) (u : Value) : (w.setCell p u).heap[g]? = some o := (Below.heap_setCell w p u g hp).trans h
theorem blk_drew {w : World} {g : Nat} {o : Obj} (h : w.heap[g]? = some o) : w.drew.heap[g]? = some o := h
theorem blk_drewN {w : World} {g : Nat} {o : Obj} (h : w.heap[g]? = some o) (n : Nat) : (w.drewN n).heap[g]? = some o := h
theorem size_alloc (w : World) (o : Obj) : (w.alloc o).heap.size = w.heap.size + 1 := by simp
theorem below_then {B : Nat} {w w1 w2 : World} (h : Below B w w1) {C : Nat} (hC : B ≤ C) (k : Below C w1 w2) : Below B w w2 := h.trans (k.mono hC)
theorem below_drewN {B : Nat} {w W : World} (h : Below B w W) (n : Nat) : Below B w (W.drewN n) := ⟨h.os, h.tape, h.output, h.size, h.block⟩
theorem below_cell {B : Nat} {w w1 : World} (h : Below B w w1) (hB : w.heap.size ≤ B) {a : Addr} {v : Value} (hc : w.cell? a = some v) : w1.cell? a = some v := (h.cell (Nat.lt_of_lt_of_le (World.block_lt_of_cell? w a hc) hB)).trans hc
theorem ret_bool {a b : Bool} (h : a = b) : Ending.returned (.bool a) = .returned (.bool b) := by rw [h]
theorem ret_int {k : IntKind} {a b : Int} (h : a = b) : Ending.returned (.int k a) = .returned (.int k b) := by rw [h]
theorem add_plain (g o j : Nat) : (⟨g, o, none⟩ : Addr).add j = ⟨g, o + j, none⟩ := by unfold Addr.add; split <;> simp_all
def Sl {α : Type} (w : World) (A : Option Addr) (enc : α → List Value) (sz : Nat) (xs : List α) : Prop :=
  ∀ i x, xs[i]? = some x → ∃ b o, A = some ⟨b, o, none⟩ ∧ ∀ j v, (enc x)[j]? = some v → w.cell? ⟨b, o + i * sz + j, none⟩ = some v
theorem Sl.nil {α : Type} (w : World) (A : Option Addr) (enc : α → List Value) (sz : Nat) : Sl w A enc sz [] := fun i x h => by simp at h
theorem Sl.below {α : Type} {w w' : World} {A : Option Addr} {enc : α → List Value} {sz : Nat} {xs : List α} (h : Sl w A enc sz xs) {B : Nat} (hb : Below B w w') (hB : w.heap.size ≤ B) : Sl w' A enc sz xs := by
  intro i x hx
  obtain ⟨b, o, e, hc⟩ := h i x hx
  exact ⟨b, o, e, fun j v hv => below_cell hb hB (hc j v hv)⟩
theorem Sl.at {α : Type} {w : World} {A : Option Addr} {enc : α → List Value} {sz : Nat} {xs : List α} (h : Sl w A enc sz xs) (i : Nat) (hi : i < xs.length) :
    ∃ b o, A = some ⟨b, o, none⟩ ∧ ∀ j v, (enc xs[i])[j]? = some v → w.cell? ⟨b, o + i * sz + j, none⟩ = some v := h i xs[i] (by simp)
def Sl1 {α : Type} (w : World) (A : Option Addr) (enc : α → Value) (xs : List α) : Prop :=
  ∀ i x, xs[i]? = some x → ∃ b o, A = some ⟨b, o, none⟩ ∧ w.cell? ⟨b, o + i, none⟩ = some (enc x)
theorem Sl1.nil {α : Type} (w : World) (A : Option Addr) (enc : α → Value) : Sl1 w A enc [] := fun i x h => by simp at h
theorem Sl1.below {α : Type} {w w' : World} {A : Option Addr} {enc : α → Value} {xs : List α} (h : Sl1 w A enc xs) {B : Nat} (hb : Below B w w') (hB : w.heap.size ≤ B) : Sl1 w' A enc xs := by
  intro i x hx
  obtain ⟨b, o, e, hc⟩ := h i x hx
  exact ⟨b, o, e, below_cell hb hB hc⟩
theorem Sl1.at {α : Type} {w : World} {A : Option Addr} {enc : α → Value} {xs : List α} (h : Sl1 w A enc xs) (i : Nat) (hi : i < xs.length) :
    ∃ b o, A = some ⟨b, o, none⟩ ∧ w.cell? ⟨b, o + i, none⟩ = some (enc xs[i]) := h i xs[i] (by simp)
theorem app_one {P : Program} {w : World} {ops : Array Oper} {rest : List Oper} {o : Oper} {a : Act} {Q : Exit → Act → World → Prop} (base : Nat) (t e : TypeId) (z : Value) (size bytes : Nat) (news : List Value) (c : Nat) (s x : Operand)
    (hgd : o.guard = none) (ho : o.op = .call { callee := .builtin .append, args := #[s, x], argTypes := #[t, t] })
    (ht : P.underlying t = some (.slice e)) (hinfo : (P.info? e).map (fun i => (i.zero, i.size, i.bytes)) = some (some z, size, bytes)) (hzs : z.cells.size = size) (hsz : 0 < size)
    (v : Value) (n : Nat) (xs : List Value) (hs : a.eval s = v) (hx : a.eval x = .slice (some ⟨w.heap.size, 0, none⟩) 1 c) (hl : news.length = size) (h1 : ∀ u ∈ news, u.oneCell' = true)
    (hown : w.ownsRow base e size v n xs) (hbytes : (n + 1) * bytes ≤ 140737488355328) (h63 : n < 9000000000000000000) (hbase : base ≤ w.heap.size)
    (h : ∀ v' w', w'.ownsRow base e size v' (n + 1) (xs ++ news) → w.grownBy w' v.ownBlock → wpList P ops Q rest (a.put o.dst v') w') : wpList P ops Q (o :: rest) a (w.alloc (.cells news.toArray e)) := by
  obtain ⟨i, hi, hz0, hz1, hz2⟩ := info_parts hinfo
  have hadd : ∀ j, (⟨w.heap.size, 0, none⟩ : Addr).add j = ⟨w.heap.size, j, none⟩ := by intro j; unfold Addr.add; split <;> simp_all
  refine wpList_append_own _ hgd s x t ho base e i z size bytes ht hi hz0 hz1 hz2 hzs hsz v n xs hs (hown.alloc _) ⟨w.heap.size, 0, none⟩ 1 c news hx (by rw [hl]; omega) ?_ h1 ?_ hbytes (by simp; omega) ?_
  · intro j u hu
    rw [hadd, blk_cell (blk_new w _) j]
    simpa using hu
  · unfold maxLen; omega
  · intro v' w' ho' hg' _
    refine h v' w' ho' ?_
    have h0 := World.grownBy_alloc w (.cells news.toArray e) v.ownBlock
    exact ⟨hg'.os.trans h0.os, hg'.tape.trans h0.tape, hg'.output.trans h0.output, Nat.le_trans h0.size hg'.size, fun k hk hne => (hg'.block k (by have := h0.size; omega) hne).trans (h0.block k hk hne)⟩
theorem own_slice {w : World} {base n : Nat} {e : TypeId} {size : Nat} {v : Value} {xs : List Value} (h : w.ownsRow base e size v n xs) : ∃ A c, v = .slice A n c := by
  rcases h.2 with ⟨rfl, rfl⟩ | ⟨g, cap, cur, rfl, _⟩
  · exact ⟨_, _, rfl⟩
  · exact ⟨_, _, rfl⟩
theorem own_sl1 {α : Type} {w : World} {base n c : Nat} {e : TypeId} {A : Option Addr} {enc : α → Value} {xs : List α} (h : w.ownsRow base e 1 (.slice A n c) n (xs.map enc)) : Sl1 w A enc xs := by
  intro i x hx
  have hlen := h.1
  rw [List.length_map] at hlen
  have hi : i < xs.length := (List.getElem?_eq_some_iff.1 hx).1
  rcases h.2 with ⟨e1, rfl⟩ | ⟨g, cap, cur, e1, _⟩
  · omega
  · cases e1
    refine ⟨g, 0, rfl, ?_⟩
    have := h.cells (g := g) rfl i (enc x) (by simp [hx])
    have hadd : (⟨g, 0, none⟩ : Addr).add i = ⟨g, i, none⟩ := by unfold Addr.add; split <;> simp_all
    rw [hadd] at this
    simpa using this
theorem own_sl {α : Type} {w : World} {base n c : Nat} {e : TypeId} {A : Option Addr} {enc : α → List Value} {sz : Nat} {xs : List α} (hsz : ∀ x, (enc x).length = sz) (h : w.ownsRow base e sz (.slice A n c) n (xs.flatMap enc)) (h0 : 0 < sz) : Sl w A enc sz xs := by
  have key : ∀ (xs : List α) (i : Nat) (x : α) (j : Nat) (v : Value), xs[i]? = some x → (enc x)[j]? = some v → (xs.flatMap enc)[i * sz + j]? = some v := by
    intro xs
    induction xs with
    | nil => intro i x j v h _; simp at h
    | cons y ys ih =>
      intro i x j v hx hv
      have hj : j < sz := by have := (List.getElem?_eq_some_iff.1 hv).1; rw [hsz] at this; exact this
      cases i with
      | zero =>
        simp at hx
        subst hx
        rw [List.flatMap_cons, List.getElem?_append_left (by rw [hsz]; omega)]
        simpa using hv
      | succ i =>
        simp at hx
        rw [List.flatMap_cons, List.getElem?_append_right (by rw [hsz, Nat.succ_mul]; omega), hsz]
        have := ih i x j v hx hv
        rw [show (i + 1) * sz + j - sz = i * sz + j by rw [Nat.succ_mul]; omega]
        exact this
  intro i x hx
  have hi : i < xs.length := (List.getElem?_eq_some_iff.1 hx).1
  rcases h.2 with ⟨e1, rfl⟩ | ⟨g, cap, cur, e1, _⟩
  · have hlen := h.1
    have : (xs.flatMap enc).length = xs.length * sz := by
      clear h hx hi hlen key
      induction xs with
      | nil => simp
      | cons y ys ih => rw [List.flatMap_cons, List.length_append, hsz, ih, List.length_cons, Nat.succ_mul]; omega
    rw [this, Nat.zero_mul] at hlen
    rcases Nat.mul_eq_zero.1 hlen with h1 | h1 <;> omega
  · cases e1
    refine ⟨g, 0, rfl, fun j v hv => ?_⟩
    have := h.cells (g := g) rfl (i * sz + j) v (key xs i x j v hx hv)
    have hadd : ∀ k, (⟨g, 0, none⟩ : Addr).add k = ⟨g, k, none⟩ := by intro k; unfold Addr.add; split <;> simp_all
    rw [hadd] at this
    simpa using this
theorem own_open {w : World} {base n : Nat} {e : TypeId} {size : Nat} {v : Value} {xs : List Value} (h : w.ownsRow base e size v n xs) (hn : 0 < n) :
    ∃ g cap, v = .slice (some ⟨g, 0, none⟩) n cap ∧ base ≤ g ∧ g < w.heap.size ∧ ∀ j u, xs[j]? = some u → w.cell? ⟨g, j, none⟩ = some u ∧ w.frozen? ⟨g, j, none⟩ = false := by
  have h' := h
  rcases h.2 with ⟨_, rfl⟩ | ⟨g, cap, cur, rfl, hb, hg, _⟩
  · omega
  · refine ⟨g, cap, rfl, hb, blk_lt hg, fun j u hu => ⟨?_, blk_froz hg j⟩⟩
    have := h'.cells (g := g) rfl j u hu
    have hadd : ∀ k, (⟨g, 0, none⟩ : Addr).add k = ⟨g, k, none⟩ := by intro k; unfold Addr.add; split <;> simp_all
    rwa [hadd] at this
theorem own_set {w : World} {base n cap g : Nat} {e : TypeId} {size : Nat} {xs : List Value} (h : w.ownsRow base e size (.slice (some ⟨g, 0, none⟩) n cap) n xs) (i : Nat) (u : Value) :
    (w.setCell ⟨g, i, none⟩ u).ownsRow base e size (.slice (some ⟨g, 0, none⟩) n cap) n (xs.set i u) := by
  obtain ⟨hl, h⟩ := h
  refine ⟨by rw [List.length_set]; exact hl, ?_⟩
  rcases h with ⟨h1, _⟩ | ⟨g', cap', cur, h1, hb, hg, hc1, hc2, hc3, ht⟩
  · cases h1
  · cases h1
    refine .inr ⟨g, cap, cur.setIfInBounds i u, rfl, hb, blk_set hg i u, hc1, hc2, by rw [Array.size_setIfInBounds]; exact hc3, ?_⟩
    rw [Array.toList_setIfInBounds, List.take_set, ht]
theorem own_nil (W : World) (base : Nat) (e : TypeId) (size : Nat) : W.ownsRow base e size (.slice none 0 0) 0 [] := ⟨by simp, .inl ⟨rfl, rfl⟩⟩
theorem own_base {w : World} {base : Nat} {e : TypeId} {size n : Nat} {v : Value} {xs : List Value} (h : w.ownsRow base e size v n xs) : ∀ k, v.ownBlock = some k → base ≤ k := by
  intro k hk
  rcases h.2 with ⟨rfl, _⟩ | ⟨g, cap, cur, rfl, hb, _⟩
  · simp [Value.ownBlock] at hk
  · simp only [Value.ownBlock, Option.some.injEq] at hk; omega
theorem own_below {w w1 : World} {base B : Nat} {e : TypeId} {size n : Nat} {v : Value} {xs : List Value} (h : w.ownsRow base e size v n xs) (hb : Below B w w1) (hB : w.heap.size ≤ B) : w1.ownsRow base e size v n xs :=
  h.kept (row := none) ⟨hb.os, hb.tape, hb.output, hb.size, fun k hk _ => hb.block k (by omega)⟩ (by cases hv : v.ownBlock <;> simp)
theorem own_less {W : World} {b base n : Nat} {e : TypeId} {size : Nat} {v : Value} {xs : List Value} (h : W.ownsRow b e size v n xs) (hle : base ≤ b) : W.ownsRow base e size v n xs := by
  obtain ⟨hl, h⟩ := h
  refine ⟨hl, ?_⟩
  rcases h with h | ⟨g, cap, cur, h1, hb, r⟩
  · exact .inl h
  · exact .inr ⟨g, cap, cur, h1, Nat.le_trans hle hb, r⟩
theorem own_drew {W : World} {base n : Nat} {e : TypeId} {size : Nat} {v : Value} {xs : List Value} (h : W.ownsRow base e size v n xs) : W.drew.ownsRow base e size v n xs := h
theorem own_drewN {W : World} {base n : Nat} {e : TypeId} {size : Nat} {v : Value} {xs : List Value} (h : W.ownsRow base e size v n xs) (m : Nat) : (W.drewN m).ownsRow base e size v n xs := h
def bs (l : List UInt8) : ByteArray := ⟨l.toArray⟩
def strV (l : List UInt8) : Value := .string (bs l)
theorem bs_inj {a b : List UInt8} (h : bs a = bs b) : a = b := by simpa [bs] using h
theorem bs_data (s : ByteArray) : bs s.data.toList = s := by cases s; rfl
theorem extract_bs (s : ByteArray) (a b : Nat) : s.extract a b = bs ((s.data.toList.drop a).take (b - a)) := by
  rw [← Lib.extract_data, bs_data]
theorem wpAnyH_takeD {P : Program} {md : Region.Mode} {ops : Array Oper} {Q : Exit → Act → World → Prop} {S : World → Prop} {i d : Nat} {oi : Oper} {v : Value} {fuel : Nat} {listed : Array Bool} {tmps : Array Value} {df : List Deferred} {w : World}
    (hi : ops[i]? = some oi) (hd : oi.dst = some d)
    (hs : Region.noSelect ops = true) (hf : Region.free md ops listed i = true) (hr : (Region.ready md ops listed).contains i = true)
    (hQ : ∀ c a w, Q (.panic c) (a.put oi.dst v) w → Q (.panic c) a w) (hy : YieldsIf P ops S oi v ⟨tmps, df⟩) (hS : S w)
    (h : wpAnyH P md ops Q S fuel (listed.setIfInBounds i true) ⟨tmps.setIfInBounds d v, df⟩ w) : wpAnyH P md ops Q S (fuel + 1) listed ⟨tmps, df⟩ w :=
  wpAnyH_take hi hs hf hr hQ hy hS (by rw [hd]; exact h)
theorem sIB {α : Type} (l : List α) (i : Nat) (a : α) : l.toArray.setIfInBounds i a = (l.set i a).toArray := List.setIfInBounds_toArray ..
theorem sC0 {α : Type} (x : α) (l : List α) (a : α) : (x :: l).set 0 a = a :: l := List.set_cons_zero
theorem sCS {α : Type} (x : α) (l : List α) (n : Nat) (a : α) : (x :: l).set (n + 1) a = x :: l.set n a := List.set_cons_succ
theorem tkH {P : Program} {md : Region.Mode} {ops : Array Oper} {Q : Exit → Act → World → Prop} {S : World → Prop} (i d : Nat) (v : Value) {oi : Oper} {fuel : Nat} {listed : Array Bool} {tmps : Array Value} {df : List Deferred} {w : World}
    (hi : ops[i]? = some oi) (hS : S w) (hy : YieldsIf P ops S oi v ⟨tmps, df⟩) (h : wpAnyH P md ops Q S fuel (listed.setIfInBounds i true) ⟨tmps.setIfInBounds d v, df⟩ w)
    (hd : oi.dst = some d := by rfl) (hs : Region.noSelect ops = true := by kernel_rfl) (hf : Region.free md ops listed i = true := by kernel_rfl) (hr : (Region.ready md ops listed).contains i = true := by kernel_rfl)
    (hQ : ∀ c a w, Q (.panic c) (a.put oi.dst v) w → Q (.panic c) a w := by exact fun _ _ _ h => h) : wpAnyH P md ops Q S (fuel + 1) listed ⟨tmps, df⟩ w := wpAnyH_takeD hi hd hs hf hr hQ hy hS h
theorem take_snoc {α : Type} {l : List α} {k : Nat} (h : k < l.length) : l.take (k + 1) = l.take k ++ [l[k]] := by rw [List.take_succ_eq_append_getElem h]
open Go.RowKit Go.Maps
structure Keep (F : Nat → Prop) (w w' : World) : Prop where
  os : w'.os = w.os
  tape : w'.tape = w.tape
  output : w'.output = w.output
  size : w.heap.size ≤ w'.heap.size
  block : ∀ k, k < w.heap.size → ¬ F k → w'.heap[k]? = w.heap[k]?
theorem Keep.refl (F : Nat → Prop) (w : World) : Keep F w w := ⟨rfl, rfl, rfl, Nat.le_refl _, fun _ _ _ => rfl⟩
theorem Keep.trans {F G : Nat → Prop} {a b c : World} (h : Keep F a b) (k : Keep G b c) (hG : ∀ x, G x → F x ∨ a.heap.size ≤ x) : Keep F a c :=
  ⟨k.os.trans h.os, k.tape.trans h.tape, k.output.trans h.output, Nat.le_trans h.size k.size, fun i hi hf => (k.block i (Nat.lt_of_lt_of_le hi h.size) (fun g => by rcases hG i g with h1 | h1; exact hf h1; omega)).trans (h.block i hi hf)⟩
theorem Keep.mono {F G : Nat → Prop} {a b : World} (h : Keep F a b) (hFG : ∀ x, F x → G x) : Keep G a b := ⟨h.os, h.tape, h.output, h.size, fun k hk hg => h.block k hk (fun hf => hg (hFG k hf))⟩
theorem Keep.below {F : Nat → Prop} {w w' : World} (h : Keep F w w') {B : Nat} (hB : B ≤ w.heap.size) (hF : ∀ x, F x → B ≤ x) : Below B w w' :=
  ⟨h.os, h.tape, h.output, h.size, fun k hk => h.block k (by omega) (fun hf => by have := hF k hf; omega)⟩
theorem Keep.of_below {F : Nat → Prop} {w w' : World} (h : Below w.heap.size w w') : Keep F w w' := ⟨h.os, h.tape, h.output, h.size, fun k hk _ => h.block k hk⟩
theorem Keep.of_grown {F : Nat → Prop} {w w' : World} {row : Option Nat} (h : w.grownBy w' row) (hr : ∀ k, row = some k → F k) : Keep F w w' :=
  ⟨h.os, h.tape, h.output, h.size, fun k hk hf => h.block k hk (fun e => hf (hr k e.symm))⟩
theorem Keep.drew {F : Nat → Prop} {a w : World} (h : Keep F a w) : Keep F a w.drew := ⟨h.os, h.tape, h.output, h.size, h.block⟩
theorem Keep.drewN {F : Nat → Prop} {a w : World} (h : Keep F a w) (n : Nat) : Keep F a (w.drewN n) := ⟨h.os, h.tape, h.output, h.size, h.block⟩
theorem Keep.alloc {F : Nat → Prop} {a w : World} (h : Keep F a w) (o : Obj) : Keep F a (w.alloc o) :=
  ⟨h.os, h.tape, h.output, Nat.le_trans h.size (by simp), fun k hk hf => (Below.heap_alloc w o k (Nat.lt_of_lt_of_le hk h.size)).trans (h.block k hk hf)⟩
theorem Keep.setCell {F : Nat → Prop} {a w : World} (h : Keep F a w) {p : Addr} (hp : F p.block ∨ a.heap.size ≤ p.block) (u : Value) : Keep F a (w.setCell p u) :=
  ⟨h.os, h.tape, h.output, Nat.le_trans h.size (by simp [World.setCell]), fun k hk hf => (Below.heap_setCell w p u k (fun e => by subst e; rcases hp with h1 | h1; exact hf h1; omega)).trans (h.block k hk hf)⟩
theorem Keep.blk {F : Nat → Prop} {w w' : World} (h : Keep F w w') {g : Nat} {o : Obj} (hb : w.heap[g]? = some o) (hf : ¬ F g) : w'.heap[g]? = some o := (h.block g (blk_lt hb) hf).trans hb
theorem own_keep {F : Nat → Prop} {w w' : World} {base : Nat} {e : TypeId} {size n : Nat} {v : Value} {xs : List Value} (h : w.ownsRow base e size v n xs) (k : Keep F w w') (hf : ∀ g, v.ownBlock = some g → ¬ F g) : w'.ownsRow base e size v n xs := by
  obtain ⟨hl, h⟩ := h
  refine ⟨hl, ?_⟩
  rcases h with h | ⟨g, cap, cur, rfl, hb, hg, r⟩
  · exact .inl h
  · exact .inr ⟨g, cap, cur, rfl, hb, k.blk hg (hf g rfl), r⟩
theorem sl1_keep {α : Type} {F : Nat → Prop} {w w' : World} {A : Option Addr} {enc : α → Value} {xs : List α} (h : Sl1 w A enc xs) (k : Keep F w w') (hf : ∀ a, A = some a → ¬ F a.block) : Sl1 w' A enc xs := by
  intro i x hx
  obtain ⟨b, o, rfl, hc⟩ := h i x hx
  exact ⟨b, o, rfl, (World.cell?_of_block (w := w) (k.block b (World.block_lt_of_cell? w _ hc) (hf _ rfl))).trans hc⟩
theorem sl_keep {α : Type} {F : Nat → Prop} {w w' : World} {A : Option Addr} {enc : α → List Value} {sz : Nat} {xs : List α} (h : Sl w A enc sz xs) (k : Keep F w w') (hf : ∀ a, A = some a → ¬ F a.block) : Sl w' A enc sz xs := by
  intro i x hx
  obtain ⟨b, o, rfl, hc⟩ := h i x hx
  exact ⟨b, o, rfl, fun j v hv => (World.cell?_of_block (w := w) (k.block b (World.block_lt_of_cell? w _ (hc j v hv)) (hf _ rfl))).trans (hc j v hv)⟩
def MapOf {α : Type} (P : Program) (K E : TypeId) (kv : α → Value) (w : World) (b n : Nat) (f : α → Option Int) : Prop :=
  ∃ D : DataW Unit, w.ownsMap P K (plainElem P E) b n D ∧ IsMap D ∧ ∀ a l, keyOf P K (kv a) = some l → Maps.has D l = (f a).isSome ∧ ∀ v, f a = some v → D.atKey l (.lit (.int .i64 0)) = .lit (.int .i64 v)
section
variable {α : Type} {P : Program} {K E : TypeId} {kv : α → Value} {w w' : World} {b n : Nat} {f : α → Option Int}
theorem MapOf.made (w : World) (P : Program) (K E : TypeId) (kv : α → Value) : MapOf P K E kv (w.alloc (.map #[] 0)) w.heap.size 0 (fun _ => none) :=
  ⟨.map [], World.ownsMap_made _ _ _ _, isMap_empty, fun a l _ => ⟨rfl, fun v h => by simp at h⟩⟩
theorem MapOf.lt (h : MapOf P K E kv w b n f) : b < w.heap.size := by obtain ⟨D, h1, _⟩ := h; exact h1.lt
theorem MapOf.kept {row : Option Nat} (h : MapOf P K E kv w b n f) (hg : w.grownBy w' row) (hne : some b ≠ row) : MapOf P K E kv w' b n f := by
  obtain ⟨D, h1, h2⟩ := h; exact ⟨D, h1.kept hg hne, h2⟩
theorem MapOf.keep {F : Nat → Prop} (h : MapOf P K E kv w b n f) (k : Keep F w w') (hf : ¬ F b) : MapOf P K E kv w' b n f := by
  obtain ⟨D, ⟨es, clock, hb, r⟩, h2⟩ := h
  exact ⟨D, ⟨es, clock, k.blk hb hf, r⟩, h2⟩
theorem MapOf.below {B : Nat} (h : MapOf P K E kv w b n f) (hb : Below B w w') (hB : b < B) : MapOf P K E kv w' b n f := by
  obtain ⟨D, ⟨es, clock, hm, r⟩, h2⟩ := h
  exact ⟨D, ⟨es, clock, blk_below hb hB hm, r⟩, h2⟩
theorem MapOf.isMap (h : MapOf P K E kv w b n f) : ∃ es clock, w.heap[b]? = some (.map es clock) := by
  obtain ⟨D, ⟨es, clock, hm, _⟩, _⟩ := h; exact ⟨es, clock, hm⟩
theorem map_look {ops : Array Oper} {rest : List Oper} {o : Oper} {a : Act} {Q : Exit → Act → World → Prop} (t : TypeId) (m x : Operand)
    (hg : o.guard = none) (hop : o.op = Op.lookup t m x true)
    (law : Keyed P K) (ht : P.underlying t = some (.map K E)) (he : P.underlying E = some (.int .i64)) (hz : (zeroValue E).run P w = .ok (.int .i64 0) w)
    (hm : a.eval m = .map (some b)) (h : MapOf P K E kv w b n f) (y : α) (hx : a.eval x = kv y) (hkey : ∃ l, keyOf P K (kv y) = some l)
    (hK : wpList P ops Q rest (a.put o.dst (.tuple #[.int .i64 ((f y).getD 0), .bool (f y).isSome])) w) : wpList P ops Q (o :: rest) a w := by
  obtain ⟨D, hown, hD, hf⟩ := h
  obtain ⟨l, hl⟩ := hkey
  obtain ⟨h1, h2⟩ := hf y l hl
  refine wpList_lookup_own_ok_int w hg m x t hop K E .i64 law ht he hz b n D hm hown _ l hx hl ?_
  intro c hc _
  rw [h1]
  cases hy : f y with
  | none =>
    rw [hy] at h1 hK
    have := atKey_of_not_has (by rw [h1]; rfl) (.lit (.int .i64 0) : DataW Unit)
    rw [this] at hc
    cases hc
    exact hK
  | some v =>
    have hc2 := h2 v hy
    rw [hc2] at hc
    cases hc
    rw [hy] at hK
    exact hK
theorem map_put [DecidableEq α] {ops : Array Oper} {rest : List Oper} {o : Oper} {a : Act} {Q : Exit → Act → World → Prop} (t : TypeId) (m x v : Operand)
    (hg : o.guard = none) (hop : o.op = Op.mapUpdate t m x v)
    (law : Keyed P K) (ht : P.underlying t = some (.map K E)) (he : P.underlying E = some (.int .i64)) (hinj : ∀ x y, kv x = kv y → x = y)
    (hm : a.eval m = .map (some b)) (h : MapOf P K E kv w b n f) (hn : n < maxLen) (y : α) (hx : a.eval x = kv y) (hkey : ∃ l, keyOf P K (kv y) = some l)
    (c : Int) (hv : a.eval v = .int .i64 c) (hc : (Lit.int .i64 c).wf = true)
    (hK : ∀ w', MapOf P K E kv w' b (n + 1) (fun x => if x = y then some c else f x) → w.grownBy w' (some b) → wpList P ops Q rest (a.put o.dst undef) w') : wpList P ops Q (o :: rest) a w := by
  obtain ⟨D, hown, hD, hf⟩ := h
  obtain ⟨l, hl⟩ := hkey
  refine wpList_mapUpdate_own w hg m x v t hop K E law ht (plainElem P E) b n D hm hown hn _ _ l hx hv hl (.lit (.int .i64 c)) [] (plainElem_int he hc) ?_
  intro w' hown' hgr
  refine hK w' ⟨_, hown', hD.put _ _, ?_⟩ hgr
  intro a' l' hl'
  by_cases e : a' = y
  · subst e
    have : l' = l := by rw [hl] at hl'; exact (Option.some.inj hl').symm
    subst this
    rw [has_put_same hD (law.key hl')]
    dsimp only
    rw [if_pos rfl]
    refine ⟨rfl, fun v hv => ?_⟩
    cases hv
    exact atKey_put_same hD (law.key hl') _ _
  · have hne : l' ≠ l := by
      intro h
      subst h
      exact e (hinj _ _ (law.inj hl' hl))
    rw [has_put_other hne]
    dsimp only
    rw [if_neg e]
    obtain ⟨h1, h2⟩ := hf a' l' hl'
    refine ⟨h1, fun v hv => ?_⟩
    rw [atKey_put_other hne]
    exact h2 v hv
end
open Go.RowKit Go.Maps Go.WideMaps
def ptrE (v : Value) : Option (DataW Unit × List MemPlace) :=
  match v with
  | .pointer none => some (.lit (.int .i64 (-1)), [])
  | .pointer (some ⟨b, 0, none⟩) => some (.lit (.int .i64 (b : Int)), [])
  | _ => none
def ptrV (o : Option Nat) : Value := match o with | none => .pointer none | some b => .pointer (some ⟨b, 0, none⟩)
theorem ptrE_mk (b : Nat) : ptrE (.pointer (some ⟨b, 0, none⟩)) = some (.lit (.int .i64 (b : Int)), []) := rfl
theorem ptrE_nil : ptrE (.pointer none) = some (.lit (.int .i64 (-1)), []) := rfl
theorem ptrE_inv {v : Value} {z : DataW Unit × List MemPlace} (h : ptrE v = some z) : (v = .pointer none ∧ z = (.lit (.int .i64 (-1)), [])) ∨ ∃ b : Nat, v = .pointer (some ⟨b, 0, none⟩) ∧ z = (.lit (.int .i64 (b : Int)), []) := by
  unfold ptrE at h
  split at h
  · cases h; exact .inl ⟨rfl, rfl⟩
  · cases h; exact .inr ⟨_, rfl, rfl⟩
  · cases h
def MapP {α : Type} (P : Program) (K : TypeId) (kv : α → Value) (w : World) (b n : Nat) (f : α → Option Nat) : Prop :=
  ∃ D : DataW Unit, w.ownsMap P K ptrE b n D ∧ IsMap D ∧ ∀ a l, keyOf P K (kv a) = some l → Maps.has D l = (f a).isSome ∧ ∀ v, f a = some v → D.atKey l (.lit (.int .i64 (-1))) = .lit (.int .i64 (v : Int))
section
variable {α : Type} {P : Program} {K E : TypeId} {kv : α → Value} {w w' : World} {b n : Nat} {f : α → Option Nat}
theorem MapP.made (w : World) (P : Program) (K : TypeId) (kv : α → Value) : MapP P K kv (w.alloc (.map #[] 0)) w.heap.size 0 (fun _ => none) :=
  ⟨.map [], World.ownsMap_made _ _ _ _, isMap_empty, fun a l _ => ⟨rfl, fun v h => by simp at h⟩⟩
theorem MapP.lt (h : MapP P K kv w b n f) : b < w.heap.size := by obtain ⟨D, h1, _⟩ := h; exact h1.lt
theorem MapP.keep {F : Nat → Prop} (h : MapP P K kv w b n f) (k : Keep F w w') (hf : ¬ F b) : MapP P K kv w' b n f := by
  obtain ⟨D, ⟨es, clock, hb, r⟩, h2⟩ := h
  exact ⟨D, ⟨es, clock, k.blk hb hf, r⟩, h2⟩
theorem MapP.below {B : Nat} (h : MapP P K kv w b n f) (hb : Below B w w') (hB : b < B) : MapP P K kv w' b n f := by
  obtain ⟨D, ⟨es, clock, hm, r⟩, h2⟩ := h
  exact ⟨D, ⟨es, clock, blk_below hb hB hm, r⟩, h2⟩
theorem MapP.less (h : MapP P K kv w b n f) {m : Nat} (hn : n ≤ m) : MapP P K kv w b m f := by
  obtain ⟨D, h1, h2⟩ := h
  exact ⟨D, h1.mono hn, h2⟩
theorem MapP.congr {g : α → Option Nat} (h : MapP P K kv w b n f) (e : ∀ a, f a = g a) : MapP P K kv w b n g := by
  have : f = g := funext e
  rw [← this]; exact h
theorem MapP.isMap (h : MapP P K kv w b n f) : ∃ es clock, w.heap[b]? = some (.map es clock) := by
  obtain ⟨D, ⟨es, clock, hm, _⟩, _⟩ := h; exact ⟨es, clock, hm⟩
theorem MapP.look (h : MapP P K kv w b n f) (law : Keyed P K) {t : TypeId} (ht : P.underlying t = some (.map K E)) (hz : (zeroValue E).run P w = .ok (.pointer none) w) (y : α) (hkey : ∃ l, keyOf P K (kv y) = some l) :
    (Instr.lookup t (.map (some b)) (kv y) true).run P w = .ok (.tuple #[ptrV (f y), .bool (f y).isSome]) w := by
  obtain ⟨D, hown, hD, hf⟩ := h
  obtain ⟨l, hl⟩ := hkey
  obtain ⟨h1, h2⟩ := hf y l hl
  obtain ⟨v, ps, hrun, hv⟩ := hown.look_ok law ht hz ptrE_nil hl
  rw [hrun, h1]
  cases hy : f y with
  | none =>
    rw [hy] at h1
    have := atKey_of_not_has (by rw [h1]; rfl) (.lit (.int .i64 (-1)) : DataW Unit)
    rw [this] at hv
    rcases ptrE_inv hv with ⟨rfl, _⟩ | ⟨b', rfl, e⟩
    · rfl
    · (simp at e <;> omega)
  | some c =>
    rw [h2 c hy] at hv
    rcases ptrE_inv hv with ⟨rfl, e⟩ | ⟨b', rfl, e⟩
    · (simp at e <;> omega)
    · (have e1 : c = b' := by (simp at e; omega)); rw [e1]; rfl
theorem MapP.get (h : MapP P K kv w b n f) (law : Keyed P K) {t : TypeId} (ht : P.underlying t = some (.map K E)) (hz : (zeroValue E).run P w = .ok (.pointer none) w) (y : α) (hkey : ∃ l, keyOf P K (kv y) = some l) :
    (Instr.lookup t (.map (some b)) (kv y) false).run P w = .ok (ptrV (f y)) w := by
  obtain ⟨D, hown, hD, hf⟩ := h
  obtain ⟨l, hl⟩ := hkey
  obtain ⟨h1, h2⟩ := hf y l hl
  obtain ⟨v, ps, hrun, hv⟩ := hown.lookup law ht hz ptrE_nil hl
  rw [hrun]
  cases hy : f y with
  | none =>
    rw [hy] at h1
    have := atKey_of_not_has (by rw [h1]; rfl) (.lit (.int .i64 (-1)) : DataW Unit)
    rw [this] at hv
    rcases ptrE_inv hv with ⟨rfl, _⟩ | ⟨b', rfl, e⟩
    · rfl
    · (simp at e <;> omega)
  | some c =>
    rw [h2 c hy] at hv
    rcases ptrE_inv hv with ⟨rfl, e⟩ | ⟨b', rfl, e⟩
    · (simp at e <;> omega)
    · (have e1 : c = b' := by (simp at e; omega)); rw [e1]; rfl
theorem MapP.put [DecidableEq α] (h : MapP P K kv w b n f) (law : Keyed P K) {t : TypeId} (ht : P.underlying t = some (.map K E)) (hinj : ∀ x y, kv x = kv y → x = y) (hn : n < maxLen) (y : α) (hkey : ∃ l, keyOf P K (kv y) = some l) (c : Nat) :
    ∃ w', (Instr.mapUpdate t (.map (some b)) (kv y) (.pointer (some ⟨c, 0, none⟩))).run P w = .ok () w' ∧ MapP P K kv w' b (n + 1) (fun x => if x = y then some c else f x) ∧ w.grownBy w' (some b) := by
  obtain ⟨D, hown, hD, hf⟩ := h
  obtain ⟨l, hl⟩ := hkey
  obtain ⟨w', hrun, hown', hgr⟩ := hown.update law ht hn hl (ptrE_mk c)
  refine ⟨w', hrun, ⟨_, hown', hD.put _ _, ?_⟩, hgr⟩
  intro a' l' hl'
  by_cases e : a' = y
  · subst e
    have : l' = l := by rw [hl] at hl'; exact (Option.some.inj hl').symm
    subst this
    rw [has_put_same hD (law.key hl')]
    dsimp only
    rw [if_pos rfl]
    refine ⟨rfl, fun v hv => ?_⟩
    cases hv
    exact atKey_put_same hD (law.key hl') _ _
  · have hne : l' ≠ l := by
      intro h
      subst h
      exact e (hinj _ _ (law.inj hl' hl))
    rw [has_put_other hne]
    dsimp only
    rw [if_neg e]
    obtain ⟨h1, h2⟩ := hf a' l' hl'
    refine ⟨h1, fun v hv => ?_⟩
    rw [atKey_put_other hne]
    exact h2 v hv
end
section
variable {P : Program} {ops : Array Oper} {Q : Exit → Act → World → Prop} {md : Region.Mode} {S : World → Prop} {D : Nat}
def wpAnyG (P : Program) (md : Region.Mode) (ops : Array Oper) (Q : Exit → Act → World → Prop) (S : World → Prop) (D : Nat) : Nat → Array Bool → Act → World → Prop
  | 0, listed, a, w => Region.ready md ops listed = [] ∧ Q .normal a w
  | fuel + 1, listed, a, w =>
    (Region.ready md ops listed = [] → Q .normal a w) ∧
    ∀ i ∈ Region.ready md ops listed, wpOp P ops Q i (fun a' w' => (i = D ∨ S w') ∧ wpAnyG P md ops Q S D fuel (listed.setIfInBounds i true) a' w') a w
theorem wpAny_of_G : ∀ (fuel : Nat) (listed : Array Bool) (a : Act) (w : World), wpAnyG P md ops Q S D fuel listed a w → wpAny P md ops Q fuel listed a w
  | 0, _, _, _, h => h
  | fuel + 1, _, _, _, h => ⟨h.1, fun i hi => wpOp_mono (fun a' w' h' => wpAny_of_G fuel _ a' w' h'.2) (h.2 i hi)⟩
theorem wpAnyG_first {i : Nat} {oi : Oper} {v : Value} (hi : ops[i]? = some oi) (hsel : ∀ (j : Nat) (o : Oper) cs b, ops[j]? = some o → o.op ≠ .select cs b)
    (hQ : ∀ c a w, Q (.panic c) (a.put oi.dst v) w → Q (.panic c) a w) (hiD : i ≠ D) (hD : Region.waitsFor md ops D i = true) :
    ∀ (fuel : Nat) (listed : Array Bool) (a : Act) (w : World),
      (∀ j oj, ops[j]? = some oj → j ≠ i → listed.getD j true = false → (∀ e ∈ oj.after, Region.binds md e = true → e.on ≠ i) → oi.apart ops oj = true) →
      i ∈ Region.ready md ops listed → YieldsIf P ops S oi v a → S w →
      wpAnyG P md ops Q S D fuel (listed.setIfInBounds i true) (a.put oi.dst v) w → wpAnyG P md ops Q S D (fuel + 1) listed a w := by
  intro fuel
  induction fuel with
  | zero =>
    intro listed a w _ hr hy hS H
    refine ⟨fun h => (by rw [h] at hr; cases hr), fun j hj => ?_⟩
    by_cases hji : j = i
    · subst hji; exact hy.wpOp hi hS ⟨Or.inr hS, H⟩
    · have := ready_mono hj hji
      rw [H.1] at this
      cases this
  | succ fuel ih =>
    intro listed a w hfree hr hy hS H
    refine ⟨fun h => (by rw [h] at hr; cases hr), fun j hj => ?_⟩
    by_cases hji : j = i
    · subst hji; exact hy.wpOp hi hS ⟨Or.inr hS, H⟩
    · have h1 := H.2 j (ready_mono hj hji)
      obtain ⟨hjun, oj, hoj, hall⟩ := mem_ready.1 hj
      have hnot : ∀ e ∈ oj.after, Region.binds md e = true → e.on ≠ i := by
        intro e he hb heq
        have h1 := hall e he hb
        have h0 := (mem_ready.1 hr).1
        rw [heq] at h1
        rcases Nat.lt_or_ge i listed.size with h' | h'
        · simp [h'] at h0 h1; rw [h0] at h1; cases h1
        · simp [Array.getElem?_eq_none h'] at h1
      have hjD : j ≠ D := by
        intro e
        obtain ⟨od, hod, x, hx, hb, hxi⟩ := Region.waitsFor_spec hD
        subst e
        rw [hoj] at hod
        cases hod
        exact hnot x hx hb hxi
      have h2 := wpOp_putIf hoj (hfree j oj hoj hji hjun hnot) (fun cs b => hsel i oi cs b hi) (fun cs b => hsel j oj cs b hoj) hQ hy h1
      have hfree' : ∀ k ok, ops[k]? = some ok → k ≠ i → (listed.setIfInBounds j true).getD k true = false →
          (∀ e ∈ ok.after, Region.binds md e = true → e.on ≠ i) → oi.apart ops ok = true := by
        intro k ok hk hki hun hno
        refine hfree k ok hk hki ?_ hno
        by_cases hjk : j = k
        · subst hjk; exact hjun
        · rw [getD_set_ne true hjk] at hun; exact hun
      refine wpOp_mono (fun a' w' h3 => ⟨h3.2.1, ?_⟩) h2
      refine ih (listed.setIfInBounds j true) a' w' hfree' (ready_mono hr (Ne.symm hji)) h3.1 (h3.2.1.resolve_left hjD) ?_
      rw [Array.setIfInBounds_comm _ _ hji]
      exact h3.2.2
theorem wpAnyG_takeD {i d : Nat} {oi : Oper} {v : Value} {fuel : Nat} {listed : Array Bool} {tmps : Array Value} {df : List Deferred} {w : World}
    (hi : ops[i]? = some oi) (hd : oi.dst = some d) (hiD : (Region.waitsFor md ops D i && !(i == D)) = true)
    (hs : Region.noSelect ops = true) (hf : Region.free md ops listed i = true) (hr : (Region.ready md ops listed).contains i = true)
    (hQ : ∀ c a w, Q (.panic c) (a.put oi.dst v) w → Q (.panic c) a w) (hy : YieldsIf P ops S oi v ⟨tmps, df⟩) (hS : S w)
    (h : wpAnyG P md ops Q S D fuel (listed.setIfInBounds i true) ⟨tmps.setIfInBounds d v, df⟩ w) : wpAnyG P md ops Q S D (fuel + 1) listed ⟨tmps, df⟩ w := by
  simp only [Bool.and_eq_true, Bool.not_eq_true', beq_eq_false_iff_ne, ne_eq] at hiD
  refine wpAnyG_first hi (Region.noSelect_spec hs) hQ hiD.2 hiD.1 fuel listed _ w (Region.free_spec hi hf) (by simpa using hr) hy hS ?_
  rw [hd]
  exact h
theorem tkG (i d : Nat) (v : Value) {oi : Oper} {fuel : Nat} {listed : Array Bool} {tmps : Array Value} {df : List Deferred} {w : World}
    (hi : ops[i]? = some oi) (hS : S w) (hy : YieldsIf P ops S oi v ⟨tmps, df⟩) (h : wpAnyG P md ops Q S D fuel (listed.setIfInBounds i true) ⟨tmps.setIfInBounds d v, df⟩ w)
    (hd : oi.dst = some d := by rfl) (hiD : (Region.waitsFor md ops D i && !(i == D)) = true := by kernel_rfl) (hs : Region.noSelect ops = true := by kernel_rfl) (hf : Region.free md ops listed i = true := by kernel_rfl) (hr : (Region.ready md ops listed).contains i = true := by kernel_rfl)
    (hQ : ∀ c a w, Q (.panic c) (a.put oi.dst v) w → Q (.panic c) a w := by exact fun _ _ _ h => h) : wpAnyG P md ops Q S D (fuel + 1) listed ⟨tmps, df⟩ w := wpAnyG_takeD hi hd hiD hs hf hr hQ hy hS h
theorem wpAnyG_one {i : Nat} {o : Oper} {fuel : Nat} {listed : Array Bool} {a : Act} {w : World} (hr : Region.ready md ops listed = [i]) (ho : ops[i]? = some o)
    (hw : Region.wanted o (yielded ops a.tmps) = true)
    (h : ∀ K' : Act → World → Prop, Shut (∀ a w, S w → (S w → wpAnyG P md ops Q S D fuel (listed.setIfInBounds i true) a w) → K' a w) → Oper.wp P o a w K' Q) :
    wpAnyG P md ops Q S D (fuel + 1) listed a w := by
  refine ⟨fun h0 => (by rw [hr] at h0; cases h0), fun j hj => ?_⟩
  rw [hr] at hj
  have : j = i := by simpa using hj
  subst this
  refine wpOp_step ho (fun K' hK => ?_)
  rw [if_pos hw]
  exact h K' (fun a w hS hW => hK a w ⟨Or.inr hS, hW hS⟩)
theorem wpAnyG_last {o : Oper} {fuel : Nat} {listed : Array Bool} {a : Act} {w : World} (hr : Region.ready md ops listed = [D]) (ho : ops[D]? = some o)
    (hw : Region.wanted o (yielded ops a.tmps) = true)
    (h : ∀ K' : Act → World → Prop, Shut (∀ a w, wpAnyG P md ops Q S D fuel (listed.setIfInBounds D true) a w → K' a w) → Oper.wp P o a w K' Q) :
    wpAnyG P md ops Q S D (fuel + 1) listed a w := by
  refine ⟨fun h0 => (by rw [hr] at h0; cases h0), fun j hj => ?_⟩
  rw [hr] at hj
  have : j = D := by simpa using hj
  subst this
  refine wpOp_step ho (fun K' hK => ?_)
  rw [if_pos hw]
  exact h K' (fun a w hW => hK a w ⟨Or.inl rfl, hW⟩)
theorem wpAnyG_two {i j : Nat} {oi oj : Oper} {fuel : Nat} {listed : Array Bool} {a : Act} {w : World} (hr : Region.ready md ops listed = [i, j]) (hoi : ops[i]? = some oi) (hoj : ops[j]? = some oj)
    (hwi : Region.wanted oi (yielded ops a.tmps) = true) (hwj : Region.wanted oj (yielded ops a.tmps) = true)
    (hi : ∀ K' : Act → World → Prop, Shut (∀ a w, S w → (S w → wpAnyG P md ops Q S D fuel (listed.setIfInBounds i true) a w) → K' a w) → Oper.wp P oi a w K' Q)
    (hj : ∀ K' : Act → World → Prop, Shut (∀ a w, S w → (S w → wpAnyG P md ops Q S D fuel (listed.setIfInBounds j true) a w) → K' a w) → Oper.wp P oj a w K' Q) :
    wpAnyG P md ops Q S D (fuel + 1) listed a w := by
  refine ⟨fun h0 => (by rw [hr] at h0; cases h0), fun k hk => ?_⟩
  rw [hr] at hk
  have : k = i ∨ k = j := by simpa using hk
  rcases this with rfl | rfl
  · refine wpOp_step hoi (fun K' hK => ?_)
    rw [if_pos hwi]
    exact hi K' (fun a w hS hW => hK a w ⟨Or.inr hS, hW hS⟩)
  · refine wpOp_step hoj (fun K' hK => ?_)
    rw [if_pos hwj]
    exact hj K' (fun a w hS hW => hK a w ⟨Or.inr hS, hW hS⟩)
theorem wpAnyG_done {listed : Array Bool} {a : Act} {w : World} (hr : Region.ready md ops listed = []) (h : Q .normal a w) :
    ∀ fuel, wpAnyG P md ops Q S D fuel listed a w
  | 0 => ⟨hr, h⟩
  | _ + 1 => ⟨fun _ => h, by rw [hr]; simp⟩
theorem wp_region_G {id : Nat} {a : Act} {w : World} (hm : P.follows .mixedOrders = true) (hS : S w.drew)
    (h : S w.drew → wpAnyG P .any ops Q S D ops.size (Array.replicate ops.size false) a w.drew) : (Code.region id ops true).wp P Q a w :=
  wp_region_any hm (wpAny_of_G _ _ _ _ (h hS))
end
theorem wp_app_one {P : Program} {w : World} {o : Oper} {a : Act} {K : Act → World → Prop} {Q : Exit → Act → World → Prop} (base : Nat) (t e : TypeId) (z : Value) (size bytes : Nat) (news : List Value) (c : Nat) (s x : Operand)
    (ho : o.op = .call { callee := .builtin .append, args := #[s, x], argTypes := #[t, t] })
    (ht : P.underlying t = some (.slice e)) (hinfo : (P.info? e).map (fun i => (i.zero, i.size, i.bytes)) = some (some z, size, bytes)) (hzs : z.cells.size = size) (hsz : 0 < size)
    (v : Value) (n : Nat) (xs : List Value) (hs : a.eval s = v) (g : Nat) (hg : w.heap.size = g) (hx : a.eval x = .slice (some ⟨g, 0, none⟩) 1 c) (hl : news.length = size) (h1 : ∀ u ∈ news, u.oneCell' = true)
    (hown : w.ownsRow base e size v n xs) (hbytes : (n + 1) * bytes ≤ 140737488355328) (h63 : n < 9000000000000000000) (hbase : base ≤ w.heap.size)
    (h : ∀ v' w', w'.ownsRow base e size v' (n + 1) (xs ++ news) → w.grownBy w' v.ownBlock → (v'.ownBlock = v.ownBlock ∨ ∃ g, v'.ownBlock = some g ∧ w.heap.size ≤ g) → K (a.put o.dst v') w') : Oper.wp P o a (w.alloc (.cells news.toArray e)) K Q := by
  subst hg
  obtain ⟨i, hi, hz0, hz1, hz2⟩ := info_parts hinfo
  have hadd : ∀ j, (⟨w.heap.size, 0, none⟩ : Addr).add j = ⟨w.heap.size, j, none⟩ := by intro j; unfold Addr.add; split <;> simp_all
  obtain ⟨v', w', hr, h2, h3, _, h5⟩ := run_append_own_at (P := P) (w.alloc (.cells news.toArray e)) base t o.type e i z size bytes ht hi hz0 hz1 hz2 hzs hsz v n xs (hown.alloc _) ⟨w.heap.size, 0, none⟩ 1 c news (by rw [hl]; omega)
    (by intro j u hu; rw [hadd, blk_cell (blk_new w _) j]; simpa using hu) h1 (by unfold maxLen; omega) hbytes (by simp; omega)
  unfold Oper.wp execOp
  simp only [ho, resolve, invoke, builtin, Sem.run_bind, Sem.run_pure, Result.andThen_ok, List.map_toArray, List.map_cons, List.map_nil, hs, hx, hr]
  refine h v' w' h2 ?_ ?_
  · have h0 := World.grownBy_alloc w (.cells news.toArray e) v.ownBlock
    exact ⟨h3.os.trans h0.os, h3.tape.trans h0.tape, h3.output.trans h0.output, Nat.le_trans h0.size h3.size, fun k hk hne => (h3.block k (by have := h0.size; omega) hne).trans (h0.block k hk hne)⟩
  · rcases h5 with h5 | h5
    · exact .inl h5
    · exact .inr ⟨_, h5, by simp⟩
theorem wp_app_at {P : Program} {w : World} {o : Oper} {a : Act} {K : Act → World → Prop} {Q : Exit → Act → World → Prop} (base : Nat) (t e : TypeId) (z : Value) (size bytes : Nat) (news : List Value) (c g : Nat) (s x : Operand)
    (ho : o.op = .call { callee := .builtin .append, args := #[s, x], argTypes := #[t, t] })
    (ht : P.underlying t = some (.slice e)) (hinfo : (P.info? e).map (fun i => (i.zero, i.size, i.bytes)) = some (some z, size, bytes)) (hzs : z.cells.size = size) (hsz : 0 < size)
    (v : Value) (n : Nat) (xs : List Value) (hs : a.eval s = v) (hx : a.eval x = .slice (some ⟨g, 0, none⟩) 1 c) (hl : news.length = size) (h1 : ∀ u ∈ news, u.oneCell' = true)
    (hblk : w.heap[g]? = some (.cells news.toArray e))
    (hown : w.ownsRow base e size v n xs) (hbytes : (n + 1) * bytes ≤ 140737488355328) (h63 : n < 9000000000000000000) (hbase : base ≤ w.heap.size)
    (h : ∀ v' w', w'.ownsRow base e size v' (n + 1) (xs ++ news) → w.grownBy w' v.ownBlock → (v'.ownBlock = v.ownBlock ∨ ∃ g, v'.ownBlock = some g ∧ w.heap.size ≤ g) → K (a.put o.dst v') w') : Oper.wp P o a w K Q := by
  obtain ⟨i, hi, hz0, hz1, hz2⟩ := info_parts hinfo
  have hadd : ∀ j, (⟨g, 0, none⟩ : Addr).add j = ⟨g, j, none⟩ := by intro j; unfold Addr.add; split <;> simp_all
  obtain ⟨v', w', hr, h2, h3, _, h5⟩ := run_append_own_at (P := P) w base t o.type e i z size bytes ht hi hz0 hz1 hz2 hzs hsz v n xs hown ⟨g, 0, none⟩ 1 c news (by rw [hl]; omega)
    (by intro j u hu; rw [hadd, blk_cell hblk j]; simpa using hu) h1 (by unfold maxLen; omega) hbytes hbase
  unfold Oper.wp execOp
  simp only [ho, resolve, invoke, builtin, Sem.run_bind, Sem.run_pure, Result.andThen_ok, List.map_toArray, List.map_cons, List.map_nil, hs, hx, hr]
  refine h v' w' h2 h3 ?_
  rcases h5 with h5 | h5
  · exact .inl h5
  · exact .inr ⟨_, h5, Nat.le_refl _⟩
theorem row_row_ne {w : World} {base base' e e' : TypeId} {size size' n n' : Nat} {v v' : Value} {xs xs' : List Value} (h : w.ownsRow base e size v n xs) (h' : w.ownsRow base' e' size' v' n' xs') (hne : e ≠ e') : ∀ g, v.ownBlock = some g → v'.ownBlock ≠ some g := by
  rcases h.2 with ⟨rfl, _⟩ | ⟨g, cap, cur, rfl, _, hg, _⟩
  · intro g hg; simp [Value.ownBlock] at hg
  · rcases h'.2 with ⟨rfl, _⟩ | ⟨g', cap', cur', rfl, _, hg', _⟩
    · intro g _; simp [Value.ownBlock]
    · intro k hk hk'
      simp only [Value.ownBlock, Option.some.injEq] at hk hk'
      subst hk hk'
      rw [hg] at hg'
      simp only [Option.some.injEq, Obj.cells.injEq] at hg'
      exact hne hg'.2.1
theorem wp_mapEntry {P : Program} {w w1 : World} {o : Oper} {a : Act} {K : Act → World → Prop} {Q : Exit → Act → World → Prop} {v : Value} (t : TypeId) (m x : Operand) (mv xv : Value)
    (ho : o.op = .mapEntry t m x) (hm : a.eval m = mv) (hx : a.eval x = xv) (hr : (Instr.mapEntry t mv xv).run P w = .ok v w1) (h : K (a.put o.dst v) w1) : Oper.wp P o a w K Q := by
  unfold Oper.wp execOp
  simp [ho, hm, hx, hr, Result.andThen]
  exact h
theorem wp_entryStore {P : Program} {w w1 : World} {o : Oper} {a : Act} {K : Act → World → Prop} {Q : Exit → Act → World → Prop} (t : TypeId) (m s x : Operand) (mv sv xv : Value)
    (ho : o.op = .entryStore t m s x) (hm : a.eval m = mv) (hs : a.eval s = sv) (hx : a.eval x = xv) (hr : (Instr.entryStore t mv sv xv).run P w = .ok () w1) (h : K (a.put o.dst undef) w1) : Oper.wp P o a w K Q := by
  unfold Oper.wp execOp
  simp [ho, hm, hs, hx, hr, Result.andThen]
  exact h
section
open Go.WideElems Go.ChangeShapes Go.ChangeMaps
theorem setBlock_twice {w : World} {b : Nat} {o o' : Obj} : setBlock (setBlock w b o) b o' = setBlock w b o' := by
  unfold setBlock
  simp
theorem setBlock_keep {w : World} {b : Nat} {o : Obj} : Keep (fun k => k = b) w (setBlock w b o) := by
  refine ⟨rfl, rfl, rfl, by simp [setBlock], fun k hk hne => ?_⟩
  have : b ≠ k := fun e => hne e.symm
  simp [setBlock, this]
theorem setBlock_at {w : World} {b : Nat} {o : Obj} (h : b < w.heap.size) : (setBlock w b o).heap[b]? = some o := by
  simp [setBlock, h]
theorem entry_new {α : Type} [DecidableEq α] {P : Program} {K E : TypeId} {kv : α → Value} {w : World} {b n : Nat} {f : α → Option Int} {t : TypeId}
    (law : Keyed P K) (ht : P.underlying t = some (.map K E)) (he : P.underlying E = some (.int .i64)) (hz : ∀ u : World, (zeroValue E).run P u = .ok (.int .i64 0) u) (hinj : ∀ x y, kv x = kv y → x = y)
    (h : MapOf P K E kv w b n f) (hn : n < maxLen) (y : α) (hkey : ∃ l, keyOf P K (kv y) = some l) (hf : f y = none) (c : Int) (hc : (Lit.int .i64 c).wf = true) :
    ∃ (st : Nat) (o1 o2 : Obj), (Instr.mapEntry t (.map (some b)) (kv y)).run P w = .ok (.tuple #[.int .i64 0, .int .i64 st]) (setBlock w b o1) ∧
      (∀ u : World, u.heap[b]? = some o1 → (Instr.entryStore t (.map (some b)) (.int .i64 st) (.int .i64 c)).run P u = .ok () (setBlock u b o2)) ∧
      MapOf P K E kv (setBlock w b o2) b (n + 1) (fun x => if x = y then some c else f x) := by
  obtain ⟨D, hown, hD, hfd⟩ := h
  obtain ⟨l, hl⟩ := hkey
  obtain ⟨v0, ps0, hlook, _⟩ := hown.look_ok law ht (hz w) (plainElem_int he (by decide)) hl
  obtain ⟨w', hrun, hown', _⟩ := hown.store law ht hn hl (plainElem_int he hc)
  obtain ⟨es, clock, hb, F, hs, hDe⟩ := hown
  obtain ⟨s1, s2, _⟩ := F.stamped
  have hno : (Instr.findKey K (kv y) es.toList).run P w = .ok none w := by
    rcases law.find w hl es.toList (fun e he => by obtain ⟨z, hz⟩ := F.reads e he; exact ⟨_, rd_key hz⟩) with ⟨h1, _⟩ | ⟨j, e0, h1, h2, h3⟩
    · exact h1
    · exfalso
      have hhas : Maps.has D l = false := by rw [(hfd y l hl).1, hf]; rfl
      rw [hhas] at hlook
      have hj : es[j]? = some e0 := by simpa using h2
      simp [Instr.lookup, run_underlying ht, MapKept.run_getObj_map hb, law.check w es.isEmpty hl, h1, Result.andThen] at hlook
  have hup : w' = setBlock w b (.map (es.push ⟨kv y, .int .i64 c, clock⟩) (clock + 1)) := by
    simp [Instr.mapUpdate, run_underlying ht, MapKept.run_getObj_map hb, law.check w false hl, hno, MapKept.run_setObj_map _ hb, Result.andThen] at hrun
    exact hrun.symm
  refine ⟨clock, .map (es.push ⟨kv y, .int .i64 0, clock⟩) (clock + 1), .map (es.push ⟨kv y, .int .i64 c, clock⟩) (clock + 1), ?_, ?_, ?_⟩
  · simp [Instr.mapEntry, run_underlying ht, MapKept.run_getObj_map hb, law.check w false hl, hno, hz, MapKept.run_setObj_map _ hb, Result.andThen, setBlock, goInt]
  · intro u hu
    have hidx : (es.push ⟨kv y, .int .i64 0, clock⟩).findIdx? (fun e => ((e.born : Nat) : Int) == ((clock : Nat) : Int)) = some es.size := by
      rw [findIdx_arr]
      refine findIdx_born (j := es.size) (e0 := ⟨kv y, .int .i64 0, clock⟩) ?_ (by simp)
      rw [Array.toList_push, List.map_append]
      refine List.nodup_append.2 ⟨s2, by simp, fun a ha c hc e => ?_⟩
      obtain ⟨x, hx, rfl⟩ := List.mem_map.1 ha
      have h3 := s1 x hx
      simp only [List.map_cons, List.map_nil, List.mem_singleton] at hc
      omega
    have hmod : (es.push ⟨kv y, .int .i64 0, clock⟩).modify es.size (fun e => { e with val := .int .i64 c }) = es.push ⟨kv y, .int .i64 c, clock⟩ := by
      apply Array.ext'
      rw [Array.toList_modify, Array.toList_push, Array.toList_push, ← Array.length_toList, modify_last]
    simp [Instr.entryStore, MapKept.run_getObj_map hu, asInt, asIntOf, hidx, hmod, MapKept.run_setObj_map _ hu, Result.andThen, setBlock]
  · rw [← hup]
    refine ⟨_, hown', hD.put _ _, ?_⟩
    intro a' l' hl'
    by_cases e : a' = y
    · subst e
      have : l' = l := by rw [hl] at hl'; exact (Option.some.inj hl').symm
      subst this
      rw [has_put_same hD (law.key hl')]
      dsimp only
      rw [if_pos rfl]
      refine ⟨rfl, fun v hv => ?_⟩
      cases hv
      exact atKey_put_same hD (law.key hl') _ _
    · have hne : l' ≠ l := by
        intro h
        subst h
        exact e (hinj _ _ (law.inj hl' hl))
      rw [has_put_other hne]
      dsimp only
      rw [if_neg e]
      obtain ⟨h1, h2⟩ := hfd a' l' hl'
      refine ⟨h1, fun v hv => ?_⟩
      rw [atKey_put_other hne]
      exact h2 v hv
end
theorem bs_size (a : List UInt8) : (bs a).size = a.length := by simp [bs, ByteArray.size]
def pairV (m : Int × Int) : Value := .agg #[.int .i64 m.1, .int .i64 m.2]
theorem pairV_inj : ∀ x y, pairV x = pairV y → x = y := by
  intro x y h
  simp only [pairV, Value.agg.injEq, Array.mk.injEq, List.cons.injEq, Value.int.injEq, true_and, and_true] at h
  exact Prod.ext h.1 h.2
theorem strV_inj : ∀ x y, strV x = strV y → x = y := by
  intro x y h
  simp only [strV, Value.string.injEq] at h
  exact bs_inj h
theorem keyed_str : Keyed Tryz.prog 9 := string_keyed Tryz.underlying9
theorem key_str (s : List UInt8) (h : s.length ≤ maxLen) : ∃ l, keyOf Tryz.prog 9 (strV s) = some l := ⟨_, keyOf_string_mk Tryz.underlying9 (by show (bs s).size ≤ maxLen; rw [bs_size]; exact h)⟩
theorem mrg_laidOut : laidOutB Tryz.prog = true := by kernel_rfl
theorem mrg_row : (113 : TypeId) < Tryz.prog.types.size := of_decide_eq_true (by kernel_rfl)
theorem mrg_wide : (match Tryz.prog.underlying 113 with | some (.array _ _) | some (.struct _) => true | _ => false) = true := by rw [Tryz.underlying113]
theorem keyed_mrg : Keyed Tryz.prog 113 := Keyed.of_law (deep_law_laid mrg_laidOut (m := 2) (by omega) mrg_row (by kernel_rfl) mrg_wide)
theorem key_mrg (m : Int × Int) (h1 : (Lit.int .i64 m.1).wf = true) (h2 : (Lit.int .i64 m.2).wf = true) : ∃ l, keyOf Tryz.prog 113 (pairV m) = some l := by
  have hk : Tryz.prog.keyType 113 = true := by kernel_rfl
  have hc : Tryz.prog.cellsOf 113 = 2 := by kernel_rfl
  have hi : Tryz.prog.cellsOf 3 = 1 := by kernel_rfl
  obtain ⟨n, hn⟩ : ∃ n, Tryz.prog.types.size = n + 1 := Nat.exists_eq_succ_of_ne_zero (Nat.ne_of_gt (Nat.lt_of_le_of_lt (Nat.zero_le _) mrg_row))
  have h3 : ∀ d c, (Lit.int .i64 c).wf = true → Tryz.prog.keyLits (d + 1) 3 [.int .i64 c] = some [.int .i64 c] := fun d c hcw => by simp [Program.keyLits, Tryz.underlying3, hcw]
  refine ⟨.string (keyBytes [.int .i64 m.1, .int .i64 m.2]), ?_⟩
  unfold keyOf
  rw [Tryz.underlying113]
  simp only []
  rw [hk, hn]
  have hcl : (pairV m).cells.toList = [.int .i64 m.1, .int .i64 m.2] := rfl
  rw [hcl]
  unfold Program.keyLits
  rw [Tryz.underlying113]
  simp [hc, hi, h3, h1, h2, Value.formed, pairV, Tryz.underlying113]
theorem zero_int (w : World) : (zeroValue 3).run Tryz.prog w = .ok (.int .i64 0) w := by kernel_rfl
def encE (e : Ent) : List Value := [strV e.1, .int .i64 e.2.1, .int .i64 e.2.2]
structure TabIs (w : World) (base tb : Nat) (T : List Ent) (sv : Value) (mb mp : Nat) : Prop where
  blk : w.heap[tb]? = some (.cells #[sv, .map (some mb), .map (some mp), .int .i64 (longT T : Nat)] 207)
  row : w.ownsRow base 213 3 sv T.length (T.flatMap encE)
  bys : MapOf Tryz.prog 9 3 strV w mb T.length (fun s => (findT T s).map Int.ofNat)
  prs : MapOf Tryz.prog 113 3 pairV w mp T.length (fun m => (pairT T m).map Int.ofNat)
  ne : mb ≠ mp
  lt : base ≤ tb ∧ base ≤ mb ∧ base ≤ mp
def tabF (tb : Nat) (sv : Value) (mb mp : Nat) (k : Nat) : Prop := k = tb ∨ sv.ownBlock = some k ∨ k = mb ∨ k = mp
theorem TabIs.drewN {w : World} {base tb : Nat} {T : List Ent} {sv : Value} {mb mp : Nat} (h : TabIs w base tb T sv mb mp) (n : Nat) : TabIs (w.drewN n) base tb T sv mb mp := ⟨h.blk, h.row, h.bys, h.prs, h.ne, h.lt⟩
theorem TabIs.drew {w : World} {base tb : Nat} {T : List Ent} {sv : Value} {mb mp : Nat} (h : TabIs w base tb T sv mb mp) : TabIs w.drew base tb T sv mb mp := ⟨h.blk, h.row, h.bys, h.prs, h.ne, h.lt⟩
theorem TabIs.keep {F : Nat → Prop} {w w' : World} {base tb : Nat} {T : List Ent} {sv : Value} {mb mp : Nat} (h : TabIs w base tb T sv mb mp) (k : Keep F w w') (hF : ∀ x, tabF tb sv mb mp x → ¬ F x) : TabIs w' base tb T sv mb mp :=
  ⟨k.blk h.blk (hF _ (.inl rfl)), own_keep h.row k (fun g hg => hF _ (.inr (.inl hg))), h.bys.keep k (hF _ (.inr (.inr (.inl rfl)))), h.prs.keep k (hF _ (.inr (.inr (.inr rfl)))), h.ne, h.lt⟩
theorem TabIs.below {B : Nat} {w w' : World} {base tb : Nat} {T : List Ent} {sv : Value} {mb mp : Nat} (h : TabIs w base tb T sv mb mp) (hb : Below B w w') (hB : w.heap.size ≤ B) : TabIs w' base tb T sv mb mp :=
  ⟨blk_below hb (Nat.lt_of_lt_of_le (blk_lt h.blk) hB) h.blk, own_below h.row hb hB, h.bys.below hb (Nat.lt_of_lt_of_le h.bys.lt hB), h.prs.below hb (Nat.lt_of_lt_of_le h.prs.lt hB), h.ne, h.lt⟩
section
variable {w : World} {base tb : Nat} {T : List Ent} {sv : Value} {mb mp : Nat}
theorem len_tab (h : TabIs w base tb T sv mb mp) : Calls Tryz.prog 106 #[.pointer (some ⟨tb, 0, none⟩)] w fun e w' => e = .returned (.int .i64 (T.length : Nat)) ∧ w' = w := by
  obtain ⟨A, c, rfl⟩ := own_slice h.row
  have c0 := blk_cell h.blk 0
  simp only [List.getElem?_toArray, List.getElem?_cons_zero] at c0
  go_enter Tryz.func106, Tryz.ntmps106
  go_wp2
  go_ret
  exact ⟨rfl, rfl⟩
theorem has_tab (id : Int) (h : TabIs w base tb T sv mb mp) : Calls Tryz.prog 110 #[.pointer (some ⟨tb, 0, none⟩), .int .i64 id] w fun e w' => e = .returned (.bool (hasT T id)) ∧ w' = w := by
  have HT := Lib.hid h
  clear h
  go_enter Tryz.func110, Tryz.ntmps110
  by_cases h0 : 0 ≤ id
  · go_wp2_with fail
    refine (len_tab HT.out).mono ?_
    rintro e w' ⟨rfl, rfl⟩
    go_wp2_with fail
    go_ret
    exact ⟨ret_bool (by simp [hasT, h0]), rfl⟩
  · go_wp2_with fail
    go_ret
    exact ⟨ret_bool (by simp [hasT]; omega), rfl⟩
theorem longest_tab (h : TabIs w base tb T sv mb mp) : Calls Tryz.prog 69 #[.pointer (some ⟨tb, 0, none⟩)] w fun e w' => e = .returned (.int .i64 (longT T : Nat)) ∧ w' = w := by
  have c3 := blk_cell h.blk 3
  simp only [List.getElem?_toArray, List.getElem?_cons_zero, List.getElem?_cons_succ] at c3
  generalize longT T = x at *
  clear h
  go_enter Tryz.func69, Tryz.ntmps69
  go_wp2
  go_ret
  exact ⟨rfl, rfl⟩
end
def bytesT (T : List Ent) (id : Int) : List UInt8 := if hasT T id then (entT T id).1 else []
def bornT (T : List Ent) (id : Int) : Bool := hasT T id && (entT T id).2 != (-1, -1)
def parT (T : List Ent) (id : Int) : Int × Int := if bornT T id then (entT T id).2 else (0, 0)
theorem encE_len (e : Ent) : (encE e).length = 3 := rfl
theorem hasT_at {T : List Ent} {id : Int} (h : hasT T id = true) : ∃ k : Nat, id = (k : Int) ∧ ∃ hk : k < T.length, entT T id = T[k] := by
  simp only [hasT, Bool.and_eq_true, decide_eq_true_eq] at h
  obtain ⟨k, rfl⟩ := Int.eq_ofNat_of_zero_le h.1
  have hk : k < T.length := by omega
  exact ⟨k, rfl, hk, entT_nat _ _ hk⟩
section
variable {w : World} {base tb : Nat} {T : List Ent} {sv : Value} {mb mp : Nat}
theorem tab_at (h : TabIs w base tb T sv mb mp) (k : Nat) (hk : k < T.length) : ∃ b o c, sv = .slice (some ⟨b, o, none⟩) T.length c ∧
    w.cell? ⟨b, o + k * 3, none⟩ = some (strV T[k].1) ∧ w.cell? ⟨b, o + k * 3 + 1, none⟩ = some (.int .i64 T[k].2.1) ∧ w.cell? ⟨b, o + k * 3 + 2, none⟩ = some (.int .i64 T[k].2.2) := by
  have hr := h.row
  obtain ⟨A, c, rfl⟩ := own_slice hr
  obtain ⟨b, o, rfl, hc⟩ := (own_sl encE_len hr (by decide)).at k hk
  exact ⟨b, o, c, rfl, hc 0 _ rfl, hc 1 _ rfl, hc 2 _ rfl⟩
theorem bytes_tab (id : Int) (h : TabIs w base tb T sv mb mp) : Calls Tryz.prog 76 #[.pointer (some ⟨tb, 0, none⟩), .int .i64 id] w fun e w' => e = .returned (.tuple #[strV (bytesT T id), .bool (hasT T id)]) ∧ w' = w := by
  have HH := Lib.hid (has_tab id h)
  cases hh : hasT T id with
  | false =>
    have HF := Lib.hid hh
    clear hh h
    go_enter Tryz.func76, Tryz.ntmps76
    go_wp2_with fail
    refine HH.out.mono ?_
    rintro e w' ⟨rfl, rfl⟩
    rw [HF.out]
    go_wp2_with fail
    go_ret2
    refine ⟨?_, rfl⟩
    simp only [bytesT, HF.out]
    rfl
  | true =>
    have HF := Lib.hid hh
    obtain ⟨k, rfl, hk, hE⟩ := hasT_at hh
    obtain ⟨b, o, c, rfl, g0, _, _⟩ := tab_at h k hk
    have c0 := blk_cell h.blk 0
    simp only [List.getElem?_toArray, List.getElem?_cons_zero] at c0
    have HE := Lib.hid hE
    unfold strV at g0
    obtain ⟨x, hx⟩ : ∃ x, bs T[k].1 = x := ⟨_, rfl⟩
    rw [hx] at g0
    have HX := Lib.hid hx
    clear hh h hE hx
    go_enter Tryz.func76, Tryz.ntmps76
    go_wp2_with fail
    refine HH.out.mono ?_
    rintro e w' ⟨rfl, rfl⟩
    rw [HF.out]
    go_wp2_with fail
    go_ret2
    refine ⟨?_, rfl⟩
    simp only [bytesT, HF.out, if_true, HE.out, strV, HX.out]
    rfl
end
def kvB (c : UInt8) : Value := .int .u8 (c.toNat : Int)
theorem kvB_inj (x y : UInt8) (h : kvB x = kvB y) : x = y := by
  unfold kvB at h
  injection h with _ h
  have h2 : x.toNat = y.toNat := by omega
  exact UInt8.toNat_inj.1 h2
theorem keyed_u8 : Keyed Tryz.prog 5 := int_keyed Tryz.underlying5
theorem key_u8 (c : UInt8) : ∃ l, keyOf Tryz.prog 5 (kvB c) = some l := ⟨_, keyOf_int_mk Tryz.underlying5 (by
  have := c.toNat_lt
  have e1 : IntKind.u8.min = 0 := by decide
  have e2 : IntKind.u8.max = 255 := by decide
  simp only [Lit.wf, e1, e2, Bool.and_eq_true, decide_eq_true_eq]
  omega)⟩
def nxtB (N : List TN) (B : List (Nat × Nat)) (s : List UInt8) (c : UInt8) : Option Nat := (idxN N (s ++ [c])).bind (fun j => (B[j]?).map Prod.fst)
structure TrieIs (w : World) (base rb : Nat) (N : List TN) (B : List (Nat × Nat)) : Prop where
  ok : OkN N
  len : B.length = N.length
  top : ∃ r0 m0, B[0]? = some (r0, m0) ∧ w.heap[rb]? = some (.cells #[.pointer (some ⟨r0, 0, none⟩), .int .i64 (N.length : Nat)] 189)
  nod : ∀ (i : Nat) (x : TN) (b m : Nat), N[i]? = some x → B[i]? = some (b, m) → w.heap[b]? = some (.cells #[.map (some m), .int .i64 x.2] 210) ∧ MapP Tryz.prog 5 kvB w m N.length (nxtB N B x.1)
  lo : base ≤ rb ∧ ∀ (i b m : Nat), B[i]? = some (b, m) → base ≤ b ∧ base ≤ m
  inj : ∀ (i j b m b' m' : Nat), B[i]? = some (b, m) → B[j]? = some (b', m') → (b = b' ∨ m = m') → i = j
section
variable {w w' : World} {base rb : Nat} {N : List TN} {B : List (Nat × Nat)}
theorem TrieIs.keep {F : Nat → Prop} (h : TrieIs w base rb N B) (k : Keep F w w') (hF : ∀ x, F x → x < base) : TrieIs w' base rb N B := by
  obtain ⟨r0, m0, h1, h2⟩ := h.top
  refine ⟨h.ok, h.len, ⟨r0, m0, h1, k.blk h2 (fun hf => by have := hF _ hf; have := h.lo.1; omega)⟩, fun i x b m hx hb => ?_, h.lo, h.inj⟩
  obtain ⟨h3, h4⟩ := h.nod i x b m hx hb
  have h5 := h.lo.2 i b m hb
  exact ⟨k.blk h3 (fun hf => by have := hF _ hf; omega), h4.keep k (fun hf => by have := hF _ hf; omega)⟩
theorem TrieIs.below {C : Nat} (h : TrieIs w base rb N B) (hb : Below C w w') (hC : w.heap.size ≤ C) : TrieIs w' base rb N B := by
  obtain ⟨r0, m0, h1, h2⟩ := h.top
  refine ⟨h.ok, h.len, ⟨r0, m0, h1, blk_below hb (Nat.lt_of_lt_of_le (blk_lt h2) hC) h2⟩, fun i x b m hx hB => ?_, h.lo, h.inj⟩
  obtain ⟨h3, h4⟩ := h.nod i x b m hx hB
  exact ⟨blk_below hb (Nat.lt_of_lt_of_le (blk_lt h3) hC) h3, h4.below hb (Nat.lt_of_lt_of_le h4.lt hC)⟩
theorem TrieIs.less {b : Nat} (h : TrieIs w b rb N B) (hle : base ≤ b) : TrieIs w base rb N B :=
  ⟨h.ok, h.len, h.top, h.nod, ⟨Nat.le_trans hle h.lo.1, fun i b m hb => ⟨Nat.le_trans hle (h.lo.2 i b m hb).1, Nat.le_trans hle (h.lo.2 i b m hb).2⟩⟩, h.inj⟩
theorem TrieIs.at (h : TrieIs w base rb N B) {s : List UInt8} {i : Nat} (hi : idxN N s = some i) : ∃ x b m, N[i]? = some x ∧ x.1 = s ∧ B[i]? = some (b, m) ∧ w.heap[b]? = some (.cells #[.map (some m), .int .i64 x.2] 210) ∧ MapP Tryz.prog 5 kvB w m N.length (nxtB N B s) := by
  obtain ⟨x, hx, e⟩ := idxN_some hi
  have hlt : i < B.length := by rw [h.len]; exact idxN_lt hi
  obtain ⟨b, m, hb⟩ : ∃ b m, B[i]? = some (b, m) := ⟨(B[i]).1, (B[i]).2, by rw [List.getElem?_eq_getElem hlt]⟩
  obtain ⟨h3, h4⟩ := h.nod i x b m hx hb
  rw [e] at h4
  exact ⟨x, b, m, hx, e, hb, h3, h4⟩
theorem nxtB_some (h : TrieIs w base rb N B) {s : List UInt8} {c : UInt8} {j : Nat} (hj : idxN N (s ++ [c]) = some j) : ∃ b m, B[j]? = some (b, m) ∧ nxtB N B s c = some b := by
  have hlt : j < B.length := by rw [h.len]; exact idxN_lt hj
  refine ⟨(B[j]).1, (B[j]).2, by rw [List.getElem?_eq_getElem hlt], ?_⟩
  unfold nxtB
  rw [hj, Option.bind_some, List.getElem?_eq_getElem hlt]
  rfl
theorem nxtB_none {s : List UInt8} {c : UInt8} (hj : idxN N (s ++ [c]) = none) : nxtB N B s c = none := by
  unfold nxtB
  rw [hj]
  rfl
theorem TrieIs.lt (h : TrieIs w base rb N B) : rb < w.heap.size := by
  obtain ⟨r0, m0, h1, h2⟩ := h.top
  exact blk_lt h2
theorem TrieIs.more (h : TrieIs w base rb N B) {s : List UInt8} {c : UInt8} {i : Nat} (hi : idxN N s = some i) (hn : idxN N (s ++ [c]) = none) {b m nb nm : Nat} (hB : B[i]? = some (b, m))
    (hnb : w.heap.size ≤ nb) (hnm : w.heap.size ≤ nm) (k : Keep (fun x => x = rb ∨ x = m) w w')
    (h1 : ∃ r0 m0, B[0]? = some (r0, m0) ∧ w'.heap[rb]? = some (.cells #[.pointer (some ⟨r0, 0, none⟩), .int .i64 ((N.length + 1 : Nat) : Int)] 189))
    (h2 : w'.heap[nb]? = some (.cells #[.map (some nm), .int .i64 (-1)] 210)) (h3 : MapP Tryz.prog 5 kvB w' nm 0 (fun _ => none))
    (h4 : MapP Tryz.prog 5 kvB w' m (N.length + 1) (fun x => if x = c then some nb else nxtB N B s x)) (hbb : base ≤ w.heap.size) :
    TrieIs w' base rb (N ++ [(s ++ [c], -1)]) (B ++ [(nb, nm)]) := by
  have hlen := h.len
  have hbi : ∀ (j : Nat) (b' m' : Nat), B[j]? = some (b', m') → b' < w.heap.size ∧ m' < w.heap.size := by
    intro j b' m' hj
    have hlt := (List.getElem?_eq_some_iff.1 hj).1
    rw [hlen] at hlt
    obtain ⟨q1, q2⟩ := h.nod j N[j] b' m' (List.getElem?_eq_getElem hlt) hj
    exact ⟨blk_lt q1, q2.lt⟩
  have snocB : ∀ (j : Nat) (p : Nat × Nat), (B ++ [(nb, nm)])[j]? = some p → B[j]? = some p ∨ (j = N.length ∧ p = (nb, nm)) := by
    intro j p hj
    rw [List.getElem?_append] at hj
    split at hj
    · exact .inl hj
    · rename_i hge
      have hlt := (List.getElem?_eq_some_iff.1 hj).1
      simp at hlt
      have e0 : j - B.length = 0 := by omega
      rw [e0] at hj
      simp at hj
      exact .inr ⟨by omega, hj.symm⟩
  have snocN : ∀ (j : Nat) (x : TN), (N ++ [(s ++ [c], (-1 : Int))])[j]? = some x → N[j]? = some x ∨ (j = N.length ∧ x = (s ++ [c], -1)) := by
    intro j x hj
    rw [List.getElem?_append] at hj
    split at hj
    · exact .inl hj
    · rename_i hge
      have hlt := (List.getElem?_eq_some_iff.1 hj).1
      simp at hlt
      have e0 : j - N.length = 0 := by omega
      rw [e0] at hj
      simp at hj
      exact .inr ⟨by omega, hj.symm⟩
  have hok : OkN (N ++ [(s ++ [c], -1)]) := okN_snoc h.ok (by rw [hi]; rfl) hn (-1)
  have inext : ∀ (t : List UInt8) (d : UInt8), nxtB (N ++ [(s ++ [c], -1)]) (B ++ [(nb, nm)]) t d = if t = s ∧ d = c then some nb else nxtB N B t d := by
    intro t d
    by_cases e : t = s ∧ d = c
    · rw [if_pos e]
      unfold nxtB
      rw [idxN_snoc, e.1, e.2, hn]
      simp [← hlen]
    · rw [if_neg e]
      unfold nxtB
      rw [idxN_snoc]
      cases hj : idxN N (t ++ [d]) with
      | none =>
        rw [if_neg (by simp), if_neg (fun e2 => by
          have := List.append_inj' e2 rfl
          exact e ⟨this.1.symm, by simpa using this.2.symm⟩)]
        rfl
      | some j =>
        simp only [Option.isSome_some, if_true, Option.bind_some]
        rw [List.getElem?_append_left (by rw [hlen]; exact idxN_lt hj)]
  refine ⟨hok, by simp [hlen], ?_, ?_, ?_, ?_⟩
  · obtain ⟨r0, m0, e1, e2⟩ := h1
    refine ⟨r0, m0, ?_, by rw [List.length_append]; exact e2⟩
    rw [List.getElem?_append_left (List.getElem?_eq_some_iff.1 e1).1]
    exact e1
  · intro j x b' m' hx hj
    rw [List.length_append]
    rcases snocB j _ hj with h5 | ⟨e5, e6⟩
    · rcases snocN j x hx with h6 | ⟨e7, _⟩
      · obtain ⟨q1, q2⟩ := h.nod j x b' m' h6 h5
        have hne1 : b' ≠ rb := by
          rintro rfl
          obtain ⟨r0, m0, _, e2⟩ := h.top
          rw [q1] at e2
          injection e2 with e2
          injection e2 with _ e2 _
          exact absurd e2 (by decide)
        have hne2 : b' ≠ m := by
          rintro rfl
          obtain ⟨es, cl, e2⟩ := h4.isMap
          obtain ⟨es2, cl2, e3⟩ := (h.nod i _ b b' (List.getElem?_eq_getElem (by rw [← hlen]; exact (List.getElem?_eq_some_iff.1 hB).1)) hB).2.isMap
          rw [q1] at e3
          cases e3
        refine ⟨k.blk q1 (fun hf => by rcases hf with hf | hf; exact hne1 hf; exact hne2 hf), ?_⟩
        by_cases e : m' = m
        · have eij := h.inj j i b' m' b m h5 hB (.inr e)
          subst eij
          subst e
          obtain ⟨y, hy, ey⟩ := idxN_some hi
          rw [h6] at hy
          injection hy with hy
          subst hy
          refine MapP.congr h4 (fun d => ?_)
          rw [inext, ey]
          by_cases e8 : d = c <;> simp [e8]
        · have hne3 : m' ≠ rb := by
            rintro rfl
            obtain ⟨r0, m0, _, e2⟩ := h.top
            obtain ⟨es, cl, e3⟩ := q2.isMap
            rw [e2] at e3
            cases e3
          refine ((q2.keep k (fun hf => by rcases hf with hf | hf; exact hne3 hf; exact e hf)).less (Nat.le_add_right _ _)).congr (fun d => ?_)
          rw [inext, if_neg (fun e8 => e ?_)]
          have h9 : j = i := by
            have := idxN_of h.ok h6
            rw [e8.1, hi] at this
            injection this with this
            exact this.symm
          subst h9
          rw [hB] at h5
          injection h5 with h5
          injection h5 with _ h5
          exact h5.symm
      · have := (List.getElem?_eq_some_iff.1 h5).1
        omega
    · rcases snocN j x hx with h6 | ⟨_, e8⟩
      · have := (List.getElem?_eq_some_iff.1 h6).1
        omega
      · subst e8
        injection e6 with e6 e7
        subst e6
        subst e7
        refine ⟨h2, (h3.less (Nat.zero_le _)).congr (fun d => ?_)⟩
        rw [inext, if_neg (fun e => by have := congrArg List.length e.1; simp at this)]
        symm
        refine nxtB_none ?_
        cases hz : idxN N (s ++ [c] ++ [d]) with
        | none => rfl
        | some z =>
          have := h.ok.pfx (s ++ [c]) d (by rw [hz]; rfl)
          rw [hn] at this
          cases this
  · refine ⟨h.lo.1, fun j b' m' hj => ?_⟩
    rcases snocB j _ hj with h5 | ⟨_, e6⟩
    · exact h.lo.2 j b' m' h5
    · injection e6 with e6 e7
      omega
  · intro j l b' m' b2 m2 hj hl he
    rcases snocB j _ hj with h5 | ⟨e5, e6⟩
    · rcases snocB l _ hl with h7 | ⟨e7, e8⟩
      · exact h.inj j l b' m' b2 m2 h5 h7 he
      · have := hbi j b' m' h5
        injection e8 with e8 e9
        omega
    · rcases snocB l _ hl with h7 | ⟨e7, e8⟩
      · have := hbi l b2 m2 h7
        injection e6 with e6 e9
        omega
      · omega
theorem TrieIs.put (h : TrieIs w base rb N B) {s : List UInt8} {i b m : Nat} (hi : idxN N s = some i) (hB : B[i]? = some (b, m)) (id : Int) : TrieIs (w.setCell ⟨b, 1, none⟩ (.int .i64 id)) base rb (setN N s id) B := by
  obtain ⟨x, b0, m0, hx, ex, hb, hblk, hmp⟩ := h.at hi
  rw [hB] at hb
  injection hb with hb
  injection hb with hb1 hb2
  subst hb1
  subst hb2
  have hk : Keep (fun y => y = b) w (w.setCell ⟨b, 1, none⟩ (.int .i64 id)) := (Keep.refl (fun y => y = b) w).setCell (p := ⟨b, 1, none⟩) (.inl rfl) _
  have hnx : ∀ t d, nxtB (setN N s id) B t d = nxtB N B t d := fun t d => by unfold nxtB; rw [idxN_set]
  refine ⟨okN_set h.ok s id, by rw [setN_len]; exact h.len, ?_, ?_, h.lo, h.inj⟩
  · obtain ⟨r0, m0, e1, e2⟩ := h.top
    refine ⟨r0, m0, e1, ?_⟩
    rw [setN_len]
    exact hk.blk e2 (fun e => by
      rw [← e, e2] at hblk
      injection hblk with hblk
      injection hblk with _ hblk _
      exact absurd hblk (by decide))
  · intro j y b' m' hy hj
    obtain ⟨y0, hy0, ey⟩ := setN_inv hy
    obtain ⟨q1, q2⟩ := h.nod j y0 b' m' hy0 hj
    have ey1 : y.1 = y0.1 := by rw [ey]; exact set_fst _ _ _
    rw [setN_len, ey1]
    refine ⟨?_, (q2.keep hk (fun e => by
      obtain ⟨es, cl, e3⟩ := q2.isMap
      rw [e, hblk] at e3
      cases e3)).congr (fun d => (hnx _ d).symm)⟩
    by_cases e : b' = b
    · have eji := h.inj j i b' m' b m hj hB (.inl e)
      subst eji
      subst e
      rw [hx] at hy0
      injection hy0 with hy0
      subst hy0
      rw [hB] at hj
      injection hj with hj
      injection hj with _ hj
      subst hj
      have := blk_set hblk 1 (.int .i64 id)
      simp only [List.setIfInBounds_toArray, List.set_cons_zero, List.set_cons_succ] at this
      rw [ey, if_pos ex]
      exact this
    · rw [ey, if_neg (fun e2 => e ?_)]
      · exact hk.blk q1 e
      · have h9 := idxN_of h.ok hy0
        rw [e2, hi] at h9
        injection h9 with h9
        subst h9
        rw [hB] at hj
        injection hj with hj
        injection hj with hj _
        exact hj.symm
end
def trieT (T : List Ent) : Nat → List TN
  | 0 => [([], -1)]
  | k + 1 => setN (extN (trieT T k) (T.getD k ([], -1, -1)).1 (T.getD k ([], -1, -1)).1.length) (T.getD k ([], -1, -1)).1 (k : Int)
def tokK (T : List Ent) (k : Nat) (s : List UInt8) : Int := match findT (T.take k) s with | some j => (j : Int) | none => -1
theorem findT_at {T : List Ent} {s : List UInt8} {j : Nat} (h : findT T s = some j) : ∃ e, T[j]? = some e ∧ e.1 = s := by
  unfold findT at h
  rw [List.findIdx?_eq_some_iff_getElem] at h
  obtain ⟨hj, h1, _⟩ := h
  exact ⟨T[j], List.getElem?_eq_getElem hj, by simpa using h1⟩
theorem ext_keep (N : List TN) (s : List UInt8) (i : Nat) : ∀ (j : Nat) (x : TN), N[j]? = some x → (extN N s i)[j]? = some x := by
  induction i with
  | zero => intro j x h; exact h
  | succ i ih =>
    intro j x h
    rw [extN]
    split
    · exact ih j x h
    · rw [List.getElem?_append_left (List.getElem?_eq_some_iff.1 (ih j x h)).1]
      exact ih j x h
theorem ext_from (N : List TN) (s : List UInt8) (i : Nat) : ∀ (j : Nat) (x : TN), (extN N s i)[j]? = some x → N[j]? = some x ∨ (N.length ≤ j ∧ x.2 = -1 ∧ ∃ n, 0 < n ∧ n ≤ i ∧ x.1 = s.take n) := by
  induction i with
  | zero => intro j x h; exact .inl h
  | succ i ih =>
    intro j x h
    rw [extN] at h
    split at h
    · rcases ih j x h with h1 | ⟨h1, h2, n, h3, h4, h5⟩
      · exact .inl h1
      · exact .inr ⟨h1, h2, n, h3, by omega, h5⟩
    · rw [List.getElem?_append] at h
      split at h
      · rcases ih j x h with h1 | ⟨h1, h2, n, h3, h4, h5⟩
        · exact .inl h1
        · exact .inr ⟨h1, h2, n, h3, by omega, h5⟩
      · rename_i hge
        have hle : N.length ≤ (extN N s i).length := by
          cases hN : N.length with
          | zero => omega
          | succ m =>
            have := ext_keep N s i m N[m] (List.getElem?_eq_getElem (by omega))
            have := (List.getElem?_eq_some_iff.1 this).1
            omega
        have hlt := (List.getElem?_eq_some_iff.1 h).1
        simp at hlt
        have e0 : j - (extN N s i).length = 0 := by omega
        rw [e0] at h
        simp at h
        subst h
        exact .inr ⟨by omega, rfl, i + 1, by omega, Nat.le_refl _, rfl⟩
structure TrOk (T : List Ent) (k : Nat) (N : List TN) : Prop where
  ok : OkN N
  id : ∀ (i : Nat) (x : TN), N[i]? = some x → x.1 ≠ [] → x.2 = tokK T k x.1
  root : N[0]? = some ([], -1)
  has : ∀ (s : List UInt8), s ≠ [] → ((idxN N s).isSome = true ↔ ∃ j e, j < k ∧ T[j]? = some e ∧ ∃ n, e.1.take n = s)
theorem okN_root : OkN [([], -1)] := by
  refine ⟨rfl, ?_, ?_⟩
  · intro i j x y hi hj _
    have h1 := (List.getElem?_eq_some_iff.1 hi).1
    have h2 := (List.getElem?_eq_some_iff.1 hj).1
    simp at h1 h2
    omega
  · intro t c h
    have : idxN [([], (-1 : Int))] (t ++ [c]) = none := by
      unfold idxN
      rw [List.findIdx?_eq_none_iff]
      intro x hx
      simp at hx
      subst hx
      simp
    rw [this] at h
    cases h
theorem tokK_succ {T : List Ent} (hT : OkT T) {k : Nat} (hk : k < T.length) (s : List UInt8) : tokK T (k + 1) s = if s = T[k].1 then (k : Int) else tokK T k s := by
  have e : T.take (k + 1) = T.take k ++ [T[k]] := by rw [List.take_add_one, List.getElem?_eq_getElem hk]; rfl
  have hn : findT (T.take k) T[k].1 = none := by
    cases h : findT (T.take k) T[k].1 with
    | none => rfl
    | some j =>
      exfalso
      obtain ⟨e1, h1, h2⟩ := findT_at h
      have hj := (List.getElem?_eq_some_iff.1 h1).1
      rw [List.length_take] at hj
      rw [List.getElem?_take, if_pos (by omega), List.getElem?_eq_getElem (by omega)] at h1
      injection h1 with h1
      have := hT.nodup j k (by omega) hk (by rw [entT_nat _ _ (by omega), entT_nat _ _ hk, h1, h2])
      omega
  unfold tokK
  rw [e, findT_snoc _ _ _ hn]
  by_cases hs : s = T[k].1
  · rw [if_pos hs, if_pos hs]
    simp; omega
  · rw [if_neg hs, if_neg hs]
theorem trie_ok {T : List Ent} (hT : OkT T) : ∀ k, k ≤ T.length → TrOk T k (trieT T k)
  | 0, _ => by
    refine ⟨okN_root, ?_, rfl, ?_⟩
    · intro i x hx hne
      have h1 := (List.getElem?_eq_some_iff.1 hx).1
      simp [trieT] at h1
      subst h1
      simp [trieT] at hx
      subst hx
      exact absurd rfl hne
    · intro s hs
      constructor
      · intro h
        exfalso
        have : idxN (trieT T 0) s = none := by
          unfold idxN trieT
          rw [List.findIdx?_eq_none_iff]
          intro x hx
          simp at hx
          subst hx
          simpa using hs
        rw [this] at h
        cases h
      · rintro ⟨j, e, hj, _⟩
        omega
  | k + 1, hk => by
    have ih := trie_ok hT k (by omega)
    have hkl : k < T.length := by omega
    have eg : T.getD k ([], -1, -1) = T[k] := by simp [List.getD_eq_getElem?_getD, hkl]
    have hpos := hT.len T[k] (List.getElem_mem hkl)
    obtain ⟨g1, g2, g3⟩ := ext_ok ih.ok T[k].1 T[k].1.length (Nat.le_refl _)
    have hfull := g2 T[k].1.length (Nat.le_refl _)
    rw [List.take_length] at hfull
    rw [trieT, eg]
    have hne : T[k].1 ≠ [] := by intro e; rw [e] at hpos; simp at hpos
    refine ⟨okN_set g1 _ _, ?_, ?_, ?_⟩
    · intro i x hx hxe
      obtain ⟨y, hy, ey⟩ := setN_inv hx
      have hxy : x.1 = y.1 := by rw [ey]; exact set_fst _ _ _
      rw [tokK_succ hT hkl]
      by_cases e : y.1 = T[k].1
      · rw [ey, if_pos e]
        simp [e]
      · rw [hxy, if_neg e, ey, if_neg e]
        rcases ext_from _ _ _ _ _ hy with h1 | ⟨h1, h2, n, h3, h4, h5⟩
        · exact ih.id i y h1 (by rw [← hxy]; exact hxe)
        · rw [h2]
          unfold tokK
          cases hf : findT (T.take k) y.1 with
          | none => rfl
          | some j =>
            exfalso
            obtain ⟨e1, q1, q2⟩ := findT_at hf
            have hj := (List.getElem?_eq_some_iff.1 q1).1
            rw [List.length_take] at hj
            rw [List.getElem?_take, if_pos (by omega)] at q1
            have hin := (ih.has y.1 (by rw [← hxy]; exact hxe)).2 ⟨j, e1, by omega, q1, e1.1.length, by rw [List.take_length, q2]⟩
            obtain ⟨z, hz⟩ := Option.isSome_iff_exists.1 hin
            have h8 := g3 _ _ hz
            have h9 := idxN_of g1 hy
            rw [h8] at h9
            injection h9 with h9
            have := idxN_lt hz
            omega
    · have h0 := setN_at (s := T[k].1) (id := (k : Int)) (ext_keep _ T[k].1 T[k].1.length 0 _ ih.root)
      rw [h0, if_neg (fun e => hne e.symm)]
    · intro s hs
      rw [idxN_set]
      constructor
      · intro h
        obtain ⟨i, hi⟩ := Option.isSome_iff_exists.1 h
        obtain ⟨x, hx, ex⟩ := idxN_some hi
        rcases ext_from _ _ _ _ _ hx with h1 | ⟨h1, h2, n, h3, h4, h5⟩
        · have h6 : (idxN (trieT T k) s).isSome = true := by
            have := idxN_of ih.ok h1
            rw [ex] at this
            rw [this]; rfl
          obtain ⟨j, e, q1, q2⟩ := (ih.has s hs).1 h6
          exact ⟨j, e, by omega, q2⟩
        · exact ⟨k, T[k], by omega, List.getElem?_eq_getElem hkl, n, by rw [← h5, ex]⟩
      · rintro ⟨j, e, hj, q1, n, q2⟩
        by_cases hjk : j = k
        · subst hjk
          rw [List.getElem?_eq_getElem hkl] at q1
          injection q1 with q1
          subst q1
          rw [← q2]
          by_cases hn : n ≤ T[j].1.length
          · exact g2 n hn
          · rw [List.take_of_length_le (by omega)]; exact hfull
        · have h6 := (ih.has s hs).2 ⟨j, e, by omega, q1, n, q2⟩
          obtain ⟨z, hz⟩ := Option.isSome_iff_exists.1 h6
          rw [g3 _ _ hz]; rfl
def begT (T : List Ent) (s : List UInt8) (i : Nat) : List Int := (List.range i).filterMap (fun n => (findT T (s.take (n + 1))).map Int.ofNat)
theorem begT_zero (T : List Ent) (s : List UInt8) : begT T s 0 = [] := rfl
theorem begT_succ (T : List Ent) (s : List UInt8) (i : Nat) : begT T s (i + 1) = begT T s i ++ (match findT T (s.take (i + 1)) with | some j => [(j : Int)] | none => []) := by
  unfold begT
  rw [List.range_succ, List.filterMap_append]
  congr 1
  cases h : findT T (s.take (i + 1)) <;> simp [h]
theorem begT_le (T : List Ent) (s : List UInt8) (i : Nat) : (begT T s i).length ≤ i := by
  have := List.length_filterMap_le (fun n => (findT T (s.take (n + 1))).map Int.ofNat) (List.range i)
  simpa [begT] using this
theorem node_tok {T : List Ent} (hT : OkT T) {s : List UInt8} (hs : s ≠ []) {i : Nat} {x : TN} (hi : idxN (trieT T T.length) s = some i) (hx : (trieT T T.length)[i]? = some x) : x.2 = match findT T s with | some j => (j : Int) | none => -1 := by
  have h := trie_ok hT T.length (Nat.le_refl _)
  obtain ⟨y, hy, e⟩ := idxN_some hi
  rw [hx] at hy
  injection hy with hy
  subst hy
  have := h.id i x hx (by rw [e]; exact hs)
  rw [this, e]
  unfold tokK
  rw [List.take_length]
theorem no_node {T : List Ent} (hT : OkT T) {s : List UInt8} {n : Nat} (hn : 0 < n) (hle : n ≤ s.length) (h : idxN (trieT T T.length) (s.take n) = none) : ∀ m, n ≤ m → m ≤ s.length → findT T (s.take m) = none := by
  intro m hm hml
  cases hf : findT T (s.take m) with
  | none => rfl
  | some j =>
    exfalso
    obtain ⟨e, h1, h2⟩ := findT_at hf
    have hlt := (List.getElem?_eq_some_iff.1 h1).1
    have hne : s.take n ≠ [] := by
      intro e0
      have h7 : (s.take n).length = 0 := by rw [e0]; rfl
      rw [List.length_take] at h7
      omega
    have := ((trie_ok hT T.length (Nat.le_refl _)).has (s.take n) hne).2 ⟨j, e, hlt, h1, n, by rw [h2, List.take_take, Nat.min_eq_left hm]⟩
    rw [h] at this
    cases this
theorem begT_stop {T : List Ent} (hT : OkT T) {s : List UInt8} {n : Nat} (hle : n < s.length) (h : idxN (trieT T T.length) (s.take (n + 1)) = none) : ∀ m, n ≤ m → m ≤ s.length → begT T s m = begT T s n := by
  intro m hm
  induction m with
  | zero => intro _; have : n = 0 := by omega
            subst this; rfl
  | succ m ih =>
    intro hml
    by_cases e : n = m + 1
    · rw [e]
    · rw [begT_succ, ih (by omega) (by omega), no_node hT (Nat.succ_pos n) (by omega) h (m + 1) (by omega) hml]
      simp
section
variable {P : Program} {ops : Array Oper} {Q : Exit → Act → World → Prop} {md : Region.Mode} {S : World → Prop} {Ds : List Nat}
def wpAnyD (P : Program) (md : Region.Mode) (ops : Array Oper) (Q : Exit → Act → World → Prop) (S : World → Prop) (Ds : List Nat) : Nat → Array Bool → Act → World → Prop
  | 0, listed, a, w => Region.ready md ops listed = [] ∧ Q .normal a w
  | fuel + 1, listed, a, w =>
    (Region.ready md ops listed = [] → Q .normal a w) ∧
    ∀ i ∈ Region.ready md ops listed, wpOp P ops Q i (fun a' w' => (S w → i ∈ Ds ∨ S w') ∧ wpAnyD P md ops Q S Ds fuel (listed.setIfInBounds i true) a' w') a w
theorem wpAny_of_D : ∀ (fuel : Nat) (listed : Array Bool) (a : Act) (w : World), wpAnyD P md ops Q S Ds fuel listed a w → wpAny P md ops Q fuel listed a w
  | 0, _, _, _, h => h
  | fuel + 1, _, _, _, h => ⟨h.1, fun i hi => wpOp_mono (fun a' w' h' => wpAny_of_D fuel _ a' w' h'.2) (h.2 i hi)⟩
theorem wpAnyD_first {i : Nat} {oi : Oper} {v : Value} (hi : ops[i]? = some oi) (hsel : ∀ (j : Nat) (o : Oper) cs b, ops[j]? = some o → o.op ≠ .select cs b)
    (hQ : ∀ c a w, Q (.panic c) (a.put oi.dst v) w → Q (.panic c) a w) (hD : ∀ D ∈ Ds, Region.waitsFor md ops D i = true) :
    ∀ (fuel : Nat) (listed : Array Bool) (a : Act) (w : World),
      (∀ j oj, ops[j]? = some oj → j ≠ i → listed.getD j true = false → (∀ e ∈ oj.after, Region.binds md e = true → e.on ≠ i) → oi.apart ops oj = true) →
      i ∈ Region.ready md ops listed → YieldsIf P ops S oi v a → S w →
      wpAnyD P md ops Q S Ds fuel (listed.setIfInBounds i true) (a.put oi.dst v) w → wpAnyD P md ops Q S Ds (fuel + 1) listed a w := by
  intro fuel
  induction fuel with
  | zero =>
    intro listed a w _ hr hy hS H
    refine ⟨fun h => (by rw [h] at hr; cases hr), fun j hj => ?_⟩
    by_cases hji : j = i
    · subst hji; exact hy.wpOp hi hS ⟨fun h => Or.inr h, H⟩
    · have := ready_mono hj hji
      rw [H.1] at this
      cases this
  | succ fuel ih =>
    intro listed a w hfree hr hy hS H
    refine ⟨fun h => (by rw [h] at hr; cases hr), fun j hj => ?_⟩
    by_cases hji : j = i
    · subst hji; exact hy.wpOp hi hS ⟨fun h => Or.inr h, H⟩
    · have h1 := H.2 j (ready_mono hj hji)
      obtain ⟨hjun, oj, hoj, hall⟩ := mem_ready.1 hj
      have hnot : ∀ e ∈ oj.after, Region.binds md e = true → e.on ≠ i := by
        intro e he hb heq
        have h1 := hall e he hb
        have h0 := (mem_ready.1 hr).1
        rw [heq] at h1
        rcases Nat.lt_or_ge i listed.size with h' | h'
        · simp [h'] at h0 h1; rw [h0] at h1; cases h1
        · simp [Array.getElem?_eq_none h'] at h1
      have hjD : ¬ j ∈ Ds := by
        intro e
        obtain ⟨od, hod, x, hx, hb, hxi⟩ := Region.waitsFor_spec (hD j e)
        rw [hoj] at hod
        cases hod
        exact hnot x hx hb hxi
      have h2 := wpOp_putIf hoj (hfree j oj hoj hji hjun hnot) (fun cs b => hsel i oi cs b hi) (fun cs b => hsel j oj cs b hoj) hQ hy h1
      have hfree' : ∀ k ok, ops[k]? = some ok → k ≠ i → (listed.setIfInBounds j true).getD k true = false →
          (∀ e ∈ ok.after, Region.binds md e = true → e.on ≠ i) → oi.apart ops ok = true := by
        intro k ok hk hki hun hno
        refine hfree k ok hk hki ?_ hno
        by_cases hjk : j = k
        · subst hjk; exact hjun
        · rw [getD_set_ne true hjk] at hun; exact hun
      refine wpOp_mono (fun a' w' h3 => ⟨h3.2.1, ?_⟩) h2
      refine ih (listed.setIfInBounds j true) a' w' hfree' (ready_mono hr (Ne.symm hji)) h3.1 ((h3.2.1 hS).resolve_left hjD) ?_
      rw [Array.setIfInBounds_comm _ _ hji]
      exact h3.2.2
theorem wpAnyD_firstP {i : Nat} {oi : Oper} {v : Value} (hi : ops[i]? = some oi) (hsel : ∀ (j : Nat) (o : Oper) cs b, ops[j]? = some o → o.op ≠ .select cs b)
    (hQ : ∀ c a w, Q (.panic c) (a.put oi.dst v) w → Q (.panic c) a w) :
    ∀ (fuel : Nat) (listed : Array Bool) (a : Act) (w : World),
      (∀ j oj, ops[j]? = some oj → j ≠ i → listed.getD j true = false → (∀ e ∈ oj.after, Region.binds md e = true → e.on ≠ i) → oi.apart ops oj = true) →
      i ∈ Region.ready md ops listed → YieldsIf P ops (fun _ => True) oi v a →
      wpAnyD P md ops Q S Ds fuel (listed.setIfInBounds i true) (a.put oi.dst v) w → wpAnyD P md ops Q S Ds (fuel + 1) listed a w := by
  intro fuel
  induction fuel with
  | zero =>
    intro listed a w _ hr hy H
    refine ⟨fun h => (by rw [h] at hr; cases hr), fun j hj => ?_⟩
    by_cases hji : j = i
    · subst hji; exact hy.wpOp hi trivial ⟨fun h => Or.inr h, H⟩
    · have := ready_mono hj hji
      rw [H.1] at this
      cases this
  | succ fuel ih =>
    intro listed a w hfree hr hy H
    refine ⟨fun h => (by rw [h] at hr; cases hr), fun j hj => ?_⟩
    by_cases hji : j = i
    · subst hji; exact hy.wpOp hi trivial ⟨fun h => Or.inr h, H⟩
    · have h1 := H.2 j (ready_mono hj hji)
      obtain ⟨hjun, oj, hoj, hall⟩ := mem_ready.1 hj
      have hnot : ∀ e ∈ oj.after, Region.binds md e = true → e.on ≠ i := by
        intro e he hb heq
        have h1 := hall e he hb
        have h0 := (mem_ready.1 hr).1
        rw [heq] at h1
        rcases Nat.lt_or_ge i listed.size with h' | h'
        · simp [h'] at h0 h1; rw [h0] at h1; cases h1
        · simp [Array.getElem?_eq_none h'] at h1
      have h2 := wpOp_putIf hoj (hfree j oj hoj hji hjun hnot) (fun cs b => hsel i oi cs b hi) (fun cs b => hsel j oj cs b hoj) hQ hy h1
      have hfree' : ∀ k ok, ops[k]? = some ok → k ≠ i → (listed.setIfInBounds j true).getD k true = false →
          (∀ e ∈ ok.after, Region.binds md e = true → e.on ≠ i) → oi.apart ops ok = true := by
        intro k ok hk hki hun hno
        refine hfree k ok hk hki ?_ hno
        by_cases hjk : j = k
        · subst hjk; exact hjun
        · rw [getD_set_ne true hjk] at hun; exact hun
      refine wpOp_mono (fun a' w' h3 => ⟨h3.2.1, ?_⟩) h2
      refine ih (listed.setIfInBounds j true) a' w' hfree' (ready_mono hr (Ne.symm hji)) h3.1 ?_
      rw [Array.setIfInBounds_comm _ _ hji]
      exact h3.2.2
theorem wpAnyD_takeD {i d : Nat} {oi : Oper} {v : Value} {fuel : Nat} {listed : Array Bool} {tmps : Array Value} {df : List Deferred} {w : World}
    (hi : ops[i]? = some oi) (hd : oi.dst = some d) (hiD : (Ds.all fun D => Region.waitsFor md ops D i) = true)
    (hs : Region.noSelect ops = true) (hf : Region.free md ops listed i = true) (hr : (Region.ready md ops listed).contains i = true)
    (hQ : ∀ c a w, Q (.panic c) (a.put oi.dst v) w → Q (.panic c) a w) (hy : YieldsIf P ops S oi v ⟨tmps, df⟩) (hS : S w)
    (h : wpAnyD P md ops Q S Ds fuel (listed.setIfInBounds i true) ⟨tmps.setIfInBounds d v, df⟩ w) : wpAnyD P md ops Q S Ds (fuel + 1) listed ⟨tmps, df⟩ w := by
  rw [List.all_eq_true] at hiD
  refine wpAnyD_first hi (Region.noSelect_spec hs) hQ hiD fuel listed _ w (Region.free_spec hi hf) (by simpa using hr) hy hS ?_
  rw [hd]
  exact h
theorem wpAnyD_takeP {i d : Nat} {oi : Oper} {v : Value} {fuel : Nat} {listed : Array Bool} {tmps : Array Value} {df : List Deferred} {w : World}
    (hi : ops[i]? = some oi) (hd : oi.dst = some d)
    (hs : Region.noSelect ops = true) (hf : Region.free md ops listed i = true) (hr : (Region.ready md ops listed).contains i = true)
    (hQ : ∀ c a w, Q (.panic c) (a.put oi.dst v) w → Q (.panic c) a w) (hy : YieldsIf P ops (fun _ => True) oi v ⟨tmps, df⟩)
    (h : wpAnyD P md ops Q S Ds fuel (listed.setIfInBounds i true) ⟨tmps.setIfInBounds d v, df⟩ w) : wpAnyD P md ops Q S Ds (fuel + 1) listed ⟨tmps, df⟩ w := by
  refine wpAnyD_firstP hi (Region.noSelect_spec hs) hQ fuel listed _ w (Region.free_spec hi hf) (by simpa using hr) hy ?_
  rw [hd]
  exact h
theorem tkD (i d : Nat) (v : Value) {oi : Oper} {fuel : Nat} {listed : Array Bool} {tmps : Array Value} {df : List Deferred} {w : World}
    (hi : ops[i]? = some oi) (hS : S w) (hy : YieldsIf P ops S oi v ⟨tmps, df⟩) (h : wpAnyD P md ops Q S Ds fuel (listed.setIfInBounds i true) ⟨tmps.setIfInBounds d v, df⟩ w)
    (hd : oi.dst = some d := by rfl) (hiD : (Ds.all fun D => Region.waitsFor md ops D i) = true := by kernel_rfl) (hs : Region.noSelect ops = true := by kernel_rfl) (hf : Region.free md ops listed i = true := by kernel_rfl) (hr : (Region.ready md ops listed).contains i = true := by kernel_rfl)
    (hQ : ∀ c a w, Q (.panic c) (a.put oi.dst v) w → Q (.panic c) a w := by exact fun _ _ _ h => h) : wpAnyD P md ops Q S Ds (fuel + 1) listed ⟨tmps, df⟩ w := wpAnyD_takeD hi hd hiD hs hf hr hQ hy hS h
theorem tkP (i d : Nat) (v : Value) {oi : Oper} {fuel : Nat} {listed : Array Bool} {tmps : Array Value} {df : List Deferred} {w : World}
    (hi : ops[i]? = some oi) (hy : YieldsIf P ops (fun _ => True) oi v ⟨tmps, df⟩) (h : wpAnyD P md ops Q S Ds fuel (listed.setIfInBounds i true) ⟨tmps.setIfInBounds d v, df⟩ w)
    (hd : oi.dst = some d := by rfl) (hs : Region.noSelect ops = true := by kernel_rfl) (hf : Region.free md ops listed i = true := by kernel_rfl) (hr : (Region.ready md ops listed).contains i = true := by kernel_rfl)
    (hQ : ∀ c a w, Q (.panic c) (a.put oi.dst v) w → Q (.panic c) a w := by exact fun _ _ _ h => h) : wpAnyD P md ops Q S Ds (fuel + 1) listed ⟨tmps, df⟩ w := wpAnyD_takeP hi hd hs hf hr hQ hy h
theorem wpAnyD_one {i : Nat} {o : Oper} {fuel : Nat} {listed : Array Bool} {a : Act} {w : World} (hr : Region.ready md ops listed = [i]) (ho : ops[i]? = some o)
    (hw : Region.wanted o (yielded ops a.tmps) = true)
    (h : ∀ K' : Act → World → Prop, Shut (∀ a w, S w → (S w → wpAnyD P md ops Q S Ds fuel (listed.setIfInBounds i true) a w) → K' a w) → Oper.wp P o a w K' Q) :
    wpAnyD P md ops Q S Ds (fuel + 1) listed a w := by
  refine ⟨fun h0 => (by rw [hr] at h0; cases h0), fun j hj => ?_⟩
  rw [hr] at hj
  have : j = i := by simpa using hj
  subst this
  refine wpOp_step ho (fun K' hK => ?_)
  rw [if_pos hw]
  exact h K' (fun a w hS hW => hK a w ⟨fun _ => Or.inr hS, hW hS⟩)
theorem wpAnyD_last {D : Nat} (hD : D ∈ Ds) {o : Oper} {fuel : Nat} {listed : Array Bool} {a : Act} {w : World} (hr : Region.ready md ops listed = [D]) (ho : ops[D]? = some o)
    (hw : Region.wanted o (yielded ops a.tmps) = true)
    (h : ∀ K' : Act → World → Prop, Shut (∀ a w, wpAnyD P md ops Q S Ds fuel (listed.setIfInBounds D true) a w → K' a w) → Oper.wp P o a w K' Q) :
    wpAnyD P md ops Q S Ds (fuel + 1) listed a w := by
  refine ⟨fun h0 => (by rw [hr] at h0; cases h0), fun j hj => ?_⟩
  rw [hr] at hj
  have : j = D := by simpa using hj
  subst this
  refine wpOp_step ho (fun K' hK => ?_)
  rw [if_pos hw]
  exact h K' (fun a w hW => hK a w ⟨fun _ => Or.inl hD, hW⟩)
theorem wpAnyD_two {i j : Nat} {oi oj : Oper} {fuel : Nat} {listed : Array Bool} {a : Act} {w : World} (hr : Region.ready md ops listed = [i, j]) (hoi : ops[i]? = some oi) (hoj : ops[j]? = some oj)
    (hwi : Region.wanted oi (yielded ops a.tmps) = true) (hwj : Region.wanted oj (yielded ops a.tmps) = true)
    (hi : ∀ K' : Act → World → Prop, Shut (∀ a w, S w → (S w → wpAnyD P md ops Q S Ds fuel (listed.setIfInBounds i true) a w) → K' a w) → Oper.wp P oi a w K' Q)
    (hj : ∀ K' : Act → World → Prop, Shut (∀ a w, S w → (S w → wpAnyD P md ops Q S Ds fuel (listed.setIfInBounds j true) a w) → K' a w) → Oper.wp P oj a w K' Q) :
    wpAnyD P md ops Q S Ds (fuel + 1) listed a w := by
  refine ⟨fun h0 => (by rw [hr] at h0; cases h0), fun k hk => ?_⟩
  rw [hr] at hk
  have : k = i ∨ k = j := by simpa using hk
  rcases this with rfl | rfl
  · refine wpOp_step hoi (fun K' hK => ?_)
    rw [if_pos hwi]
    exact hi K' (fun a w hS hW => hK a w ⟨fun _ => Or.inr hS, hW hS⟩)
  · refine wpOp_step hoj (fun K' hK => ?_)
    rw [if_pos hwj]
    exact hj K' (fun a w hS hW => hK a w ⟨fun _ => Or.inr hS, hW hS⟩)
theorem wpAnyD_done {listed : Array Bool} {a : Act} {w : World} (hr : Region.ready md ops listed = []) (h : Q .normal a w) :
    ∀ fuel, wpAnyD P md ops Q S Ds fuel listed a w
  | 0 => ⟨hr, h⟩
  | _ + 1 => ⟨fun _ => h, by rw [hr]; simp⟩
theorem wp_region_D {id : Nat} {a : Act} {w : World} (hm : P.follows .mixedOrders = true) (hS : S w.drew)
    (h : S w.drew → wpAnyD P .any ops Q S Ds ops.size (Array.replicate ops.size false) a w.drew) : (Code.region id ops true).wp P Q a w :=
  wp_region_any hm (wpAny_of_D _ _ _ _ (h hS))
end
theorem wp_put_run {P : Program} {w w' : World} {o : Oper} {a : Act} {K : Act → World → Prop} {Q : Exit → Act → World → Prop} (t : TypeId) (m x v : Operand)
    (ho : o.op = Op.mapUpdate t m x v) (hr : (Instr.mapUpdate t (a.eval m) (a.eval x) (a.eval v)).run P w = .ok () w') (h : K (a.put o.dst undef) w') : Oper.wp P o a w K Q := by
  unfold Oper.wp
  simp [execOp, ho, hr, Result.andThen]
  exact h
theorem zero_node (w : World) : (zeroValue 187).run Tryz.prog w = .ok (.pointer none) w := by simp [go_sem]
theorem ext_len (N : List TN) (s : List UInt8) : ∀ i, (extN N s i).length ≤ N.length + i
  | 0 => Nat.le_refl _
  | i + 1 => by
    have := ext_len N s i
    rw [extN]
    split
    · omega
    · simp; omega
theorem trieT_len (T : List Ent) (hT : OkT T) : ∀ k, k ≤ T.length → (trieT T k).length ≤ 1 + 64 * k
  | 0, _ => by simp [trieT]
  | k + 1, h => by
    have ih := trieT_len T hT k (by omega)
    rw [trieT, setN_len]
    have h1 := ext_len (trieT T k) (T.getD k ([], -1, -1)).1 (T.getD k ([], -1, -1)).1.length
    have h2 : (T.getD k ([], -1, -1)).1.length ≤ 64 := by
      have hk : k < T.length := by omega
      simp only [List.getD_eq_getElem?_getD, List.getElem?_eq_getElem hk, Option.getD_some]
      exact (hT.len _ (List.getElem_mem hk)).2
    omega
theorem tnode_any (rb n : Nat) (v : Value) (w : World) (h : w.heap[rb]? = some (.cells #[v, .int .i64 (n : Int)] 189)) (hn : n ≤ 1000000) :
    Calls Tryz.prog 105 #[.pointer (some ⟨rb, 0, none⟩)] w fun e w' => e = .returned (.pointer (some ⟨w.heap.size + 1, 0, none⟩)) ∧
      w' = ((w.setCell ⟨rb, 1, none⟩ (.int .i64 ((n + 1 : Nat) : Int))).alloc (.map #[] 0)).alloc (.cells #[.map (some w.heap.size), .int .i64 (-1)] 210) := by
  have c1 := blk_cell h 1
  have z1 := blk_froz h 1
  simp only [List.getElem?_toArray, List.getElem?_cons_zero, List.getElem?_cons_succ] at c1
  have ws : IntKind.i64.wrap ((n : Int) + 1) = (n : Int) + 1 := IntWalk.i64_in _ (by omega)
  have hmm := @run_makeMap Tryz.prog
  clear h
  go_enter Tryz.func105, Tryz.ntmps105
  go_wp2_with fail
  go_ret
  exact ⟨by simp, by simp⟩
section
variable {w w' : World} {base rb : Nat} {N : List TN} {B : List (Nat × Nat)}
theorem TrieIs.step {W5 W6 : World} (h : TrieIs W5 base rb N B) (hbase : base ≤ W5.heap.size) {s : List UInt8} {c : UInt8} {i a m : Nat} (hi : idxN N s = some i) (hn : idxN N (s ++ [c]) = none) (hB : B[i]? = some (a, m))
    (hW : W6 = ((W5.setCell ⟨rb, 1, none⟩ (.int .i64 ((N.length + 1 : Nat) : Int))).alloc (.map #[] 0)).alloc (.cells #[.map (some W5.heap.size), .int .i64 (-1)] 210)) :
    W6.drew.cell? ⟨a, 0, none⟩ = some (.map (some m)) ∧ MapP Tryz.prog 5 kvB W6.drew m N.length (nxtB N B s) ∧
    ∀ W7, MapP Tryz.prog 5 kvB W7 m (N.length + 1) (fun x => if x = c then some (W5.heap.size + 1) else nxtB N B s x) → W6.drew.grownBy W7 (some m) →
      TrieIs W7 base rb (N ++ [(s ++ [c], -1)]) (B ++ [(W5.heap.size + 1, W5.heap.size)]) ∧ Below base W5 W7 := by
  obtain ⟨x, a', m', hx, ex, hb', hblk, hmp⟩ := h.at hi
  rw [hB] at hb'
  injection hb' with hb'
  injection hb' with hb1 hb2
  subst hb1
  subst hb2
  obtain ⟨r0, m0, hr0, htop⟩ := h.top
  have hrl := blk_lt htop
  have hml := hmp.lt
  have hal := blk_lt hblk
  have hne1 : a ≠ rb := by
    rintro rfl
    rw [hblk] at htop
    injection htop with htop
    injection htop with _ htop _
    exact absurd htop (by decide)
  have hne2 : m ≠ rb := by
    rintro rfl
    obtain ⟨es, cl, e3⟩ := hmp.isMap
    rw [htop] at e3
    cases e3
  have hk6 : Keep (fun y => y = rb) W5 W6.drew := by
    rw [hW]
    exact ((((Keep.refl (fun y => y = rb) W5).setCell (p := ⟨rb, 1, none⟩) (.inl rfl) _).alloc _).alloc _).drew
  have b1 := blk_alloc (blk_alloc (blk_set htop 1 (.int .i64 ((N.length + 1 : Nat) : Int))) (.map #[] 0)) (.cells #[.map (some W5.heap.size), .int .i64 (-1)] 210)
  simp only [List.setIfInBounds_toArray, List.set_cons_zero, List.set_cons_succ] at b1
  have b2 := blk_new ((W5.setCell ⟨rb, 1, none⟩ (.int .i64 ((N.length + 1 : Nat) : Int))).alloc (.map #[] 0)) (.cells #[.map (some W5.heap.size), .int .i64 (-1)] 210)
  have sz : (W5.setCell ⟨rb, 1, none⟩ (.int .i64 ((N.length + 1 : Nat) : Int))).heap.size = W5.heap.size := by simp [World.setCell]
  rw [size_alloc, sz] at b2
  have b3 : MapP Tryz.prog 5 kvB W6.drew W5.heap.size 0 (fun _ => none) := by
    have := MapP.made (W5.setCell ⟨rb, 1, none⟩ (.int .i64 ((N.length + 1 : Nat) : Int))) Tryz.prog 5 kvB
    rw [sz] at this
    rw [hW]
    exact this.keep (F := fun _ => False) ((Keep.refl _ _).alloc _).drew (fun h => h)
  rw [← hW] at b1 b2
  refine ⟨?_, hmp.keep hk6 hne2, ?_⟩
  · have := blk_cell (hk6.blk hblk hne1) 0
    simpa using this
  · intro W7 h7 hg
    have hk7 : Keep (fun y => y = m) W6.drew W7 := Keep.of_grown hg (fun y hy => by injection hy with hy; exact hy.symm)
    have hk : Keep (fun y => y = rb ∨ y = m) W5 W7 := (hk6.mono (fun y hy => .inl hy)).trans hk7 (fun y hy => .inl (.inr hy))
    have hlo := h.lo.2 i a m hB
    refine ⟨h.more hi hn hB (Nat.le_succ _) (Nat.le_refl _) hk ⟨r0, m0, hr0, hk7.blk b1 (fun e => hne2 e.symm)⟩ (hk7.blk b2 (by omega)) (b3.keep hk7 (by omega)) h7 hbase, hk.below hbase (fun y hy => ?_)⟩
    rcases hy with rfl | rfl
    · exact h.lo.1
    · exact hlo.2
structure TAddIs (w W : World) (base rb : Nat) (N : List TN) (s : List UInt8) (k : Nat) (at_ : Nat) : Prop where
  tri : ∃ B j m, TrieIs W base rb (extN N s k) B ∧ idxN (extN N s k) (s.take k) = some j ∧ B[j]? = some (at_, m)
  blw : Below base w W
theorem TAddIs.drew {W : World} {s : List UInt8} {k a : Nat} (h : TAddIs w W base rb N s k a) : TAddIs w W.drew base rb N s k a := by
  obtain ⟨B, j, m, h1, h2, h3⟩ := h.tri
  exact ⟨⟨B, j, m, h1.keep (F := fun _ => False) ⟨rfl, rfl, rfl, Nat.le_refl _, fun _ _ _ => rfl⟩ (fun x hx => hx.elim), h2, h3⟩, h.blw.drew⟩
set_option maxHeartbeats 4000000 in
theorem tadd_any (h : TrieIs w base rb N B) (hbase : base ≤ w.heap.size) (s : List UInt8) (hs : s.length ≤ 64) (id : Int) (hN : N.length ≤ 100000) :
    Calls Tryz.prog 107 #[.pointer (some ⟨rb, 0, none⟩), .string (bs s), .int .i64 id] w fun e w' => e = .returned (.tuple #[]) ∧ (∃ B', TrieIs w' base rb (setN (extN N s s.length) s id) B') ∧ Below base w w' := by
  obtain ⟨r0, m0, hB0, htop⟩ := h.top
  have c0 := blk_cell htop 0
  simp only [List.getElem?_toArray, List.getElem?_cons_zero, List.getElem?_cons_succ] at c0
  have HST : Hid (TAddIs w w base rb N s 0 r0) := Lib.hid ⟨⟨B, 0, m0, h, by rw [List.take_zero]; exact h.ok.root, hB0⟩, Below.refl _ _⟩
  have HOK := Lib.hid h.ok
  have HBS := Lib.hid hbase
  have HSL := Lib.hid hs
  have HNL := Lib.hid hN
  have HDZ : Hid ((bs s).size = s.length) := Lib.hid (bs_size s)
  have HDL : Hid ((bs s).data.toList = s) := Lib.hid rfl
  obtain ⟨Z, hZ⟩ : ∃ Z, bs s = Z := ⟨_, rfl⟩
  rw [hZ] at HDZ HDL ⊢
  clear h htop hB0 hbase hs hN hZ
  go_enter Tryz.func107, Tryz.ntmps107
  go_wp2_with fail
  clear c0
  go_loopg [6, 16] Z.size (fun n u i W => ∃ (k a : Nat), k + n = Z.size ∧ i = .int .i64 (k : Int) ∧ u = .pointer (some ⟨a, 0, none⟩) ∧ TAddIs w W base rb N s k a)
  case atStart => exact ⟨0, r0, by omega, rfl, rfl, HST.out⟩
  case round =>
    obtain ⟨k, a, hk, rfl, rfl, hst⟩ := hrel
    clear HST
    rename World => W
    have HK := Lib.hid hk
    have HST := Lib.hid hst
    clear hk hst
    obtain ⟨B1, j, m, ht, hj, hBj⟩ := HST.out.tri
    have HT := Lib.hid ht
    obtain ⟨x, b', m', hx, ex, hb', hblk, hmp⟩ := ht.at hj
    rw [hBj] at hb'
    injection hb' with hb'
    injection hb' with hb1 hb2
    subst hb1
    subst hb2
    have HMP := Lib.hid hmp
    have HBLK := Lib.hid hblk
    have HJ := Lib.hid hj
    have HBJ := Lib.hid hBj
    clear ht hj hBj hx ex hblk hmp
    by_cases hlt : k < Z.size
    · have p0 : (0 : Int) ≤ (k : Int) := by omega
      have p1 : (k : Int) < (Z.size : Int) := by omega
      have w2 : IntKind.i64.wrap ((k : Int) + 1) = (k : Int) + 1 := IntWalk.i64_in _ (by have := HSL.out; have := HDZ.out; omega)
      have hks : k < s.length := by rw [← HDZ.out]; exact hlt
      have HKS := Lib.hid hks
      have hc8 : s[k] = Z[k]'hlt := by
        have h9 := HDL.out
        subst h9
        rfl
      obtain ⟨c, hc⟩ : ∃ c, Z[k]'hlt = c := ⟨_, rfl⟩
      have HTK : Hid (s.take (k + 1) = s.take k ++ [c]) := Lib.hid ((take_snoc hks).trans (congrArg (fun z => s.take k ++ [z]) (hc8.trans hc)))
      have hix : (Z[k]'hlt).toNat = c.toNat := by rw [hc]
      have HLK : Hid (∀ V, Below W.heap.size W V → V.cell? ⟨a, 0, none⟩ = some (.map (some m)) ∧ (Instr.lookup 208 (.map (some m)) (.int .u8 ((Z[k]'hlt).toNat : Int)) true).run Tryz.prog V = .ok (.tuple #[ptrV (nxtB (extN N s k) B1 (s.take k) c), .bool (nxtB (extN N s k) B1 (s.take k) c).isSome]) V) := Lib.hid (fun V hV => ⟨by
          have := blk_cell (blk_below hV (blk_lt HBLK.out) HBLK.out) 0
          simpa using this, by
          rw [hix]
          exact (HMP.out.below hV HMP.out.lt).look keyed_u8 Tryz.underlying208 (zero_node V) c (key_u8 c)⟩)
      have HZK := Lib.hid hix
      clear hc8 hc hix hks
      cases hq : idxN (extN N s k) (s.take k ++ [c]) with
      | some j2 =>
        obtain ⟨b2, m2, hB2, hnx⟩ := nxtB_some HT.out hq
        have HEX : Hid (extN N s (k + 1) = extN N s k) := Lib.hid (by rw [extN, HTK.out, hq]; rfl)
        have HST2 : Hid (∀ V, TAddIs w V base rb N s k a → TrieIs V base rb (extN N s k) B1 → TAddIs w V base rb N s (k + 1) b2) := Lib.hid (fun V hV hT => ⟨⟨B1, j2, m2, by rw [HEX.out]; exact hT, by rw [HEX.out, HTK.out]; exact hq, hB2⟩, hV.blw⟩)
        rw [hnx] at HLK
        clear hq hB2 hnx
        obtain ⟨e0, e1⟩ := HLK.out _ (Below.refl _ _).drew
        go_upto_region 4 with fail
        refine wp_region_held_drew (S := fun V => V.cell? ⟨a, 0, none⟩ = some (.map (some m)) ∧ (Instr.lookup 208 (.map (some m)) (.int .u8 ((Z[k]'hlt).toNat : Int)) true).run Tryz.prog V = .ok (.tuple #[ptrV (some b2), .bool (some b2).isSome]) V) (by kernel_rfl) (by exact HLK.out _ (Below.refl _ _).drew) (fun hHeld => ?_)
        refine tkH 0 20 ?_ rfl hHeld (.inl ⟨by rfl, ?_⟩) ?_; rotate_left; focus (intro w' hSw; (try dsimp only at hSw); go_simp; (try with_reducible rfl))
        try simp only [sIB, sC0, sCS]
        refine tkH 1 21 ?_ rfl hHeld (.inl ⟨by rfl, ?_⟩) ?_; rotate_left; focus (intro w' hSw; (try dsimp only at hSw); go_simp; (try with_reducible rfl))
        try simp only [sIB, sC0, sCS]
        refine tkH 2 22 ?_ rfl hHeld (.inl ⟨by rfl, ?_⟩) ?_; rotate_left; focus (intro w' hSw; (try dsimp only at hSw); go_simp; (try with_reducible rfl))
        try simp only [sIB, sC0, sCS]
        refine tkH 3 23 ?_ rfl hHeld (.inl ⟨by rfl, ?_⟩) ?_; rotate_left; focus (intro w' hSw; (try dsimp only at hSw); go_simp; (try with_reducible rfl))
        try simp only [sIB, sC0, sCS]
        refine tkH 4 24 ?_ rfl hHeld (.inl ⟨by rfl, ?_⟩) ?_; rotate_left; focus (intro w' hSw; (try dsimp only at hSw); go_simp; (try with_reducible rfl))
        try simp only [sIB, sC0, sCS]
        refine tkH 5 25 ?_ rfl hHeld (.inl ⟨by rfl, ?_⟩) ?_; rotate_left; focus (intro w' hSw; (try dsimp only at hSw); go_simp; (try with_reducible rfl))
        try simp only [sIB, sC0, sCS]
        refine tkH 6 26 ?_ rfl hHeld (.inl ⟨by rfl, ?_⟩) ?_; rotate_left; focus (intro w' hSw; (try dsimp only at hSw); go_simp; (try with_reducible rfl))
        try simp only [sIB, sC0, sCS]
        refine tkH 7 27 ?_ rfl hHeld (.inl ⟨by rfl, ?_⟩) ?_; rotate_left; focus (intro w' hSw; (try dsimp only at hSw); go_simp; (try with_reducible rfl))
        try simp only [sIB, sC0, sCS]
        refine tkH 8 19 ?_ rfl hHeld (.inl ⟨by rfl, ?_⟩) ?_; rotate_left; focus (intro w' hSw; (try dsimp only at hSw); go_simp; (try with_reducible rfl))
        try simp only [sIB, sC0, sCS]
        refine tkH 9 28 ?_ rfl hHeld (.inl ⟨by rfl, ?_⟩) ?_; rotate_left; focus (intro w' hSw; (try dsimp only at hSw); go_simp; (try with_reducible rfl))
        try simp only [sIB, sC0, sCS]
        refine tkH 10 29 ?_ rfl hHeld (.inl ⟨by rfl, ?_⟩) ?_; rotate_left; focus (intro w' hSw; (try dsimp only at hSw); go_simp; (try with_reducible rfl))
        try simp only [sIB, sC0, sCS]
        refine tkH 11 8 ?_ rfl hHeld (.inl ⟨by rfl, ?_⟩) ?_; rotate_left; focus (intro w' hSw; (try dsimp only at hSw); go_simp; (try with_reducible rfl))
        try simp only [sIB, sC0, sCS]
        refine tkH 12 9 ?_ rfl hHeld (.inl ⟨by rfl, ?_⟩) ?_; rotate_left; focus (intro w' hSw; (try dsimp only at hSw); go_simp; (try with_reducible rfl))
        try simp only [sIB, sC0, sCS]
        refine wpAnyH_done (by kernel_rfl) ?_ _
        clear hHeld e0 e1
        have HST3 := Lib.hid (HST2.out _ HST.out.drew (HT.out.keep (F := fun _ => False) ⟨rfl, rfl, rfl, Nat.le_refl _, fun _ _ _ => rfl⟩ (fun x hx => hx.elim)))
        go_wp2_with fail
        go_roundg (gk - 1)
        case measure => have := HK.out; omega
        case rel => exact ⟨k + 1, b2, by have := HK.out; omega, by simp, rfl, HST3.out⟩
      | none =>
        have HNX := Lib.hid (nxtB_none (B := B1) hq)
        have HQ := Lib.hid hq
        have HEX : Hid (extN N s (k + 1) = extN N s k ++ [(s.take k ++ [c], -1)]) := Lib.hid (by rw [extN, HTK.out, hq]; rfl)
        have HLN : Hid ((extN N s k).length ≤ 200000) := Lib.hid (by have h1 := ext_len N s k; have h2 := HNL.out; have h3 := HSL.out; have h4 := HKS.out; omega)
        rw [HNX.out] at HLK
        clear hq
        obtain ⟨e0, e1⟩ := HLK.out _ (Below.refl _ _).drew
        go_upto_region 4 with fail
        refine wp_region_held_drew (S := fun V => V.cell? ⟨a, 0, none⟩ = some (.map (some m)) ∧ (Instr.lookup 208 (.map (some m)) (.int .u8 ((Z[k]'hlt).toNat : Int)) true).run Tryz.prog V = .ok (.tuple #[ptrV none, .bool (none : Option Nat).isSome]) V) (by kernel_rfl) (by exact HLK.out _ (Below.refl _ _).drew) (fun hHeld => ?_)
        refine tkH 0 20 ?_ rfl hHeld (.inl ⟨by rfl, ?_⟩) ?_; rotate_left; focus (intro w' hSw; (try dsimp only at hSw); go_simp; (try with_reducible rfl))
        try simp only [sIB, sC0, sCS]
        refine tkH 1 21 ?_ rfl hHeld (.inl ⟨by rfl, ?_⟩) ?_; rotate_left; focus (intro w' hSw; (try dsimp only at hSw); go_simp; (try with_reducible rfl))
        try simp only [sIB, sC0, sCS]
        refine tkH 2 22 ?_ rfl hHeld (.inl ⟨by rfl, ?_⟩) ?_; rotate_left; focus (intro w' hSw; (try dsimp only at hSw); go_simp; (try with_reducible rfl))
        try simp only [sIB, sC0, sCS]
        refine tkH 3 23 ?_ rfl hHeld (.inl ⟨by rfl, ?_⟩) ?_; rotate_left; focus (intro w' hSw; (try dsimp only at hSw); go_simp; (try with_reducible rfl))
        try simp only [sIB, sC0, sCS]
        refine tkH 4 24 ?_ rfl hHeld (.inl ⟨by rfl, ?_⟩) ?_; rotate_left; focus (intro w' hSw; (try dsimp only at hSw); go_simp; (try with_reducible rfl))
        try simp only [sIB, sC0, sCS]
        refine tkH 5 25 ?_ rfl hHeld (.inl ⟨by rfl, ?_⟩) ?_; rotate_left; focus (intro w' hSw; (try dsimp only at hSw); go_simp; (try with_reducible rfl))
        try simp only [sIB, sC0, sCS]
        refine tkH 6 26 ?_ rfl hHeld (.inl ⟨by rfl, ?_⟩) ?_; rotate_left; focus (intro w' hSw; (try dsimp only at hSw); go_simp; (try with_reducible rfl))
        try simp only [sIB, sC0, sCS]
        refine tkH 7 27 ?_ rfl hHeld (.inl ⟨by rfl, ?_⟩) ?_; rotate_left; focus (intro w' hSw; (try dsimp only at hSw); go_simp; (try with_reducible rfl))
        try simp only [sIB, sC0, sCS]
        refine tkH 8 19 ?_ rfl hHeld (.inl ⟨by rfl, ?_⟩) ?_; rotate_left; focus (intro w' hSw; (try dsimp only at hSw); go_simp; (try with_reducible rfl))
        try simp only [sIB, sC0, sCS]
        refine tkH 9 28 ?_ rfl hHeld (.inl ⟨by rfl, ?_⟩) ?_; rotate_left; focus (intro w' hSw; (try dsimp only at hSw); go_simp; (try with_reducible rfl))
        try simp only [sIB, sC0, sCS]
        refine tkH 10 29 ?_ rfl hHeld (.inl ⟨by rfl, ?_⟩) ?_; rotate_left; focus (intro w' hSw; (try dsimp only at hSw); go_simp; (try with_reducible rfl))
        try simp only [sIB, sC0, sCS]
        refine tkH 11 8 ?_ rfl hHeld (.inl ⟨by rfl, ?_⟩) ?_; rotate_left; focus (intro w' hSw; (try dsimp only at hSw); go_simp; (try with_reducible rfl))
        try simp only [sIB, sC0, sCS]
        refine tkH 12 9 ?_ rfl hHeld (.inl ⟨by rfl, ?_⟩) ?_; rotate_left; focus (intro w' hSw; (try dsimp only at hSw); go_simp; (try with_reducible rfl))
        try simp only [sIB, sC0, sCS]
        refine wpAnyH_done (by kernel_rfl) ?_ _
        clear hHeld e0 e1
        have HT5 : Hid (TrieIs W.drew base rb (extN N s k) B1) := Lib.hid (HT.out.keep (F := fun _ => False) ⟨rfl, rfl, rfl, Nat.le_refl _, fun _ _ _ => rfl⟩ (fun x hx => hx.elim))
        have HB5 := Lib.hid HST.out.blw.drew
        have HK5 : Hid (W.drew.heap[a]? = some (.cells #[.map (some m), .int .i64 x.2] 210)) := Lib.hid HBLK.out
        have HM5 : Hid (MapP Tryz.prog 5 kvB W.drew m (extN N s k).length (nxtB (extN N s k) B1 (s.take k))) := Lib.hid (HMP.out.keep (F := fun _ => False) ⟨rfl, rfl, rfl, Nat.le_refl _, fun _ _ _ => rfl⟩ (fun h => h))
        clear HLK HMP HBLK HT HST
        generalize W.drew = W5 at *
        obtain ⟨r1, m1, hr1, htop⟩ := HT5.out.top
        have HND := Lib.hid (tnode_any rb _ _ W5 htop (by have := HLN.out; omega))
        have HSTEP := Lib.hid (fun W6 hW6 => HT5.out.step (W6 := W6) (by have := HBS.out; have := HB5.out.size; omega) HJ.out HQ.out HBJ.out hW6)
        have HPUT : Hid (∀ V, MapP Tryz.prog 5 kvB V m (extN N s k).length (nxtB (extN N s k) B1 (s.take k)) → _) := Lib.hid (fun V hV => hV.put (t := 208) keyed_u8 Tryz.underlying208 kvB_inj (by have := HLN.out; unfold maxLen; omega) c (key_u8 c) (W5.heap.size + 1))
        have HZC : Hid (kvB c = .int .u8 ((Z[k]'hlt).toNat : Int)) := Lib.hid (by unfold kvB; rw [HZK.out])
        rw [HZC.out] at HPUT
        clear htop hr1
        go_upto_region 7 with (go_at_call 105; refine HND.out.mono ?_; rintro e W6 ⟨rfl, hW6⟩; (have HW6 := Lib.hid (HSTEP.out W6 hW6)); clear hW6)
        obtain ⟨f0, f1, f2⟩ := HW6.out
        obtain ⟨W7, hrun, hput, hgrw⟩ := HPUT.out _ f1
        have HFIN := Lib.hid (f2 W7 hput hgrw)
        have HRUN := Lib.hid hrun
        clear hput hgrw hrun f1 f2 HSTEP HPUT HND HW6
        generalize W5.heap.size + 1 = nb at *
        refine wp_region_D (Ds := [8]) (S := fun V => V = W6.drew ∧ V.cell? ⟨a, 0, none⟩ = some (.map (some m))) (by kernel_rfl) (by exact ⟨rfl, f0⟩) (fun hHeld => ?_)
        clear f0
        refine tkP 0 34 ?_ rfl (.inl ⟨by rfl, ?_⟩) ?_; rotate_left; focus (intro w' _; go_simp; (try with_reducible rfl))
        try simp only [sIB, sC0, sCS]
        refine tkP 1 35 ?_ rfl (.inl ⟨by rfl, ?_⟩) ?_; rotate_left; focus (intro w' _; go_simp; (try with_reducible rfl))
        try simp only [sIB, sC0, sCS]
        refine tkP 2 36 ?_ rfl (.inl ⟨by rfl, ?_⟩) ?_; rotate_left; focus (intro w' _; go_simp; (try with_reducible rfl))
        try simp only [sIB, sC0, sCS]
        refine tkP 4 38 ?_ rfl (.inl ⟨by rfl, ?_⟩) ?_; rotate_left; focus (intro w' _; go_simp; (try with_reducible rfl))
        try simp only [sIB, sC0, sCS]
        refine tkP 5 39 ?_ rfl (.inl ⟨by rfl, ?_⟩) ?_; rotate_left; focus (intro w' _; go_simp; (try with_reducible rfl))
        try simp only [sIB, sC0, sCS]
        refine tkP 7 41 ?_ rfl (.inl ⟨by rfl, ?_⟩) ?_; rotate_left; focus (intro w' _; go_simp; (try with_reducible rfl))
        try simp only [sIB, sC0, sCS]
        refine tkD 3 37 ?_ rfl hHeld (.inl ⟨by rfl, ?_⟩) ?_; rotate_left; focus (intro w' hSw; (try dsimp only at hSw); go_simp; (try with_reducible rfl))
        try simp only [sIB, sC0, sCS]
        refine tkD 6 40 ?_ rfl hHeld (.inl ⟨by rfl, ?_⟩) ?_; rotate_left; focus (intro w' hSw; (try dsimp only at hSw); go_simp; (try with_reducible rfl))
        try simp only [sIB, sC0, sCS]
        refine wpAnyD_last (D := 8) (by decide) (by kernel_rfl) rfl (by rfl) (fun K hK => ?_)
        refine wp_put_run (w' := W7) _ _ _ _ rfl ?_ ?_; (first | (exact HRUN.out) | skip)
        refine hK.out _ _ ?_
        clear hK K
        try simp only [Act.put, sIB, sC0, sCS]
        refine wpAnyD_done (by kernel_rfl) ?_ _
        clear hHeld HRUN
        have HST7 : Hid (TAddIs w W7 base rb N s (k + 1) nb) := Lib.hid (by
          obtain ⟨q1, q2⟩ := HFIN.out
          refine ⟨⟨_, (extN N s k).length, W5.heap.size, by rw [HEX.out]; exact q1, ?_, ?_⟩, HB5.out.trans q2⟩
          · rw [HEX.out, HTK.out, idxN_snoc, HQ.out]
            simp
          · rw [← HT5.out.len]
            simp)
        go_wp2_with fail
        go_roundg (gk - 1)
        case measure => have := HK.out; omega
        case rel => exact ⟨k + 1, nb, by have := HK.out; omega, by simp, rfl, HST7.out⟩
    · have hke : k = s.length := by have := HK.out; have := HDZ.out; omega
      have p1 : ¬ (k : Int) < (Z.size : Int) := by have := HK.out; omega
      have HKE := Lib.hid hke
      have c1 := blk_cell HBLK.out 1
      have z1 := blk_froz HBLK.out 1
      simp only [List.getElem?_toArray, List.getElem?_cons_zero, List.getElem?_cons_succ] at c1
      clear hke
      go_wp2_with fail
      go_end0
      have hk := HKE.out
      subst hk
      have h5 := HJ.out
      have h6 := HT.out
      rw [List.take_length] at h5
      exact ⟨rfl, ⟨_, h6.put h5 HBJ.out id⟩, HST.out.blw.setCell (h6.lo.2 _ _ _ HBJ.out).1 _⟩
end
theorem app_at {P : Program} {w : World} {ops : Array Oper} {rest : List Oper} {o : Oper} {a : Act} {Q : Exit → Act → World → Prop} (base : Nat) (t e : TypeId) (z : Value) (size bytes : Nat) (news : List Value) (c g : Nat) (s x : Operand)
    (hgd : o.guard = none) (ho : o.op = .call { callee := .builtin .append, args := #[s, x], argTypes := #[t, t] })
    (ht : P.underlying t = some (.slice e)) (hinfo : (P.info? e).map (fun i => (i.zero, i.size, i.bytes)) = some (some z, size, bytes)) (hzs : z.cells.size = size) (hsz : 0 < size)
    (v : Value) (n : Nat) (xs : List Value) (hs : a.eval s = v) (hx : a.eval x = .slice (some ⟨g, 0, none⟩) 1 c) (hl : news.length = size) (h1 : ∀ u ∈ news, u.oneCell' = true)
    (hblk : w.heap[g]? = some (.cells news.toArray e))
    (hown : w.ownsRow base e size v n xs) (hbytes : (n + 1) * bytes ≤ 140737488355328) (h63 : n < 9000000000000000000) (hbase : base ≤ w.heap.size)
    (h : ∀ v' w', w'.ownsRow base e size v' (n + 1) (xs ++ news) → w.grownBy w' v.ownBlock → (v'.ownBlock = v.ownBlock ∨ ∃ g, v'.ownBlock = some g ∧ w.heap.size ≤ g) → wpList P ops Q rest (a.put o.dst v') w') : wpList P ops Q (o :: rest) a w := by
  refine wpList_plain hgd fun K hK => ?_
  exact wp_app_at base t e z size bytes news c g s x ho ht hinfo hzs hsz v n xs hs hx hl h1 hblk hown hbytes h63 hbase (fun v' w' r1 r2 r3 => hK _ _ (h v' w' r1 r2 r3))
theorem app_new {P : Program} {w : World} {ops : Array Oper} {rest : List Oper} {o : Oper} {a : Act} {Q : Exit → Act → World → Prop} (base : Nat) (t e : TypeId) (z : Value) (size bytes : Nat) (news : List Value) (c : Nat) (s x : Operand)
    (hgd : o.guard = none) (ho : o.op = .call { callee := .builtin .append, args := #[s, x], argTypes := #[t, t] })
    (ht : P.underlying t = some (.slice e)) (hinfo : (P.info? e).map (fun i => (i.zero, i.size, i.bytes)) = some (some z, size, bytes)) (hzs : z.cells.size = size) (hsz : 0 < size)
    (v : Value) (n : Nat) (xs : List Value) (hs : a.eval s = v) (hx : a.eval x = .slice (some ⟨w.heap.size, 0, none⟩) 1 c) (hl : news.length = size) (h1 : ∀ u ∈ news, u.oneCell' = true)
    (hown : w.ownsRow base e size v n xs) (hbytes : (n + 1) * bytes ≤ 140737488355328) (h63 : n < 9000000000000000000) (hbase : base ≤ w.heap.size)
    (h : ∀ v' w', w'.ownsRow base e size v' (n + 1) (xs ++ news) → w.grownBy w' v.ownBlock → (v'.ownBlock = v.ownBlock ∨ ∃ g, v'.ownBlock = some g ∧ w.heap.size ≤ g) → wpList P ops Q rest (a.put o.dst v') w') : wpList P ops Q (o :: rest) a (w.alloc (.cells news.toArray e)) := by
  refine wpList_plain hgd fun K hK => ?_
  exact wp_app_one base t e z size bytes news c s x ho ht hinfo hzs hsz v n xs hs _ rfl hx hl h1 hown hbytes h63 hbase (fun v' w' r1 r2 r3 => hK _ _ (h v' w' r1 r2 r3))
theorem wp_app_list {P : Program} {w : World} {o : Oper} {a : Act} {K : Act → World → Prop} {Q : Exit → Act → World → Prop} (base : Nat) (t e : TypeId) (z : Value) (size bytes : Nat) (news : List Value) (c m : Nat) (ad : Addr) (s x : Operand)
    (ho : o.op = .call { callee := .builtin .append, args := #[s, x], argTypes := #[t, t] })
    (ht : P.underlying t = some (.slice e)) (hinfo : (P.info? e).map (fun i => (i.zero, i.size, i.bytes)) = some (some z, size, bytes)) (hzs : z.cells.size = size) (hsz : 0 < size)
    (v : Value) (n : Nat) (xs : List Value) (hs : a.eval s = v) (hx : a.eval x = .slice (some ad) m c) (hl : news.length = m * size) (hnews : ∀ j u, news[j]? = some u → w.cell? (ad.add j) = some u) (h1 : ∀ u ∈ news, u.oneCell' = true)
    (hown : w.ownsRow base e size v n xs) (hbytes : (n + m) * bytes ≤ 140737488355328) (h63 : n + m ≤ 9000000000000000000) (hbase : base ≤ w.heap.size)
    (h : ∀ v' w', w'.ownsRow base e size v' (n + m) (xs ++ news) → w.grownBy w' v.ownBlock → (v'.ownBlock = v.ownBlock ∨ ∃ g, v'.ownBlock = some g ∧ w.heap.size ≤ g) → K (a.put o.dst v') w') : Oper.wp P o a w K Q := by
  obtain ⟨i, hi, hz0, hz1, hz2⟩ := info_parts hinfo
  obtain ⟨v', w', hr, h2, h3, _, h5⟩ := run_append_own_at (P := P) w base t o.type e i z size bytes ht hi hz0 hz1 hz2 hzs hsz v n xs hown ad m c news hl hnews h1 (by unfold maxLen; omega) hbytes hbase
  unfold Oper.wp execOp
  simp only [ho, resolve, invoke, builtin, Sem.run_bind, Sem.run_pure, Result.andThen_ok, List.map_toArray, List.map_cons, List.map_nil, hs, hx, hr]
  refine h v' w' h2 h3 ?_
  rcases h5 with h5 | h5
  · exact .inl h5
  · exact .inr ⟨_, h5, Nat.le_refl _⟩
theorem results_cell1 {fn : Func} {p : Tmp} {ty : TypeId} (h : fn.results = #[.cell p ty]) (tmps : Array Value) (P : Program) (w : World) :
    (results fn tmps).run P w = ((asAddr (tmps.getD p undef)).run P w).andThen fun a w₁ => (loadVar ty a).run P w₁ := by
  simp only [results, h]
  simp [Sem.run_bind, Result.andThen]
theorem ret_cell1 {P : Program} {fn : Func} {R : Ending → World → Prop} {tmps : Array Value} {w : World} {r : Nat} {p : Tmp} {ty : TypeId} {v : Value}
    (h : fn.results = #[.cell p ty]) (hp : tmps.getD p undef = .pointer (some ⟨r, 0, none⟩))
    (hl : (loadVar ty ⟨r, 0, none⟩).run P w = .ok v w) (hR : R (.returned v) w) : bodyPost P fn R .ret ⟨tmps, []⟩ w := by
  refine bodyPost_ret (v := v) ?_ rfl hR
  rw [results_cell1 h, hp]
  simp [asAddr, hl, Result.andThen]
theorem app_copy {P : Program} {w : World} {ops : Array Oper} {rest : List Oper} {o : Oper} {a : Act} {Q : Exit → Act → World → Prop} (base base0 : Nat) (t e : TypeId) (z : Value) (size bytes : Nat) (s x : Operand)
    (hgd : o.guard = none) (ho : o.op = .call { callee := .builtin .append, args := #[s, x], argTypes := #[t, t] })
    (ht : P.underlying t = some (.slice e)) (hinfo : (P.info? e).map (fun i => (i.zero, i.size, i.bytes)) = some (some z, size, bytes)) (hzs : z.cells.size = size) (hsz : 0 < size)
    (v : Value) (n : Nat) (xs : List Value) (hs : a.eval s = .slice none 0 0) (hx : a.eval x = v) (h1 : ∀ u ∈ xs, u.oneCell' = true) (h0 : n = 0 → v = .slice none 0 0)
    (hown : w.ownsRow base0 e size v n xs) (hbytes : n * bytes ≤ 140737488355328) (h63 : n < 9000000000000000000) (hbase : base ≤ w.heap.size)
    (h : ∀ v' w', w'.ownsRow base e size v' n xs → Below w.heap.size w w' → (n = 0 → v' = .slice none 0 0) → wpList P ops Q rest (a.put o.dst v') w') : wpList P ops Q (o :: rest) a w := by
  obtain ⟨i, hi, hz0, hz1, hz2⟩ := info_parts hinfo
  by_cases hn : n = 0
  · subst hn
    have hv := h0 rfl
    subst hv
    have hx0 : xs = [] := by
      have := hown.1
      exact List.eq_nil_of_length_eq_zero (by simpa using this)
    subst hx0
    exact wpList_append_own_none hgd s x t ho base e i size ht hi (.slice none 0 0) 0 [] hs (own_nil _ _ _ _) hx (h _ _ (own_nil _ _ _ _) (Below.refl _ _) (fun _ => rfl))
  · obtain ⟨g, cap, rfl, hg, hlt, hc⟩ := own_open hown (by omega)
    refine wpList_append_own_at w hgd s x t ho base e i z size bytes ht hi hz0 hz1 hz2 hzs hsz (.slice none 0 0) 0 [] hs (own_nil _ _ _ _) ⟨g, 0, none⟩ n cap xs hx hown.1 ?_ h1 (by unfold maxLen; omega) (by rw [Nat.zero_add]; exact hbytes) hbase ?_
    · intro j u hu
      rw [add_plain, Nat.zero_add]
      exact (hc j u hu).1
    · intro v' w' r1 r2 _ _
      rw [Nat.zero_add, List.nil_append] at r1
      exact h v' w' r1 ⟨r2.os, r2.tape, r2.output, r2.size, fun k hk => r2.block k hk (by simp [Value.ownBlock])⟩ (fun e => absurd e hn)
theorem results_cell_tmp1 {fn : Func} {p u : Tmp} {ty : TypeId} (h : fn.results = #[.cell p ty, .tmp u]) (tmps : Array Value) (P : Program) (w : World) :
    (results fn tmps).run P w = ((asAddr (tmps.getD p undef)).run P w).andThen fun a w₁ => ((loadVar ty a).run P w₁).andThen fun x w₂ => .ok (.tuple #[x, tmps.getD u undef]) w₂ := by
  simp only [results, h]
  simp [Sem.run_bind, Result.andThen]
theorem ret_cell_tmp1 {P : Program} {fn : Func} {R : Ending → World → Prop} {tmps : Array Value} {w : World} {r : Nat} {p u : Tmp} {ty : TypeId} {v x : Value}
    (h : fn.results = #[.cell p ty, .tmp u]) (hp : tmps.getD p undef = .pointer (some ⟨r, 0, none⟩)) (hu : tmps.getD u undef = x)
    (hl : (loadVar ty ⟨r, 0, none⟩).run P w = .ok v w) (hR : R (.returned (.tuple #[v, x])) w) : bodyPost P fn R .ret ⟨tmps, []⟩ w := by
  refine bodyPost_ret (v := .tuple #[v, x]) ?_ rfl hR
  rw [results_cell_tmp1 h, hp, hu]
  simp [asAddr, hl, Result.andThen]
structure Th (X : Type) where
  r : Int
  p : Int
  t : Int
  x : X
def leT {X : Type} (a b : Th X) : Prop := a.r < b.r ∨ (a.r = b.r ∧ (a.p < b.p ∨ (a.p = b.p ∧ a.t ≤ b.t)))
def ltB {X : Type} (a b : Th X) : Bool := if a.r ≠ b.r then decide (a.r < b.r) else if a.p ≠ b.p then decide (a.p < b.p) else decide (a.t < b.t)
theorem ltB_le {X : Type} {a b : Th X} (h : ltB a b = true) : leT a b := by
  unfold ltB at h; unfold leT
  split at h
  · simp at h; omega
  · split at h <;> simp at h <;> omega
theorem ltB_not {X : Type} {a b : Th X} (h : ltB a b = false) : leT b a := by
  unfold ltB at h; unfold leT
  split at h
  · simp at h; omega
  · split at h <;> simp at h <;> omega
theorem leT_refl {X : Type} (a : Th X) : leT a a := by unfold leT; omega
theorem leT_trans {X : Type} {a b c : Th X} (h : leT a b) (k : leT b c) : leT a c := by unfold leT at *; omega
def swapT {α : Type} (l : List α) (i k : Nat) : List α := if h : i < l.length ∧ k < l.length then (l.set i l[k]).set k l[i] else l
theorem swap_len {α : Type} (l : List α) (i k : Nat) : (swapT l i k).length = l.length := by unfold swapT; split <;> simp
theorem swap_perm {α : Type} (l : List α) (i k : Nat) : (swapT l i k).Perm l := by
  unfold swapT
  split
  · rename_i h; exact List.set_set_perm h.1 h.2
  · exact List.Perm.refl _
theorem swap_at {α : Type} (l : List α) (i k j : Nat) (hi : i < l.length) (hk : k < l.length) (hj : j < (swapT l i k).length) : (swapT l i k)[j] = if j = k then l[i] else if j = i then l[k] else l[j]'(by rw [swap_len] at hj; exact hj) := by
  have e : swapT l i k = (l.set i l[k]).set k l[i] := by unfold swapT; rw [dif_pos ⟨hi, hk⟩]
  simp only [e, List.getElem_set]
  by_cases h1 : j = k
  · subst h1; simp
  · rw [if_neg (fun h => h1 h.symm), if_neg h1]
    by_cases h2 : j = i
    · subst h2; simp
    · rw [if_neg (fun h => h2 h.symm), if_neg h2]
section
variable {X : Type}
def upT (l : List (Th X)) (i : Nat) : List (Th X) :=
  if h : 0 < i ∧ i < l.length then (if ltB l[i] (l[(i - 1) / 2]'(by omega)) then upT (swapT l i ((i - 1) / 2)) ((i - 1) / 2) else l) else l
termination_by i
decreasing_by omega
def lstT (l : List (Th X)) (i m : Nat) (k : Nat) : Nat := if h : k < l.length ∧ m < l.length then (if ltB l[k] l[m] then k else m) else m
def leastT (l : List (Th X)) (i : Nat) : Nat := lstT l i (lstT l i i (2 * i + 1)) (2 * i + 2)
theorem lst_or (l : List (Th X)) (i m k : Nat) : lstT l i m k = m ∨ (lstT l i m k = k ∧ k < l.length) := by
  unfold lstT
  split
  · rename_i h; split
    · exact .inr ⟨rfl, h.1⟩
    · exact .inl rfl
  · exact .inl rfl
theorem least_or (l : List (Th X)) (i : Nat) : leastT l i = i ∨ (leastT l i < l.length ∧ (leastT l i = 2 * i + 1 ∨ leastT l i = 2 * i + 2)) := by
  unfold leastT
  rcases lst_or l i (lstT l i i (2 * i + 1)) (2 * i + 2) with h | ⟨h, h2⟩
  · rw [h]
    rcases lst_or l i i (2 * i + 1) with h | ⟨h, h2⟩
    · exact .inl h
    · rw [h]; exact .inr ⟨h2, .inl rfl⟩
  · rw [h]; exact .inr ⟨h2, .inr rfl⟩
def downT (l : List (Th X)) (i : Nat) : List (Th X) :=
  if h : leastT l i = i then l else downT (swapT l i (leastT l i)) (leastT l i)
termination_by l.length - i
decreasing_by
  rw [swap_len]
  rcases least_or l i with h1 | ⟨h1, h2⟩
  · exact absurd h1 h
  · omega
theorem up_len (l : List (Th X)) (i : Nat) : (upT l i).length = l.length := by
  fun_induction upT l i with
  | case1 l i h h1 ih => rw [ih, swap_len]
  | case2 => rfl
  | case3 => rfl
theorem up_perm (l : List (Th X)) (i : Nat) : (upT l i).Perm l := by
  fun_induction upT l i with
  | case1 l i h h1 ih => exact ih.trans (swap_perm _ _ _)
  | case2 => exact List.Perm.refl _
  | case3 => exact List.Perm.refl _
theorem down_len (l : List (Th X)) (i : Nat) : (downT l i).length = l.length := by
  fun_induction downT l i with
  | case1 => rfl
  | case2 l i h ih => rw [ih, swap_len]
theorem down_perm (l : List (Th X)) (i : Nat) : (downT l i).Perm l := by
  fun_induction downT l i with
  | case1 => exact List.Perm.refl _
  | case2 l i h ih => exact ih.trans (swap_perm _ _ _)
def HeapT (l : List (Th X)) : Prop := ∀ j (h : j < l.length), 0 < j → leT (l[(j - 1) / 2]'(by omega)) l[j]
def UpT (l : List (Th X)) (i : Nat) : Prop := (∀ j (h : j < l.length), 0 < j → j ≠ i → leT (l[(j - 1) / 2]'(by omega)) l[j]) ∧
  (∀ j (h : j < l.length) (_ : 0 < j) (_ : 0 < i) (_ : (j - 1) / 2 = i), leT (l[(i - 1) / 2]'(by omega)) l[j])
theorem up_heap (l : List (Th X)) (i : Nat) (hi : i < l.length) (h : UpT l i) : HeapT (upT l i) := by
  fun_induction upT l i with
  | case1 l i h0 h1 ih =>
    refine ih (by rw [swap_len]; omega) ⟨?_, ?_⟩
    · intro j hj hj0 hjp
      rw [swap_len] at hj
      have ho : (i - 1) / 2 < l.length := by omega
      rw [swap_at l i _ _ hi ho, swap_at l i _ _ hi ho]
      have hle := ltB_le h1
      rw [if_neg hjp]
      by_cases hji : j = i
      · subst hji
        rw [if_pos rfl, if_pos rfl]
        exact hle
      · rw [if_neg hji]
        by_cases hp : (j - 1) / 2 = (i - 1) / 2
        · rw [if_pos hp]
          have := h.1 j hj hj0 hji
          simp only [hp] at this
          exact leT_trans hle this
        · rw [if_neg hp]
          by_cases hp2 : (j - 1) / 2 = i
          · rw [if_pos hp2]
            exact h.2 j hj hj0 h0.1 hp2
          · rw [if_neg hp2]
            exact h.1 j hj hj0 hji
    · intro j hj hj0 hp0 hjp
      rw [swap_len] at hj
      have ho : (i - 1) / 2 < l.length := by omega
      have hne : ((i - 1) / 2 - 1) / 2 ≠ (i - 1) / 2 := by omega
      have hne2 : ((i - 1) / 2 - 1) / 2 ≠ i := by omega
      have hj1 : j ≠ (i - 1) / 2 := by omega
      rw [swap_at l i _ _ hi ho, swap_at l i _ _ hi ho, if_neg hne, if_neg hne2, if_neg hj1]
      have h3 := h.1 ((i - 1) / 2) ho hp0 (by omega)
      by_cases hji : j = i
      · subst hji
        rw [if_pos rfl]
        exact h3
      · rw [if_neg hji]
        have h4 := h.1 j hj hj0 hji
        simp only [hjp] at h4
        exact leT_trans h3 h4
  | case2 l i h0 h1 =>
    intro j hj hj0
    by_cases hji : j = i
    · subst hji
      exact ltB_not (by simpa using h1)
    · exact h.1 j hj hj0 hji
  | case3 l i h0 =>
    intro j hj hj0
    exact h.1 j hj hj0 (by omega)
def DownT (l : List (Th X)) (i : Nat) : Prop := (∀ j (h : j < l.length), 0 < j → (j - 1) / 2 ≠ i → leT (l[(j - 1) / 2]'(by omega)) l[j]) ∧
  (∀ j (h : j < l.length) (_ : 0 < j) (_ : 0 < i) (_ : (j - 1) / 2 = i), leT (l[(i - 1) / 2]'(by omega)) l[j])
theorem lst_le (l : List (Th X)) (i m k : Nat) (hm : m < l.length) : (∀ h : lstT l i m k < l.length, leT l[lstT l i m k] l[m]) ∧ (∀ h : lstT l i m k < l.length, ∀ hk : k < l.length, leT l[lstT l i m k] l[k]) := by
  by_cases hk : k < l.length
  · by_cases hb : ltB l[k] l[m] = true
    · have e : lstT l i m k = k := by unfold lstT; rw [dif_pos ⟨hk, hm⟩, if_pos hb]
      simp only [e]
      exact ⟨fun _ => ltB_le hb, fun _ _ => leT_refl _⟩
    · have e : lstT l i m k = m := by unfold lstT; rw [dif_pos ⟨hk, hm⟩, if_neg hb]
      simp only [e]
      exact ⟨fun _ => leT_refl _, fun _ _ => ltB_not (by simpa using hb)⟩
  · have e : lstT l i m k = m := by unfold lstT; rw [dif_neg (fun h => hk h.1)]
    simp only [e]
    exact ⟨fun _ => leT_refl _, fun _ h => absurd h hk⟩
theorem least_lt (l : List (Th X)) (i : Nat) (hi : i < l.length) : leastT l i < l.length := by
  rcases least_or l i with h | h
  · rw [h]; exact hi
  · exact h.1
theorem least_le (l : List (Th X)) (i : Nat) (hi : i < l.length) : leT (l[leastT l i]'(least_lt l i hi)) l[i] ∧ ∀ k, (hk : k < l.length) → (k = 2 * i + 1 ∨ k = 2 * i + 2) → leT (l[leastT l i]'(least_lt l i hi)) l[k] := by
  have h1 : lstT l i i (2 * i + 1) < l.length := by
    rcases lst_or l i i (2 * i + 1) with h | ⟨h, h2⟩
    · rw [h]; exact hi
    · rw [h]; exact h2
  obtain ⟨a1, a2⟩ := lst_le l i i (2 * i + 1) hi
  obtain ⟨b1, b2⟩ := lst_le l i (lstT l i i (2 * i + 1)) (2 * i + 2) h1
  have hl := least_lt l i hi
  unfold leastT at hl ⊢
  refine ⟨leT_trans (b1 hl) (a1 h1), ?_⟩
  intro k hk hor
  rcases hor with rfl | rfl
  · exact leT_trans (b1 hl) (a2 h1 hk)
  · exact b2 hl hk
theorem down_heap (l : List (Th X)) (i : Nat) (hi : i < l.length) (h : DownT l i) : HeapT (downT l i) := by
  fun_induction downT l i with
  | case1 l i h0 =>
    intro j hj hj0
    by_cases hji : (j - 1) / 2 = i
    · obtain ⟨_, h2⟩ := least_le l i hi
      have := h2 j hj (by omega)
      simp only [h0] at this
      simp only [hji]
      exact this
    · exact h.1 j hj hj0 hji
  | case2 l i h0 ih =>
    obtain ⟨le1, le2⟩ := least_le l i hi
    have hl := least_lt l i hi
    rcases least_or l i with hh | ⟨_, hor⟩
    · exact absurd hh h0
    obtain ⟨m, hm⟩ : ∃ m, leastT l i = m := ⟨_, rfl⟩
    simp only [hm] at le1 le2 hl hor ih h0 ⊢
    refine ih (by rw [swap_len]; exact hl) ⟨?_, ?_⟩
    · intro j hj hj0 hjm
      rw [swap_len] at hj
      rw [swap_at l i m _ hi hl, swap_at l i m _ hi hl, if_neg hjm]
      by_cases hjm2 : j = m
      · subst hjm2
        have : (j - 1) / 2 = i := by omega
        simp only [this, if_true]
        exact le1
      · rw [if_neg hjm2]
        by_cases hp : (j - 1) / 2 = i
        · rw [if_pos hp]
          have hji : j ≠ i := by omega
          rw [if_neg hji]
          exact le2 j hj (by omega)
        · rw [if_neg hp]
          by_cases hji : j = i
          · subst hji
            rw [if_pos rfl]
            exact h.2 m hl (by omega) hj0 (by omega)
          · rw [if_neg hji]
            exact h.1 j hj hj0 hp
    · intro j hj hj0 hm0 hjm
      rw [swap_len] at hj
      have hmi : (m - 1) / 2 = i := by omega
      have hj1 : j ≠ m := by omega
      have hj2 : j ≠ i := by omega
      rw [swap_at l i m _ hi hl, swap_at l i m _ hi hl, if_neg hj1, if_neg hj2]
      have e1 : (m - 1) / 2 ≠ m := by omega
      rw [if_neg e1, if_pos hmi]
      have := h.1 j hj hj0 (by omega)
      simp only [hjm] at this
      exact this
def pushT (l : List (Th X)) (a : Th X) : List (Th X) := upT (l ++ [a]) l.length
theorem push_perm (l : List (Th X)) (a : Th X) : (pushT l a).Perm (a :: l) := (up_perm _ _).trans (List.perm_append_comm)
theorem push_len (l : List (Th X)) (a : Th X) : (pushT l a).length = l.length + 1 := by unfold pushT; rw [up_len]; simp
theorem push_heap (l : List (Th X)) (a : Th X) (h : HeapT l) : HeapT (pushT l a) := by
  refine up_heap _ _ (by simp) ⟨?_, ?_⟩
  · intro j hj hj0 hne
    simp only [List.length_append, List.length_singleton] at hj
    rw [List.getElem_append_left (by omega), List.getElem_append_left (by omega)]
    exact h j (by omega) hj0
  · intro j hj hj0 _ hp
    simp only [List.length_append, List.length_singleton] at hj
    omega
def popT (l : List (Th X)) : List (Th X) := downT ((swapT l 0 (l.length - 1)).take (l.length - 1)) 0
theorem pop_len (l : List (Th X)) : (popT l).length = l.length - 1 := by unfold popT; rw [down_len, List.length_take, swap_len]; omega
theorem pop_perm (l : List (Th X)) (h : 0 < l.length) : l.Perm (l[0] :: popT l) := by
  have h1 := (swap_perm l 0 (l.length - 1)).symm
  refine h1.trans ?_
  have hlen : l.length - 1 < (swapT l 0 (l.length - 1)).length := by rw [swap_len]; omega
  have e : swapT l 0 (l.length - 1) = (swapT l 0 (l.length - 1)).take (l.length - 1) ++ [l[0]] := by
    conv => lhs; rw [← List.take_append_drop (l.length - 1) (swapT l 0 (l.length - 1))]
    congr 1
    rw [List.drop_eq_getElem_cons hlen, swap_at l 0 _ _ h (by omega), if_pos rfl, List.drop_eq_nil_of_le (by rw [swap_len]; omega)]
  rw [e]
  refine (List.perm_append_comm).trans ?_
  exact List.Perm.cons _ (down_perm _ _).symm
theorem pop_heap (l : List (Th X)) (h : HeapT l) : HeapT (popT l) := by
  by_cases h1 : l.length ≤ 1
  · intro j hj hj0
    rw [pop_len] at hj
    omega
  · have hlen : ((swapT l 0 (l.length - 1)).take (l.length - 1)).length = l.length - 1 := by rw [List.length_take, swap_len]; omega
    refine down_heap _ _ (by rw [hlen]; omega) ⟨?_, ?_⟩
    · intro j hj hj0 hp
      rw [hlen] at hj
      rw [List.getElem_take, List.getElem_take, swap_at l 0 _ _ (by omega) (by omega), swap_at l 0 _ _ (by omega) (by omega)]
      rw [if_neg (by omega), if_neg (by omega), if_neg (by omega), if_neg (by omega)]
      exact h j (by omega) hj0
    · intro j hj hj0 h0
      exact absurd h0 (Nat.lt_irrefl 0)
end
theorem info_ent : (Tryz.prog.info? 213).map (fun i => (i.zero, i.size, i.bytes)) = some (some (.agg #[.string ⟨#[]⟩, .int .i64 0, .int .i64 0]), 3, 32) := by kernel_rfl
theorem wf_i64 {c : Int} (h1 : -9223372036854775808 ≤ c) (h2 : c ≤ 9223372036854775807) : (Lit.int .i64 c).wf = true := by
  have e1 : IntKind.i64.min = -9223372036854775808 := by decide
  have e2 : IntKind.i64.max = 9223372036854775807 := by decide
  simp only [Lit.wf, e1, e2, Bool.and_eq_true, decide_eq_true_eq]
  exact ⟨h1, h2⟩
theorem base_take (k : Nat) (h : k < 256) : baseT.take (k + 1) = baseT.take k ++ [([UInt8.ofNat k], -1, -1)] := by
  rw [take_snoc (by rw [base_len]; exact h), base_at k h]
theorem base_take_len (k : Nat) (h : k ≤ 256) : (baseT.take k).length = k := by rw [List.length_take, base_len]; omega
theorem base_take_find (k : Nat) (h : k < 256) : findT (baseT.take k) [UInt8.ofNat k] = none := by
  unfold findT
  rw [List.findIdx?_eq_none_iff]
  intro e he
  obtain ⟨i, hi, rfl⟩ := List.getElem_of_mem he
  rw [base_take_len k (by omega)] at hi
  rw [List.getElem_take, base_at i (by omega)]
  simp only [beq_eq_false_iff_ne, ne_eq, List.cons.injEq, and_true]
  intro e
  have h1 : (UInt8.ofNat i).toNat = (UInt8.ofNat k).toNat := by rw [e]
  simp only [UInt8.toNat_ofNat'] at h1
  omega
theorem base_pair (m : Int × Int) : pairT baseT m = none := by
  unfold pairT
  rw [List.findIdx?_eq_none_iff]
  intro e he
  obtain ⟨i, _, rfl⟩ := List.mem_map.1 he
  by_cases h : m = (-1, -1)
  · subst h; simp
  · have : (((-1 : Int), (-1 : Int)) == m) = false := by rw [beq_eq_false_iff_ne]; exact fun e => h e.symm
    simp [this]
theorem base_long : longT baseT = 1 := by
  have : ∀ l : List Nat, ((l.map fun i => (([UInt8.ofNat i], -1, -1) : Ent)).foldl (fun n e => max n e.1.length) 1) = 1 := by
    intro l
    induction l with
    | nil => rfl
    | cons a l ih => simpa using ih
  exact this _
theorem MapOf.mono {α : Type} {P : Program} {K E : TypeId} {kv : α → Value} {w : World} {b n m : Nat} {f : α → Option Int} (h : MapOf P K E kv w b n f) (hn : n ≤ m) : MapOf P K E kv w b m f := by
  obtain ⟨D, ⟨es, clock, hb, F, hs, hD⟩, h2⟩ := h
  exact ⟨D, ⟨es, clock, hb, F, Nat.le_trans hs hn, hD⟩, h2⟩
theorem MapOf.congr {α : Type} {P : Program} {K E : TypeId} {kv : α → Value} {w : World} {b n : Nat} {f g : α → Option Int} (h : MapOf P K E kv w b n f) (hg : ∀ a, f a = g a) : MapOf P K E kv w b n g := by
  have : f = g := funext hg
  rwa [← this]
theorem row_ne {w : World} {base e : TypeId} {size n : Nat} {v : Value} {xs : List Value} {tb : Nat} {cs : Array Value} {t : TypeId} {fz : Nat × Nat} (h : w.ownsRow base e size v n xs) (hb : w.heap[tb]? = some (.cells cs t fz)) (hne : t ≠ e) : v.ownBlock ≠ some tb := by
  rcases h.2 with ⟨rfl, _⟩ | ⟨g, cap, cur, rfl, _, hg, _⟩
  · simp [Value.ownBlock]
  · simp only [Value.ownBlock, ne_eq, Option.some.injEq]
    rintro rfl
    rw [hb] at hg
    simp only [Option.some.injEq, Obj.cells.injEq] at hg
    exact hne hg.2.1
theorem row_ne_map {w : World} {base e : TypeId} {size n : Nat} {v : Value} {xs : List Value} {mb : Nat} {es : Array MapEntry} {c : Nat} (h : w.ownsRow base e size v n xs) (hb : w.heap[mb]? = some (.map es c)) : v.ownBlock ≠ some mb := by
  rcases h.2 with ⟨rfl, _⟩ | ⟨g, cap, cur, rfl, _, hg, _⟩
  · simp [Value.ownBlock]
  · simp only [Value.ownBlock, ne_eq, Option.some.injEq]
    rintro rfl
    rw [hb] at hg
    cases hg
theorem MapOf.row_ne {α : Type} {P : Program} {K E : TypeId} {kv : α → Value} {w : World} {b m : Nat} {f : α → Option Int} {base e : TypeId} {size n : Nat} {v : Value} {xs : List Value} (h : MapOf P K E kv w b m f) (hr : w.ownsRow base e size v n xs) : v.ownBlock ≠ some b := by
  obtain ⟨es, c, hb⟩ := h.isMap
  exact row_ne_map hr hb
theorem MapOf.blk_ne {α : Type} {P : Program} {K E : TypeId} {kv : α → Value} {w : World} {b m : Nat} {f : α → Option Int} {tb : Nat} {cs : Array Value} {t : TypeId} {fz : Nat × Nat} (h : MapOf P K E kv w b m f) (hb : w.heap[tb]? = some (.cells cs t fz)) : b ≠ tb := by
  obtain ⟨es, c, hm⟩ := h.isMap
  rintro rfl
  rw [hb] at hm
  cases hm
structure BegIs (w0 w : World) (tb mb mp k : Nat) : Prop where
  ex : ∃ sv, w.heap[tb]? = some (.cells #[sv, .map (some mb), .map (some mp), .int .i64 1] 207) ∧ w.ownsRow w0.heap.size 213 3 sv k ((baseT.take k).flatMap encE)
  bys : MapOf Tryz.prog 9 3 strV w mb k (fun s => (findT (baseT.take k) s).map Int.ofNat)
  prs : MapOf Tryz.prog 113 3 pairV w mp 0 (fun _ => none)
  below : Below w0.heap.size w0 w
  ne : mb ≠ mp
  lt : w0.heap.size ≤ tb ∧ w0.heap.size ≤ mb ∧ w0.heap.size ≤ mp
theorem beg_done {w0 w : World} {tb mb mp : Nat} (h : BegIs w0 w tb mb mp 256) : ∃ sv, TabIs w w0.heap.size tb baseT sv mb mp := by
  obtain ⟨sv, h1, h2⟩ := h.ex
  have e : baseT.take 256 = baseT := by rw [List.take_of_length_le (by rw [base_len]; decide)]
  rw [e] at h2
  have h3 := h.bys
  rw [e] at h3
  refine ⟨sv, ⟨?_, ?_, ?_, ?_, h.ne, h.lt⟩⟩
  · rw [base_long]; exact h1
  · rw [base_len]; exact h2
  · rw [base_len]; exact h3
  · exact (h.prs.mono (Nat.zero_le _)).congr (fun a => by rw [base_pair]; rfl)
theorem beg_start (w : World) : BegIs w (((w.alloc (.map #[] 0)).alloc (.map #[] 0)).alloc (.cells #[.slice none 0 0, .map (some w.heap.size), .map (some (w.heap.size + 1)), .int .i64 1] 207)) (w.heap.size + 1 + 1) w.heap.size (w.heap.size + 1) 0 := by
  refine ⟨⟨.slice none 0 0, ?_, own_nil _ _ _ _⟩, ?_, ?_, ?_, by omega, by omega⟩
  · have := blk_new ((w.alloc (.map #[] 0)).alloc (.map #[] 0)) (.cells #[.slice none 0 0, .map (some w.heap.size), .map (some (w.heap.size + 1)), .int .i64 1] 207)
    simpa [size_alloc] using this
  · refine ((MapOf.made w Tryz.prog 9 3 strV).keep (F := fun _ => False) ((Keep.refl _ _).alloc _ |>.alloc _) (fun h => h)).congr (fun a => ?_)
    rfl
  · have := MapOf.made (w.alloc (.map #[] 0)) Tryz.prog 113 3 pairV
    rw [size_alloc] at this
    exact this.keep (F := fun _ => False) ((Keep.refl _ _).alloc _) (fun h => h)
  · exact (((Below.refl _ _).alloc (Nat.le_refl _) _).alloc (by simp) _).alloc (by simp; omega) _
set_option maxHeartbeats 1000000 in
theorem begin_any (w : World) : Calls Tryz.prog 177 #[] w fun e w' => ∃ tb sv mb mp, e = .returned (.pointer (some ⟨tb, 0, none⟩)) ∧ TabIs w' w.heap.size tb baseT sv mb mp ∧ Below w.heap.size w w' := by
  have hmm := @run_makeMap Tryz.prog
  have HS := Lib.hid (beg_start w)
  go_enter Tryz.func177, Tryz.ntmps177
  go_wp2_with fail
  clear hmm
  generalize hW : (((w.alloc (.map #[] 0)).alloc (.map #[] 0)).alloc (.cells #[.slice none 0 0, .map (some w.heap.size), .map (some (w.heap.size + 1)), .int .i64 1] 207)) = W0 at *
  clear hW
  obtain ⟨tb, ht⟩ : ∃ tb, w.heap.size + 1 + 1 = tb := ⟨_, rfl⟩
  obtain ⟨mp, hp⟩ : ∃ mp, w.heap.size + 1 = mp := ⟨_, rfl⟩
  obtain ⟨mb, hm⟩ : ∃ mb, w.heap.size = mb := ⟨_, rfl⟩
  have HS : Hid (BegIs w W0 tb mb mp 0) := Lib.hid (by rw [← ht, ← hp, ← hm]; exact HS.out)
  rw [ht, hp, hm]
  have HMB0 := Lib.hid hm
  have HTB : Hid (w.heap.size ≤ tb) := Lib.hid (by omega)
  clear ht hp hm
  go_loopg [8] 256 (fun n i W => ∃ k : Nat, k + n = 256 ∧ i = .int .i64 (k : Int) ∧ BegIs w W tb mb mp k)
  case atStart => exact ⟨0, rfl, rfl, HS.out⟩
  case round =>
    obtain ⟨k, hk, rfl, hW⟩ := hrel
    have HW := Lib.hid hW
    clear HS
    rename World => W
    by_cases hlt : k < 256
    · obtain ⟨sv, hbk, hrow⟩ := hW.ex
      have hfr0 := blk_froz hbk 0
      have c0 := blk_cell hbk 0
      simp only [List.getElem?_toArray, List.getElem?_cons_zero] at c0
      obtain ⟨svA, svc, rfl⟩ := own_slice hrow
      have hlt' : (k : Int) < 256 := by omega
      have hbyte : IntKind.u8.wrap (k : Int) = k := IntWalk.u8_in _ (by omega)
      have hconv : (convert 70 9 (.slice (some ⟨W.heap.size, 0, none⟩) 1 1)).run Tryz.prog (W.alloc (.cells #[.int .u8 (k : Int)] 5)) = .ok (.string (bs [UInt8.ofNat k])) (W.alloc (.cells #[.int .u8 (k : Int)] 5)) := by
        refine run_convert_bytes_back _ _ _ 5 ⟨W.heap.size, 0, none⟩ 1 [UInt8.ofNat k] Tryz.underlying70 Tryz.underlying5 Tryz.underlying9 ?_
        intro j hj
        have : j = 0 := by simpa using hj
        subst this
        rw [add_plain, blk_cell (blk_new W _) 0]
        have : k % 256 = k := by omega
        simp [this]
      obtain ⟨x, hx⟩ : ∃ x, bs [UInt8.ofNat k] = x := ⟨_, rfl⟩
      rw [hx] at hconv
      have HX := Lib.hid hx
      have hb5 := (Below.refl W.heap.size W).alloc (Nat.le_refl _) (.cells #[.int .u8 (k : Int)] 5)
      have c0 := below_cell hb5 (Nat.le_refl _) c0
      have hrow5 := own_below hrow hb5 (Nat.le_refl _)
      have hbk5 := blk_alloc hbk (.cells #[.int .u8 (k : Int)] 5)
      have hby5 := hW.bys.below hb5 hW.bys.lt
      have hpr5 := hW.prs.below hb5 hW.prs.lt
      have HB5 := Lib.hid (below_then hW.below hW.below.size hb5)
      have HNE := Lib.hid (row_ne hrow5 hbk5 (by decide))
      have HNM := Lib.hid (hby5.row_ne hrow5)
      have HNP := Lib.hid (hpr5.row_ne hrow5)
      have HMB := Lib.hid (hby5.blk_ne hbk5)
      have HMP := Lib.hid (hpr5.blk_ne hbk5)
      have HROW := Lib.hid hrow5
      have HBK := Lib.hid hbk5
      have HBY := Lib.hid hby5
      have HPR := Lib.hid hpr5
      have HLE := Lib.hid hW.below.size
      rename_i c0o
      clear c0o hx hbk hrow hrow5 hbk5 hby5 hpr5 hb5 hfr0 hW
      have HGEN := Lib.hid (show w.heap.size ≤ (W.alloc (.cells #[.int .u8 (k : Int)] 5)).heap.size by rw [size_alloc]; have := HLE.out; omega)
      go_upto_region 6 with fail
      clear hconv HLE
      generalize hW5 : W.alloc (.cells #[.int .u8 (k : Int)] 5) = W5 at *
      clear hW5
      go_wp2_with (at_builtin; refine app_one (w.heap.size) 203 213 (.agg #[.string ⟨#[]⟩, .int .i64 0, .int .i64 0]) 3 32 [_, _, _] 1 _ _ rfl rfl Tryz.underlying203 info_ent rfl (by decide) _ _ _ rfl rfl rfl (by intro u hu; simp at hu; rcases hu with rfl | rfl | rfl <;> rfl) HROW.out (by omega) (by omega) HGEN.out ?_)
      intro v' w1 hown1 hg1
      obtain ⟨A1, cA1, rfl⟩ := own_slice hown1
      have hk1 : Keep (fun g => (Value.slice svA k svc).ownBlock = some g) W5 w1 := Keep.of_grown hg1 (fun g hg => hg)
      have hbk1 := hk1.blk HBK.out HNE.out
      have hby1 := HBY.out.keep hk1 HNM.out
      have hpr1 := HPR.out.keep hk1 HNP.out
      have hb1 := HB5.out.trans (hk1.below HGEN.out (own_base HROW.out))
      have c0 := blk_cell hbk1 0
      have z0 := blk_froz hbk1 0
      simp only [List.getElem?_toArray, List.getElem?_cons_zero] at c0
      have hk2 : Keep (fun g => g = tb) w1 (w1.setCell ⟨tb, 0, none⟩ (.slice A1 (k + 1) cA1)) := Keep.setCell (F := fun g => g = tb) (p := ⟨tb, 0, none⟩) (Keep.refl _ _) (Or.inl rfl) (.slice A1 (k + 1) cA1)
      have hbk2 := blk_set hbk1 0 (.slice A1 (k + 1) cA1)
      have HROW2 := Lib.hid (own_keep hown1 hk2 (fun g hg e => row_ne hown1 hbk1 (by decide) (by rw [hg, e])))
      have HBY2 := Lib.hid (hby1.keep hk2 HMB.out)
      have HPR2 := Lib.hid (hpr1.keep hk2 HMP.out)
      have HB2 := Lib.hid (hb1.setCell (p := ⟨tb, 0, none⟩) HTB.out (.slice A1 (k + 1) cA1))
      have c1 := blk_cell hbk2 1
      have HBK2 := Lib.hid hbk2
      simp only [List.setIfInBounds_toArray, List.set_cons_zero, List.getElem?_toArray, List.getElem?_cons_zero, List.getElem?_cons_succ] at c1 HBK2
      rename_i c0o
      clear hown1 hg1 hk1 hbk1 hby1 hpr1 hb1 hk2 hbk2 HBY HPR HBK HROW HNE HNM HNP HGEN HB5 c0o
      go_upto_region 7 with fail
      generalize hw2 : w1.setCell ⟨tb, 0, none⟩ (.slice A1 (k + 1) cA1) = w2 at *
      clear hw2 c0 z0
      have hxs : strV [UInt8.ofNat k] = .string x := by unfold strV; rw [HX.out]
      have hwf : (Lit.int .i64 (k : Int)).wf = true := wf_i64 (by omega) (by omega)
      have hke := key_str [UInt8.ofNat k] (by unfold maxLen; simp)
      go_wp2_with (refine map_put 204 _ _ _ rfl rfl keyed_str Tryz.underlying204 Tryz.underlying3 strV_inj rfl HBY2.out (by unfold maxLen; omega) [UInt8.ofNat k] hxs.symm hke (k : Int) rfl hwf ?_)
      intro w3 hm3 hg3
      have hk3 : Keep (fun g => g = mb) w2 w3 := Keep.of_grown hg3 (fun g hg => (Option.some.inj hg).symm)
      have HM3 := Lib.hid hm3
      have HK3 := Lib.hid hk3
      clear hm3 hg3 hk3
      go_wp2_with fail
      go_roundg (gk - 1)
      case measure => omega
      case rel =>
        have hle := HTB.out
        have hro := HROW2.out
        have hlt3 := HW.out.lt
        refine ⟨k + 1, by omega, by simp, ⟨⟨_, HK3.out.blk HBK2.out HMB.out.symm, ?_⟩, ?_, HPR2.out.keep HK3.out HW.out.ne.symm, HB2.out.trans (HK3.out.below HB2.out.size (fun g hg => by rw [hg]; exact hlt3.2.1)), HW.out.ne, hlt3⟩⟩
        · have h5 := own_keep hro HK3.out (fun g hg e => HBY2.out.row_ne hro (by rw [hg, e]))
          rw [base_take k hlt, List.flatMap_append]
          have e5 : [(([UInt8.ofNat k], -1, -1) : Ent)].flatMap encE = [Value.string x, .int .i64 (-1), .int .i64 (-1)] := by simp [encE, strV, HX.out]
          rw [e5]
          exact h5
        · refine HM3.out.congr (fun s => ?_)
          rw [base_take k hlt, findT_snoc _ _ _ (base_take_find k hlt), base_take_len k (by omega)]
          simp only []
          split <;> rfl
    · have : k = 256 := by omega
      subst this
      clear hW
      go_wp2_with fail
      go_ret
      obtain ⟨sv, h⟩ := beg_done HW.out
      exact ⟨_, sv, _, _, rfl, h, HW.out.below⟩
def rep (a b c : Int) : List Int → List Int
  | x :: y :: l => if x = a ∧ y = b then c :: rep a b c l else x :: rep a b c (y :: l)
  | l => l
def seqE : List (Int × Int) → Int → List Int → List Int
  | [], _, l => l
  | m :: M, c, l => seqE M (c + 1) (rep m.1 m.2 c l)
def Adj (l : List Int) (a b : Int) : Prop := ∃ p q, l = p ++ a :: b :: q
theorem adj_cons2 (x y : Int) (l : List Int) (a b : Int) : Adj (x :: y :: l) a b ↔ (x = a ∧ y = b) ∨ Adj (y :: l) a b := by
  constructor
  · rintro ⟨p, q, h⟩
    rcases p with _ | ⟨z, p⟩
    · simp at h; exact Or.inl ⟨h.1, h.2.1⟩
    · simp at h; exact Or.inr ⟨p, q, h.2⟩
  · rintro (⟨rfl, rfl⟩ | ⟨p, q, h⟩)
    · exact ⟨[], l, rfl⟩
    · exact ⟨x :: p, q, by rw [h]; rfl⟩
theorem rep_id (a b c : Int) : ∀ l, ¬ Adj l a b → rep a b c l = l
  | [], _ => rfl
  | [x], _ => rfl
  | x :: y :: l, h => by
    rw [adj_cons2] at h
    rw [rep, if_neg (fun e => h (Or.inl e)), rep_id a b c (y :: l) (fun e => h (Or.inr e))]
theorem seqE_id : ∀ (M : List (Int × Int)) (c0 : Int) (l : List Int), (∀ (k : Nat) m, M[k]? = some m → ¬ Adj l m.1 m.2) → seqE M c0 l = l := by
  intro M
  induction M with
  | nil => intro c0 l _; rfl
  | cons m M ih =>
    intro c0 l h
    rw [seqE, rep_id _ _ _ _ (h 0 m rfl)]
    exact ih (c0 + 1) l (fun k x hx => h (k + 1) x hx)
structure Wt where
  i : Int
  a : Int
  b : Int
abbrev Nd := Int × Int
def idsC (L : List Nd) : List Int := L.map Prod.snd
structure Mach (P : Int → Int → Option Int) (L : List Nd) (Q : List (Th Wt)) : Prop where
  ent : ∀ e ∈ Q, P e.x.a e.x.b = some e.r ∧ e.p = e.x.i
  com : ∀ (i a j b : Int) (p q : List Nd), L = p ++ (i, a) :: (j, b) :: q → ∀ r, P a b = some r → ∃ e ∈ Q, e.r = r ∧ e.p = i ∧ e.x = ⟨i, a, b⟩
  srt : L.Pairwise (fun x y => x.1 < y.1)
theorem adj_ids {L : List Nd} {a b : Int} (h : Adj (idsC L) a b) : ∃ p i j q, L = p ++ (i, a) :: (j, b) :: q := by
  obtain ⟨p, q, h⟩ := h
  unfold idsC at h
  obtain ⟨L1, L2, rfl, h1, h2⟩ := List.map_eq_append_iff.1 h
  obtain ⟨x, L3, rfl, h3, h4⟩ := List.map_eq_cons_iff.1 h2
  obtain ⟨y, L4, rfl, h5, h6⟩ := List.map_eq_cons_iff.1 h4
  obtain ⟨i, a'⟩ := x
  obtain ⟨j, b'⟩ := y
  simp only at h3 h5
  subst h3
  subst h5
  exact ⟨L1, i, j, L4, rfl⟩
theorem done_same {P : Int → Int → Option Int} {M : List (Int × Int)} {c0 : Int} (hP : ∀ a b r, P a b = some r ↔ ∃ k : Nat, M[k]? = some (a, b) ∧ r = c0 + k)
    {L : List Nd} (h : Mach P L []) : seqE M c0 (idsC L) = idsC L := by
  refine seqE_id M c0 _ (fun k m hk had => ?_)
  obtain ⟨p, i, j, q, heq⟩ := adj_ids had
  obtain ⟨e, he, _⟩ := h.com i m.1 j m.2 p q heq (c0 + k) ((hP _ _ _).2 ⟨k, hk, rfl⟩)
  simp at he
theorem Mach.stale {P : Int → Int → Option Int} {L : List Nd} {Q Q' : List (Th Wt)} {e0 : Th Wt} (h : Mach P L Q) (hp : Q.Perm (e0 :: Q')) (hs : ∀ p j q, L ≠ p ++ (e0.x.i, e0.x.a) :: (j, e0.x.b) :: q) : Mach P L Q' := by
  refine ⟨fun e he => h.ent e (hp.mem_iff.2 (List.mem_cons_of_mem _ he)), ?_, h.srt⟩
  intro i a j b p q heq r hr
  obtain ⟨e, he, g1, g2, g3⟩ := h.com i a j b p q heq r hr
  rcases List.mem_cons.1 (hp.mem_iff.1 he) with rfl | he
  · exfalso
    rw [g3] at hs
    exact hs p j q heq
  · exact ⟨e, he, g1, g2, g3⟩
end Go.Proofs.YtkkcekgbnloegaaGreat
namespace Go.Proofs.YtkkcekgbnloegaaGreat.hw
open Go.RowKit Go.Maps Go.WideMaps
def encTh (a : Th Wt) : List Value := [.int .i64 a.r, .int .i64 a.p, .int .i64 a.t, .int .i64 a.x.i, .int .i64 a.x.a, .int .i64 a.x.b]
theorem encTh_len (a : Th Wt) : (encTh a).length = 6 := rfl
theorem flat_len (l : List (Th Wt)) : (l.flatMap encTh).length = l.length * 6 := by
  induction l with
  | nil => rfl
  | cons a l ih => rw [List.flatMap_cons, List.length_append, ih, encTh_len, List.length_cons]; omega
structure HeapWs (w : World) (base hb : Nat) (l : List (Th Wt)) (turn : Int) (A : Option Addr) (c : Nat) : Prop where
  blk : w.heap[hb]? = some (.cells #[.slice A l.length c, .int .i64 turn] 325)
  row : w.ownsRow base 331 6 (.slice A l.length c) l.length (l.flatMap encTh)
  le : base ≤ hb
theorem HeapWs.below {B : Nat} {w w' : World} {base hb : Nat} {l : List (Th Wt)} {turn : Int} {A : Option Addr} {c : Nat} (h : HeapWs w base hb l turn A c) (hb' : Below B w w') (hB : w.heap.size ≤ B) : HeapWs w' base hb l turn A c :=
  ⟨blk_below hb' (Nat.lt_of_lt_of_le (blk_lt h.blk) hB) h.blk, own_below h.row hb' hB, h.le⟩
theorem HeapWs.drew {w : World} {base hb : Nat} {l : List (Th Wt)} {turn : Int} {A : Option Addr} {c : Nat} (h : HeapWs w base hb l turn A c) : HeapWs w.drew base hb l turn A c := ⟨h.blk, h.row, h.le⟩
theorem HeapWs.at {w : World} {base hb : Nat} {l : List (Th Wt)} {turn : Int} {A : Option Addr} {c : Nat} (h : HeapWs w base hb l turn A c) (i : Nat) (hi : i < l.length) :
    ∃ g, A = some ⟨g, 0, none⟩ ∧ w.cell? ⟨g, i * 6, none⟩ = some (.int .i64 l[i].r) ∧ w.cell? ⟨g, i * 6 + 1, none⟩ = some (.int .i64 l[i].p) ∧ w.cell? ⟨g, i * 6 + 2, none⟩ = some (.int .i64 l[i].t) ∧ w.cell? ⟨g, i * 6 + 3, none⟩ = some (.int .i64 l[i].x.i) ∧ w.cell? ⟨g, i * 6 + 4, none⟩ = some (.int .i64 l[i].x.a) ∧ w.cell? ⟨g, i * 6 + 5, none⟩ = some (.int .i64 l[i].x.b) := by
  obtain ⟨g, cap, e, _, _, _⟩ := own_open h.row (by omega)
  injection e with e1 e2 e3
  subst e1
  obtain ⟨b, o, e2, hc⟩ := (own_sl encTh_len h.row (by decide)).at i hi
  injection e2 with e2
  injection e2 with e2 e3
  subst e2; subst e3
  refine ⟨_, rfl, ?_, ?_, ?_, ?_, ?_, ?_⟩
  · have := hc 0 _ rfl; simpa using this
  · have := hc 1 _ rfl; simpa using this
  · have := hc 2 _ rfl; simpa using this
  · have := hc 3 _ rfl; simpa using this
  · have := hc 4 _ rfl; simpa using this
  · have := hc 5 _ rfl; simpa using this
theorem own_cells {w : World} {base n cap g : Nat} {e : TypeId} {size : Nat} {xs : List Value} (h : w.ownsRow base e size (.slice (some ⟨g, 0, none⟩) n cap) n xs) (hn : 0 < n) (j : Nat) (hj : j < n * size) : (∃ v, w.cell? ⟨g, j, none⟩ = some v) ∧ w.frozen? ⟨g, j, none⟩ = false := by
  obtain ⟨g', cap', e1, _, _, hc⟩ := own_open h hn
  injection e1 with e1 e2 e3
  injection e1 with e1
  injection e1 with e1
  subst e1
  have hl := h.1
  obtain ⟨h1, h2⟩ := hc j xs[j] (List.getElem?_eq_getElem (by omega))
  exact ⟨⟨_, h1⟩, h2⟩
end Go.Proofs.YtkkcekgbnloegaaGreat.hw
namespace Go.Proofs.YtkkcekgbnloegaaGreat.hw
open Go.RowKit Go.Maps Go.WideMaps
theorem results_cell_tmp3 {fn : Func} {p u v x : Tmp} {ty : TypeId} (h : fn.results = #[.cell p ty, .tmp u, .tmp v, .tmp x]) (tmps : Array Value) (P : Program) (w : World) :
    (results fn tmps).run P w = ((asAddr (tmps.getD p undef)).run P w).andThen fun a w₁ => ((loadVar ty a).run P w₁).andThen fun y w₂ => .ok (.tuple #[y, tmps.getD u undef, tmps.getD v undef, tmps.getD x undef]) w₂ := by
  simp only [results, h]
  simp [Sem.run_bind, Result.andThen]
theorem new_any (w : World) : Calls Tryz.prog 208 #[] w fun e w' => e = .returned (.pointer (some ⟨w.heap.size, 0, none⟩)) ∧ HeapWs w' w.heap.size w.heap.size [] 0 none 0 ∧ Below w.heap.size w w' := by
  have hb := (Below.refl w.heap.size w).alloc (Nat.le_refl _) (.cells #[.slice none 0 0, .int .i64 0] 325)
  have HS := Lib.hid (show HeapWs (w.alloc (.cells #[.slice none 0 0, .int .i64 0] 325)) w.heap.size w.heap.size [] 0 none 0 from ⟨blk_new w _, by simpa using own_nil _ _ _ _, Nat.le_refl _⟩)
  have HB := Lib.hid hb
  clear hb
  go_enter Tryz.func208, Tryz.ntmps208
  go_wp2_with fail
  go_ret
  exact ⟨rfl, HS.out, HB.out⟩
end Go.Proofs.YtkkcekgbnloegaaGreat.hw
namespace Go.Proofs.YtkkcekgbnloegaaGreat.hw
open Go.RowKit Go.Maps Go.WideMaps
def heapF (hb : Nat) (A : Option Addr) (g : Nat) : Prop := g = hb ∨ A = some ⟨g, 0, none⟩
theorem own_addr {w : World} {base n c : Nat} {e : TypeId} {size : Nat} {A : Option Addr} {xs : List Value} (h : w.ownsRow base e size (.slice A n c) n xs) : ∀ g, (Value.slice A n c).ownBlock = some g → A = some ⟨g, 0, none⟩ := by
  intro g hg
  rcases h.2 with ⟨e1, _⟩ | ⟨g', cap, cur, e1, _⟩
  · injection e1 with e1; subst e1; simp [Value.ownBlock] at hg
  · injection e1 with e1; subst e1; simp [Value.ownBlock] at hg; subst hg; rfl
theorem addr_own {A : Option Addr} {n c g : Nat} (h : A = some ⟨g, 0, none⟩) : (Value.slice A n c).ownBlock = some g := by subst h; rfl
theorem HeapWs.base {w : World} {base hb : Nat} {l : List (Th Wt)} {turn : Int} {A : Option Addr} {c : Nat} (h : HeapWs w base hb l turn A c) : ∀ g, heapF hb A g → base ≤ g := by
  intro g hg
  rcases hg with rfl | hg
  · exact h.le
  · exact own_base h.row g (addr_own hg)
theorem HeapWs.keep {w w' : World} {base hb : Nat} {l : List (Th Wt)} {turn : Int} {A : Option Addr} {c : Nat} {F : Nat → Prop} (h : HeapWs w base hb l turn A c) (k : Keep F w w') (hF : ∀ g, heapF hb A g → ¬ F g) : HeapWs w' base hb l turn A c :=
  ⟨k.blk h.blk (hF _ (.inl rfl)), own_keep h.row k (fun g hg => hF g (.inr (own_addr h.row g hg))), h.le⟩
theorem own_lt {w : World} {base n : Nat} {e : TypeId} {size : Nat} {v : Value} {xs : List Value} (h : w.ownsRow base e size v n xs) : ∀ g, v.ownBlock = some g → g < w.heap.size := by
  intro g hg
  rcases h.2 with ⟨rfl, _⟩ | ⟨g', cap, cur, rfl, _, hg', _⟩
  · simp [Value.ownBlock] at hg
  · simp only [Value.ownBlock, Option.some.injEq] at hg
    subst hg
    exact blk_lt hg'
end Go.Proofs.YtkkcekgbnloegaaGreat.hw
namespace Go.Proofs.YtkkcekgbnloegaaGreat
abbrev Node := Int × Int × Int
def lastI (p : List Nd) : Int := (p.getLast?.map Prod.fst).getD (-1)
def headI (q : List Nd) : Int := (q.head?.map Prod.fst).getD (-1)
structure Lives (N : List Node) (L : List Nd) : Prop where
  at_ : ∀ (p : List Nd) (i a : Int) (q : List Nd), L = p ++ (i, a) :: q → ∃ k : Nat, i = k ∧ N[k]? = some (a, lastI p, headI q)
  dead : ∀ (k : Nat) (x : Node), N[k]? = some x → (∀ a : Int, ((k : Int), a) ∉ L) → x.1 = -2
  first : N ≠ [] → ∃ (a : Int) (q : List Nd), L = (0, a) :: q
  nn : ∀ x ∈ L, 0 ≤ x.2 ∧ x.2 < 1000000
  srt : L.Pairwise (fun x y => x.1 < y.1)
theorem Lives.place {N : List Node} {L : List Nd} (h : Lives N L) {x : Nd} (hx : x ∈ L) : ∃ k : Nat, x.1 = k ∧ k < N.length := by
  obtain ⟨p, q, rfl⟩ := List.append_of_mem hx
  obtain ⟨k, h1, h2⟩ := h.at_ p x.1 x.2 q rfl
  exact ⟨k, h1, (List.getElem?_eq_some_iff.1 h2).1⟩
def askQ (P : Int → Int → Option Int) (Q : List (Th Wt)) (turn i a : Int) : List Nd → List (Th Wt) × Int
  | [] => (Q, turn)
  | y :: _ => match P a y.2 with
    | some r => (pushT Q ⟨r, i, turn, ⟨i, a, y.2⟩⟩, turn + 1)
    | none => (Q, turn)
section
variable {P : Int → Int → Option Int} {Q : List (Th Wt)} {turn i a : Int} {q : List Nd}
theorem askQ_mem {e : Th Wt} (h : e ∈ (askQ P Q turn i a q).1) : e ∈ Q ∨ (P e.x.a e.x.b = some e.r ∧ e.p = e.x.i ∧ e.x.i = i ∧ e.x.a = a) := by
  unfold askQ at h
  split at h
  · exact .inl h
  · split at h
    · rename_i r hr
      rcases List.mem_cons.1 ((push_perm _ _).mem_iff.1 h) with rfl | h
      · exact .inr ⟨hr, rfl, rfl, rfl⟩
      · exact .inl h
    · exact .inl h
theorem askQ_sub {e : Th Wt} (h : e ∈ Q) : e ∈ (askQ P Q turn i a q).1 := by
  unfold askQ
  split
  · exact h
  · split
    · exact (push_perm _ _).mem_iff.2 (List.mem_cons_of_mem _ h)
    · exact h
theorem askQ_has {y : Nd} {q' : List Nd} (e : q = y :: q') {r : Int} (hr : P a y.2 = some r) : ∃ e ∈ (askQ P Q turn i a q).1, e.r = r ∧ e.p = i ∧ e.x = ⟨i, a, y.2⟩ := by
  subst e
  simp only [askQ, hr]
  exact ⟨_, (push_perm _ _).mem_iff.2 (List.mem_cons_self), rfl, rfl, rfl⟩
theorem askQ_heap (h : HeapT Q) : HeapT (askQ P Q turn i a q).1 := by
  unfold askQ
  split
  · exact h
  · split
    · exact push_heap _ _ h
    · exact h
theorem askQ_len : (askQ P Q turn i a q).1.length ≤ Q.length + 1 ∧ turn ≤ (askQ P Q turn i a q).2 ∧ (askQ P Q turn i a q).2 ≤ turn + 1 := by
  unfold askQ
  split
  · exact ⟨Nat.le_succ _, by omega, by omega⟩
  · split
    · exact ⟨by rw [push_len]; omega, by omega, by omega⟩
    · exact ⟨Nat.le_succ _, by omega, by omega⟩
end
structure QOk (P : Int → Int → Option Int) (n : Nat) (Q : List (Th Wt)) : Prop where
  heap : HeapT Q
  ent : ∀ e ∈ Q, P e.x.a e.x.b = some e.r ∧ e.p = e.x.i
  pos : ∀ e ∈ Q, ∃ k : Nat, e.x.i = k ∧ k < n ∧ 0 ≤ e.x.a
theorem QOk.ask {P : Int → Int → Option Int} {n : Nat} {Q : List (Th Wt)} (h : QOk P n Q) (turn a : Int) (k : Nat) (hk : k < n) (ha : 0 ≤ a) (q : List Nd) : QOk P n (askQ P Q turn k a q).1 := by
  refine ⟨askQ_heap h.heap, ?_, ?_⟩
  · intro e he
    rcases askQ_mem he with h1 | ⟨h1, h2, _⟩
    · exact h.ent e h1
    · exact ⟨h1, h2⟩
  · intro e he
    rcases askQ_mem he with h1 | ⟨h1, h2, h3, h4⟩
    · exact h.pos e h1
    · exact ⟨k, h3, hk, by rw [h4]; exact ha⟩
theorem QOk.pop {P : Int → Int → Option Int} {n : Nat} {Q : List (Th Wt)} (h : QOk P n Q) (hl : 0 < Q.length) : QOk P n (popT Q) :=
  have sub : ∀ e ∈ popT Q, e ∈ Q := fun e he => (pop_perm Q hl).mem_iff.2 (List.mem_cons_of_mem _ he)
  ⟨pop_heap _ h.heap, fun e he => h.ent e (sub e he), fun e he => h.pos e (sub e he)⟩
structure BegS (P : Int → Int → Option Int) (L : List Nd) (n k : Nat) (Q : List (Th Wt)) (turn : Int) : Prop where
  q : QOk P n Q
  com : ∀ (i a j b : Int) (p q : List Nd), L = p ++ (i, a) :: (j, b) :: q → p.length < k → ∀ r, P a b = some r → ∃ e ∈ Q, e.r = r ∧ e.p = i ∧ e.x = ⟨i, a, b⟩
  size : Q.length ≤ k
  turn : 0 ≤ turn ∧ turn ≤ k
theorem BegS.start (P : Int → Int → Option Int) (L : List Nd) (n : Nat) : BegS P L n 0 [] 0 := by
  refine ⟨⟨?_, by simp, by simp⟩, fun i a j b p q e h => by omega, by simp, by omega⟩
  intro j hj
  simp at hj
theorem BegS.ask {P : Int → Int → Option Int} {L : List Nd} {n : Nat} {Q : List (Th Wt)} {turn : Int} {p q : List Nd} {i : Nat} {a : Int} (h : BegS P L n p.length Q turn) (e : L = p ++ ((i : Int), a) :: q) (hi : i < n) (ha : 0 ≤ a) :
    BegS P L n (p.length + 1) (askQ P Q turn i a q).1 (askQ P Q turn i a q).2 := by
  have hl := askQ_len (P := P) (Q := Q) (turn := turn) (i := i) (a := a) (q := q)
  refine ⟨h.q.ask turn a i hi ha q, ?_, ?_, ?_⟩
  · intro i' a' j b p' q' e' hk r hr
    by_cases hlt : p'.length < p.length
    · obtain ⟨x, hx, h3⟩ := h.com i' a' j b p' q' e' hlt r hr
      exact ⟨x, askQ_sub hx, h3⟩
    · have hpl : p'.length = p.length := by omega
      rw [e] at e'
      obtain ⟨rfl, e2⟩ := List.append_inj e' hpl.symm
      simp only [List.cons.injEq, Prod.mk.injEq] at e2
      obtain ⟨⟨e3, rfl⟩, e4⟩ := e2
      rw [← e3]
      exact askQ_has e4 hr
  · have := h.size; omega
  · have := h.turn; omega
theorem BegS.mach {P : Int → Int → Option Int} {L : List Nd} {n : Nat} {Q : List (Th Wt)} {turn : Int} (h : BegS P L n L.length Q turn) (hs : L.Pairwise (fun x y => x.1 < y.1)) : Mach P L Q :=
  ⟨h.q.ent, fun i a j b p q e r hr => h.com i a j b p q e (by rw [e]; simp) r hr, hs⟩
structure RunS (P : Int → Int → Option Int) (M : List (Int × Int)) (ids0 : List Int) (N : List Node) (L : List Nd) (Q : List (Th Wt)) (turn steps : Int) (n : Nat) : Prop where
  lives : Lives N L
  nlen : N.length = n
  mach : Mach P L Q
  q : QOk P n Q
  same : seqE M 256 (idsC L) = seqE M 256 ids0
  pos : 0 ≤ steps
  steps : steps + L.length = n
  size : Q.length + 3 * L.length ≤ 4 * n
  turn : 0 ≤ turn ∧ turn + 2 * L.length ≤ 3 * n
theorem RunS.start {P : Int → Int → Option Int} {M : List (Int × Int)} {N : List Node} {L : List Nd} {Q : List (Th Wt)} {turn : Int} (hl : Lives N L) (hn : N.length = L.length) (h : BegS P L L.length L.length Q turn) : RunS P M (idsC L) N L Q turn 0 L.length :=
  ⟨hl, hn, h.mach hl.srt, h.q, rfl, Int.le_refl _, by omega, by have := h.size; omega, by have := h.turn; omega⟩
theorem RunS.fin {P : Int → Int → Option Int} {M : List (Int × Int)} {ids0 : List Int} {N : List Node} {L : List Nd} {turn steps : Int} {n : Nat} (h : RunS P M ids0 N L [] turn steps n)
    (hP : ∀ a b r, P a b = some r ↔ ∃ k : Nat, M[k]? = some (a, b) ∧ r = 256 + k) : idsC L = seqE M 256 ids0 ∧ steps = n - (seqE M 256 ids0).length := by
  have h1 := done_same hP h.mach
  rw [h.same] at h1
  refine ⟨h1.symm, ?_⟩
  rw [h1]
  have := h.steps
  unfold idsC
  rw [List.length_map]
  omega
theorem RunS.drop {P : Int → Int → Option Int} {M : List (Int × Int)} {ids0 : List Int} {N : List Node} {L : List Nd} {Q : List (Th Wt)} {turn steps : Int} {n : Nat} (h : RunS P M ids0 N L Q turn steps n) (hl : 0 < Q.length)
    (hs : ∀ p j q, L ≠ p ++ (Q[0].x.i, Q[0].x.a) :: (j, Q[0].x.b) :: q) : RunS P M ids0 N L (popT Q) turn steps n :=
  ⟨h.lives, h.nlen, h.mach.stale (pop_perm Q hl) hs, h.q.pop hl, h.same, h.pos, h.steps, by rw [pop_len]; have := h.size; omega, h.turn⟩
open Go.RowKit Go.Maps Go.WideMaps
theorem bs_append (a b : List UInt8) : bs a ++ bs b = bs (a ++ b) := by
  apply ByteArray.ext
  simp [bs]
theorem addT_long {T : List Ent} {a b : Int} {X Y : List UInt8} (ha : hasT T a = true) (hb : hasT T b = true) (hx : (entT T a).1 = X) (hy : (entT T b).1 = Y) (h : 64 < (X ++ Y).length) : addT T a b = (0, 3, T) := by
  subst hx hy
  unfold addT
  rw [ha, hb, if_neg (by simp), if_pos h]
theorem addT_full {T : List Ent} {a b : Int} {X Y : List UInt8} (ha : hasT T a = true) (hb : hasT T b = true) (hx : (entT T a).1 = X) (hy : (entT T b).1 = Y) (h : ¬ 64 < (X ++ Y).length) (h1 : 1000 ≤ T.length) : addT T a b = (0, 5, T) := by
  subst hx hy
  unfold addT
  rw [ha, hb, if_neg (by simp), if_neg h, if_pos h1]
theorem addT_twice {T : List Ent} {a b : Int} {X Y : List UInt8} (ha : hasT T a = true) (hb : hasT T b = true) (hx : (entT T a).1 = X) (hy : (entT T b).1 = Y) (h : ¬ 64 < (X ++ Y).length) (h1 : ¬ 1000 ≤ T.length) (h2 : (findT T (X ++ Y)).isSome = true) : addT T a b = (0, 10, T) := by
  subst hx hy
  unfold addT
  rw [ha, hb, if_neg (by simp), if_neg h, if_neg h1, if_pos h2]
theorem addT_ok {T : List Ent} {a b : Int} {X Y : List UInt8} (ha : hasT T a = true) (hb : hasT T b = true) (hx : (entT T a).1 = X) (hy : (entT T b).1 = Y) (h : ¬ 64 < (X ++ Y).length) (h1 : ¬ 1000 ≤ T.length) (h2 : (findT T (X ++ Y)).isSome = false) : addT T a b = ((T.length : Int), 0, T ++ [(X ++ Y, a, b)]) := by
  subst hx hy
  unfold addT
  rw [ha, hb, if_neg (by simp), if_neg h, if_neg h1, if_neg (by rw [h2]; simp)]
structure Added (w w' : World) (base tb : Nat) (T' : List Ent) (sv : Value) (mb mp : Nat) : Prop where
  ex : ∃ sv', TabIs w' base tb T' sv' mb mp ∧ (sv'.ownBlock = sv.ownBlock ∨ ∃ g, sv'.ownBlock = some g ∧ w.heap.size ≤ g)
  keep : Keep (tabF tb sv mb mp) w w'
section
variable {w : World} {base tb : Nat} {T : List Ent} {sv : Value} {mb mp : Nat}
set_option maxHeartbeats 2000000 in
theorem add_err (a b : Int) (h : TabIs w base tb T sv mb mp) (hT : OkT T) (he : (addT T a b).2.1 ≠ 0) :
    Calls Tryz.prog 176 #[.pointer (some ⟨tb, 0, none⟩), .agg #[.int .i64 a, .int .i64 b]] w fun e w' => e = .returned (.tuple #[.int .i64 0, .int .i64 (addT T a b).2.1]) ∧ Below w.heap.size w w' := by
  have hb0 := (Below.refl w.heap.size w).alloc (Nat.le_refl _) (.cells #[.int .i64 a, .int .i64 b] 113)
  have HB := Lib.hid hb0
  have h0 := h.below hb0 (Nat.le_refl _)
  have bnew := blk_new w (.cells #[.int .i64 a, .int .i64 b] 113)
  have n0 := blk_cell bnew 0
  have n1 := blk_cell bnew 1
  simp only [List.getElem?_toArray, List.getElem?_cons_zero, List.getElem?_cons_succ] at n0 n1
  have HT := Lib.hid h0
  have HA := Lib.hid (has_tab a h0)
  have HE := Lib.hid he
  have HOK := Lib.hid hT
  clear h h0 bnew hb0 he hT
  go_enter Tryz.func176, Tryz.ntmps176
  go_wp2_with fail
  generalize hW : w.alloc (.cells #[.int .i64 a, .int .i64 b] 113) = W at *
  clear hW
  refine HA.out.mono ?_
  rintro e w' ⟨rfl, rfl⟩
  clear HA
  cases ha : hasT T a with
  | false =>
    go_wp2_with fail
    go_ret2
    refine ⟨?_, HB.out⟩
    simp [addT, ha]
  | true =>
    have HA := Lib.hid ha
    have HC := Lib.hid (has_tab b HT.out)
    clear ha
    go_wp2_with fail
    refine HC.out.mono ?_
    rintro e w' ⟨rfl, rfl⟩
    clear HC
    cases hb : hasT T b with
    | false =>
      go_wp2_with fail
      go_ret2
      refine ⟨?_, HB.out⟩
      simp [addT, hb]
    | true =>
      have HAB := Lib.hid hb
      obtain ⟨k, rfl, hk, ek⟩ := hasT_at HA.out
      obtain ⟨l, rfl, hl, el⟩ := hasT_at hb
      obtain ⟨ba, o, c, rfl, g0, _, _⟩ := tab_at HT.out k hk
      obtain ⟨ba', o', c', e', g1, _, _⟩ := tab_at HT.out l hl
      cases e'
      have c0 := blk_cell HT.out.blk 0
      simp only [List.getElem?_toArray, List.getElem?_cons_zero] at c0
      have hX := HOK.out.len T[k] (List.getElem_mem hk)
      have hY := HOK.out.len T[l] (List.getElem_mem hl)
      have EK := Lib.hid ek
      have EL := Lib.hid el
      have HS := Lib.hid HOK.out.small
      obtain ⟨X, hXe⟩ : ∃ X, T[k].1 = X := ⟨_, rfl⟩
      obtain ⟨Y, hYe⟩ : ∃ Y, T[l].1 = Y := ⟨_, rfl⟩
      rw [hXe] at g0 hX
      rw [hYe] at g1 hY
      have HXE := Lib.hid hXe
      have HYE := Lib.hid hYe
      have hbig : (9223372036854775807 < (bs X).size + (bs Y).size) = False := by rw [eq_iff_iff, iff_false, bs_size, bs_size]; omega
      have HX := Lib.hid hX
      have HY := Lib.hid hY
      unfold strV at g0 g1
      have q0 : 0 ≤ (k : Int) := by omega
      have q1 : (k : Int) < (T.length : Int) := by omega
      have q2 : 0 ≤ (l : Int) := by omega
      have q3 : (l : Int) < (T.length : Int) := by omega
      rename_i j1 j2 j3 j4
      clear hb ek el hXe hYe hX hY j1 j2 j3 j4
      go_wp2_with fail
      go_quiet (fail)
      rw [bs_append]
      obtain ⟨z, hz⟩ : ∃ z, bs (X ++ Y) = z := ⟨_, rfl⟩
      have hzs : z.size = (X ++ Y).length := by rw [← hz, bs_size]
      have HZ := Lib.hid hz
      have HZS := Lib.hid hzs
      rw [hz]
      clear hz hbig g0 g1 q0 q1 q2 q3 hzs
      by_cases h64 : (64 : Int) < (z.size : Int)
      · go_wp2_with fail
        go_ret2
        refine ⟨?_, below_drewN HB.out _⟩
        rw [addT_long HA.out HAB.out (by rw [EK.out, HXE.out]) (by rw [EL.out, HYE.out]) (by have := HZS.out; omega)]
        rfl
      · by_cases h1000 : (1000 : Int) ≤ (T.length : Int)
        · go_wp2_with fail
          go_ret2
          refine ⟨?_, below_drewN HB.out _⟩
          rw [addT_full HA.out HAB.out (by rw [EK.out, HXE.out]) (by rw [EL.out, HYE.out]) (by have := HZS.out; omega) (by omega)]
          rfl
        · have hkz : strV (X ++ Y) = .string z := by unfold strV; rw [HZ.out]
          have hke := key_str (X ++ Y) (by have := HX.out; have := HY.out; rw [List.length_append]; unfold maxLen; omega)
          have c1 : (w'.drewN nq).cell? ⟨tb, 1, none⟩ = _ := blk_cell HT.out.blk 1
          simp only [List.getElem?_toArray, List.getElem?_cons_zero, List.getElem?_cons_succ] at c1
          cases hf : (findT T (X ++ Y)).isSome with
          | true =>
            go_wp2_with (refine map_look 204 _ _ rfl rfl keyed_str Tryz.underlying204 Tryz.underlying3 (zero_int _) rfl (HT.out.drewN nq).bys (X ++ Y) hkz.symm hke ?_)
            go_ret2
            refine ⟨?_, below_drewN HB.out _⟩
            rw [addT_twice HA.out HAB.out (by rw [EK.out, HXE.out]) (by rw [EL.out, HYE.out]) (by have := HZS.out; omega) (by omega) hf]
            rfl
          | false =>
            exfalso
            have := HE.out
            rw [addT_ok HA.out HAB.out (by rw [EK.out, HXE.out]) (by rw [EL.out, HYE.out]) (by have := HZS.out; omega) (by omega) hf] at this
            exact this rfl
end
section
variable {w : World} {base tb : Nat} {T : List Ent} {sv : Value} {mb mp : Nat}
set_option maxHeartbeats 2000000 in
theorem add_ok (a b : Int) (h : TabIs w base tb T sv mb mp) (hT : OkT T) (he : (addT T a b).2.1 = 0) (hbase : base ≤ w.heap.size) :
    Calls Tryz.prog 176 #[.pointer (some ⟨tb, 0, none⟩), .agg #[.int .i64 a, .int .i64 b]] w fun e w' => e = .returned (.tuple #[.int .i64 (addT T a b).1, .int .i64 0]) ∧ Added w w' base tb (addT T a b).2.2 sv mb mp := by
  have hb0 := (Below.refl w.heap.size w).alloc (Nat.le_refl _) (.cells #[.int .i64 a, .int .i64 b] 113)
  have HB := Lib.hid hb0
  have h0 := h.below hb0 (Nat.le_refl _)
  have bnew := blk_new w (.cells #[.int .i64 a, .int .i64 b] 113)
  have n0 := blk_cell bnew 0
  have n1 := blk_cell bnew 1
  simp only [List.getElem?_toArray, List.getElem?_cons_zero, List.getElem?_cons_succ] at n0 n1
  have HT := Lib.hid h0
  have HA := Lib.hid (has_tab a h0)
  have HE := Lib.hid he
  have HBASE := Lib.hid hbase
  have HNEW := Lib.hid bnew
  have HOK := Lib.hid hT
  clear h h0 bnew hb0 he hT hbase
  go_enter Tryz.func176, Tryz.ntmps176
  go_wp2_with fail
  generalize hW : w.alloc (.cells #[.int .i64 a, .int .i64 b] 113) = W at *
  clear hW
  refine HA.out.mono ?_
  rintro e w' ⟨rfl, rfl⟩
  clear HA
  cases ha : hasT T a with
  | false => exact absurd HE.out (by simp [addT, ha])
  | true =>
    have HA := Lib.hid ha
    have HC := Lib.hid (has_tab b HT.out)
    clear ha
    go_wp2_with fail
    refine HC.out.mono ?_
    rintro e w' ⟨rfl, rfl⟩
    clear HC
    cases hb : hasT T b with
    | false => exact absurd HE.out (by simp [addT, hb])
    | true =>
      have HAB := Lib.hid hb
      obtain ⟨k, rfl, hk, ek⟩ := hasT_at HA.out
      obtain ⟨l, rfl, hl, el⟩ := hasT_at hb
      obtain ⟨ba, o, c, rfl, g0, _, _⟩ := tab_at HT.out k hk
      obtain ⟨ba', o', c', e', g1, _, _⟩ := tab_at HT.out l hl
      cases e'
      have c0 := blk_cell HT.out.blk 0
      simp only [List.getElem?_toArray, List.getElem?_cons_zero] at c0
      have hX := HOK.out.len T[k] (List.getElem_mem hk)
      have hY := HOK.out.len T[l] (List.getElem_mem hl)
      have EK := Lib.hid ek
      have EL := Lib.hid el
      have HS := Lib.hid HOK.out.small
      obtain ⟨X, hXe⟩ : ∃ X, T[k].1 = X := ⟨_, rfl⟩
      obtain ⟨Y, hYe⟩ : ∃ Y, T[l].1 = Y := ⟨_, rfl⟩
      rw [hXe] at g0 hX
      rw [hYe] at g1 hY
      have HXE := Lib.hid hXe
      have HYE := Lib.hid hYe
      have hbig : (9223372036854775807 < (bs X).size + (bs Y).size) = False := by rw [eq_iff_iff, iff_false, bs_size, bs_size]; omega
      have HX := Lib.hid hX
      have HY := Lib.hid hY
      unfold strV at g0 g1
      have q0 : 0 ≤ (k : Int) := by omega
      have q1 : (k : Int) < (T.length : Int) := by omega
      have q2 : 0 ≤ (l : Int) := by omega
      have q3 : (l : Int) < (T.length : Int) := by omega
      rename_i j1 j2 j3 j4
      clear hb ek el hXe hYe hX hY j1 j2 j3 j4
      go_wp2_with fail
      go_quiet (fail)
      rw [bs_append]
      obtain ⟨z, hz⟩ : ∃ z, bs (X ++ Y) = z := ⟨_, rfl⟩
      have hzs : z.size = (X ++ Y).length := by rw [← hz, bs_size]
      have HZ := Lib.hid hz
      have HZS := Lib.hid hzs
      rw [hz]
      clear hz hbig g0 g1 q0 q1 q2 q3 hzs
      by_cases h64 : (64 : Int) < (z.size : Int)
      · exact absurd HE.out (by rw [addT_long HA.out HAB.out (by rw [EK.out, HXE.out]) (by rw [EL.out, HYE.out]) (by have := HZS.out; omega)]; simp)
      · by_cases h1000 : (1000 : Int) ≤ (T.length : Int)
        · exact absurd HE.out (by rw [addT_full HA.out HAB.out (by rw [EK.out, HXE.out]) (by rw [EL.out, HYE.out]) (by have := HZS.out; omega) (by omega)]; simp)
        · have hkz : strV (X ++ Y) = .string z := by unfold strV; rw [HZ.out]
          have hke := key_str (X ++ Y) (by have := HX.out; have := HY.out; rw [List.length_append]; unfold maxLen; omega)
          have c1 : (w'.drewN nq).cell? ⟨tb, 1, none⟩ = _ := blk_cell HT.out.blk 1
          simp only [List.getElem?_toArray, List.getElem?_cons_zero, List.getElem?_cons_succ] at c1
          cases hf : (findT T (X ++ Y)).isSome with
          | true => exact absurd HE.out (by rw [addT_twice HA.out HAB.out (by rw [EK.out, HXE.out]) (by rw [EL.out, HYE.out]) (by have := HZS.out; omega) (by omega) hf]; simp)
          | false =>
            have HADD := Lib.hid (addT_ok HA.out HAB.out (by rw [EK.out, HXE.out]) (by rw [EL.out, HYE.out]) (by have := HZS.out; omega) (by omega) hf)
            have HF := Lib.hid hf
            have HU := Lib.hid (HT.out.drewN nq)
            have HBU := Lib.hid (below_drewN HB.out nq)
            have HNU := Lib.hid (blk_drewN HNEW.out nq)
            have n0u : (w'.drewN nq).cell? ⟨w.heap.size, 0, none⟩ = _ := n0
            have n1u : (w'.drewN nq).cell? ⟨w.heap.size, 1, none⟩ = _ := n1
            have c0u : (w'.drewN nq).cell? ⟨tb, 0, none⟩ = _ := c0
            have HKE := Lib.hid hke
            have HKZ := Lib.hid hkz
            clear n0 n1 c0 HT HB HNEW
            go_upto_region 14 with (refine map_look 204 _ _ rfl rfl keyed_str Tryz.underlying204 Tryz.underlying3 (zero_int _) rfl HU.out.bys (X ++ Y) hkz.symm hke ?_)
            generalize hU : w'.drewN nq = U at *
            have c2u : U.cell? ⟨tb, 2, none⟩ = _ := blk_cell HU.out.blk 2
            simp only [List.getElem?_toArray, List.getElem?_cons_zero, List.getElem?_cons_succ] at c2u
            have HRT := Lib.hid (row_ne HU.out.row HU.out.blk (by decide))
            have HRR := Lib.hid (row_ne HU.out.row HNU.out (by decide))
            have HRB := Lib.hid (HU.out.bys.row_ne HU.out.row)
            have HRP := Lib.hid (HU.out.prs.row_ne HU.out.row)
            have HBT := Lib.hid (HU.out.bys.blk_ne HU.out.blk)
            have HPT := Lib.hid (HU.out.prs.blk_ne HU.out.blk)
            have HBR := Lib.hid (HU.out.bys.blk_ne HNU.out)
            have HPR := Lib.hid (HU.out.prs.blk_ne HNU.out)
            have hrt : w.heap.size ≠ tb := by
              intro e
              have h1 := HNU.out
              rw [e, HU.out.blk] at h1
              simp at h1
            have hown := own_drew HU.out.row
            have HGEN := Lib.hid (show base ≤ U.drew.heap.size from Nat.le_trans HBASE.out HBU.out.size)
            have HKU : Hid (Keep (fun _ => False) w U) := Lib.hid (Keep.of_below HBU.out)
            clear hU hke hkz hf
            have HOWN := Lib.hid hown
            have hs1000 := HS.out
            clear hown
            refine wp_region_G (D := 12) (S := fun V => V.cell? ⟨tb, 0, none⟩ = some (.slice (some ⟨ba, o, none⟩) T.length c) ∧ V.cell? ⟨w.heap.size, 0, none⟩ = some (.int .i64 (k : Int)) ∧ V.cell? ⟨w.heap.size, 1, none⟩ = some (.int .i64 (l : Int))) (by kernel_rfl) (by exact ⟨c0u, n0u, n1u⟩) (fun hHeld => ?_)
            refine tkG 0 69 ?_ rfl hHeld (.inl ⟨by rfl, ?_⟩) ?_; rotate_left; focus (intro w' hSw; (try dsimp only at hSw); go_simp; (try with_reducible rfl))
            try simp only [sIB, sC0, sCS]
            refine tkG 1 70 ?_ rfl hHeld (.inl ⟨by rfl, ?_⟩) ?_; rotate_left; focus (intro w' hSw; (try dsimp only at hSw); go_simp; (try with_reducible rfl))
            try simp only [sIB, sC0, sCS]
            refine tkG 2 71 ?_ rfl hHeld (.inl ⟨by rfl, ?_⟩) ?_; rotate_left; focus (intro w' hSw; (try dsimp only at hSw); go_simp; (try with_reducible rfl))
            try simp only [sIB, sC0, sCS]
            refine tkG 3 72 ?_ rfl hHeld (.inl ⟨by rfl, ?_⟩) ?_; rotate_left; focus (intro w' hSw; (try dsimp only at hSw); go_simp; (try with_reducible rfl))
            try simp only [sIB, sC0, sCS]
            refine tkG 4 73 ?_ rfl hHeld (.inl ⟨by rfl, ?_⟩) ?_; rotate_left; focus (intro w' hSw; (try dsimp only at hSw); go_simp; (try with_reducible rfl))
            try simp only [sIB, sC0, sCS]
            refine tkG 5 74 ?_ rfl hHeld (.inl ⟨by rfl, ?_⟩) ?_; rotate_left; focus (intro w' hSw; (try dsimp only at hSw); go_simp; (try with_reducible rfl))
            try simp only [sIB, sC0, sCS]
            refine tkG 6 75 ?_ rfl hHeld (.inl ⟨by rfl, ?_⟩) ?_; rotate_left; focus (intro w' hSw; (try dsimp only at hSw); go_simp; (try with_reducible rfl))
            try simp only [sIB, sC0, sCS]
            refine tkG 7 76 ?_ rfl hHeld (.inl ⟨by rfl, ?_⟩) ?_; rotate_left; focus (intro w' hSw; (try dsimp only at hSw); go_simp; (try with_reducible rfl))
            try simp only [sIB, sC0, sCS]
            refine wpAnyG_one (i := 8) (by kernel_rfl) rfl (by rfl) (fun K hK => ?_)
            go_simp; have hbl := (Below.refl U.drew.heap.size U.drew).alloc (Nat.le_refl _) (.cells #[.string z, .int .i64 (k : Int), .int .i64 (l : Int)] 213); have h := And.intro (below_cell hbl (Nat.le_refl _) hHeld.1) (And.intro (below_cell hbl (Nat.le_refl _) hHeld.2.1) (below_cell hbl (Nat.le_refl _) hHeld.2.2)); clear hbl
            refine hK.out _ _ h (fun hHeld => ?_)
            clear hK K
            try simp only [Act.put, sIB, sC0, sCS]
            refine wpAnyG_one (i := 9) (by kernel_rfl) rfl (by rfl) (fun K hK => ?_)
            refine wp_app_one base 203 213 (.agg #[.string ⟨#[]⟩, .int .i64 0, .int .i64 0]) 3 32 [_, _, _] 1 _ _ rfl Tryz.underlying203 info_ent rfl (by decide) _ _ _ rfl _ rfl rfl rfl (by intro u hu; simp at hu; rcases hu with rfl | rfl | rfl <;> rfl) HOWN.out (by omega) (by omega) HGEN.out ?_; intro v' w1 hown1 hg1 hnew; obtain ⟨A1, cA1, rfl⟩ := own_slice hown1; have hk1 : Keep (fun g => (Value.slice (some ⟨ba, o, none⟩) T.length c).ownBlock = some g) U w1 := ((Keep.refl _ U).drew).trans (Keep.of_grown hg1 (fun g hg => hg)) (fun x hx => .inl hx); have b1 := hk1.blk HU.out.blk HRT.out; have r1 := hk1.blk HNU.out HRR.out; have h := And.intro (blk_cell b1 0) (And.intro (blk_cell r1 0) (blk_cell r1 1))
            refine hK.out _ _ h (fun hHeld => ?_)
            clear hK K
            try simp only [Act.put, sIB, sC0, sCS]
            refine wpAnyG_one (i := 10) (by kernel_rfl) rfl (by rfl) (fun K hK => ?_)
            go_simp
            refine hK.out _ _ hHeld (fun hHeld => ?_)
            clear hK K
            try simp only [Act.put, sIB, sC0, sCS]
            refine tkG 11 80 ?_ rfl hHeld (.inl ⟨by rfl, ?_⟩) ?_; rotate_left; focus (intro w' hSw; (try dsimp only at hSw); go_simp; (try with_reducible rfl))
            try simp only [sIB, sC0, sCS]
            refine wpAnyG_last (by kernel_rfl) rfl (by rfl) (fun K hK => ?_)
            have z0 := blk_froz b1 0; have c0 := hHeld.1; go_simp
            refine hK.out _ _ ?_
            clear hK K
            try simp only [Act.put, sIB, sC0, sCS]
            refine wpAnyG_done (by kernel_rfl) ?_ _
            have hF := HF.out
            have hfn : findT T (X ++ Y) = none := by
              cases hq : findT T (X ++ Y) with
              | none => rfl
              | some i => rw [hq] at hF; cases hF
            have HPN := Lib.hid (pairT_none HOK.out (a := (k : Int)) (b := (l : Int)) (by rw [EK.out, HXE.out, EL.out, HYE.out]; exact hfn) (by intro e; cases e))
            have K2 : Keep (fun g => g = tb) w1 (w1.setCell ⟨tb, 0, none⟩ (.slice A1 (T.length + 1) cA1)) := Keep.setCell (F := fun g => g = tb) (p := ⟨tb, 0, none⟩) (Keep.refl _ _) (Or.inl rfl) (.slice A1 (T.length + 1) cA1)
            have b2 := blk_set b1 0 (.slice A1 (T.length + 1) cA1)
            simp only [List.setIfInBounds_toArray, List.set_cons_zero] at b2
            have r2 := blk_far (p := ⟨tb, 0, none⟩) r1 hrt (.slice A1 (T.length + 1) cA1)
            have own2 := own_keep hown1 K2 (fun g hg e => row_ne hown1 b1 (by decide) (by rw [hg, e]))
            have bys2 := (HU.out.bys.keep hk1 HRB.out).keep K2 HBT.out
            have prs2 := (HU.out.prs.keep hk1 HRP.out).keep K2 HPT.out
            have KW2 : Keep (tabF tb (.slice (some ⟨ba, o, none⟩) T.length c) mb mp) w (w1.setCell ⟨tb, 0, none⟩ (.slice A1 (T.length + 1) cA1)) :=
              ((HKU.out.mono (fun x hx => hx.elim)).trans hk1 (fun x hx => .inl (.inr (.inl hx)))).trans K2 (fun x hx => .inl (.inl hx))
            have HNEW2 : Hid ((Value.slice A1 (T.length + 1) cA1).ownBlock = (Value.slice (some ⟨ba, o, none⟩) T.length c).ownBlock ∨ ∃ g, (Value.slice A1 (T.length + 1) cA1).ownBlock = some g ∧ w.heap.size ≤ g) :=
              Lib.hid (hnew.elim (fun e => .inl e) (fun ⟨g, e, hg⟩ => .inr ⟨g, e, Nat.le_trans HBU.out.size hg⟩))
            clear hHeld hF hnew hg1 hown1 z0 c0 c1 n0u n1u c0u c2u HOWN HGEN hs1000 b1 r1
            generalize w1.setCell ⟨tb, 0, none⟩ (.slice A1 (T.length + 1) cA1) = w2 at *
            have bys3 : MapOf Tryz.prog 9 3 strV w2.drew mb T.length (fun s => (findT T s).map Int.ofNat) := bys2.keep ((Keep.refl (fun _ => False) _).drew) (fun h => h)
            have prs3 : MapOf Tryz.prog 113 3 pairV w2.drew mp T.length (fun m => (pairT T m).map Int.ofNat) := prs2.keep ((Keep.refl (fun _ => False) _).drew) (fun h => h)
            have hlen := HS.out
            obtain ⟨st1, o1, o2, hE1, hS1, hM1⟩ := entry_new (t := 204) keyed_str Tryz.underlying204 Tryz.underlying3 zero_int strV_inj bys3 (by unfold maxLen; omega) (X ++ Y) HKE.out (by rw [hfn]; rfl) (T.length : Int) (wf_i64 (by omega) (by omega))
            rw [HKZ.out] at hE1
            have prs4 := prs3.keep (setBlock_keep (w := w2.drew) (b := mb) (o := o2)) (fun e => HU.out.ne e.symm)
            obtain ⟨st2, p1, p2, hE2, hS2, hM2⟩ := entry_new (t := 205) keyed_mrg Tryz.underlying205 Tryz.underlying3 zero_int pairV_inj prs4 (by unfold maxLen; omega) ((k : Int), (l : Int)) (key_mrg _ (wf_i64 (by omega) (by omega)) (wf_i64 (by omega) (by omega))) (by rw [HPN.out]; rfl) (T.length : Int) (wf_i64 (by omega) (by omega))
            have hmlt : mb < w2.drew.heap.size := bys3.lt
            have hplt : mp < (Go.ChangeMaps.setBlock w2.drew mb o2).heap.size := prs4.lt
            have d1 : w2.drew.heap[tb]? = _ := b2
            have e1 : w2.drew.heap[w.heap.size]? = _ := r2
            have d2 := (setBlock_keep (w := w2.drew) (b := mb) (o := o1)).blk d1 (fun e => HBT.out e.symm)
            have e2 := (setBlock_keep (w := w2.drew) (b := mb) (o := o1)).blk e1 (fun e => HBR.out e.symm)
            have d3 := (setBlock_keep (w := w2.drew) (b := mb) (o := o2)).blk d1 (fun e => HBT.out e.symm)
            have e3 := (setBlock_keep (w := w2.drew) (b := mb) (o := o2)).blk e1 (fun e => HBR.out e.symm)
            have d4 := (setBlock_keep (w := Go.ChangeMaps.setBlock w2.drew mb o2) (b := mp) (o := p1)).blk d3 (fun e => HPT.out e.symm)
            have e4 := (setBlock_keep (w := Go.ChangeMaps.setBlock w2.drew mb o2) (b := mp) (o := p1)).blk e3 (fun e => HPR.out e.symm)
            have d5 := (setBlock_keep (w := Go.ChangeMaps.setBlock w2.drew mb o2) (b := mp) (o := p2)).blk d3 (fun e => HPT.out e.symm)
            have e5 := (setBlock_keep (w := Go.ChangeMaps.setBlock w2.drew mb o2) (b := mp) (o := p2)).blk e3 (fun e => HPR.out e.symm)
            have D1 := Lib.hid d1
            have D2 := Lib.hid d2
            have D3 := Lib.hid d3
            have D4 := Lib.hid d4
            have D5 := Lib.hid d5
            have E1 := Lib.hid e1
            have E2 := Lib.hid e2
            have E3 := Lib.hid e3
            have E4 := Lib.hid e4
            have E5 := Lib.hid e5
            have RE1 := Lib.hid hE1
            have RS1 := Lib.hid (hS1 _ (setBlock_at hmlt))
            have RE2 := Lib.hid hE2
            have RS2 := Lib.hid (hS2 _ (setBlock_at hplt))
            have HM1 := Lib.hid hM1
            have HM2 := Lib.hid hM2
            have HOWN2 := Lib.hid own2
            have HBYS2 := Lib.hid bys2
            have HPRS2 := Lib.hid prs2
            have HKW2 := Lib.hid KW2
            have HB2 := Lib.hid b2
            have HR2 := Lib.hid r2
            have HHK1 := Lib.hid hk1
            clear d1 d2 d3 d4 d5 e1 e2 e3 e4 e5 hE1 hS1 hE2 hS2 hM1 hM2 own2 KW2 b2 r2 hk1 K2 bys2 prs2 bys3 prs3 prs4 hmlt hplt h
            have HFN := Lib.hid hfn
            clear hfn
            go_upto_region 15 with fail
            refine wp_region_G (D := 17) (S := fun V => V.cell? ⟨tb, 1, none⟩ = some (.map (some mb)) ∧ V.cell? ⟨tb, 2, none⟩ = some (.map (some mp)) ∧ V.cell? ⟨w.heap.size, 0, none⟩ = some (.int .i64 (k : Int)) ∧ V.cell? ⟨w.heap.size, 1, none⟩ = some (.int .i64 (l : Int))) (by kernel_rfl) (by exact ⟨blk_cell D1.out 1, blk_cell D1.out 2, blk_cell E1.out 0, blk_cell E1.out 1⟩) (fun hHeld => ?_)
            refine tkG 0 81 ?_ rfl hHeld (.inl ⟨by rfl, ?_⟩) ?_; rotate_left; focus (intro w' hSw; (try dsimp only at hSw); go_simp; (try with_reducible rfl))
            try simp only [sIB, sC0, sCS]
            refine tkG 1 82 ?_ rfl hHeld (.inl ⟨by rfl, ?_⟩) ?_; rotate_left; focus (intro w' hSw; (try dsimp only at hSw); go_simp; (try with_reducible rfl))
            try simp only [sIB, sC0, sCS]
            refine tkG 2 83 ?_ rfl hHeld (.inl ⟨by rfl, ?_⟩) ?_; rotate_left; focus (intro w' hSw; (try dsimp only at hSw); go_simp; (try with_reducible rfl))
            try simp only [sIB, sC0, sCS]
            refine tkG 3 84 ?_ rfl hHeld (.inl ⟨by rfl, ?_⟩) ?_; rotate_left; focus (intro w' hSw; (try dsimp only at hSw); go_simp; (try with_reducible rfl))
            try simp only [sIB, sC0, sCS]
            refine tkG 4 85 ?_ rfl hHeld (.inl ⟨by rfl, ?_⟩) ?_; rotate_left; focus (intro w' hSw; (try dsimp only at hSw); go_simp; (try with_reducible rfl))
            try simp only [sIB, sC0, sCS]
            refine tkG 5 86 ?_ rfl hHeld (.inl ⟨by rfl, ?_⟩) ?_; rotate_left; focus (intro w' hSw; (try dsimp only at hSw); go_simp; (try with_reducible rfl))
            try simp only [sIB, sC0, sCS]
            refine tkG 6 87 ?_ rfl hHeld (.inl ⟨by rfl, ?_⟩) ?_; rotate_left; focus (intro w' hSw; (try dsimp only at hSw); go_simp; (try with_reducible rfl))
            try simp only [sIB, sC0, sCS]
            refine tkG 7 88 ?_ rfl hHeld (.inl ⟨by rfl, ?_⟩) ?_; rotate_left; focus (intro w' hSw; (try dsimp only at hSw); go_simp; (try with_reducible rfl))
            try simp only [sIB, sC0, sCS]
            refine tkG 8 89 ?_ rfl hHeld (.inl ⟨by rfl, ?_⟩) ?_; rotate_left; focus (intro w' hSw; (try dsimp only at hSw); go_simp; (try with_reducible rfl))
            try simp only [sIB, sC0, sCS]
            refine tkG 9 90 ?_ rfl hHeld (.inl ⟨by rfl, ?_⟩) ?_; rotate_left; focus (intro w' hSw; (try dsimp only at hSw); go_simp; (try with_reducible rfl))
            try simp only [sIB, sC0, sCS]
            refine tkG 10 91 ?_ rfl hHeld (.inl ⟨by rfl, ?_⟩) ?_; rotate_left; focus (intro w' hSw; (try dsimp only at hSw); go_simp; (try with_reducible rfl))
            try simp only [sIB, sC0, sCS]
            refine tkG 11 92 ?_ rfl hHeld (.inl ⟨by rfl, ?_⟩) ?_; rotate_left; focus (intro w' hSw; (try dsimp only at hSw); go_simp; (try with_reducible rfl))
            try simp only [sIB, sC0, sCS]
            refine wpAnyG_one (i := 12) (by kernel_rfl) rfl (by rfl) (fun K hK => ?_)
            refine wp_mapEntry 204 _ _ _ _ rfl rfl rfl RE1.out ?_; have h := And.intro (blk_cell D2.out 1) (And.intro (blk_cell D2.out 2) (And.intro (blk_cell E2.out 0) (blk_cell E2.out 1)))
            refine hK.out _ _ h (fun hHeld => ?_)
            clear hK K
            try simp only [Act.put, sIB, sC0, sCS]
            refine tkG 13 94 ?_ rfl hHeld (.inl ⟨by rfl, ?_⟩) ?_; rotate_left; focus (intro w' hSw; (try dsimp only at hSw); go_simp; (try with_reducible rfl))
            try simp only [sIB, sC0, sCS]
            refine wpAnyG_one (i := 14) (by kernel_rfl) rfl (by rfl) (fun K hK => ?_)
            refine wp_entryStore 204 _ _ _ _ _ _ rfl rfl rfl rfl RS1.out ?_; rw [setBlock_twice]; have h := And.intro (blk_cell D3.out 1) (And.intro (blk_cell D3.out 2) (And.intro (blk_cell E3.out 0) (blk_cell E3.out 1)))
            refine hK.out _ _ h (fun hHeld => ?_)
            clear hK K
            try simp only [Act.put, sIB, sC0, sCS]
            refine wpAnyG_one (i := 15) (by kernel_rfl) rfl (by rfl) (fun K hK => ?_)
            refine wp_mapEntry 205 _ _ _ _ rfl rfl rfl RE2.out ?_; have h := And.intro (blk_cell D4.out 1) (And.intro (blk_cell D4.out 2) (And.intro (blk_cell E4.out 0) (blk_cell E4.out 1)))
            refine hK.out _ _ h (fun hHeld => ?_)
            clear hK K
            try simp only [Act.put, sIB, sC0, sCS]
            refine tkG 16 96 ?_ rfl hHeld (.inl ⟨by rfl, ?_⟩) ?_; rotate_left; focus (intro w' hSw; (try dsimp only at hSw); go_simp; (try with_reducible rfl))
            try simp only [sIB, sC0, sCS]
            refine wpAnyG_last (by kernel_rfl) rfl (by rfl) (fun K hK => ?_)
            refine wp_entryStore 205 _ _ _ _ _ _ rfl rfl rfl rfl RS2.out ?_; rw [setBlock_twice]
            refine hK.out _ _ ?_
            clear hK K
            try simp only [Act.put, sIB, sC0, sCS]
            refine wpAnyG_done (by kernel_rfl) ?_ _
            clear hHeld
            have KA : Keep (fun g => g = mb) w2 (Go.ChangeMaps.setBlock w2.drew mb o2) := ((Keep.refl (fun g => g = mb) w2).drew).trans setBlock_keep (fun x hx => .inl hx)
            have KB : Keep (fun g => g = mp) (Go.ChangeMaps.setBlock w2.drew mb o2) (Go.ChangeMaps.setBlock (Go.ChangeMaps.setBlock w2.drew mb o2) mp p2) := setBlock_keep
            have own3 := own_keep HOWN2.out KA (fun g hg e => HBYS2.out.row_ne HOWN2.out (by rw [hg, e]))
            have prs3 := HPRS2.out.keep KA (fun e => HU.out.ne e.symm)
            have HOWN4 := Lib.hid (own_keep own3 KB (fun g hg e => prs3.row_ne own3 (by rw [hg, e])))
            have HBY4 := Lib.hid (HM1.out.keep KB (fun e => HU.out.ne e))
            have HKW4 := Lib.hid ((HKW2.out.trans KA (fun x hx => .inl (.inr (.inr (.inl hx))))).trans KB (fun x hx => .inl (.inr (.inr (.inr hx)))))
            have c3 := blk_cell D5.out 3
            have z3 := blk_froz D5.out 3
            simp only [List.getElem?_toArray, List.getElem?_cons_zero, List.getElem?_cons_succ] at c3
            clear KA KB own3 prs3 RE1 RS1 RE2 RS2 HM1 D1 D2 D3 D4 E1 E2 E3 E4 E5 HHK1
            generalize Go.ChangeMaps.setBlock (Go.ChangeMaps.setBlock w2.drew mb o2) mp p2 = w4 at *
            have FIN : Hid (∀ M : Nat, M = max (longT T) z.size → Added w (w4.setCell ⟨tb, 3, none⟩ (.int .i64 (M : Int))) base tb (addT T (k : Int) (l : Int)).2.2 (.slice (some ⟨ba, o, none⟩) T.length c) mb mp) := by
              refine Lib.hid (fun M hM => ?_)
              have K5 : Keep (fun g => g = tb) w4 (w4.setCell ⟨tb, 3, none⟩ (.int .i64 (M : Int))) := Keep.setCell (F := fun g => g = tb) (p := ⟨tb, 3, none⟩) (Keep.refl _ _) (Or.inl rfl) _
              have b5 := blk_set D5.out 3 (.int .i64 (M : Int))
              simp only [List.setIfInBounds_toArray, List.set_cons_zero, List.set_cons_succ] at b5
              rw [HADD.out]
              have hlen1 : (T ++ [(X ++ Y, (k : Int), (l : Int))]).length = T.length + 1 := by simp
              refine ⟨⟨.slice A1 (T.length + 1) cA1, ⟨?_, ?_, ?_, ?_, HU.out.ne, HU.out.lt⟩, HNEW2.out⟩, HKW4.out.trans K5 (fun x hx => .inl (.inl hx))⟩
              · simp only []
                rw [longT_snoc]
                simp only []
                rw [← HZS.out, ← hM]
                exact b5
              · simp only []
                rw [hlen1, List.flatMap_append]
                have e5 : [((X ++ Y, (k : Int), (l : Int)) : Ent)].flatMap encE = [Value.string z, .int .i64 (k : Int), .int .i64 (l : Int)] := by simp [encE, HKZ.out]
                rw [e5]
                exact own_keep HOWN4.out K5 (fun g hg e => row_ne HOWN4.out D5.out (by decide) (by rw [hg, e]))
              · simp only []
                rw [hlen1]
                refine (HBY4.out.keep K5 HBT.out).congr (fun s => ?_)
                rw [findT_snoc _ _ _ HFN.out]
                simp only []
                split <;> rfl
              · simp only []
                rw [hlen1]
                refine (HM2.out.keep K5 HPT.out).congr (fun s => ?_)
                rw [pairT_snoc _ _ _ HPN.out (by intro e; cases e)]
                simp only []
                split <;> rfl
            obtain ⟨L, hL⟩ : ∃ L, longT T = L := ⟨_, rfl⟩
            have HLL := Lib.hid hL
            rw [hL] at c3
            clear hL
            rename_i j1 j2 j3 j4 j5 j6
            go_wp2_with fail
            all_goals
              go_ret2
              refine ⟨by rw [HADD.out]; rfl, ?_⟩
              first
                | exact FIN.out z.size (by rw [HLL.out]; omega)
                | exact FIN.out L (by rw [HLL.out]; omega)
end
def addsT (T : List Ent) : List (Int × Int) → Option (List Ent)
  | [] => some T
  | m :: r => if (addT T m.1 m.2).2.1 = 0 then addsT (addT T m.1 m.2).2.2 r else none
theorem addsT_snoc (l : List (Int × Int)) (m : Int × Int) : ∀ T, addsT T (l ++ [m]) = (addsT T l).bind (fun T' => if (addT T' m.1 m.2).2.1 = 0 then some (addT T' m.1 m.2).2.2 else none) := by
  induction l with
  | nil => intro T; simp [addsT]
  | cons a l ih =>
    intro T
    simp only [List.cons_append, addsT]
    split
    · rw [ih]
    · rfl
def encM (m : Int × Int) : List Value := [.int .i64 m.1, .int .i64 m.2]
structure NewIs (w W : World) (l : List (Int × Int)) (tb mb mp k : Nat) : Prop where
  ex : ∃ T sv, addsT baseT (l.take k) = some T ∧ OkT T ∧ TabIs W w.heap.size tb T sv mb mp
  below : Below w.heap.size w W
set_option maxHeartbeats 2000000 in
theorem new_any (l : List (Int × Int)) (A : Option Addr) (c : Nat) (w : World) (hl : Sl w A encM 2 l) (hlen : l.length < 9000000000000000000) :
    Calls Tryz.prog 154 #[.slice A l.length c] w fun e w' => Below w.heap.size w w' ∧
      ((∃ T tb sv mb mp, e = .returned (.tuple #[.pointer (some ⟨tb, 0, none⟩), .int .i64 (l.length : Nat), .int .i64 0]) ∧ addsT baseT l = some T ∧ OkT T ∧ TabIs w' w.heap.size tb T sv mb mp) ∨
      (∃ (k : Nat) (hk : k < l.length) (T : List Ent), addsT baseT (l.take k) = some T ∧ OkT T ∧ (addT T l[k].1 l[k].2).2.1 ≠ 0 ∧ e = .returned (.tuple #[.pointer none, .int .i64 (k : Nat), .int .i64 (addT T l[k].1 l[k].2).2.1]))) := by
  have HL := Lib.hid hl
  clear hl
  go_enter Tryz.func154, Tryz.ntmps154
  go_wp2_with fail
  refine (begin_any _).mono ?_
  rintro e w0 ⟨tb, sv, mb, mp, rfl, h0, hb0⟩
  have HS := Lib.hid (show NewIs w w0 l tb mb mp 0 from ⟨⟨baseT, sv, by simp [addsT], okT_base, h0⟩, hb0⟩)
  clear h0 hb0
  go_wp2_with fail
  go_loopg [13] l.length (fun n i W => ∃ k : Nat, k + n = l.length ∧ i = .int .i64 (k : Int) ∧ NewIs w W l tb mb mp k)
  case atStart => exact ⟨0, by omega, rfl, HS.out⟩
  case round =>
    obtain ⟨k, hk, rfl, hW⟩ := hrel
    clear HS
    rename World => W
    by_cases hlt : k < l.length
    · obtain ⟨T, sv, ha, hok, ht⟩ := hW.ex
      obtain ⟨ba, o, rfl, hc0⟩ := (HL.out.below hW.below (Nat.le_refl _)).at k hlt
      have g0 : W.cell? ⟨ba, o + k * 2, none⟩ = some (.int .i64 l[k].1) := hc0 0 _ rfl
      have g1 : W.cell? ⟨ba, o + k * 2 + 1, none⟩ = some (.int .i64 l[k].2) := hc0 1 _ rfl
      obtain ⟨x, hx⟩ : ∃ x, l[k].1 = x := ⟨_, rfl⟩
      obtain ⟨y, hy⟩ : ∃ y, l[k].2 = y := ⟨_, rfl⟩
      rw [hx] at g0
      rw [hy] at g1
      have HX := Lib.hid hx
      have HY := Lib.hid hy
      have HA := Lib.hid ha
      have HOK := Lib.hid hok
      have HT := Lib.hid ht
      have HB := Lib.hid hW.below
      have q0 : 0 ≤ (k : Int) := by omega
      have q1 : (k : Int) < (l.length : Int) := by omega
      have hb1 := (Below.refl W.heap.size W).alloc (Nat.le_refl _) (.cells #[.int .i64 l[k].1, .int .i64 l[k].2] 113)
      have HT1 := Lib.hid (ht.below hb1 (Nat.le_refl _))
      have HB1 := Lib.hid (hW.below.trans (hb1.mono hW.below.size))
      rw [hx, hy] at HT1 HB1
      clear hx hy hc0 ha hok ht hW hb1
      go_wp2_with fail
      clear g0 g1
      generalize W.alloc (.cells #[.int .i64 x, .int .i64 y] 113) = W1 at *
      by_cases he : (addT T x y).2.1 = 0
      · have HE := Lib.hid he
        refine (add_ok x y HT1.out HOK.out he HB1.out.size).mono ?_
        rintro e w' ⟨rfl, had⟩
        obtain ⟨sv', ht', hn⟩ := had.ex
        have HT2 := Lib.hid ht'
        have HB2 := Lib.hid (HB1.out.trans (had.keep.below HB1.out.size (fun g hg => by
          rcases hg with rfl | hg | rfl | rfl
          · exact HT1.out.lt.1
          · exact own_base HT1.out.row g hg
          · exact HT1.out.lt.2.1
          · exact HT1.out.lt.2.2)))
        clear ht' hn had he
        go_wp2_with fail
        go_roundg (gk - 1)
        case measure => omega
        case rel =>
          refine ⟨k + 1, by omega, by simp, ⟨⟨(addT T x y).2.2, sv', ?_, okT_add HOK.out _ _ HE.out, HT2.out⟩, HB2.out⟩⟩
          rw [take_snoc hlt, addsT_snoc, HA.out]
          simp only [Option.bind_some, HX.out, HY.out, HE.out, if_true]
      · have HE := Lib.hid he
        refine (add_err x y HT1.out HOK.out he).mono ?_
        rintro e w' ⟨rfl, hbw⟩
        have HB2 := Lib.hid (HB1.out.trans (hbw.mono HB1.out.size))
        obtain ⟨E, hE⟩ : ∃ E, (addT T x y).2.1 = E := ⟨_, rfl⟩
        have HEE := Lib.hid hE
        rw [hE] at he ⊢
        clear hbw hE
        go_wp2_with fail
        refine bodyPost_ret (results_tmp3 rfl _ _ _) rfl ⟨HB2.out, .inr ⟨k, hlt, T, HA.out, HOK.out, ?_, ?_⟩⟩
        · rw [HX.out, HY.out]; exact HE.out
        · rw [HX.out, HY.out, HEE.out]; rfl
    · have : k = l.length := by omega
      subst this
      obtain ⟨T, sv, ha, hok, ht⟩ := hW.ex
      have HA := Lib.hid ha
      have HOK := Lib.hid hok
      have HT := Lib.hid ht
      have HB := Lib.hid hW.below
      clear ha hok ht hW
      go_wp2_with fail
      refine bodyPost_ret (results_tmp3 rfl _ _ _) rfl ⟨HB.out, .inl ⟨T, tb, sv, mb, mp, rfl, ?_, HOK.out, HT.out⟩⟩
      have := HA.out
      rw [List.take_length] at this
      exact this
theorem info_str4 : (Tryz.prog.info? 9).map (fun i => (i.zero, i.size, i.bytes)) = some (some (.string ⟨#[]⟩), 1, 16) := by kernel_rfl
theorem info_mrg : (Tryz.prog.info? 113).map (fun i => (i.zero, i.size, i.bytes)) = some (some (.agg #[.int .i64 0, .int .i64 0]), 2, 16) := by kernel_rfl
def bytsT (T : List Ent) : List (List UInt8) := T.map (·.1)
def mrgsT (T : List Ent) : List (Int × Int) := (T.drop 256).map (·.2)
structure RefIs (w : World) (base : Nat) (T : List Ent) (vb vm : Value) : Prop where
  row : w.ownsRow base 9 1 vb T.length ((bytsT T).map strV)
  mrg : w.ownsRow base 113 2 vm (mrgsT T).length ((mrgsT T).flatMap encM)
  nil : (mrgsT T).length = 0 → vm = .slice none 0 0
theorem RefIs.below {B : Nat} {w w' : World} {base : Nat} {T : List Ent} {vb vm : Value} (h : RefIs w base T vb vm) (hb : Below B w w') (hB : w.heap.size ≤ B) : RefIs w' base T vb vm := ⟨own_below h.row hb hB, own_below h.mrg hb hB, h.nil⟩
theorem RefIs.keep {F : Nat → Prop} {w w' : World} {base : Nat} {T : List Ent} {vb vm : Value} (h : RefIs w base T vb vm) (k : Keep F w w') (hF : ∀ g, F g → g < base) : RefIs w' base T vb vm :=
  ⟨own_keep h.row k (fun g hg hf => by have := own_base h.row g hg; have := hF g hf; omega), own_keep h.mrg k (fun g hg hf => by have := own_base h.mrg g hg; have := hF g hf; omega), h.nil⟩
theorem RefIs.less {w : World} {b base : Nat} {T : List Ent} {vb vm : Value} (h : RefIs w b T vb vm) (hle : base ≤ b) : RefIs w base T vb vm := ⟨own_less h.row hle, own_less h.mrg hle, h.nil⟩
section
variable {w : World} {base : Nat} {T : List Ent} {vb vm : Value}
theorem rhas_any (id : Int) (h : RefIs w base T vb vm) : Calls Tryz.prog 41 #[.agg #[vb, vm], .int .i64 id] w fun e w' => e = .returned (.bool (hasT T id)) ∧ Below w.heap.size w w' := by
  obtain ⟨A, c, rfl⟩ := own_slice h.row
  obtain ⟨A2, c2, hvm⟩ := own_slice h.mrg
  subst hvm
  have hb0 := (Below.refl w.heap.size w).alloc (Nat.le_refl _) (.cells #[.slice A T.length c, .slice A2 (mrgsT T).length c2] 34)
  have n0 := blk_cell (blk_new w (.cells #[.slice A T.length c, .slice A2 (mrgsT T).length c2] 34)) 0
  simp only [List.getElem?_toArray, List.getElem?_cons_zero] at n0
  have HB := Lib.hid hb0
  clear hb0 h
  go_enter Tryz.func41, Tryz.ntmps41
  by_cases h0 : 0 ≤ id
  · go_wp2_with fail
    go_ret
    exact ⟨ret_bool (by simp [hasT, h0]), HB.out⟩
  · go_wp2_with fail
    go_ret
    exact ⟨ret_bool (by simp [hasT]; omega), HB.out⟩
theorem find_take {T : List Ent} {s : List UInt8} {k : Nat} (hk : k < T.length) (h : findT (T.take k) s = none) (he : T[k].1 = s) : findT T s = some k := by
  unfold findT at *
  have e : T = T.take k ++ (T[k] :: T.drop (k + 1)) := by rw [← List.drop_eq_getElem_cons hk, List.take_append_drop]
  have h0 : (T[k] :: T.drop (k + 1)).findIdx? (fun e => e.1 == s) = some 0 := by simp only [List.findIdx?_cons, he, beq_self_eq_true, if_true]
  rw [e, List.findIdx?_append, h, h0]
  simp only [Option.none_or, Option.map_some, Option.some.injEq, List.length_take]
  omega
theorem find_take_next {T : List Ent} {s : List UInt8} {k : Nat} (hk : k < T.length) (h : findT (T.take k) s = none) (he : T[k].1 ≠ s) : findT (T.take (k + 1)) s = none := by
  rw [take_snoc hk]
  unfold findT at *
  rw [find_snoc, h]
  simp [he]
def findI (T : List Ent) (s : List UInt8) : Int := match findT T s with | some i => (i : Int) | none => -1
set_option maxHeartbeats 1000000 in
theorem rfind_any (s : List UInt8) (h : RefIs w base T vb vm) (hlen : T.length ≤ 1000) : Calls Tryz.prog 82 #[.agg #[vb, vm], strV s] w fun e w' => e = .returned (.int .i64 (findI T s)) ∧ Below w.heap.size w w' := by
  obtain ⟨A, c, rfl⟩ := own_slice h.row
  obtain ⟨A2, c2, hvm⟩ := own_slice h.mrg
  subst hvm
  have hb0 := (Below.refl w.heap.size w).alloc (Nat.le_refl _) (.cells #[.slice A T.length c, .slice A2 (mrgsT T).length c2] 34)
  have n0 := blk_cell (blk_new w (.cells #[.slice A T.length c, .slice A2 (mrgsT T).length c2] 34)) 0
  simp only [List.getElem?_toArray, List.getElem?_cons_zero] at n0
  have HSL := Lib.hid ((own_sl1 h.row).below hb0 (Nat.le_refl _))
  have HB := Lib.hid hb0
  clear hb0 h
  unfold strV
  go_enter Tryz.func82, Tryz.ntmps82
  go_wp2_with fail
  generalize hW : w.alloc (.cells #[.slice A T.length c, .slice A2 (mrgsT T).length c2] 34) = W at *
  clear hW
  go_loopg [5] T.length (fun n i W' => ∃ k : Nat, k + n = T.length ∧ i = .int .i64 (k : Int) ∧ findT (T.take k) s = none ∧ W' = W)
  case atStart => exact ⟨0, by omega, rfl, rfl, rfl⟩
  case round =>
    obtain ⟨k, hk, rfl, hf, hW⟩ := hrel
    subst hW
    have HF := Lib.hid hf
    clear hf
    by_cases hlt : k < T.length
    · obtain ⟨ba, o, rfl, g0⟩ := HSL.out.at k (by simpa [bytsT] using hlt)
      simp only [bytsT, List.getElem_map, strV] at g0
      have q0 : 0 ≤ (k : Int) := by omega
      have q1 : (k : Int) < (T.length : Int) := by omega
      by_cases he : T[k].1 = s
      · have HE := Lib.hid he
        rw [he] at g0
        clear he
        go_wp2_with fail
        go_ret
        refine ⟨ret_int ?_, HB.out⟩
        unfold findI
        rw [find_take hlt HF.out HE.out]
      · have HE := Lib.hid he
        have hne : ¬ bs T[k].1 = bs s := fun e => he (bs_inj e)
        generalize bs T[k].1 = x at *
        generalize bs s = y at *
        have hbe : (x.toList == y.toList) = false := by
          rw [beq_eq_false_iff_ne, ByteArray.toList_eq, ByteArray.toList_eq]
          intro e
          apply hne
          apply ByteArray.ext
          exact Array.ext' e
        clear he
        go_wp2_with fail
        go_roundg (gk - 1)
        case measure => omega
        case rel => exact ⟨k + 1, by omega, by simp, find_take_next hlt HF.out HE.out, rfl⟩
    · have : k = T.length := by omega
      subst this
      go_wp2_with fail
      go_ret
      refine ⟨ret_int ?_, HB.out⟩
      have := HF.out
      rw [List.take_length] at this
      unfold findI
      rw [this]
end
theorem load_ref {w : World} {r : Nat} {A B : Option Addr} {n m c d : Nat} (h : w.heap[r]? = some (.cells #[.slice A n c, .slice B m d] 34)) : (loadVar 34 ⟨r, 0, none⟩).run Tryz.prog w = .ok (.agg #[.slice A n c, .slice B m d]) w := by
  have n0 := blk_cell h 0
  have n1 := blk_cell h 1
  simp only [List.getElem?_toArray, List.getElem?_cons_zero, List.getElem?_cons_succ] at n0 n1
  simp [go_sem, n0, n1]
def basV (k : Nat) : List Value := ((baseT.take k).map (·.1)).map strV
structure RBegIs (w0 w : World) (r tb k : Nat) : Prop where
  ex : ∃ sv, w.heap[tb]? = some (.cells #[sv, .slice none 0 0] 34) ∧ w.ownsRow w0.heap.size 9 1 sv k (basV k)
  res : w.heap[r]? = some (.cells #[.slice none 0 0, .slice none 0 0] 34)
  below : Below w0.heap.size w0 w
  lt : w0.heap.size ≤ tb ∧ w0.heap.size ≤ r
  ne : r ≠ tb
theorem rbeg_start (w : World) : RBegIs w ((w.alloc (.cells #[.slice none 0 0, .slice none 0 0] 34)).alloc (.cells #[.slice none 0 0, .slice none 0 0] 34)) w.heap.size (w.heap.size + 1) 0 := by
  refine ⟨⟨.slice none 0 0, ?_, own_nil _ _ _ _⟩, ?_, ?_, by omega, by omega⟩
  · have := blk_new (w.alloc (.cells #[.slice none 0 0, .slice none 0 0] 34)) (.cells #[.slice none 0 0, .slice none 0 0] 34)
    rwa [size_alloc] at this
  · exact blk_alloc (blk_new w _) _
  · exact ((Below.refl _ _).alloc (Nat.le_refl _) _).alloc (by simp) _
set_option maxHeartbeats 1000000 in
theorem rbegin_any (w : World) : Calls Tryz.prog 133 #[] w fun e w' => ∃ vb, e = .returned (.agg #[vb, .slice none 0 0]) ∧ RefIs w' w.heap.size baseT vb (.slice none 0 0) ∧ Below w.heap.size w w' := by
  have HS := Lib.hid (rbeg_start w)
  go_enter Tryz.func133, Tryz.ntmps133
  go_wp2_with fail
  generalize hW : (w.alloc (.cells #[.slice none 0 0, .slice none 0 0] 34)).alloc (.cells #[.slice none 0 0, .slice none 0 0] 34) = W0 at *
  clear hW
  obtain ⟨tb, ht⟩ : ∃ tb, w.heap.size + 1 = tb := ⟨_, rfl⟩
  obtain ⟨r, hr⟩ : ∃ r, w.heap.size = r := ⟨_, rfl⟩
  have HS1 : Hid (RBegIs w W0 r tb 0) := Lib.hid (by rw [← ht, ← hr]; exact HS.out)
  have HTB : Hid (w.heap.size ≤ tb) := Lib.hid (by omega)
  rw [ht, hr]
  clear HS ht hr
  go_loopg [2] 256 (fun n i W => ∃ k : Nat, k + n = 256 ∧ i = .int .i64 (k : Int) ∧ RBegIs w W r tb k)
  case atStart => exact ⟨0, rfl, rfl, HS1.out⟩
  case round =>
    obtain ⟨k, hk, rfl, hW⟩ := hrel
    have HW := Lib.hid hW
    clear HS1
    rename World => W
    by_cases hlt : k < 256
    · obtain ⟨sv, hbk, hrow⟩ := hW.ex
      have c0 := blk_cell hbk 0
      simp only [List.getElem?_toArray, List.getElem?_cons_zero] at c0
      obtain ⟨svA, svc, rfl⟩ := own_slice hrow
      have hlt' : (k : Int) < 256 := by omega
      have hbyte : IntKind.u8.wrap (k : Int) = k := IntWalk.u8_in _ (by omega)
      have hconv : (convert 70 9 (.slice (some ⟨W.heap.size, 0, none⟩) 1 1)).run Tryz.prog (W.alloc (.cells #[.int .u8 (k : Int)] 5)) = .ok (.string (bs [UInt8.ofNat k])) (W.alloc (.cells #[.int .u8 (k : Int)] 5)) := by
        refine run_convert_bytes_back _ _ _ 5 ⟨W.heap.size, 0, none⟩ 1 [UInt8.ofNat k] Tryz.underlying70 Tryz.underlying5 Tryz.underlying9 ?_
        intro j hj
        have : j = 0 := by simpa using hj
        subst this
        rw [add_plain, blk_cell (blk_new W _) 0]
        have : k % 256 = k := by omega
        simp [this]
      obtain ⟨x, hx⟩ : ∃ x, bs [UInt8.ofNat k] = x := ⟨_, rfl⟩
      rw [hx] at hconv
      have HX := Lib.hid hx
      have hb5 := (Below.refl W.heap.size W).alloc (Nat.le_refl _) (.cells #[.int .u8 (k : Int)] 5)
      have hb6 := hb5.alloc (by simp) (.cells #[.string x] 9)
      have HG : Hid (((W.alloc (.cells #[.int .u8 (k : Int)] 5)).alloc (.cells #[.string x] 9)).heap[W.heap.size + 1]? = some (.cells [Value.string x].toArray 9)) := Lib.hid (by
        have := blk_new (W.alloc (.cells #[.int .u8 (k : Int)] 5)) (.cells #[.string x] 9)
        rwa [size_alloc] at this)
      have HROW := Lib.hid (own_below hrow hb6 (Nat.le_refl _))
      have HBK := Lib.hid (blk_below hb6 (blk_lt hbk) hbk)
      have HRES := Lib.hid (blk_below hb6 (blk_lt hW.res) hW.res)
      have HB6 := Lib.hid (hW.below.trans (hb6.mono hW.below.size))
      have HLE := Lib.hid hb6.size
      have HGEN := Lib.hid (Nat.le_trans hW.below.size hb6.size)
      clear hx hb5 hb6 hbk hrow hW
      go_wp2_with (at_builtin; refine app_at (w.heap.size) 31 9 (.string ⟨#[]⟩) 1 16 [_] 1 (W.heap.size + 1) _ _ rfl rfl Tryz.underlying31 info_str4 rfl (by decide) _ _ _ rfl rfl rfl (by intro u hu; simp at hu; subst hu; rfl) HG.out HROW.out (by omega) (by omega) HGEN.out ?_)
      intro v' w1 hown1 hg1 _
      obtain ⟨A1, cA1, rfl⟩ := own_slice hown1
      have hk1 : Keep (fun g => (Value.slice svA k svc).ownBlock = some g) ((W.alloc (.cells #[.int .u8 (k : Int)] 5)).alloc (.cells #[.string x] 9)) w1 := Keep.of_grown hg1 (fun g hg => hg)
      have b1 := hk1.blk HBK.out (row_ne HROW.out HBK.out (by decide))
      have r1 := hk1.blk HRES.out (row_ne HROW.out HRES.out (by decide))
      have hb1 := HB6.out.trans (hk1.below HGEN.out (own_base HROW.out))
      have c0 := blk_cell b1 0
      have z0 := blk_froz b1 0
      simp only [List.getElem?_toArray, List.getElem?_cons_zero] at c0
      have b2 := blk_set b1 0 (.slice A1 (k + 1) cA1)
      simp only [List.setIfInBounds_toArray, List.set_cons_zero] at b2
      have HB2 := Lib.hid b2
      have HR2 := Lib.hid (blk_far (p := ⟨tb, 0, none⟩) r1 HW.out.ne (.slice A1 (k + 1) cA1))
      have K2 : Keep (fun g => g = tb) w1 (w1.setCell ⟨tb, 0, none⟩ (.slice A1 (k + 1) cA1)) := Keep.setCell (F := fun g => g = tb) (p := ⟨tb, 0, none⟩) (Keep.refl _ _) (Or.inl rfl) _
      have HO2 := Lib.hid (own_keep hown1 K2 (fun g hg e => row_ne hown1 b1 (by decide) (by rw [hg, e])))
      have HBE2 := Lib.hid (hb1.setCell (p := ⟨tb, 0, none⟩) HTB.out (.slice A1 (k + 1) cA1))
      rename_i c0o _
      clear hown1 hg1 hk1 b1 r1 hb1 b2 K2 hconv
      go_wp2_with fail
      go_roundg (gk - 1)
      case measure => omega
      case rel =>
        refine ⟨k + 1, by omega, by simp, ⟨⟨_, HB2.out, ?_⟩, HR2.out, HBE2.out, HW.out.lt, HW.out.ne⟩⟩
        have e5 : basV (k + 1) = basV k ++ [.string x] := by
          unfold basV
          rw [base_take k hlt]
          simp [strV, HX.out]
        rw [e5]
        exact HO2.out
    · have : k = 256 := by omega
      subst this
      obtain ⟨sv, hbk, hrow⟩ := hW.ex
      obtain ⟨svA, svc, rfl⟩ := own_slice hrow
      have c0 := blk_cell hbk 0
      have c1 := blk_cell hbk 1
      have z0 := blk_froz hW.res 0
      have z1 := blk_froz hW.res 1
      have d0 := blk_cell hW.res 0
      have d1 := blk_cell hW.res 1
      simp only [List.getElem?_toArray, List.getElem?_cons_zero, List.getElem?_cons_succ] at c0 c1 d0 d1
      have HROW := Lib.hid hrow
      clear hW hbk hrow
      go_wp2_with fail
      refine ret_cell1 (r := r) rfl rfl (load_ref (by exact blk_set (blk_set HW.out.res 0 _) 1 _)) ?_
      refine ⟨_, rfl, ?_, (HW.out.below.setCell (p := ⟨r, 0, none⟩) HW.out.lt.2 _).setCell (p := ⟨r, 1, none⟩) HW.out.lt.2 _⟩
      have K3 : ∀ (W : World) (i : Nat) (u : Value), Keep (fun g => g = r) W (W.setCell ⟨r, i, none⟩ u) := fun W i u => Keep.setCell (F := fun g => g = r) (p := ⟨r, i, none⟩) (Keep.refl _ _) (Or.inl rfl) _
      have hne : ∀ g, (Value.slice svA 256 svc).ownBlock = some g → ¬ g = r := fun g hg e => row_ne HROW.out HW.out.res (by decide) (by rw [hg, e])
      refine ⟨?_, own_nil _ _ _ _, fun _ => rfl⟩
      have e6 : basV 256 = (bytsT baseT).map strV := by
        unfold basV bytsT
        rw [List.take_of_length_le (by rw [base_len]; decide)]
      rw [← e6, base_len]
      exact own_keep (own_keep HROW.out (K3 _ 0 _) hne) (K3 _ 1 _) hne
structure RAdd (w W : World) (base : Nat) (T : List Ent) (A : Option Addr) (c : Nat) (A2 : Option Addr) (c2 : Nat) (a b : Int) (r0 r1 r2 : Nat) : Prop where
  t : W.heap[r0]? = some (.cells #[.slice A T.length c, .slice A2 (mrgsT T).length c2] 34)
  m : W.heap[r1]? = some (.cells #[.int .i64 a, .int .i64 b] 113)
  r : W.heap[r2]? = some (.cells #[.slice none 0 0, .slice none 0 0] 34)
  ref : RefIs W base T (.slice A T.length c) (.slice A2 (mrgsT T).length c2)
  below : Below w.heap.size w W
  le : w.heap.size ≤ r0 ∧ w.heap.size ≤ r1 ∧ w.heap.size ≤ r2
theorem RAdd.step {w W W' : World} {base : Nat} {T : List Ent} {A : Option Addr} {c : Nat} {A2 : Option Addr} {c2 : Nat} {a b : Int} {r0 r1 r2 : Nat} (h : RAdd w W base T A c A2 c2 a b r0 r1 r2) (hb : Below W.heap.size W W') : RAdd w W' base T A c A2 c2 a b r0 r1 r2 :=
  ⟨blk_below hb (blk_lt h.t) h.t, blk_below hb (blk_lt h.m) h.m, blk_below hb (blk_lt h.r) h.r, h.ref.below hb (Nat.le_refl _), h.below.trans (hb.mono h.below.size), h.le⟩
theorem RAdd.drewN {w W : World} {base : Nat} {T : List Ent} {A : Option Addr} {c : Nat} {A2 : Option Addr} {c2 : Nat} {a b : Int} {r0 r1 r2 : Nat} (h : RAdd w W base T A c A2 c2 a b r0 r1 r2) (n : Nat) : RAdd w (W.drewN n) base T A c A2 c2 a b r0 r1 r2 := h.step (below_drewN (Below.refl _ _) n)
theorem RAdd.cells {w W : World} {base : Nat} {T : List Ent} {A : Option Addr} {c : Nat} {A2 : Option Addr} {c2 : Nat} {a b : Int} {r0 r1 r2 : Nat} (h : RAdd w W base T A c A2 c2 a b r0 r1 r2) :
    W.cell? ⟨r0, 0, none⟩ = some (.slice A T.length c) ∧ W.cell? ⟨r0, 1, none⟩ = some (.slice A2 (mrgsT T).length c2) ∧ W.cell? ⟨r1, 0, none⟩ = some (.int .i64 a) ∧ W.cell? ⟨r1, 1, none⟩ = some (.int .i64 b) ∧
    W.cell? ⟨r2, 0, none⟩ = some (.slice none 0 0) ∧ W.cell? ⟨r2, 1, none⟩ = some (.slice none 0 0) ∧ W.frozen? ⟨r2, 0, none⟩ = false ∧ W.frozen? ⟨r2, 1, none⟩ = false :=
  ⟨blk_cell h.t 0, blk_cell h.t 1, blk_cell h.m 0, blk_cell h.m 1, blk_cell h.r 0, blk_cell h.r 1, blk_froz h.r 0, blk_froz h.r 1⟩
theorem radd_start {w : World} {base : Nat} {T : List Ent} {A : Option Addr} {c : Nat} {A2 : Option Addr} {c2 : Nat} (a b : Int) (h : RefIs w base T (.slice A T.length c) (.slice A2 (mrgsT T).length c2)) :
    RAdd w (((w.alloc (.cells #[.slice A T.length c, .slice A2 (mrgsT T).length c2] 34)).alloc (.cells #[.int .i64 a, .int .i64 b] 113)).alloc (.cells #[.slice none 0 0, .slice none 0 0] 34)) base T A c A2 c2 a b w.heap.size (w.heap.size + 1) (w.heap.size + 1 + 1) := by
  have hb := (((Below.refl w.heap.size w).alloc (Nat.le_refl _) (.cells #[.slice A T.length c, .slice A2 (mrgsT T).length c2] 34)).alloc (by simp) (.cells #[.int .i64 a, .int .i64 b] 113)).alloc (by simp; omega) (.cells #[.slice none 0 0, .slice none 0 0] 34)
  refine ⟨blk_alloc (blk_alloc (blk_new w _) _) _, ?_, ?_, h.below hb (Nat.le_refl _), hb, by omega⟩
  · refine blk_alloc ?_ _
    have := blk_new (w.alloc (.cells #[.slice A T.length c, .slice A2 (mrgsT T).length c2] 34)) (.cells #[.int .i64 a, .int .i64 b] 113)
    rwa [size_alloc] at this
  · have := blk_new ((w.alloc (.cells #[.slice A T.length c, .slice A2 (mrgsT T).length c2] 34)).alloc (.cells #[.int .i64 a, .int .i64 b] 113)) (.cells #[.slice none 0 0, .slice none 0 0] 34)
    rwa [size_alloc, size_alloc] at this
theorem ret_ref {fn : Func} {R : Ending → World → Prop} {tmps : Array Value} {w : World} {r : Nat} {A B : Option Addr} {n m c d : Nat} {x : Int} {p q : Tmp}
    (h : fn.results = #[.cell p 34, .tmp q]) (hp : tmps.getD p undef = .pointer (some ⟨r, 0, none⟩)) (hq : tmps.getD q undef = .int .i64 x)
    (hl : w.heap[r]? = some (.cells #[.slice A n c, .slice B m d] 34))
    (hR : R (.returned (.tuple #[.agg #[.slice A n c, .slice B m d], .int .i64 x])) w) : bodyPost Tryz.prog fn R .ret ⟨tmps, []⟩ w := by
  refine bodyPost_ret (v := .tuple #[.agg #[.slice A n c, .slice B m d], .int .i64 x]) ?_ rfl hR
  rw [results_cell_tmp h, hp, hq]
  simp [asAddr, load_ref hl, Result.andThen]
theorem RAdd.same {w W : World} {base : Nat} {T : List Ent} {A : Option Addr} {c : Nat} {A2 : Option Addr} {c2 : Nat} {a b : Int} {r0 r1 r2 : Nat} (h : RAdd w W base T A c A2 c2 a b r0 r1 r2) :
    ((W.setCell ⟨r2, 0, none⟩ (.slice A T.length c)).setCell ⟨r2, 1, none⟩ (.slice A2 (mrgsT T).length c2)).heap[r2]? = some (.cells #[.slice A T.length c, .slice A2 (mrgsT T).length c2] 34) ∧
    Below w.heap.size w ((W.setCell ⟨r2, 0, none⟩ (.slice A T.length c)).setCell ⟨r2, 1, none⟩ (.slice A2 (mrgsT T).length c2)) ∧
    RefIs ((W.setCell ⟨r2, 0, none⟩ (.slice A T.length c)).setCell ⟨r2, 1, none⟩ (.slice A2 (mrgsT T).length c2)) base T (.slice A T.length c) (.slice A2 (mrgsT T).length c2) := by
  have K3 : ∀ (W : World) (i : Nat) (u : Value), Keep (fun g => g = r2) W (W.setCell ⟨r2, i, none⟩ u) := fun W i u => Keep.setCell (F := fun g => g = r2) (p := ⟨r2, i, none⟩) (Keep.refl _ _) (Or.inl rfl) _
  refine ⟨by simpa using blk_set (blk_set h.r 0 _) 1 _, (h.below.setCell (p := ⟨r2, 0, none⟩) h.le.2.2 _).setCell (p := ⟨r2, 1, none⟩) h.le.2.2 _, ?_, ?_, h.ref.nil⟩
  · exact own_keep (own_keep h.ref.row (K3 _ 0 _) (fun g hg e => row_ne h.ref.row h.r (by decide) (by rw [hg, e]))) (K3 _ 1 _) (fun g hg e => row_ne h.ref.row h.r (by decide) (by rw [hg, e]))
  · exact own_keep (own_keep h.ref.mrg (K3 _ 0 _) (fun g hg e => row_ne h.ref.mrg h.r (by decide) (by rw [hg, e]))) (K3 _ 1 _) (fun g hg e => row_ne h.ref.mrg h.r (by decide) (by rw [hg, e]))
def RAddOk (w : World) (base : Nat) (T : List Ent) (a b : Int) (e : Ending) (w' : World) : Prop :=
  Below w.heap.size w w' ∧ ∃ A' n' c' A2' m' c2', e = .returned (.tuple #[.agg #[.slice A' n' c', .slice A2' m' c2'], .int .i64 (addT T a b).2.1]) ∧ RefIs w' base (addT T a b).2.2 (.slice A' n' c') (.slice A2' m' c2')
theorem RAdd.err {w W : World} {base : Nat} {T : List Ent} {A : Option Addr} {c : Nat} {A2 : Option Addr} {c2 : Nat} {a b : Int} {r0 r1 r2 : Nat} (h : RAdd w W base T A c A2 c2 a b r0 r1 r2) {x : Int} (hx : addT T a b = (0, x, T)) :
    RAddOk w base T a b (.returned (.tuple #[.agg #[.slice A T.length c, .slice A2 (mrgsT T).length c2], .int .i64 x])) ((W.setCell ⟨r2, 0, none⟩ (.slice A T.length c)).setCell ⟨r2, 1, none⟩ (.slice A2 (mrgsT T).length c2)) :=
  ⟨h.same.2.1, _, _, _, _, _, _, by rw [hx], by rw [hx]; exact h.same.2.2⟩
set_option maxHeartbeats 2000000 in
theorem radd_err {w : World} {base : Nat} {T : List Ent} {A : Option Addr} {c : Nat} {A2 : Option Addr} {c2 : Nat} (a b : Int) (h : RefIs w base T (.slice A T.length c) (.slice A2 (mrgsT T).length c2)) (hT : OkT T) (he : (addT T a b).2.1 ≠ 0) :
    Calls Tryz.prog 134 #[.agg #[.slice A T.length c, .slice A2 (mrgsT T).length c2], .agg #[.int .i64 a, .int .i64 b]] w (RAddOk w base T a b) := by
  have HS := Lib.hid (radd_start a b h)
  have HOK := Lib.hid hT
  have HE := Lib.hid he
  obtain ⟨t0, t1, m0, m1, _, _, _, _⟩ := HS.out.cells
  clear h hT he
  go_enter Tryz.func134, Tryz.ntmps134
  go_wp2_with fail
  generalize hW : ((w.alloc (.cells #[.slice A T.length c, .slice A2 (mrgsT T).length c2] 34)).alloc (.cells #[.int .i64 a, .int .i64 b] 113)).alloc (.cells #[.slice none 0 0, .slice none 0 0] 34) = W at *
  clear hW
  obtain ⟨r2, hr2⟩ : ∃ r2, w.heap.size + 1 + 1 = r2 := ⟨_, rfl⟩
  obtain ⟨r1, hr1⟩ : ∃ r1, w.heap.size + 1 = r1 := ⟨_, rfl⟩
  obtain ⟨r0, hr0⟩ : ∃ r0, w.heap.size = r0 := ⟨_, rfl⟩
  have HS1 : Hid (RAdd w W base T A c A2 c2 a b r0 r1 r2) := Lib.hid (by rw [← hr2, ← hr1, ← hr0]; exact HS.out)
  rw [hr2, hr1, hr0]
  clear HS hr2 hr1 hr0 t0 t1 m0 m1
  refine (rhas_any a HS1.out.ref).mono ?_
  rintro e W1 ⟨rfl, hb1⟩
  have HS2 := Lib.hid (HS1.out.step hb1)
  obtain ⟨t0, t1, m0, m1, d0, d1, z0, z1⟩ := HS2.out.cells
  clear hb1 HS1
  cases ha : hasT T a with
  | false =>
    go_wp2_with fail
    refine ret_ref (r := r2) rfl rfl rfl HS2.out.same.1 (HS2.out.err (x := 4) ?_)
    simp [addT, ha]
  | true =>
    have HA := Lib.hid ha
    clear ha
    go_wp2_with fail
    refine (rhas_any b HS2.out.ref).mono ?_
    rintro e W2 ⟨rfl, hb2⟩
    have HS3 := Lib.hid (HS2.out.step hb2)
    clear t0 t1 m0 m1 d0 d1 z0 z1 hb2 HS2
    obtain ⟨t0, t1, m0, m1, d0, d1, z0, z1⟩ := HS3.out.cells
    cases hb : hasT T b with
    | false =>
      go_wp2_with fail
      refine ret_ref (r := r2) rfl rfl rfl HS3.out.same.1 (HS3.out.err (x := 4) ?_)
      simp [addT, hb]
    | true =>
      have HAB := Lib.hid hb
      obtain ⟨k, rfl, hk, ek⟩ := hasT_at HA.out
      obtain ⟨l, rfl, hl, el⟩ := hasT_at hb
      obtain ⟨ba, o, rfl, g0⟩ := (own_sl1 HS3.out.ref.row).at k (by simpa [bytsT] using hk)
      obtain ⟨ba', o', e', g1⟩ := (own_sl1 HS3.out.ref.row).at l (by simpa [bytsT] using hl)
      cases e'
      simp only [bytsT, List.getElem_map, strV] at g0 g1
      have hX := HOK.out.len T[k] (List.getElem_mem hk)
      have hY := HOK.out.len T[l] (List.getElem_mem hl)
      have EK := Lib.hid ek
      have EL := Lib.hid el
      have HSM := Lib.hid HOK.out.small
      obtain ⟨X, hXe⟩ : ∃ X, T[k].1 = X := ⟨_, rfl⟩
      obtain ⟨Y, hYe⟩ : ∃ Y, T[l].1 = Y := ⟨_, rfl⟩
      rw [hXe] at g0 hX
      rw [hYe] at g1 hY
      have HXE := Lib.hid hXe
      have HYE := Lib.hid hYe
      have hbig : (9223372036854775807 < (bs X).size + (bs Y).size) = False := by rw [eq_iff_iff, iff_false, bs_size, bs_size]; omega
      have HX := Lib.hid hX
      have HY := Lib.hid hY
      have q0 : 0 ≤ (k : Int) := by omega
      have q1 : (k : Int) < (T.length : Int) := by omega
      have q2 : 0 ≤ (l : Int) := by omega
      have q3 : (l : Int) < (T.length : Int) := by omega
      clear hb ek el hXe hYe hX hY
      go_wp2_with fail
      go_quiet (fail)
      rw [bs_append]
      obtain ⟨z, hz⟩ : ∃ z, bs (X ++ Y) = z := ⟨_, rfl⟩
      have hzs : z.size = (X ++ Y).length := by rw [← hz, bs_size]
      have HZ := Lib.hid hz
      have HZS := Lib.hid hzs
      rw [hz]
      clear hz hbig g0 g1 q0 q1 q2 q3 hzs
      have HS4 := Lib.hid (HS3.out.drewN nq)
      clear t0 t1 m0 m1 d0 d1 z0 z1 HS3
      generalize W2.drewN nq = W3 at *
      obtain ⟨t0, t1, m0, m1, d0, d1, z0, z1⟩ := HS4.out.cells
      by_cases h64 : (64 : Int) < (z.size : Int)
      · go_wp2_with fail
        refine ret_ref (r := r2) rfl rfl rfl HS4.out.same.1 (HS4.out.err (x := 3) ?_)
        exact addT_long HA.out HAB.out (by rw [EK.out, HXE.out]) (by rw [EL.out, HYE.out]) (by have := HZS.out; omega)
      · by_cases h1000 : (1000 : Int) ≤ (T.length : Int)
        · go_wp2_with fail
          refine ret_ref (r := r2) rfl rfl rfl HS4.out.same.1 (HS4.out.err (x := 5) ?_)
          exact addT_full HA.out HAB.out (by rw [EK.out, HXE.out]) (by rw [EL.out, HYE.out]) (by have := HZS.out; omega) (by omega)
        · have HRF := Lib.hid (rfind_any (X ++ Y) HS4.out.ref HSM.out)
          unfold strV at HRF
          rw [HZ.out] at HRF
          go_wp2_with fail
          refine HRF.out.mono ?_
          rintro e W4 ⟨rfl, hb4⟩
          have HS5 := Lib.hid (HS4.out.step hb4)
          clear t0 t1 m0 m1 d0 d1 z0 z1 HS4 HRF hb4
          obtain ⟨t0, t1, m0, m1, d0, d1, z0, z1⟩ := HS5.out.cells
          cases hf : findT T (X ++ Y) with
          | none =>
            exfalso
            have := HE.out
            rw [addT_ok HA.out HAB.out (by rw [EK.out, HXE.out]) (by rw [EL.out, HYE.out]) (by have := HZS.out; omega) (by omega) (by rw [hf]; rfl)] at this
            exact this rfl
          | some i =>
            have hi : findI T (X ++ Y) = (i : Int) := by unfold findI; rw [hf]
            rw [hi]
            have HF := Lib.hid hf
            have h0i : 0 ≤ (i : Int) := by omega
            clear hf hi
            go_wp2_with fail
            refine ret_ref (r := r2) rfl rfl rfl HS5.out.same.1 (HS5.out.err (x := 10) ?_)
            exact addT_twice HA.out HAB.out (by rw [EK.out, HXE.out]) (by rw [EL.out, HYE.out]) (by have := HZS.out; omega) (by omega) (by rw [HF.out]; rfl)
end Go.Proofs.YtkkcekgbnloegaaGreat
