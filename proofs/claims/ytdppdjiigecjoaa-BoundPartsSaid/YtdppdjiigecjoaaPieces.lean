/- Layer 8 (bound): what the pieces of bytes are, as plain lists. -/
import Derived.Test.YtdppdjiigecjoaaMem
namespace Go.Proofs.Ytdppdjiigecjoaa

/-- is it cut behind the last byte of a piece? -/
def cutLast (cut : Nat → Nat → Bool) (p : List UInt8) (c : UInt8) : Bool := match p.getLast? with | none => false | some d => cut d.toNat c.toNat
theorem cutLast_snoc (cut : Nat → Nat → Bool) (p : List UInt8) (d c : UInt8) : cutLast cut (p ++ [d]) c = cut d.toNat c.toNat := by simp [cutLast]
/-- one more byte: a new piece where it is cut (or nothing is there yet), else the last piece grows -/
def addByte (cut : Nat → Nat → Bool) (acc : List (List UInt8)) (c : UInt8) : List (List UInt8) :=
  match acc.getLast? with
  | none => [[c]]
  | some p => if cutLast cut p c then acc ++ [[c]] else acc.dropLast ++ [p ++ [c]]
def pcs (cut : Nat → Nat → Bool) (l : List UInt8) : List (List UInt8) := l.foldl (addByte cut) []
theorem pcs_snoc (cut : Nat → Nat → Bool) (l : List UInt8) (c : UInt8) : pcs cut (l ++ [c]) = addByte cut (pcs cut l) c := by simp [pcs]
theorem pcs_nil (cut : Nat → Nat → Bool) : pcs cut [] = [] := rfl
theorem pcs_one (cut : Nat → Nat → Bool) (c : UInt8) : pcs cut [c] = [[c]] := rfl

theorem addByte_new {cut : Nat → Nat → Bool} {acc : List (List UInt8)} {p : List UInt8} {d c : UInt8} (h : cut d.toNat c.toNat = true) : addByte cut (acc ++ [p ++ [d]]) c = acc ++ [p ++ [d]] ++ [[c]] := by
  simp [addByte, cutLast_snoc, h]
theorem addByte_grow {cut : Nat → Nat → Bool} {acc : List (List UInt8)} {p : List UInt8} {d c : UInt8} (h : cut d.toNat c.toNat = false) : addByte cut (acc ++ [p ++ [d]]) c = acc ++ [p ++ [d] ++ [c]] := by
  simp [addByte, cutLast_snoc, h]

/-- The state of the walk over the bytes l: 'done' are closed, the open one begins at 'f'; i bytes are taken. -/
def Open (cut : Nat → Nat → Bool) (l : List UInt8) (done : List (List UInt8)) (f i : Nat) : Prop :=
  f < i ∧ i ≤ l.length ∧ pcs cut (l.take i) = done ++ [(l.drop f).take (i - f)]

theorem open_start (cut : Nat → Nat → Bool) (l : List UInt8) (h : 0 < l.length) : Open cut l [] 0 1 := by
  refine ⟨by omega, by omega, ?_⟩
  cases l with
  | nil => simp at h
  | cons c l => simp [pcs_one]

theorem slice_snoc (l : List UInt8) (f i : Nat) (h : f ≤ i) (hi : i < l.length) : (l.drop f).take (i + 1 - f) = (l.drop f).take (i - f) ++ [l[i]] := by
  rw [show i + 1 - f = (i - f) + 1 by omega, List.take_succ_eq_append_getElem (by rw [List.length_drop]; omega)]
  congr 2
  rw [List.getElem_drop]
  congr 1
  omega

theorem open_last {l : List UInt8} {f i : Nat} (h : f < i) (hi : i ≤ l.length) : (l.drop f).take (i - f) = (l.drop f).take (i - 1 - f) ++ [l[i - 1]] := by
  have := slice_snoc l f (i - 1) (by omega) (by omega)
  rwa [show i - 1 + 1 = i by omega] at this

theorem open_cut {cut : Nat → Nat → Bool} {l : List UInt8} {done : List (List UInt8)} {f i : Nat} (h : Open cut l done f i) (hi : i < l.length) (hc : cut (l[i - 1]'(by omega)).toNat l[i].toNat = true) :
    Open cut l (done ++ [(l.drop f).take (i - f)]) i (i + 1) := by
  obtain ⟨h1, h2, h3⟩ := h
  refine ⟨by omega, by omega, ?_⟩
  rw [take_snoc hi, pcs_snoc, h3, open_last h1 h2, addByte_new hc, show i + 1 - i = 0 + 1 by omega, List.take_succ_eq_append_getElem (by rw [List.length_drop]; omega)]
  simp

theorem open_grow {cut : Nat → Nat → Bool} {l : List UInt8} {done : List (List UInt8)} {f i : Nat} (h : Open cut l done f i) (hi : i < l.length) (hc : cut (l[i - 1]'(by omega)).toNat l[i].toNat = false) :
    Open cut l done f (i + 1) := by
  obtain ⟨h1, h2, h3⟩ := h
  refine ⟨by omega, by omega, ?_⟩
  rw [take_snoc hi, pcs_snoc, h3, open_last h1 h2, addByte_grow hc, ← open_last h1 h2, slice_snoc l f i (by omega) hi]

theorem open_end {cut : Nat → Nat → Bool} {l : List UInt8} {done : List (List UInt8)} {f : Nat} (h : Open cut l done f l.length) : pcs cut l = done ++ [(l.drop f).take (l.length - f)] := by
  have := h.2.2
  rwa [List.take_length] at this

/-! what the pieces are: none is empty, together they are the bytes, each is whole, between each two there is a cut -/
def whole (cut : Nat → Nat → Bool) : List UInt8 → Bool
  | a :: b :: l => !cut a.toNat b.toNat && whole cut (b :: l)
  | _ => true
theorem length_pcs_le (cut : Nat → Nat → Bool) (l : List UInt8) : (pcs cut l).length ≤ l.length := by
  have key : ∀ (l : List UInt8) (acc : List (List UInt8)), (l.foldl (addByte cut) acc).length ≤ acc.length + l.length := by
    intro l
    induction l with
    | nil => intro acc; simp
    | cons c l ih =>
      intro acc
      rw [List.foldl_cons]
      refine Nat.le_trans (ih _) ?_
      have : (addByte cut acc c).length ≤ acc.length + 1 := by
        unfold addByte
        split
        · simp
        · split
          · simp
          · simp
      simp only [List.length_cons]
      omega
  have := key l []
  simpa [pcs] using this

theorem addByte_ends (cut : Nat → Nat → Bool) (acc : List (List UInt8)) (c : UInt8) : ∃ init p, addByte cut acc c = init ++ [p ++ [c]] := by
  unfold addByte
  split
  · exact ⟨[], [], rfl⟩
  · rename_i p hp
    split
    · exact ⟨acc, [], rfl⟩
    · exact ⟨acc.dropLast, p, rfl⟩
theorem pcs_ends (cut : Nat → Nat → Bool) (l : List UInt8) (c : UInt8) : ∃ init p, pcs cut (l ++ [c]) = init ++ [p ++ [c]] := by
  rw [pcs_snoc]; exact addByte_ends cut _ c
/-- the pieces with room for the next byte: a new empty one, or as they are -/
def midP (new : Bool) (acc : List (List UInt8)) : List (List UInt8) := if new then acc ++ [[]] else acc
def setLast (mid : List (List UInt8)) (c : UInt8) : List (List UInt8) := mid.set (mid.length - 1) (mid.getD (mid.length - 1) [] ++ [c])
theorem setLast_snoc (init : List (List UInt8)) (p : List UInt8) (c : UInt8) : setLast (init ++ [p]) c = init ++ [p ++ [c]] := by
  unfold setLast
  simp
theorem pcs_first (cut : Nat → Nat → Bool) (c : UInt8) : pcs cut ([] ++ [c]) = setLast (midP true (pcs cut [])) c := by
  rw [pcs_nil]; rfl
theorem pcs_next (cut : Nat → Nat → Bool) (l : List UInt8) (d c : UInt8) : pcs cut (l ++ [d] ++ [c]) = setLast (midP (cut d.toNat c.toNat) (pcs cut (l ++ [d]))) c := by
  rw [pcs_snoc]
  obtain ⟨init, p, h⟩ := pcs_ends cut l d
  rw [h]
  cases hc : cut d.toNat c.toNat with
  | true => rw [addByte_new hc]; unfold midP; rw [if_pos rfl, setLast_snoc]; rfl
  | false => rw [addByte_grow hc]; unfold midP; rw [if_neg (by simp), setLast_snoc]
theorem midP_pos {new : Bool} {acc : List (List UInt8)} (h : new = true ∨ acc ≠ []) : 0 < (midP new acc).length := by
  unfold midP
  cases new with
  | true => simp
  | false => simp; cases acc with
    | nil => simp at h
    | cons a l => simp

/-- is the byte at k the first of a piece? -/
def newAt (cut : Nat → Nat → Bool) (l : List UInt8) : Nat → Bool
  | 0 => true
  | k + 1 => cut (l.getD k 0).toNat (l.getD (k + 1) 0).toNat
theorem pcs_step (cut : Nat → Nat → Bool) (l : List UInt8) (k : Nat) (h : k < l.length) : pcs cut (l.take (k + 1)) = setLast (midP (newAt cut l k) (pcs cut (l.take k))) l[k] := by
  rw [take_snoc h]
  cases k with
  | zero => rw [List.take_zero, pcs_first]; rfl
  | succ k =>
    rw [take_snoc (show k < l.length by omega), pcs_next]
    have e : newAt cut l (k + 1) = cut l[k].toNat l[k + 1].toNat := by
      show cut (l.getD k 0).toNat (l.getD (k + 1) 0).toNat = _
      rw [List.getD_eq_getElem?_getD, List.getD_eq_getElem?_getD, List.getElem?_eq_getElem h, List.getElem?_eq_getElem (show k < l.length by omega)]
      rfl
    rw [e]
theorem mid_pos (cut : Nat → Nat → Bool) (l : List UInt8) (k : Nat) (h : k < l.length) : 0 < (midP (newAt cut l k) (pcs cut (l.take k))).length := by
  apply midP_pos
  cases k with
  | zero => exact .inl rfl
  | succ k =>
    refine .inr ?_
    rw [take_snoc (show k < l.length by omega)]
    obtain ⟨init, p, e⟩ := pcs_ends cut (l.take k) l[k]
    rw [e]
    simp
theorem pcs_flatten (cut : Nat → Nat → Bool) (l : List UInt8) : (pcs cut l).flatten = l := by
  have key : ∀ (l : List UInt8) (acc : List (List UInt8)), (l.foldl (addByte cut) acc).flatten = acc.flatten ++ l := by
    intro l
    induction l with
    | nil => intro acc; simp
    | cons c l ih =>
      intro acc
      rw [List.foldl_cons, ih]
      have : (addByte cut acc c).flatten = acc.flatten ++ [c] := by
        unfold addByte
        split
        · rename_i h; rw [List.getLast?_eq_none_iff] at h; rw [h]; rfl
        · rename_i p h
          obtain ⟨ini, e⟩ : ∃ ini, acc = ini ++ [p] := List.getLast?_eq_some_iff.1 h
          split
          · simp
          · rw [e]; simp
      rw [this]; simp
  have := key l []
  simpa [pcs] using this
end Go.Proofs.Ytdppdjiigecjoaa
