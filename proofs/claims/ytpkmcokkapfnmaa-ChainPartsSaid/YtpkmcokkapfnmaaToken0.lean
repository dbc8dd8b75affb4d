/- Layer 4 (token): a table in memory; what is read of it. -/
import Derived.Test.YtpkmcokkapfnmaaProg
import Derived.Test.YtpkmcokkapfnmaaRegion
import Derived.Test.YtpkmcokkapfnmaaTok
namespace Go.Proofs.Ytpkmcokkapfnmaa
open Go.RowKit Go.Maps Go.WideMaps
set_option maxRecDepth 100000
set_option linter.unusedVariables false
set_option linter.unusedSimpArgs false

theorem bs_size (a : List UInt8) : (bs a).size = a.length := by simp [bs, ByteArray.size]
/-! keys -/
def pairV (m : Int × Int) : Value := .agg #[.int .i64 m.1, .int .i64 m.2]
theorem pairV_inj : ∀ x y, pairV x = pairV y → x = y := by
  intro x y h
  simp only [pairV, Value.agg.injEq, Array.mk.injEq, List.cons.injEq, Value.int.injEq, true_and, and_true] at h
  exact Prod.ext h.1 h.2
theorem strV_inj : ∀ x y, strV x = strV y → x = y := by
  intro x y h
  simp only [strV, Value.string.injEq] at h
  exact bs_inj h
theorem keyed_str : Keyed Try.prog 9 := string_keyed Try.underlying9
theorem key_str (s : List UInt8) (h : s.length ≤ maxLen) : ∃ l, keyOf Try.prog 9 (strV s) = some l := ⟨_, keyOf_string_mk Try.underlying9 (by show (bs s).size ≤ maxLen; rw [bs_size]; exact h)⟩
theorem mrg_laidOut : laidOutB Try.prog = true := by kernel_rfl
theorem mrg_row : (71 : TypeId) < Try.prog.types.size := of_decide_eq_true (by kernel_rfl)
theorem mrg_wide : (match Try.prog.underlying 71 with | some (.array _ _) | some (.struct _) => true | _ => false) = true := by rw [Try.underlying71]
theorem keyed_mrg : Keyed Try.prog 71 := Keyed.of_law (deep_law_laid mrg_laidOut (m := 2) (by omega) mrg_row (by kernel_rfl) mrg_wide)
theorem key_mrg (m : Int × Int) (h1 : (Lit.int .i64 m.1).wf = true) (h2 : (Lit.int .i64 m.2).wf = true) : ∃ l, keyOf Try.prog 71 (pairV m) = some l := by
  have hk : Try.prog.keyType 71 = true := by kernel_rfl
  have hc : Try.prog.cellsOf 71 = 2 := by kernel_rfl
  have hi : Try.prog.cellsOf 3 = 1 := by kernel_rfl
  obtain ⟨n, hn⟩ : ∃ n, Try.prog.types.size = n + 1 := Nat.exists_eq_succ_of_ne_zero (Nat.ne_of_gt (Nat.lt_of_le_of_lt (Nat.zero_le _) mrg_row))
  have h3 : ∀ d c, (Lit.int .i64 c).wf = true → Try.prog.keyLits (d + 1) 3 [.int .i64 c] = some [.int .i64 c] := fun d c hcw => by simp [Program.keyLits, Try.underlying3, hcw]
  refine ⟨.string (keyBytes [.int .i64 m.1, .int .i64 m.2]), ?_⟩
  unfold keyOf
  rw [Try.underlying71]
  simp only []
  rw [hk, hn]
  have hcl : (pairV m).cells.toList = [.int .i64 m.1, .int .i64 m.2] := rfl
  rw [hcl]
  unfold Program.keyLits
  rw [Try.underlying71]
  simp [hc, hi, h3, h1, h2, Value.formed, pairV, Try.underlying71]
theorem zero_int (w : World) : (zeroValue 3).run Try.prog w = .ok (.int .i64 0) w := by kernel_rfl

/-! the table -/
def encE (e : Ent) : List Value := [strV e.1, .int .i64 e.2.1, .int .i64 e.2.2]
structure TabIs (w : World) (base tb : Nat) (T : List Ent) (sv : Value) (mb mp : Nat) : Prop where
  blk : w.heap[tb]? = some (.cells #[sv, .map (some mb), .map (some mp), .int .i64 (longT T : Nat)] 97)
  row : w.ownsRow base 93 3 sv T.length (T.flatMap encE)
  bys : MapOf Try.prog 9 3 strV w mb T.length (fun s => (findT T s).map Int.ofNat)
  prs : MapOf Try.prog 71 3 pairV w mp T.length (fun m => (pairT T m).map Int.ofNat)
  ne : mb ≠ mp
  lt : base ≤ tb ∧ base ≤ mb ∧ base ≤ mp
def tabF (tb : Nat) (sv : Value) (mb mp : Nat) (k : Nat) : Prop := k = tb ∨ sv.ownBlock = some k ∨ k = mb ∨ k = mp
theorem TabIs.drewN {w : World} {base tb : Nat} {T : List Ent} {sv : Value} {mb mp : Nat} (h : TabIs w base tb T sv mb mp) (n : Nat) : TabIs (w.drewN n) base tb T sv mb mp := ⟨h.blk, h.row, h.bys, h.prs, h.ne, h.lt⟩
theorem TabIs.drew {w : World} {base tb : Nat} {T : List Ent} {sv : Value} {mb mp : Nat} (h : TabIs w base tb T sv mb mp) : TabIs w.drew base tb T sv mb mp := ⟨h.blk, h.row, h.bys, h.prs, h.ne, h.lt⟩
theorem TabIs.keep {F : Nat → Prop} {w w' : World} {base tb : Nat} {T : List Ent} {sv : Value} {mb mp : Nat} (h : TabIs w base tb T sv mb mp) (k : Keep F w w') (hF : ∀ x, tabF tb sv mb mp x → ¬ F x) : TabIs w' base tb T sv mb mp :=
  ⟨k.blk h.blk (hF _ (.inl rfl)), own_keep h.row k (fun g hg => hF _ (.inr (.inl hg))), h.bys.keep k (hF _ (.inr (.inr (.inl rfl)))), h.prs.keep k (hF _ (.inr (.inr (.inr rfl)))), h.ne, h.lt⟩
theorem TabIs.below {B : Nat} {w w' : World} {base tb : Nat} {T : List Ent} {sv : Value} {mb mp : Nat} (h : TabIs w base tb T sv mb mp) (hb : Below B w w') (hB : w.heap.size ≤ B) : TabIs w' base tb T sv mb mp :=
  ⟨blk_below hb (Nat.lt_of_lt_of_le (blk_lt h.blk) hB) h.blk, own_below h.row hb hB, h.bys.below hb (Nat.lt_of_lt_of_le h.bys.lt hB), h.prs.below hb (Nat.lt_of_lt_of_le h.prs.lt hB), h.ne, h.lt⟩

section
variable {w : World} {base tb : Nat} {T : List Ent} {sv : Value} {mb mp : Nat}
theorem len_nil (w : World) : Calls Try.prog 36 #[.pointer none] w fun e w' => e = .returned (.int .i64 0) ∧ w' = w := by
  go_enter Try.func36, Try.ntmps36
  go_wp2
  go_ret
  exact ⟨rfl, rfl⟩
theorem len_tab (h : TabIs w base tb T sv mb mp) : Calls Try.prog 36 #[.pointer (some ⟨tb, 0, none⟩)] w fun e w' => e = .returned (.int .i64 (T.length : Nat)) ∧ w' = w := by
  obtain ⟨A, c, rfl⟩ := own_slice h.row
  have c0 := blk_cell h.blk 0
  simp only [List.getElem?_toArray, List.getElem?_cons_zero] at c0
  go_enter Try.func36, Try.ntmps36
  go_wp2
  go_ret
  exact ⟨rfl, rfl⟩
theorem has_nil (id : Int) (w : World) : Calls Try.prog 56 #[.pointer none, .int .i64 id] w fun e w' => e = .returned (.bool false) ∧ w' = w := by
  go_enter Try.func56, Try.ntmps56
  by_cases h0 : 0 ≤ id
  · go_wp2_with fail
    refine (len_nil _).mono ?_
    rintro e w' ⟨rfl, rfl⟩
    go_wp2_with fail
    go_ret
    exact ⟨ret_bool (by simp; omega), rfl⟩
  · go_wp2_with fail
    go_ret
    exact ⟨rfl, rfl⟩
theorem has_tab (id : Int) (h : TabIs w base tb T sv mb mp) : Calls Try.prog 56 #[.pointer (some ⟨tb, 0, none⟩), .int .i64 id] w fun e w' => e = .returned (.bool (hasT T id)) ∧ w' = w := by
  have HT := Lib.hid h
  clear h
  go_enter Try.func56, Try.ntmps56
  by_cases h0 : 0 ≤ id
  · go_wp2_with fail
    refine (len_tab HT.out).mono ?_
    rintro e w' ⟨rfl, rfl⟩
    go_wp2_with fail
    go_ret
    exact ⟨ret_bool (by simp [hasT, h0]), rfl⟩
  · go_wp2_with fail
    go_ret
    exact ⟨ret_bool (by simp [hasT]; omega), rfl⟩
theorem ofNat_getD (o : Option Nat) : (o.map Int.ofNat).getD 0 = ((o.getD 0 : Nat) : Int) := by cases o <;> rfl
theorem pair_nil (a b : Int) (w : World) : Calls Try.prog 58 #[.pointer none, .int .i64 a, .int .i64 b] w fun e w' => e = .returned (.tuple #[.int .i64 0, .bool false]) ∧ w' = w := by
  go_enter Try.func58, Try.ntmps58
  go_wp2
  go_ret2
  exact ⟨rfl, rfl⟩
theorem pair_tab (a b : Int) (ha : (Lit.int .i64 a).wf = true) (hb : (Lit.int .i64 b).wf = true) (h : TabIs w base tb T sv mb mp) : Calls Try.prog 58 #[.pointer (some ⟨tb, 0, none⟩), .int .i64 a, .int .i64 b] w fun e w' => e = .returned (.tuple #[.int .i64 ((pairT T (a, b)).getD 0 : Nat), .bool (pairT T (a, b)).isSome]) ∧ w' = w := by
  have c2 := blk_cell h.blk 2
  simp only [List.getElem?_toArray, List.getElem?_cons_zero, List.getElem?_cons_succ] at c2
  have HB := Lib.hid h.prs
  clear h
  go_enter Try.func58, Try.ntmps58
  go_wp2_with (refine map_look 95 _ _ rfl rfl keyed_mrg Try.underlying95 Try.underlying3 (zero_int _) rfl HB.out (a, b) rfl (key_mrg (a, b) ha hb) ?_)
  go_ret2
  refine ⟨?_, rfl⟩
  rw [ofNat_getD]
  simp
end
end Go.Proofs.Ytpkmcokkapfnmaa
