/- Texts of several layers, one behind the other: Copy0, Copy1, Mark0, Mark1, Build0, Build1, Vocab0, Vocab2, Pieces, Bound2, Find0, Voc0, Count0, Count1, Count2, Chk0, Chk1, Bound3, Bound4, Some0, Some1, Some2, MarkA, MarkB. -/
import Derived.Test.YtkkcekgbnloegaaGreatZZH2
import Derived.WalkKit
import Derived.KernelRfl
import Derived.Lib.Hide
import Derived.Deep.QuietTactic
import Derived.BigQuiet
import Derived.OwnWalk
import Derived.Lib.Strings
import Derived.Deep.DeepCutAuto
import Derived.Deep.RegionHeld3
import Derived.StillTailTactics
import Derived.Maps.OwnSet
import Derived.Maps.OwnOps
import Derived.DeepKeys4
import Derived.WideKeyEntry
import Derived.Maps.AppendAt
import Derived.Test.YtkkcekgbnloegaaGreatProg
import Derived.Laws.ResultCell
import Derived.Laws.AppendOwnNone
import Derived.Laws.IdiomStrings
import Derived.Lib.AppendStr
import Derived.Deep.Slices
import Derived.Deep.Fields
import Derived.ChangeSame
import Derived.SliceStrings
import Derived.OpenShut
import Derived.Laws.LoneSync
import Derived.Laws.OwnMore
import Derived.Laws.MakeOwn
import Derived.Laws.Bits64b
import Derived.Laws.BitsAllLaws
import Derived.Tactics
import Derived.Tactics2
import Derived.Defers
import Derived.Laws.Pointers
import Derived.RegionTactic
import Derived.RegionCalls
import Derived.ChangeAlike
import Derived.Test.YtkkcekgbnloegaaGreatRows
import Derived.ProofKit
import Derived.ShutString
import Derived.ChangeOld
import Derived.Below
import Derived.Lib.SmallJoins
set_option maxRecDepth 100000
set_option linter.unusedVariables false
set_option linter.unusedSimpArgs false
namespace Go.Proofs.YtkkcekgbnloegaaGreat
open Go.RowKit Go.Maps Go.WideMaps
theorem flat_at {α : Type} {enc : α → List Value} {sz : Nat} (hsz : ∀ x, (enc x).length = sz) : ∀ (l : List α) (j : Nat) (u : Value), (l.flatMap enc)[j]? = some u → ∃ i x k, l[i]? = some x ∧ (enc x)[k]? = some u ∧ j = i * sz + k
  | [], j, u, h => by simp at h
  | a :: l, j, u, h => by
    rw [List.flatMap_cons] at h
    by_cases hj : j < sz
    · rw [List.getElem?_append_left (by rw [hsz]; exact hj)] at h
      exact ⟨0, a, j, rfl, h, by omega⟩
    · rw [List.getElem?_append_right (by rw [hsz]; omega), hsz] at h
      obtain ⟨i, x, k, h1, h2, h3⟩ := flat_at hsz l _ _ h
      exact ⟨i + 1, x, k, by simpa using h1, h2, by rw [Nat.succ_mul]; omega⟩
theorem flat_len {α : Type} {enc : α → List Value} {sz : Nat} (hsz : ∀ x, (enc x).length = sz) : ∀ l : List α, (l.flatMap enc).length = l.length * sz
  | [] => by simp
  | a :: l => by rw [List.flatMap_cons, List.length_append, hsz, flat_len hsz l, List.length_cons, Nat.succ_mul]; omega
theorem flat_one {α : Type} {enc : α → List Value} (h1 : ∀ x, ∀ u ∈ enc x, u.oneCell' = true) (l : List α) : ∀ u ∈ l.flatMap enc, u.oneCell' = true := by
  intro u hu
  obtain ⟨x, _, hx⟩ := List.mem_flatMap.1 hu
  exact h1 x u hx
def encS1 (x : List UInt8) : List Value := [strV x]
theorem sl_of1 {w : World} {A : Option Addr} {l : List (List UInt8)} (h : Sl1 w A strV l) : Sl w A encS1 1 l := by
  intro i x hx
  obtain ⟨b, o, e, hc⟩ := h i x hx
  refine ⟨b, o, e, fun j v hv => ?_⟩
  cases j with
  | zero => cases hv; simpa using hc
  | succ j => simp [encS1] at hv
theorem sl_to1 {w : World} {A : Option Addr} {l : List (List UInt8)} (h : Sl w A encS1 1 l) : Sl1 w A strV l := by
  intro i x hx
  obtain ⟨b, o, e, hc⟩ := h i x hx
  exact ⟨b, o, e, by simpa using hc 0 _ rfl⟩
theorem info_cMrg : (Tryz.prog.info? 113).map (fun i => (i.zero, i.size, i.bytes)) = some (some (.agg #[.int .i64 0, .int .i64 0]), 2, 16) := by kernel_rfl
theorem eql_cMrg (A : Option Addr) (n c : Nat) (w : World) : (binOp .eql 32 (.slice A n c) (.slice none 0 0)).run Tryz.prog w = .ok (.bool A.isNone) w := by
  cases A <;> kernel_rfl
theorem len_cMrg (x : Int × Int) : (encM x).length = 2 := rfl
theorem one_cMrg (x : Int × Int) : ∀ u ∈ encM x, u.oneCell' = true := by
  intro u hu
  simp [encM] at hu
  (try (rcases hu with rfl | rfl | rfl)) <;> (try (rcases hu with rfl | rfl)) <;> (try subst hu) <;> rfl
theorem clone_Mrg (l : List (Int × Int)) (A : Option Addr) (c : Nat) (w : World) (h : Sl w A encM 2 l) (hlen : l.length ≤ 1000000) :
    Calls Tryz.prog 158 #[.slice A l.length c] w fun e w' => ∃ A' c', e = .returned (.slice A' l.length c') ∧ Sl w' A' encM 2 l ∧ (∀ a, A' = some a → w.heap.size ≤ a.block) ∧ Below w.heap.size w w' := by
  have HL := Lib.hid h
  clear h
  cases A with
  | none =>
    have hl0 : l = [] := by
      rcases l with _ | ⟨x, l⟩
      · rfl
      · obtain ⟨b, o, e, _⟩ := HL.out 0 x rfl
        cases e
    subst hl0
    have heq := eql_cMrg none 0 c w
    simp only [Option.isNone_none] at heq
    go_enter Tryz.func158, Tryz.ntmps158
    go_wp2_with fail
    go_ret
    exact ⟨none, 0, rfl, Sl.nil _ _ _ _, fun a ha => (by cases ha), Below.refl _ _⟩
  | some a =>
    have heq := eql_cMrg (some a) l.length c w
    simp only [Option.isNone_some] at heq
    have HE : Hid ((w.alloc (.cells #[] 113)).ownsRow w.heap.size 113 2 (.slice (some ⟨w.heap.size, 0, none⟩) 0 0) 0 []) := Lib.hid ⟨by simp, .inr ⟨w.heap.size, 0, #[], rfl, Nat.le_refl _, blk_new w _, Nat.le_refl _, Nat.zero_le _, by simp, by simp⟩⟩
    have HN : Hid (∀ j u, (l.flatMap encM)[j]? = some u → (w.alloc (.cells #[] 113)).cell? (a.add j) = some u) := Lib.hid (by
      intro j u hu
      obtain ⟨i, x, k, h1, h2, rfl⟩ := flat_at len_cMrg l j u hu
      obtain ⟨b, o, e, hc⟩ := HL.out i x h1
      cases e
      rw [add_plain, ← Nat.add_assoc]
      exact below_cell ((Below.refl w.heap.size w).alloc (Nat.le_refl _) _) (Nat.le_refl _) (hc k u h2))
    have H1 := Lib.hid (flat_one one_cMrg l)
    have HLEN := Lib.hid (flat_len len_cMrg l)
    obtain ⟨i, hif, hz0, hz1, hz2⟩ := info_parts info_cMrg
    have HI := Lib.hid hif
    have HZ := Lib.hid (And.intro hz0 (And.intro hz1 hz2))
    clear hif hz0 hz1 hz2
    go_enter Tryz.func158, Tryz.ntmps158
    go_wp2_with (at_builtin; refine wpList_append_own_at _ rfl _ _ 32 rfl w.heap.size 113 i (.agg #[.int .i64 0, .int .i64 0]) 2 16 Tryz.underlying32 HI.out HZ.out.1 HZ.out.2.1 HZ.out.2.2 rfl (by decide) _ 0 [] rfl HE.out a l.length c _ rfl HLEN.out HN.out H1.out (by unfold maxLen; omega) (by omega) (by simp) ?_)
    intro v' w' r1 r2 _ _
    have hb : Below w.heap.size w w' := by
      have h0 := (Below.refl w.heap.size w).alloc (Nat.le_refl _) (.cells #[] 113)
      have hk : Keep (fun k => k = w.heap.size) (w.alloc (.cells #[] 113)) w' := Keep.of_grown r2 (fun k hk => by simpa [Value.ownBlock] using hk.symm)
      exact h0.trans (hk.below (by simp) (fun x hx => by omega))
    obtain ⟨A, c', rfl⟩ := own_slice r1
    have HB := Lib.hid hb
    have HR := Lib.hid r1
    clear r1 r2 hb
    go_wp2_with fail
    go_ret
    refine ⟨_, _, rfl, own_sl len_cMrg HR.out (by decide), fun a ha => ?_, HB.out⟩
    subst ha
    rcases HR.out.2 with ⟨h1, _⟩ | ⟨g, cap, cur, h1, hb, hg, _⟩
    · cases h1
    · cases h1; exact hb
theorem info_cTxt : (Tryz.prog.info? 9).map (fun i => (i.zero, i.size, i.bytes)) = some (some (.string ⟨#[]⟩), 1, 16) := by kernel_rfl
theorem eql_cTxt (A : Option Addr) (n c : Nat) (w : World) : (binOp .eql 31 (.slice A n c) (.slice none 0 0)).run Tryz.prog w = .ok (.bool A.isNone) w := by
  cases A <;> kernel_rfl
theorem len_cTxt (x : List UInt8) : (encS1 x).length = 1 := rfl
theorem one_cTxt (x : List UInt8) : ∀ u ∈ encS1 x, u.oneCell' = true := by
  intro u hu
  simp [encS1, strV] at hu
  (try (rcases hu with rfl | rfl | rfl)) <;> (try (rcases hu with rfl | rfl)) <;> (try subst hu) <;> rfl
theorem clone_Txt (l : List (List UInt8)) (A : Option Addr) (c : Nat) (w : World) (h : Sl w A encS1 1 l) (hlen : l.length ≤ 1000000) :
    Calls Tryz.prog 159 #[.slice A l.length c] w fun e w' => ∃ A' c', e = .returned (.slice A' l.length c') ∧ Sl w' A' encS1 1 l ∧ (∀ a, A' = some a → w.heap.size ≤ a.block) ∧ Below w.heap.size w w' := by
  have HL := Lib.hid h
  clear h
  cases A with
  | none =>
    have hl0 : l = [] := by
      rcases l with _ | ⟨x, l⟩
      · rfl
      · obtain ⟨b, o, e, _⟩ := HL.out 0 x rfl
        cases e
    subst hl0
    have heq := eql_cTxt none 0 c w
    simp only [Option.isNone_none] at heq
    go_enter Tryz.func159, Tryz.ntmps159
    go_wp2_with fail
    go_ret
    exact ⟨none, 0, rfl, Sl.nil _ _ _ _, fun a ha => (by cases ha), Below.refl _ _⟩
  | some a =>
    have heq := eql_cTxt (some a) l.length c w
    simp only [Option.isNone_some] at heq
    have HE : Hid ((w.alloc (.cells #[] 9)).ownsRow w.heap.size 9 1 (.slice (some ⟨w.heap.size, 0, none⟩) 0 0) 0 []) := Lib.hid ⟨by simp, .inr ⟨w.heap.size, 0, #[], rfl, Nat.le_refl _, blk_new w _, Nat.le_refl _, Nat.zero_le _, by simp, by simp⟩⟩
    have HN : Hid (∀ j u, (l.flatMap encS1)[j]? = some u → (w.alloc (.cells #[] 9)).cell? (a.add j) = some u) := Lib.hid (by
      intro j u hu
      obtain ⟨i, x, k, h1, h2, rfl⟩ := flat_at len_cTxt l j u hu
      obtain ⟨b, o, e, hc⟩ := HL.out i x h1
      cases e
      rw [add_plain, ← Nat.add_assoc]
      exact below_cell ((Below.refl w.heap.size w).alloc (Nat.le_refl _) _) (Nat.le_refl _) (hc k u h2))
    have H1 := Lib.hid (flat_one one_cTxt l)
    have HLEN := Lib.hid (flat_len len_cTxt l)
    obtain ⟨i, hif, hz0, hz1, hz2⟩ := info_parts info_cTxt
    have HI := Lib.hid hif
    have HZ := Lib.hid (And.intro hz0 (And.intro hz1 hz2))
    clear hif hz0 hz1 hz2
    go_enter Tryz.func159, Tryz.ntmps159
    go_wp2_with (at_builtin; refine wpList_append_own_at _ rfl _ _ 31 rfl w.heap.size 9 i (.string ⟨#[]⟩) 1 16 Tryz.underlying31 HI.out HZ.out.1 HZ.out.2.1 HZ.out.2.2 rfl (by decide) _ 0 [] rfl HE.out a l.length c _ rfl HLEN.out HN.out H1.out (by unfold maxLen; omega) (by omega) (by simp) ?_)
    intro v' w' r1 r2 _ _
    have hb : Below w.heap.size w w' := by
      have h0 := (Below.refl w.heap.size w).alloc (Nat.le_refl _) (.cells #[] 9)
      have hk : Keep (fun k => k = w.heap.size) (w.alloc (.cells #[] 9)) w' := Keep.of_grown r2 (fun k hk => by simpa [Value.ownBlock] using hk.symm)
      exact h0.trans (hk.below (by simp) (fun x hx => by omega))
    obtain ⟨A, c', rfl⟩ := own_slice r1
    have HB := Lib.hid hb
    have HR := Lib.hid r1
    clear r1 r2 hb
    go_wp2_with fail
    go_ret
    refine ⟨_, _, rfl, own_sl len_cTxt HR.out (by decide), fun a ha => ?_, HB.out⟩
    subst ha
    rcases HR.out.2 with ⟨h1, _⟩ | ⟨g, cap, cur, h1, hb, hg, _⟩
    · cases h1
    · cases h1; exact hb
theorem info_cSpl : (Tryz.prog.info? 170).map (fun i => (i.zero, i.size, i.bytes)) = some (some (.agg #[.int .i64 0, .string ⟨#[]⟩]), 2, 24) := by kernel_rfl
theorem eql_cSpl (A : Option Addr) (n c : Nat) (w : World) : (binOp .eql 25 (.slice A n c) (.slice none 0 0)).run Tryz.prog w = .ok (.bool A.isNone) w := by
  cases A <;> kernel_rfl
theorem len_cSpl (x : Int × List UInt8) : (encIS x).length = 2 := rfl
theorem one_cSpl (x : Int × List UInt8) : ∀ u ∈ encIS x, u.oneCell' = true := by
  intro u hu
  simp [encIS, strV] at hu
  (try (rcases hu with rfl | rfl | rfl)) <;> (try (rcases hu with rfl | rfl)) <;> (try subst hu) <;> rfl
theorem clone_Spl (l : List (Int × List UInt8)) (A : Option Addr) (c : Nat) (w : World) (h : Sl w A encIS 2 l) (hlen : l.length ≤ 1000000) :
    Calls Tryz.prog 160 #[.slice A l.length c] w fun e w' => ∃ A' c', e = .returned (.slice A' l.length c') ∧ Sl w' A' encIS 2 l ∧ (∀ a, A' = some a → w.heap.size ≤ a.block) ∧ Below w.heap.size w w' := by
  have HL := Lib.hid h
  clear h
  cases A with
  | none =>
    have hl0 : l = [] := by
      rcases l with _ | ⟨x, l⟩
      · rfl
      · obtain ⟨b, o, e, _⟩ := HL.out 0 x rfl
        cases e
    subst hl0
    have heq := eql_cSpl none 0 c w
    simp only [Option.isNone_none] at heq
    go_enter Tryz.func160, Tryz.ntmps160
    go_wp2_with fail
    go_ret
    exact ⟨none, 0, rfl, Sl.nil _ _ _ _, fun a ha => (by cases ha), Below.refl _ _⟩
  | some a =>
    have heq := eql_cSpl (some a) l.length c w
    simp only [Option.isNone_some] at heq
    have HE : Hid ((w.alloc (.cells #[] 170)).ownsRow w.heap.size 170 2 (.slice (some ⟨w.heap.size, 0, none⟩) 0 0) 0 []) := Lib.hid ⟨by simp, .inr ⟨w.heap.size, 0, #[], rfl, Nat.le_refl _, blk_new w _, Nat.le_refl _, Nat.zero_le _, by simp, by simp⟩⟩
    have HN : Hid (∀ j u, (l.flatMap encIS)[j]? = some u → (w.alloc (.cells #[] 170)).cell? (a.add j) = some u) := Lib.hid (by
      intro j u hu
      obtain ⟨i, x, k, h1, h2, rfl⟩ := flat_at len_cSpl l j u hu
      obtain ⟨b, o, e, hc⟩ := HL.out i x h1
      cases e
      rw [add_plain, ← Nat.add_assoc]
      exact below_cell ((Below.refl w.heap.size w).alloc (Nat.le_refl _) _) (Nat.le_refl _) (hc k u h2))
    have H1 := Lib.hid (flat_one one_cSpl l)
    have HLEN := Lib.hid (flat_len len_cSpl l)
    obtain ⟨i, hif, hz0, hz1, hz2⟩ := info_parts info_cSpl
    have HI := Lib.hid hif
    have HZ := Lib.hid (And.intro hz0 (And.intro hz1 hz2))
    clear hif hz0 hz1 hz2
    go_enter Tryz.func160, Tryz.ntmps160
    go_wp2_with (at_builtin; refine wpList_append_own_at _ rfl _ _ 25 rfl w.heap.size 170 i (.agg #[.int .i64 0, .string ⟨#[]⟩]) 2 24 Tryz.underlying25 HI.out HZ.out.1 HZ.out.2.1 HZ.out.2.2 rfl (by decide) _ 0 [] rfl HE.out a l.length c _ rfl HLEN.out HN.out H1.out (by unfold maxLen; omega) (by omega) (by simp) ?_)
    intro v' w' r1 r2 _ _
    have hb : Below w.heap.size w w' := by
      have h0 := (Below.refl w.heap.size w).alloc (Nat.le_refl _) (.cells #[] 170)
      have hk : Keep (fun k => k = w.heap.size) (w.alloc (.cells #[] 170)) w' := Keep.of_grown r2 (fun k hk => by simpa [Value.ownBlock] using hk.symm)
      exact h0.trans (hk.below (by simp) (fun x hx => by omega))
    obtain ⟨A, c', rfl⟩ := own_slice r1
    have HB := Lib.hid hb
    have HR := Lib.hid r1
    clear r1 r2 hb
    go_wp2_with fail
    go_ret
    refine ⟨_, _, rfl, own_sl len_cSpl HR.out (by decide), fun a ha => ?_, HB.out⟩
    subst ha
    rcases HR.out.2 with ⟨h1, _⟩ | ⟨g, cap, cur, h1, hb, hg, _⟩
    · cases h1
    · cases h1; exact hb
theorem info_cCls : (Tryz.prog.info? 181).map (fun i => (i.zero, i.size, i.bytes)) = some (some (.agg #[.int .i64 0, .int .i64 0, .int .i64 0]), 3, 24) := by kernel_rfl
theorem eql_cCls (A : Option Addr) (n c : Nat) (w : World) : (binOp .eql 23 (.slice A n c) (.slice none 0 0)).run Tryz.prog w = .ok (.bool A.isNone) w := by
  cases A <;> kernel_rfl
theorem len_cCls (x : Cls) : (encCls x).length = 3 := rfl
theorem one_cCls (x : Cls) : ∀ u ∈ encCls x, u.oneCell' = true := by
  intro u hu
  simp [encCls] at hu
  (try (rcases hu with rfl | rfl | rfl)) <;> (try (rcases hu with rfl | rfl)) <;> (try subst hu) <;> rfl
theorem clone_Cls (l : List (Cls)) (A : Option Addr) (c : Nat) (w : World) (h : Sl w A encCls 3 l) (hlen : l.length ≤ 1000000) :
    Calls Tryz.prog 161 #[.slice A l.length c] w fun e w' => ∃ A' c', e = .returned (.slice A' l.length c') ∧ Sl w' A' encCls 3 l ∧ (∀ a, A' = some a → w.heap.size ≤ a.block) ∧ Below w.heap.size w w' := by
  have HL := Lib.hid h
  clear h
  cases A with
  | none =>
    have hl0 : l = [] := by
      rcases l with _ | ⟨x, l⟩
      · rfl
      · obtain ⟨b, o, e, _⟩ := HL.out 0 x rfl
        cases e
    subst hl0
    have heq := eql_cCls none 0 c w
    simp only [Option.isNone_none] at heq
    go_enter Tryz.func161, Tryz.ntmps161
    go_wp2_with fail
    go_ret
    exact ⟨none, 0, rfl, Sl.nil _ _ _ _, fun a ha => (by cases ha), Below.refl _ _⟩
  | some a =>
    have heq := eql_cCls (some a) l.length c w
    simp only [Option.isNone_some] at heq
    have HE : Hid ((w.alloc (.cells #[] 181)).ownsRow w.heap.size 181 3 (.slice (some ⟨w.heap.size, 0, none⟩) 0 0) 0 []) := Lib.hid ⟨by simp, .inr ⟨w.heap.size, 0, #[], rfl, Nat.le_refl _, blk_new w _, Nat.le_refl _, Nat.zero_le _, by simp, by simp⟩⟩
    have HN : Hid (∀ j u, (l.flatMap encCls)[j]? = some u → (w.alloc (.cells #[] 181)).cell? (a.add j) = some u) := Lib.hid (by
      intro j u hu
      obtain ⟨i, x, k, h1, h2, rfl⟩ := flat_at len_cCls l j u hu
      obtain ⟨b, o, e, hc⟩ := HL.out i x h1
      cases e
      rw [add_plain, ← Nat.add_assoc]
      exact below_cell ((Below.refl w.heap.size w).alloc (Nat.le_refl _) _) (Nat.le_refl _) (hc k u h2))
    have H1 := Lib.hid (flat_one one_cCls l)
    have HLEN := Lib.hid (flat_len len_cCls l)
    obtain ⟨i, hif, hz0, hz1, hz2⟩ := info_parts info_cCls
    have HI := Lib.hid hif
    have HZ := Lib.hid (And.intro hz0 (And.intro hz1 hz2))
    clear hif hz0 hz1 hz2
    go_enter Tryz.func161, Tryz.ntmps161
    go_wp2_with (at_builtin; refine wpList_append_own_at _ rfl _ _ 23 rfl w.heap.size 181 i (.agg #[.int .i64 0, .int .i64 0, .int .i64 0]) 3 24 Tryz.underlying23 HI.out HZ.out.1 HZ.out.2.1 HZ.out.2.2 rfl (by decide) _ 0 [] rfl HE.out a l.length c _ rfl HLEN.out HN.out H1.out (by unfold maxLen; omega) (by omega) (by simp) ?_)
    intro v' w' r1 r2 _ _
    have hb : Below w.heap.size w w' := by
      have h0 := (Below.refl w.heap.size w).alloc (Nat.le_refl _) (.cells #[] 181)
      have hk : Keep (fun k => k = w.heap.size) (w.alloc (.cells #[] 181)) w' := Keep.of_grown r2 (fun k hk => by simpa [Value.ownBlock] using hk.symm)
      exact h0.trans (hk.below (by simp) (fun x hx => by omega))
    obtain ⟨A, c', rfl⟩ := own_slice r1
    have HB := Lib.hid hb
    have HR := Lib.hid r1
    clear r1 r2 hb
    go_wp2_with fail
    go_ret
    refine ⟨_, _, rfl, own_sl len_cCls HR.out (by decide), fun a ha => ?_, HB.out⟩
    subst ha
    rcases HR.out.2 with ⟨h1, _⟩ | ⟨g, cap, cur, h1, hb, hg, _⟩
    · cases h1
    · cases h1; exact hb
theorem info_cJns : (Tryz.prog.info? 182).map (fun i => (i.zero, i.size, i.bytes)) = some (some (.agg #[.int .i64 0, .int .i64 0]), 2, 16) := by kernel_rfl
theorem eql_cJns (A : Option Addr) (n c : Nat) (w : World) : (binOp .eql 24 (.slice A n c) (.slice none 0 0)).run Tryz.prog w = .ok (.bool A.isNone) w := by
  cases A <;> kernel_rfl
theorem len_cJns (x : Jn) : (encJn x).length = 2 := rfl
theorem one_cJns (x : Jn) : ∀ u ∈ encJn x, u.oneCell' = true := by
  intro u hu
  simp [encJn] at hu
  (try (rcases hu with rfl | rfl | rfl)) <;> (try (rcases hu with rfl | rfl)) <;> (try subst hu) <;> rfl
theorem clone_Jns (l : List (Jn)) (A : Option Addr) (c : Nat) (w : World) (h : Sl w A encJn 2 l) (hlen : l.length ≤ 1000000) :
    Calls Tryz.prog 162 #[.slice A l.length c] w fun e w' => ∃ A' c', e = .returned (.slice A' l.length c') ∧ Sl w' A' encJn 2 l ∧ (∀ a, A' = some a → w.heap.size ≤ a.block) ∧ Below w.heap.size w w' := by
  have HL := Lib.hid h
  clear h
  cases A with
  | none =>
    have hl0 : l = [] := by
      rcases l with _ | ⟨x, l⟩
      · rfl
      · obtain ⟨b, o, e, _⟩ := HL.out 0 x rfl
        cases e
    subst hl0
    have heq := eql_cJns none 0 c w
    simp only [Option.isNone_none] at heq
    go_enter Tryz.func162, Tryz.ntmps162
    go_wp2_with fail
    go_ret
    exact ⟨none, 0, rfl, Sl.nil _ _ _ _, fun a ha => (by cases ha), Below.refl _ _⟩
  | some a =>
    have heq := eql_cJns (some a) l.length c w
    simp only [Option.isNone_some] at heq
    have HE : Hid ((w.alloc (.cells #[] 182)).ownsRow w.heap.size 182 2 (.slice (some ⟨w.heap.size, 0, none⟩) 0 0) 0 []) := Lib.hid ⟨by simp, .inr ⟨w.heap.size, 0, #[], rfl, Nat.le_refl _, blk_new w _, Nat.le_refl _, Nat.zero_le _, by simp, by simp⟩⟩
    have HN : Hid (∀ j u, (l.flatMap encJn)[j]? = some u → (w.alloc (.cells #[] 182)).cell? (a.add j) = some u) := Lib.hid (by
      intro j u hu
      obtain ⟨i, x, k, h1, h2, rfl⟩ := flat_at len_cJns l j u hu
      obtain ⟨b, o, e, hc⟩ := HL.out i x h1
      cases e
      rw [add_plain, ← Nat.add_assoc]
      exact below_cell ((Below.refl w.heap.size w).alloc (Nat.le_refl _) _) (Nat.le_refl _) (hc k u h2))
    have H1 := Lib.hid (flat_one one_cJns l)
    have HLEN := Lib.hid (flat_len len_cJns l)
    obtain ⟨i, hif, hz0, hz1, hz2⟩ := info_parts info_cJns
    have HI := Lib.hid hif
    have HZ := Lib.hid (And.intro hz0 (And.intro hz1 hz2))
    clear hif hz0 hz1 hz2
    go_enter Tryz.func162, Tryz.ntmps162
    go_wp2_with (at_builtin; refine wpList_append_own_at _ rfl _ _ 24 rfl w.heap.size 182 i (.agg #[.int .i64 0, .int .i64 0]) 2 16 Tryz.underlying24 HI.out HZ.out.1 HZ.out.2.1 HZ.out.2.2 rfl (by decide) _ 0 [] rfl HE.out a l.length c _ rfl HLEN.out HN.out H1.out (by unfold maxLen; omega) (by omega) (by simp) ?_)
    intro v' w' r1 r2 _ _
    have hb : Below w.heap.size w w' := by
      have h0 := (Below.refl w.heap.size w).alloc (Nat.le_refl _) (.cells #[] 182)
      have hk : Keep (fun k => k = w.heap.size) (w.alloc (.cells #[] 182)) w' := Keep.of_grown r2 (fun k hk => by simpa [Value.ownBlock] using hk.symm)
      exact h0.trans (hk.below (by simp) (fun x hx => by omega))
    obtain ⟨A, c', rfl⟩ := own_slice r1
    have HB := Lib.hid hb
    have HR := Lib.hid r1
    clear r1 r2 hb
    go_wp2_with fail
    go_ret
    refine ⟨_, _, rfl, own_sl len_cJns HR.out (by decide), fun a ha => ?_, HB.out⟩
    subst ha
    rcases HR.out.2 with ⟨h1, _⟩ | ⟨g, cap, cur, h1, hb, hg, _⟩
    · cases h1
    · cases h1; exact hb
def Fr {α : Type} (W : World) (sb : Nat) (A : Option Addr) (enc : α → List Value) (sz : Nat) (l : List α) : Prop := Sl W A enc sz l ∧ ∀ a, A = some a → sb + 1 < a.block
theorem Fr.below {α : Type} {W V : World} {sb : Nat} {A : Option Addr} {enc : α → List Value} {sz : Nat} {l : List α} (h : Fr W sb A enc sz l) (hb : Below W.heap.size W V) : Fr V sb A enc sz l := ⟨h.1.below hb (Nat.le_refl _), h.2⟩
theorem Fr.keep {α : Type} {W V : World} {sb : Nat} {A : Option Addr} {enc : α → List Value} {sz : Nat} {l : List α} (h : Fr W sb A enc sz l) (hk : Keep (fun g => g = sb) W V) : Fr V sb A enc sz l := ⟨sl_keep h.1 hk (fun a ha e => by have := h.2 a ha; omega), h.2⟩
theorem Fr.keep1 {α : Type} {W V : World} {sb : Nat} {A : Option Addr} {enc : α → List Value} {sz : Nat} {l : List α} (h : Fr W sb A enc sz l) (hk : Keep (fun g => g = sb + 1) W V) : Sl V A enc sz l := sl_keep h.1 hk (fun a ha e => by have := h.2 a ha; omega)
structure CpIs (w W : World) (sb : Nat) (C : List Value) : Prop where
  bl : Below w.heap.size w W
  blk : W.heap[sb]? = some (.cells C.toArray 115)
  res : W.heap[sb + 1]? = some (.cells #[.bool false, .slice none 0 0, .slice none 0 0, .slice none 0 0, .slice none 0 0, .slice none 0 0] 115)
  lt : w.heap.size ≤ sb
theorem CpIs.below {w W V : World} {sb : Nat} {C : List Value} (h : CpIs w W sb C) (hb : Below W.heap.size W V) : CpIs w V sb C :=
  ⟨h.bl.trans (hb.mono h.bl.size), blk_below hb (blk_lt h.blk) h.blk, blk_below hb (blk_lt h.res) h.res, h.lt⟩
theorem CpIs.put {w W V : World} {sb : Nat} {C C' : List Value} (h : CpIs w W sb C) (hk : Keep (fun g => g = sb) W V) (hc : V.heap[sb]? = some (.cells C'.toArray 115)) : CpIs w V sb C' :=
  ⟨h.bl.trans (hk.below h.bl.size (fun x hx => by have := h.lt; omega)), hc, hk.blk h.res (by omega), h.lt⟩
theorem Fr.drew {α : Type} {W : World} {sb : Nat} {A : Option Addr} {enc : α → List Value} {sz : Nat} {l : List α} (h : Fr W sb A enc sz l) : Fr W.drew sb A enc sz l := h
theorem CpIs.drew {w W : World} {sb : Nat} {C : List Value} (h : CpIs w W sb C) : CpIs w W.drew sb C := ⟨h.bl.drew, h.blk, h.res, h.lt⟩
theorem CpIs.fresh {α : Type} {w W V : World} {sb : Nat} {C : List Value} {A : Option Addr} {enc : α → List Value} {sz : Nat} {l : List α} (h : CpIs w W sb C) (hs : Sl V A enc sz l) (hf : ∀ a, A = some a → W.heap.size ≤ a.block) : Fr V sb A enc sz l :=
  ⟨hs, fun a ha => by have := hf a ha; have := blk_lt h.res; omega⟩
theorem load_spec {w : World} {r : Nat} {rk : Bool} {AM AT AX AC AJ : Option Addr} {nM nT nX nC nJ cM cT cX cC cJ : Nat} (h : w.heap[r]? = some (.cells #[.bool rk, .slice AM nM cM, .slice AT nT cT, .slice AX nX cX, .slice AC nC cC, .slice AJ nJ cJ] 115)) :
    (loadVar 115 ⟨r, 0, none⟩).run Tryz.prog w = .ok (specV rk AM nM cM AT nT cT AX nX cX AC nC cC AJ nJ cJ) w := by
  have n0 := blk_cell h 0
  have n1 := blk_cell h 1
  have n2 := blk_cell h 2
  have n3 := blk_cell h 3
  have n4 := blk_cell h 4
  have n5 := blk_cell h 5
  simp only [List.getElem?_toArray, List.getElem?_cons_zero, List.getElem?_cons_succ] at n0 n1 n2 n3 n4 n5
  simp [go_sem, specV, n0, n1, n2, n3, n4, n5]
section
variable {w : World} {s : SpecP} {AM AT AX AC AJ : Option Addr} {cM cT cX cC cJ : Nat}
set_option maxHeartbeats 8000000 in
theorem copied_any (hs : SpecAt w s AM AT AX AC AJ) (hln : s.ms.length ≤ 1000000 ∧ s.ts.length ≤ 1000000 ∧ s.xs.length ≤ 1000000 ∧ s.cs.length ≤ 1000000 ∧ s.js.length ≤ 1000000) :
    Calls Tryz.prog 132 #[specW s AM AT AX AC AJ cM cT cX cC cJ] w fun e w' => (∃ A1 A2 A3 A4 A5 c1 c2 c3 c4 c5, e = .returned (specW s A1 A2 A3 A4 A5 c1 c2 c3 c4 c5) ∧ SpecAt w' s A1 A2 A3 A4 A5) ∧ Below w.heap.size w w' := by
  unfold specW specV
  have HS0 := Lib.hid hs
  have HLN := Lib.hid hln
  have hb1 := (Below.refl w.heap.size w).alloc (Nat.le_refl _) (.cells #[.bool s.rk, .slice AM s.ms.length cM, .slice AT s.ts.length cT, .slice AX s.xs.length cX, .slice AC s.cs.length cC, .slice AJ s.js.length cJ] 115)
  have hb2 := hb1.alloc (by simp) (.cells #[.bool false, .slice none 0 0, .slice none 0 0, .slice none 0 0, .slice none 0 0, .slice none 0 0] 115)
  have HC0 : Hid (CpIs w ((w.alloc (.cells #[.bool s.rk, .slice AM s.ms.length cM, .slice AT s.ts.length cT, .slice AX s.xs.length cX, .slice AC s.cs.length cC, .slice AJ s.js.length cJ] 115)).alloc (.cells #[.bool false, .slice none 0 0, .slice none 0 0, .slice none 0 0, .slice none 0 0, .slice none 0 0] 115)) w.heap.size [.bool s.rk, .slice AM s.ms.length cM, .slice AT s.ts.length cT, .slice AX s.xs.length cX, .slice AC s.cs.length cC, .slice AJ s.js.length cJ]) := Lib.hid ⟨hb2, blk_alloc (blk_new w _) _, by have := blk_new (w.alloc (.cells #[.bool s.rk, .slice AM s.ms.length cM, .slice AT s.ts.length cT, .slice AX s.xs.length cX, .slice AC s.cs.length cC, .slice AJ s.js.length cJ] 115)) (.cells #[.bool false, .slice none 0 0, .slice none 0 0, .slice none 0 0, .slice none 0 0, .slice none 0 0] 115); simpa using this, Nat.le_refl _⟩
  clear hs hln hb1 hb2
  go_enter Tryz.func132, Tryz.ntmps132
  go_upto_region 1 with fail
  obtain ⟨W0, hW0⟩ : ∃ W0, ((w.alloc (.cells #[.bool s.rk, .slice AM s.ms.length cM, .slice AT s.ts.length cT, .slice AX s.xs.length cX, .slice AC s.cs.length cC, .slice AJ s.js.length cJ] 115)).alloc (.cells #[.bool false, .slice none 0 0, .slice none 0 0, .slice none 0 0, .slice none 0 0, .slice none 0 0] 115)) = W0 := ⟨_, rfl⟩
  rw [hW0] at HC0 ⊢
  obtain ⟨sb, hsb⟩ : ∃ sb, w.heap.size = sb := ⟨_, rfl⟩
  have HC : Hid (CpIs w W0 sb [.bool s.rk, .slice AM s.ms.length cM, .slice AT s.ts.length cT, .slice AX s.xs.length cX, .slice AC s.cs.length cC, .slice AJ s.js.length cJ]) := Lib.hid (by rw [← hsb]; exact HC0.out)
  clear HC0 hW0
  refine wp_region_D (Ds := [10, 12, 14]) (S := fun V => V.cell? ⟨sb, 1, none⟩ = some (.slice AM s.ms.length cM) ∧ V.cell? ⟨sb, 2, none⟩ = some (.slice AT s.ts.length cT) ∧ V.cell? ⟨sb, 3, none⟩ = some (.slice AX s.xs.length cX)) (by kernel_rfl) (by (have q1 := blk_cell HC.out.blk 1); (have q2 := blk_cell HC.out.blk 2); (have q3 := blk_cell HC.out.blk 3); (simp only [List.getElem?_toArray, List.getElem?_cons_zero, List.getElem?_cons_succ] at q1 q2 q3); exact And.intro q1 (And.intro q2 q3)) (fun hHeld => ?_)
  (replace HC := Lib.hid HC.out.drew); generalize W0.drew = W1 at *
  refine tkP 0 3 ?_ rfl (.inl ⟨by rfl, ?_⟩) ?_; rotate_left; focus (intro w' _; go_simp; (try with_reducible rfl))
  try simp only [sIB, sC0, sCS]
  refine tkP 3 6 ?_ rfl (.inl ⟨by rfl, ?_⟩) ?_; rotate_left; focus (intro w' _; go_simp; (try with_reducible rfl))
  try simp only [sIB, sC0, sCS]
  refine tkP 6 9 ?_ rfl (.inl ⟨by rfl, ?_⟩) ?_; rotate_left; focus (intro w' _; go_simp; (try with_reducible rfl))
  try simp only [sIB, sC0, sCS]
  refine tkD 1 4 ?_ rfl hHeld (.inl ⟨by rfl, ?_⟩) ?_; rotate_left; focus (intro w' hSw; (try dsimp only at hSw); go_simp; (try with_reducible rfl))
  try simp only [sIB, sC0, sCS]
  refine tkD 4 7 ?_ rfl hHeld (.inl ⟨by rfl, ?_⟩) ?_; rotate_left; focus (intro w' hSw; (try dsimp only at hSw); go_simp; (try with_reducible rfl))
  try simp only [sIB, sC0, sCS]
  refine tkD 7 10 ?_ rfl hHeld (.inl ⟨by rfl, ?_⟩) ?_; rotate_left; focus (intro w' hSw; (try dsimp only at hSw); go_simp; (try with_reducible rfl))
  try simp only [sIB, sC0, sCS]
  refine wpAnyD_one (i := 2) (by kernel_rfl) rfl (by rfl) (fun K hK => ?_)
  go_simp; refine (clone_Mrg s.ms AM cM _ ((HS0.out.below HC.out.bl (Nat.le_refl _)).ms) (by have := HLN.out; omega)).mono ?_; rintro e V1 ⟨A1, c1, rfl, hsl, hfr, hb⟩; have HM0 := Lib.hid (HC.out.fresh hsl hfr); replace HC := Lib.hid (HC.out.below hb); clear hsl hfr hb; have q1 := blk_cell HC.out.blk 1; have q2 := blk_cell HC.out.blk 2; have q3 := blk_cell HC.out.blk 3; simp only [List.getElem?_toArray, List.getElem?_cons_zero, List.getElem?_cons_succ] at q1 q2 q3; have h := And.intro q1 (And.intro q2 (q3)); clear q1 q2 q3; go_simp
  refine hK.out _ _ h (fun hHeld => ?_)
  clear hK K
  try simp only [Act.put, sIB, sC0, sCS]
  refine tkP 9 12 ?_ rfl (.inl ⟨by rfl, ?_⟩) ?_; rotate_left; focus (intro w' _; go_simp; (try with_reducible rfl))
  try simp only [sIB, sC0, sCS]
  refine wpAnyD_one (i := 5) (by kernel_rfl) rfl (by rfl) (fun K hK => ?_)
  go_simp; refine (clone_Txt s.ts AT cT _ (sl_of1 (HS0.out.below HC.out.bl (Nat.le_refl _)).ts) (by have := HLN.out; omega)).mono ?_; rintro e V1 ⟨A2, c2, rfl, hsl, hfr, hb⟩; have HM1 := Lib.hid (HC.out.fresh hsl hfr); replace HC := Lib.hid (HC.out.below hb); replace HM0 := Lib.hid (HM0.out.below hb); clear hsl hfr hb; have q1 := blk_cell HC.out.blk 1; have q2 := blk_cell HC.out.blk 2; have q3 := blk_cell HC.out.blk 3; simp only [List.getElem?_toArray, List.getElem?_cons_zero, List.getElem?_cons_succ] at q1 q2 q3; have h := And.intro q1 (And.intro q2 (q3)); clear q1 q2 q3; go_simp
  refine hK.out _ _ h (fun hHeld => ?_)
  clear hK K
  try simp only [Act.put, sIB, sC0, sCS]
  refine wpAnyD_one (i := 8) (by kernel_rfl) rfl (by rfl) (fun K hK => ?_)
  go_simp; refine (clone_Spl s.xs AX cX _ ((HS0.out.below HC.out.bl (Nat.le_refl _)).xs) (by have := HLN.out; omega)).mono ?_; rintro e V1 ⟨A3, c3, rfl, hsl, hfr, hb⟩; have HM2 := Lib.hid (HC.out.fresh hsl hfr); replace HC := Lib.hid (HC.out.below hb); replace HM0 := Lib.hid (HM0.out.below hb); replace HM1 := Lib.hid (HM1.out.below hb); clear hsl hfr hb; have q1 := blk_cell HC.out.blk 1; have q2 := blk_cell HC.out.blk 2; have q3 := blk_cell HC.out.blk 3; simp only [List.getElem?_toArray, List.getElem?_cons_zero, List.getElem?_cons_succ] at q1 q2 q3; have h := And.intro q1 (And.intro q2 (q3)); clear q1 q2 q3; go_simp
  refine hK.out _ _ h (fun hHeld => ?_)
  clear hK K
  try simp only [Act.put, sIB, sC0, sCS]
  refine wpAnyD_last (D := 10) (by decide) (by kernel_rfl) rfl (by rfl) (fun K hK => ?_)
  have z0 := blk_froz HC.out.blk 1; have d0 := blk_cell HC.out.blk 1; simp only [List.getElem?_toArray, List.getElem?_cons_zero, List.getElem?_cons_succ] at d0; go_simp; have hk : Keep (fun g => g = sb) V1 (V1.setCell ⟨sb, 1, none⟩ (.slice A1 s.ms.length c1)) := (Keep.refl (fun g => g = sb) V1).setCell (p := ⟨sb, 1, none⟩) (.inl rfl) (.slice A1 s.ms.length c1); have hc := blk_set HC.out.blk 1 (.slice A1 s.ms.length c1); simp only [List.setIfInBounds_toArray, List.set_cons_zero, List.set_cons_succ] at hc; replace HC := Lib.hid (HC.out.put hk hc); replace HM0 := Lib.hid (HM0.out.keep hk); replace HM1 := Lib.hid (HM1.out.keep hk); replace HM2 := Lib.hid (HM2.out.keep hk); clear z0 d0 hk hc; generalize V1.setCell ⟨sb, 1, none⟩ (.slice A1 s.ms.length c1) = X1 at *
  refine hK.out _ _ ?_
  clear hK K
  try simp only [Act.put, sIB, sC0, sCS]
  refine tkP 11 13 ?_ rfl (.inl ⟨by rfl, ?_⟩) ?_; rotate_left; focus (intro w' _; go_simp; (try with_reducible rfl))
  try simp only [sIB, sC0, sCS]
  refine wpAnyD_last (D := 12) (by decide) (by kernel_rfl) rfl (by rfl) (fun K hK => ?_)
  have z0 := blk_froz HC.out.blk 2; have d0 := blk_cell HC.out.blk 2; simp only [List.getElem?_toArray, List.getElem?_cons_zero, List.getElem?_cons_succ] at d0; go_simp; have hk : Keep (fun g => g = sb) X1 (X1.setCell ⟨sb, 2, none⟩ (.slice A2 s.ts.length c2)) := (Keep.refl (fun g => g = sb) X1).setCell (p := ⟨sb, 2, none⟩) (.inl rfl) (.slice A2 s.ts.length c2); have hc := blk_set HC.out.blk 2 (.slice A2 s.ts.length c2); simp only [List.setIfInBounds_toArray, List.set_cons_zero, List.set_cons_succ] at hc; replace HC := Lib.hid (HC.out.put hk hc); replace HM0 := Lib.hid (HM0.out.keep hk); replace HM1 := Lib.hid (HM1.out.keep hk); replace HM2 := Lib.hid (HM2.out.keep hk); clear z0 d0 hk hc; generalize X1.setCell ⟨sb, 2, none⟩ (.slice A2 s.ts.length c2) = X2 at *
  refine hK.out _ _ ?_
  clear hK K
  try simp only [Act.put, sIB, sC0, sCS]
  refine tkP 13 14 ?_ rfl (.inl ⟨by rfl, ?_⟩) ?_; rotate_left; focus (intro w' _; go_simp; (try with_reducible rfl))
  try simp only [sIB, sC0, sCS]
  refine wpAnyD_last (D := 14) (by decide) (by kernel_rfl) rfl (by rfl) (fun K hK => ?_)
  have z0 := blk_froz HC.out.blk 3; have d0 := blk_cell HC.out.blk 3; simp only [List.getElem?_toArray, List.getElem?_cons_zero, List.getElem?_cons_succ] at d0; go_simp; have hk : Keep (fun g => g = sb) X2 (X2.setCell ⟨sb, 3, none⟩ (.slice A3 s.xs.length c3)) := (Keep.refl (fun g => g = sb) X2).setCell (p := ⟨sb, 3, none⟩) (.inl rfl) (.slice A3 s.xs.length c3); have hc := blk_set HC.out.blk 3 (.slice A3 s.xs.length c3); simp only [List.setIfInBounds_toArray, List.set_cons_zero, List.set_cons_succ] at hc; replace HC := Lib.hid (HC.out.put hk hc); replace HM0 := Lib.hid (HM0.out.keep hk); replace HM1 := Lib.hid (HM1.out.keep hk); replace HM2 := Lib.hid (HM2.out.keep hk); clear z0 d0 hk hc; generalize X2.setCell ⟨sb, 3, none⟩ (.slice A3 s.xs.length c3) = X3 at *
  refine hK.out _ _ ?_
  clear hK K
  try simp only [Act.put, sIB, sC0, sCS]
  refine wpAnyD_done (by kernel_rfl) ?_ _
  clear hHeld h
  go_upto_region 2 with fail
  refine wp_region_D (Ds := [7, 9]) (S := fun V => V.cell? ⟨sb, 4, none⟩ = some (.slice AC s.cs.length cC) ∧ V.cell? ⟨sb, 5, none⟩ = some (.slice AJ s.js.length cJ)) (by kernel_rfl) (by (have q4 := blk_cell HC.out.blk 4); (have q5 := blk_cell HC.out.blk 5); (simp only [List.getElem?_toArray, List.getElem?_cons_zero, List.getElem?_cons_succ] at q4 q5); exact And.intro q4 q5) (fun hHeld => ?_)
  (replace HC := Lib.hid HC.out.drew); (replace HM0 := Lib.hid HM0.out.drew); (replace HM1 := Lib.hid HM1.out.drew); (replace HM2 := Lib.hid HM2.out.drew); generalize X3.drew = Y0 at *
  refine tkP 0 15 ?_ rfl (.inl ⟨by rfl, ?_⟩) ?_; rotate_left; focus (intro w' _; go_simp; (try with_reducible rfl))
  try simp only [sIB, sC0, sCS]
  refine tkP 3 18 ?_ rfl (.inl ⟨by rfl, ?_⟩) ?_; rotate_left; focus (intro w' _; go_simp; (try with_reducible rfl))
  try simp only [sIB, sC0, sCS]
  refine tkD 1 16 ?_ rfl hHeld (.inl ⟨by rfl, ?_⟩) ?_; rotate_left; focus (intro w' hSw; (try dsimp only at hSw); go_simp; (try with_reducible rfl))
  try simp only [sIB, sC0, sCS]
  refine tkD 4 19 ?_ rfl hHeld (.inl ⟨by rfl, ?_⟩) ?_; rotate_left; focus (intro w' hSw; (try dsimp only at hSw); go_simp; (try with_reducible rfl))
  try simp only [sIB, sC0, sCS]
  refine wpAnyD_one (i := 2) (by kernel_rfl) rfl (by rfl) (fun K hK => ?_)
  go_simp; refine (clone_Cls s.cs AC cC _ ((HS0.out.below HC.out.bl (Nat.le_refl _)).cs) (by have := HLN.out; omega)).mono ?_; rintro e V1 ⟨A4, c4, rfl, hsl, hfr, hb⟩; have HM3 := Lib.hid (HC.out.fresh hsl hfr); replace HC := Lib.hid (HC.out.below hb); replace HM0 := Lib.hid (HM0.out.below hb); replace HM1 := Lib.hid (HM1.out.below hb); replace HM2 := Lib.hid (HM2.out.below hb); clear hsl hfr hb; have q4 := blk_cell HC.out.blk 4; have q5 := blk_cell HC.out.blk 5; simp only [List.getElem?_toArray, List.getElem?_cons_zero, List.getElem?_cons_succ] at q4 q5; have h := And.intro q4 (q5); clear q4 q5; go_simp
  refine hK.out _ _ h (fun hHeld => ?_)
  clear hK K
  try simp only [Act.put, sIB, sC0, sCS]
  refine tkP 6 21 ?_ rfl (.inl ⟨by rfl, ?_⟩) ?_; rotate_left; focus (intro w' _; go_simp; (try with_reducible rfl))
  try simp only [sIB, sC0, sCS]
  refine wpAnyD_one (i := 5) (by kernel_rfl) rfl (by rfl) (fun K hK => ?_)
  go_simp; refine (clone_Jns s.js AJ cJ _ ((HS0.out.below HC.out.bl (Nat.le_refl _)).js) (by have := HLN.out; omega)).mono ?_; rintro e V1 ⟨A5, c5, rfl, hsl, hfr, hb⟩; have HM4 := Lib.hid (HC.out.fresh hsl hfr); replace HC := Lib.hid (HC.out.below hb); replace HM0 := Lib.hid (HM0.out.below hb); replace HM1 := Lib.hid (HM1.out.below hb); replace HM2 := Lib.hid (HM2.out.below hb); replace HM3 := Lib.hid (HM3.out.below hb); clear hsl hfr hb; have q4 := blk_cell HC.out.blk 4; have q5 := blk_cell HC.out.blk 5; simp only [List.getElem?_toArray, List.getElem?_cons_zero, List.getElem?_cons_succ] at q4 q5; have h := And.intro q4 (q5); clear q4 q5; go_simp
  refine hK.out _ _ h (fun hHeld => ?_)
  clear hK K
  try simp only [Act.put, sIB, sC0, sCS]
  refine wpAnyD_last (D := 7) (by decide) (by kernel_rfl) rfl (by rfl) (fun K hK => ?_)
  have z0 := blk_froz HC.out.blk 4; have d0 := blk_cell HC.out.blk 4; simp only [List.getElem?_toArray, List.getElem?_cons_zero, List.getElem?_cons_succ] at d0; go_simp; have hk : Keep (fun g => g = sb) V1 (V1.setCell ⟨sb, 4, none⟩ (.slice A4 s.cs.length c4)) := (Keep.refl (fun g => g = sb) V1).setCell (p := ⟨sb, 4, none⟩) (.inl rfl) (.slice A4 s.cs.length c4); have hc := blk_set HC.out.blk 4 (.slice A4 s.cs.length c4); simp only [List.setIfInBounds_toArray, List.set_cons_zero, List.set_cons_succ] at hc; replace HC := Lib.hid (HC.out.put hk hc); replace HM0 := Lib.hid (HM0.out.keep hk); replace HM1 := Lib.hid (HM1.out.keep hk); replace HM2 := Lib.hid (HM2.out.keep hk); replace HM3 := Lib.hid (HM3.out.keep hk); replace HM4 := Lib.hid (HM4.out.keep hk); clear z0 d0 hk hc; generalize V1.setCell ⟨sb, 4, none⟩ (.slice A4 s.cs.length c4) = Z1 at *
  refine hK.out _ _ ?_
  clear hK K
  try simp only [Act.put, sIB, sC0, sCS]
  refine tkP 8 22 ?_ rfl (.inl ⟨by rfl, ?_⟩) ?_; rotate_left; focus (intro w' _; go_simp; (try with_reducible rfl))
  try simp only [sIB, sC0, sCS]
  refine wpAnyD_last (D := 9) (by decide) (by kernel_rfl) rfl (by rfl) (fun K hK => ?_)
  have z0 := blk_froz HC.out.blk 5; have d0 := blk_cell HC.out.blk 5; simp only [List.getElem?_toArray, List.getElem?_cons_zero, List.getElem?_cons_succ] at d0; go_simp; have hk : Keep (fun g => g = sb) Z1 (Z1.setCell ⟨sb, 5, none⟩ (.slice A5 s.js.length c5)) := (Keep.refl (fun g => g = sb) Z1).setCell (p := ⟨sb, 5, none⟩) (.inl rfl) (.slice A5 s.js.length c5); have hc := blk_set HC.out.blk 5 (.slice A5 s.js.length c5); simp only [List.setIfInBounds_toArray, List.set_cons_zero, List.set_cons_succ] at hc; replace HC := Lib.hid (HC.out.put hk hc); replace HM0 := Lib.hid (HM0.out.keep hk); replace HM1 := Lib.hid (HM1.out.keep hk); replace HM2 := Lib.hid (HM2.out.keep hk); replace HM3 := Lib.hid (HM3.out.keep hk); replace HM4 := Lib.hid (HM4.out.keep hk); clear z0 d0 hk hc; generalize Z1.setCell ⟨sb, 5, none⟩ (.slice A5 s.js.length c5) = Z2 at *
  refine hK.out _ _ ?_
  clear hK K
  try simp only [Act.put, sIB, sC0, sCS]
  refine wpAnyD_done (by kernel_rfl) ?_ _
  clear hHeld h
  have g0 := blk_cell HC.out.blk 0
  have g1 := blk_cell HC.out.blk 1
  have g2 := blk_cell HC.out.blk 2
  have g3 := blk_cell HC.out.blk 3
  have g4 := blk_cell HC.out.blk 4
  have g5 := blk_cell HC.out.blk 5
  simp only [List.getElem?_toArray, List.getElem?_cons_zero, List.getElem?_cons_succ] at g0 g1 g2 g3 g4 g5
  have d0 := blk_cell HC.out.res 0
  have d1 := blk_cell HC.out.res 1
  have d2 := blk_cell HC.out.res 2
  have d3 := blk_cell HC.out.res 3
  have d4 := blk_cell HC.out.res 4
  have d5 := blk_cell HC.out.res 5
  simp only [List.getElem?_toArray, List.getElem?_cons_zero, List.getElem?_cons_succ] at d0 d1 d2 d3 d4 d5
  have z0 := blk_froz HC.out.res 0
  have z1 := blk_froz HC.out.res 1
  have z2 := blk_froz HC.out.res 2
  have z3 := blk_froz HC.out.res 3
  have z4 := blk_froz HC.out.res 4
  have z5 := blk_froz HC.out.res 5
  go_wp2_with fail
  clear d0 d1 d2 d3 d4 d5 z0 z1 z2 z3 z4 z5 g0 g1 g2 g3 g4 g5
  have hc := (blk_set (blk_set (blk_set (blk_set (blk_set (blk_set HC.out.res 0 (.bool s.rk)) 1 (.slice A1 s.ms.length c1)) 2 (.slice A2 s.ts.length c2)) 3 (.slice A3 s.xs.length c3)) 4 (.slice A4 s.cs.length c4)) 5 (.slice A5 s.js.length c5))
  simp only [List.setIfInBounds_toArray, List.set_cons_zero, List.set_cons_succ] at hc
  have hk := (((((((Keep.refl (fun g => g = sb + 1) Z2).setCell (p := ⟨sb + 1, 0, none⟩) (.inl rfl) (.bool s.rk)).setCell (p := ⟨sb + 1, 1, none⟩) (.inl rfl) (.slice A1 s.ms.length c1)).setCell (p := ⟨sb + 1, 2, none⟩) (.inl rfl) (.slice A2 s.ts.length c2)).setCell (p := ⟨sb + 1, 3, none⟩) (.inl rfl) (.slice A3 s.xs.length c3)).setCell (p := ⟨sb + 1, 4, none⟩) (.inl rfl) (.slice A4 s.cs.length c4)).setCell (p := ⟨sb + 1, 5, none⟩) (.inl rfl) (.slice A5 s.js.length c5))
  refine ret_cell1 (r := sb + 1) rfl rfl (load_spec hc) ?_
  have hbf := hk.below HC.out.bl.size (fun x hx => by have := HC.out.lt; omega)
  exact ⟨⟨A1, A2, A3, A4, A5, c1, c2, c3, c4, c5, rfl, ⟨HM0.out.keep1 hk, sl_to1 (HM1.out.keep1 hk), HM2.out.keep1 hk, HM3.out.keep1 hk, HM4.out.keep1 hk, HS0.out.len⟩⟩, HC.out.bl.trans hbf⟩
end
def markC (sv : Value) (mi mt : Nat) (fs : Nat → Bool) (mo : Nat) (i : Nat) : Value := if i = 0 then sv else if i = 1 then .map (some mi) else if i = 2 then .map (some mt) else if i < 259 then .bool (fs (i - 3)) else .int .i64 (mo : Nat)
def markA (sv : Value) (mi mt : Nat) (fs : Nat → Bool) (mo : Nat) : Array Value := Array.ofFn (n := 260) fun i => markC sv mi mt fs mo i
theorem mark_get (sv : Value) (mi mt : Nat) (fs : Nat → Bool) (mo : Nat) (i : Nat) (h : i < 260) : (markA sv mi mt fs mo)[i]? = some (markC sv mi mt fs mo i) := by simp [markA, h]
def fndI (M : List (Int × List UInt8)) (id : Int) : Option Nat := M.findIdx? (fun x => x.1 == id)
def fndX (M : List (Int × List UInt8)) (s : List UInt8) : Option Nat := M.findIdx? (fun x => x.2 == s)
def firstB (M : List (Int × List UInt8)) (b : Nat) : Bool := M.any (fun x => match x.2 with | [] => false | c :: _ => c.toNat == b)
def mostM (M : List (Int × List UInt8)) : Nat := M.foldl (fun n x => max n x.2.length) 0
structure MarkIs (w : World) (base mb : Nat) (M : List (Int × List UInt8)) (sv : Value) (mi mt : Nat) : Prop where
  blk : w.heap[mb]? = some (.cells (markA sv mi mt (firstB M) (mostM M)) 260)
  row : w.ownsRow base 170 2 sv M.length (M.flatMap encIS)
  ids : MapOf Tryz.prog 3 3 (Value.int .i64) w mi M.length (fun i => (fndI M i).map Int.ofNat)
  txs : MapOf Tryz.prog 9 3 strV w mt M.length (fun s => (fndX M s).map Int.ofNat)
  ne : mi ≠ mt
  lt : base ≤ mb ∧ base ≤ mi ∧ base ≤ mt
theorem MarkIs.below {B : Nat} {w w' : World} {base mb : Nat} {M : List (Int × List UInt8)} {sv : Value} {mi mt : Nat} (h : MarkIs w base mb M sv mi mt) (hb : Below B w w') (hB : w.heap.size ≤ B) : MarkIs w' base mb M sv mi mt :=
  ⟨blk_below hb (Nat.lt_of_lt_of_le (blk_lt h.blk) hB) h.blk, own_below h.row hb hB, h.ids.below hb (Nat.lt_of_lt_of_le h.ids.lt hB), h.txs.below hb (Nat.lt_of_lt_of_le h.txs.lt hB), h.ne, h.lt⟩
theorem keyed_int : Keyed Tryz.prog 3 := int_keyed Tryz.underlying3
theorem key_int {n : Int} (h : (Lit.int .i64 n).wf = true) : ∃ l, keyOf Tryz.prog 3 (.int .i64 n) = some l := ⟨_, keyOf_int_mk Tryz.underlying3 h⟩
def zeroC (i : Nat) : Value := if i = 0 then .slice none 0 0 else if i = 1 then .map none else if i = 2 then .map none else if i < 259 then .bool false else .int .i64 0
theorem zero_mark0 : Tryz.zeroCells260 = Array.ofFn (n := 260) fun i => zeroC i := by
  have : Tryz.zeroCells260.toList = (Array.ofFn (n := 260) fun i => zeroC i).toList := by
    rw [Array.toList_ofFn]
    kernel_rfl
  exact Array.toList_inj.1 this
theorem zero_mark (a b : Nat) : ((Tryz.zeroCells260.setIfInBounds 1 (.map (some a))).setIfInBounds 2 (.map (some b))) = markA (.slice none 0 0) a b (firstB []) (mostM []) := by
  rw [zero_mark0]
  apply Array.ext_getElem?
  intro j
  by_cases hj : j < 260
  · rw [mark_get _ _ _ _ _ _ hj]
    simp only [Array.getElem?_setIfInBounds, Array.size_setIfInBounds, Array.size_ofFn]
    by_cases h2 : 2 = j
    · subst h2; simp [markC]
    · rw [if_neg h2]
      by_cases h1 : 1 = j
      · subst h1; simp [markC]
      · rw [if_neg h1]
        simp only [Array.getElem?_ofFn, hj, dite_true, zeroC, markC]
        have n1 : ¬ j = 1 := fun e => h1 e.symm
        have n2 : ¬ j = 2 := fun e => h2 e.symm
        simp only [n1, n2, if_false, firstB, List.any_nil, mostM, List.foldl_nil]
        rfl
  · simp [markA, hj]
set_option maxHeartbeats 1000000 in
theorem mnew_nil (w : World) (c : Nat) : Calls Tryz.prog 128 #[.slice none 0 c] w fun e w' => (∃ mb sv mi mt, e = .returned (.tuple #[.pointer (some ⟨mb, 0, none⟩), .int .i64 0, .int .i64 0]) ∧ MarkIs w' w.heap.size mb [] sv mi mt) ∧ Below w.heap.size w w' := by
  have hmm := @run_makeMap Tryz.prog
  have HM : Hid (MarkIs (((w.alloc (.map #[] 0)).alloc (.map #[] 0)).alloc (.cells (markA (.slice none 0 0) w.heap.size (w.heap.size + 1) (firstB []) (mostM [])) 260)) w.heap.size (w.heap.size + 1 + 1) [] (.slice none 0 0) w.heap.size (w.heap.size + 1)) := Lib.hid (by
    refine ⟨?_, own_nil _ _ _ _, ?_, ?_, by omega, by omega, by omega, by omega⟩
    · have := blk_new ((w.alloc (.map #[] 0)).alloc (.map #[] 0)) (.cells (markA (.slice none 0 0) w.heap.size (w.heap.size + 1) (firstB []) (mostM [])) 260)
      simpa [size_alloc] using this
    · refine ((MapOf.made w Tryz.prog 3 3 (Value.int .i64)).keep (F := fun _ => False) ((Keep.refl _ _).alloc _ |>.alloc _) (fun h => h)).congr (fun a => rfl)
    · have := MapOf.made (w.alloc (.map #[] 0)) Tryz.prog 9 3 strV
      rw [size_alloc] at this
      exact (this.keep (F := fun _ => False) ((Keep.refl _ _).alloc _) (fun h => h)).congr (fun a => rfl))
  have HB := Lib.hid ((((Below.refl w.heap.size w).alloc (Nat.le_refl _) (.map #[] 0)).alloc (by simp) (.map #[] 0)).alloc (by simp; omega) (.cells (markA (.slice none 0 0) w.heap.size (w.heap.size + 1) (firstB []) (mostM [])) 260))
  go_enter Tryz.func128, Tryz.ntmps128
  go_upto_region 2 with fail
  rw [zero_mark]
  clear hmm
  obtain ⟨mb, hmb⟩ : ∃ mb, w.heap.size + 1 + 1 = mb := ⟨_, rfl⟩
  rw [hmb] at HM ⊢
  clear hmb
  go_wp2_with fail
  go_loopg [15] 0 (fun n i W => i = .int .i64 0 ∧ MarkIs W w.heap.size mb [] (.slice none 0 0) w.heap.size (w.heap.size + 1) ∧ Below w.heap.size w W)
  case atStart => exact ⟨rfl, HM.out, HB.out⟩
  case round =>
    obtain ⟨rfl, hm, hb⟩ := hrel
    clear HM HB
    have HM := Lib.hid hm
    have HB := Lib.hid hb
    clear hm hb
    go_wp2_with fail
    go_ret3
    exact ⟨⟨_, _, _, _, rfl, HM.out⟩, HB.out⟩
def idB (T : List Ent) (x : Int × List UInt8) : Bool := !decide (x.1 < (T.length : Int))
section
variable {tbase tb : Nat} {T : List Ent} {sv : Value} {mb mp : Nat}
theorem bclo_any (x : Int × List UInt8) (w : World) (pb : Nat) (hp : w.cell? ⟨pb, 0, none⟩ = some (.pointer (some ⟨tb, 0, none⟩))) (hT : TabIs w tbase tb T sv mb mp) :
    Calls Tryz.prog 130 #[.agg #[.int .i64 x.1, .string (bs x.2)], .pointer (some ⟨pb, 0, none⟩)] w fun e w' => e = .returned (.bool (!idB T x)) ∧ Below w.heap.size w w' := by
  obtain ⟨x1, x2⟩ := x
  have hr : (!idB T (x1, x2)) = decide (x1 < (T.length : Int)) := by simp [idB]
  rw [hr]
  have HB := Lib.hid ((Below.refl w.heap.size w).alloc (Nat.le_refl _) (.cells #[.int .i64 x1, .string (bs x2)] 170))
  have hp2 := below_cell HB.out (Nat.le_refl _) hp
  have n0 := blk_cell (blk_new w (.cells #[.int .i64 x1, .string (bs x2)] 170)) 0
  simp only [List.getElem?_toArray, List.getElem?_cons_zero, List.getElem?_cons_succ] at n0
  have HT := Lib.hid (hT.below HB.out (Nat.le_refl _)).drew
  clear hp hT hr
  go_enter Tryz.func130, Tryz.ntmps130
  go_upto_region 1 with fail
  generalize (w.alloc (.cells #[.int .i64 x1, .string (bs x2)] 170)) = W at *
  obtain ⟨nb, hnb⟩ : ∃ nb, w.heap.size = nb := ⟨_, rfl⟩
  have HB9 := Lib.hid HB.out
  rw [hnb] at n0 ⊢
  clear hnb
  refine wp_region_held_drew (S := fun V => V.cell? ⟨nb, 0, none⟩ = some (.int .i64 x1) ∧ V.cell? ⟨pb, 0, none⟩ = some (.pointer (some ⟨tb, 0, none⟩))) (by kernel_rfl) (by exact ⟨n0, hp2⟩) (fun hHeld => ?_)
  refine tkH 0 4 ?_ rfl hHeld (.inl ⟨by rfl, ?_⟩) ?_; rotate_left; focus (intro w' hSw; (try dsimp only at hSw); go_simp; (try with_reducible rfl))
  try simp only [sIB, sC0, sCS]
  refine tkH 1 5 ?_ rfl hHeld (.inl ⟨by rfl, ?_⟩) ?_; rotate_left; focus (intro w' hSw; (try dsimp only at hSw); go_simp; (try with_reducible rfl))
  try simp only [sIB, sC0, sCS]
  refine tkH 2 6 ?_ rfl hHeld (.inl ⟨by rfl, ?_⟩) ?_; rotate_left; focus (intro w' hSw; (try dsimp only at hSw); go_simp; (try with_reducible rfl))
  try simp only [sIB, sC0, sCS]
  refine wpAnyH_ready (rs := [3]) (by kernel_rfl) (by simp) ?_
  refine AllReadyH.cons rfl (fun K hK => ?_) AllReadyH.nil
  (try go_simp)
  refine (len_tab HT.out).mono ?_; rintro e V1 ⟨rfl, rfl⟩; have h := hHeld; go_simp
  go_wp2_with fail
  refine hK.out _ _ h (fun hHeld => ?_)
  clear hK K
  try simp only [Act.put, sIB, sC0, sCS]
  refine tkH 4 8 ?_ rfl hHeld (.inl ⟨by rfl, ?_⟩) ?_; rotate_left; focus (intro w' hSw; (try dsimp only at hSw); go_simp; (try with_reducible rfl))
  try simp only [sIB, sC0, sCS]
  refine tkH 5 3 ?_ rfl hHeld (.inl ⟨by rfl, ?_⟩) ?_; rotate_left; focus (intro w' hSw; (try dsimp only at hSw); go_simp; (try with_reducible rfl))
  try simp only [sIB, sC0, sCS]
  refine wpAnyH_done (by kernel_rfl) ?_ _
  go_wp2_with fail
  go_ret
  exact ⟨rfl, HB.out.drew⟩
set_option maxHeartbeats 1000000 in
theorem bidx_any (xs : List (Int × List UInt8)) (A : Option Addr) (c pb : Nat) (w : World) (hA : Sl w A encIS 2 xs) (hp : w.cell? ⟨pb, 0, none⟩ = some (.pointer (some ⟨tb, 0, none⟩))) (hT : TabIs w tbase tb T sv mb mp) (hl : xs.length < 9000000000000000000) :
    Calls Tryz.prog 129 #[.slice A xs.length c, .func (.func 130) #[] #[.pointer (some ⟨pb, 0, none⟩)]] w fun e w' => (∃ r, e = .returned (.int .i64 r) ∧ decide (0 ≤ r) = !(xs.all (idB T))) ∧ Below w.heap.size w w' := by
  have HA := Lib.hid hA
  have HP := Lib.hid hp
  have HL := Lib.hid hl
  have HTT := Lib.hid hT
  clear hA hp hT
  go_enter Tryz.func129, Tryz.ntmps129
  go_wp2_with fail
  go_loopg [8] xs.length (fun n i W => ∃ k : Nat, k + n = xs.length ∧ i = .int .i64 (k : Int) ∧ Below w.heap.size w W ∧ (xs.take k).all (idB T) = true)
  case atStart => exact ⟨0, Nat.zero_add _, rfl, Below.refl _ _, rfl⟩
  case round =>
    obtain ⟨k, hk, rfl, hbl, hall⟩ := hrel
    rename World => W
    by_cases hlt : k < xs.length
    · have HT := Lib.hid (take_snoc hlt)
      have HG := Lib.hid (show xs[k]? = some xs[k] from by simp)
      have HC := Lib.hid (bclo_any xs[k] W pb (below_cell hbl (Nat.le_refl _) HP.out) (HTT.out.below hbl (Nat.le_refl _)))
      obtain ⟨b, o, rfl, hc⟩ := HA.out.at k hlt
      have g0 : W.cell? ⟨b, o + k * 2, none⟩ = some (.int .i64 xs[k].1) := below_cell hbl (Nat.le_refl _) (hc 0 _ rfl)
      have g1 : W.cell? ⟨b, o + k * 2 + 1, none⟩ = some (.string (bs xs[k].2)) := below_cell hbl (Nat.le_refl _) (hc 1 _ rfl)
      generalize xs[k] = x at *
      have HK := Lib.hid hk
      have HBL := Lib.hid hbl
      have HALL := Lib.hid hall
      have w1 : IntKind.i64.wrap ((k : Int) + 1) = ((k + 1 : Nat) : Int) := IntWalk.i64_in _ (by omega)
      have k0 : (0 : Int) ≤ (k : Int) := by omega
      have k1 : (k : Int) < (xs.length : Int) := by omega
      obtain ⟨b2, hb2⟩ : ∃ b, (idB T) x = b := ⟨_, rfl⟩
      rw [hb2] at HC
      have HB2 := Lib.hid hb2
      clear hk hbl hall hc hb2
      rcases b2 with _ | _
      · go_wp2_with (go_at_call 130; (refine HC.out.mono ?_); (rintro e V1 ⟨rfl, hb⟩); (have HB3 := Lib.hid (HBL.out.trans (hb.mono HBL.out.size))); (clear hb))
        go_ret
        refine ⟨⟨_, rfl, ?_⟩, HB3.out⟩
        rw [all_false HG.out HB2.out, decide_eq_true k0]
        rfl
      · go_wp2_with (go_at_call 130; (refine HC.out.mono ?_); (rintro e V1 ⟨rfl, hb⟩); (have HB3 := Lib.hid (HBL.out.trans (hb.mono HBL.out.size))); (clear hb))
        have hk := HK.out
        go_roundg (xs.length - (k + 1))
        · refine ⟨k + 1, by omega, rfl, HB3.out, ?_⟩
          rw [HT.out, all_snoc, HALL.out, HB2.out]
          rfl
        · omega
    · have hke : k = xs.length := by omega
      have HBL := Lib.hid hbl
      have HALL : Hid (xs.all (idB T) = true) := Lib.hid (by rw [hke, List.take_length] at hall; exact hall)
      have k1 : ¬ (k : Int) < (xs.length : Int) := by omega
      clear hk hke hbl hall
      go_wp2_with fail
      go_ret
      exact ⟨⟨_, rfl, by rw [HALL.out]; rfl⟩, HBL.out⟩
end
theorem results_tm4 {fn : Func} {a b c d : Tmp} (h : fn.results = #[.tmp a, .tmp b, .tmp c, .tmp d]) (tmps : Array Value) (P : Program) (w : World) :
    (results fn tmps).run P w = .ok (.tuple #[tmps.getD a undef, tmps.getD b undef, tmps.getD c undef, tmps.getD d undef]) w := by
  simp only [results, h]
  simp [Sem.run_bind, Result.andThen]
structure VocIs (w : World) (base vb : Nat) (s : SpecP) (T : List Ent) (A1 A2 A3 A4 A5 : Option Addr) (c1 c2 c3 c4 c5 tbase tb bk kbase mk : Nat) (sv : Value) (mb mp : Nat) (sv2 : Value) (mi mt : Nat) (l : Value) (dn st se us : Int) : Prop where
  blk : w.heap[vb]? = some (.cells #[.bool s.rk, .slice A1 s.ms.length c1, .slice A2 s.ts.length c2, .slice A3 s.xs.length c3, .slice A4 s.cs.length c4, .slice A5 s.js.length c5, .pointer (some ⟨tb, 0, none⟩), .pointer (some ⟨bk, 0, none⟩), .pointer (some ⟨mk, 0, none⟩), .int .u32 dn, .int .i32 st, .int .u32 se, l, .int .i64 us] 202)
  org : ∃ V0 : World, V0.heap.size ≤ vb ∧ SpecAt V0 s A1 A2 A3 A4 A5 ∧ TabIs V0 tbase tb T sv mb mp ∧ BTab V0 bk (Cof s.cs) (Jof s.js) ∧ MarkIs V0 kbase mk s.xs sv2 mi mt ∧ Below V0.heap.size V0 w
  lt : base ≤ vb ∧ base ≤ tbase ∧ base ≤ kbase
section
variable {w : World} {base vb : Nat} {s : SpecP} {T : List Ent} {A1 A2 A3 A4 A5 : Option Addr} {c1 c2 c3 c4 c5 tbase tb bk kbase mk : Nat} {sv : Value} {mb mp : Nat} {sv2 : Value} {mi mt : Nat} {l : Value} {dn st se us : Int}
theorem VocIs.spec (h : VocIs w base vb s T A1 A2 A3 A4 A5 c1 c2 c3 c4 c5 tbase tb bk kbase mk sv mb mp sv2 mi mt l dn st se us) : SpecAt w s A1 A2 A3 A4 A5 := by obtain ⟨V0, _, a, b, c, d, e⟩ := h.org; exact a.below e (Nat.le_refl _)
theorem VocIs.tab (h : VocIs w base vb s T A1 A2 A3 A4 A5 c1 c2 c3 c4 c5 tbase tb bk kbase mk sv mb mp sv2 mi mt l dn st se us) : TabIs w tbase tb T sv mb mp := by obtain ⟨V0, _, a, b, c, d, e⟩ := h.org; exact b.below e (Nat.le_refl _)
theorem VocIs.bnd (h : VocIs w base vb s T A1 A2 A3 A4 A5 c1 c2 c3 c4 c5 tbase tb bk kbase mk sv mb mp sv2 mi mt l dn st se us) : BTab w bk (Cof s.cs) (Jof s.js) := by obtain ⟨V0, _, a, b, c, d, e⟩ := h.org; exact c.below e (blk_lt c.1)
end
theorem BTab.lt {w : World} {bk : Nat} {C : Nat → Int} {J : Nat → Nat → Bool} (h : BTab w bk C J) : bk < w.heap.size := blk_lt h.1
section
variable {w : World} {s : SpecP} {T : List Ent} {AM AT AX AC AJ : Option Addr} {cM cT cX cC cJ : Nat}
set_option maxHeartbeats 2000000 in
theorem build_any (hs : SpecAt w s AM AT AX AC AJ)
    (hL : ∀ V, Below w.heap.size w V → Calls Tryz.prog 127 #[specW s AM AT AX AC AJ cM cT cX cC cJ] V fun e w' => (∃ tb sv mb mp n, e = .returned (.tuple #[.pointer (some ⟨tb, 0, none⟩), .int .i64 n, .int .i64 0]) ∧ TabIs w' V.heap.size tb T sv mb mp) ∧ Below V.heap.size V w')
    (hM : ∀ V, Below w.heap.size w V → Calls Tryz.prog 128 #[.slice AX s.xs.length cX] V fun e w' => (∃ mb sv mi mt n, e = .returned (.tuple #[.pointer (some ⟨mb, 0, none⟩), .int .i64 n, .int .i64 0]) ∧ MarkIs w' V.heap.size mb s.xs sv mi mt) ∧ Below V.heap.size V w')
    (hid : s.xs.all (idB T) = true) (hln : s.ms.length ≤ 1000000 ∧ s.ts.length ≤ 1000000 ∧ s.xs.length ≤ 1000000 ∧ s.cs.length ≤ 1000000 ∧ s.js.length ≤ 1000000) (hcs : s.cs.all spanB = true) (hjs : s.js.all jnB = true) :
    Calls Tryz.prog 98 #[specW s AM AT AX AC AJ cM cT cX cC cJ] w fun e w' => (∃ vb A1 A2 A3 A4 A5 c1 c2 c3 c4 c5 tbase tb bk kbase mk sv mb mp sv2 mi mt, e = .returned (.tuple #[.pointer (some ⟨vb, 0, none⟩), .int .i64 0, .int .i64 0, .int .i64 0]) ∧ VocIs w' w.heap.size vb s T A1 A2 A3 A4 A5 c1 c2 c3 c4 c5 tbase tb bk kbase mk sv mb mp sv2 mi mt (.slice none 0 0) 0 0 0 0) ∧ Below w.heap.size w w' := by
  unfold specW specV at hL ⊢
  have HS := Lib.hid hs
  have HL := Lib.hid hL
  have HM := Lib.hid hM
  have HI := Lib.hid hid
  have HLN := Lib.hid hln
  have HC := Lib.hid hcs
  have HJ := Lib.hid hjs
  have HB0 := Lib.hid ((Below.refl w.heap.size w).alloc (Nat.le_refl _) (.cells #[.bool s.rk, .slice AM s.ms.length cM, .slice AT s.ts.length cT, .slice AX s.xs.length cX, .slice AC s.cs.length cC, .slice AJ s.js.length cJ] 115))
  have HO0 := Lib.hid (blk_new w (.cells #[.bool s.rk, .slice AM s.ms.length cM, .slice AT s.ts.length cT, .slice AX s.xs.length cX, .slice AC s.cs.length cC, .slice AJ s.js.length cJ] 115))
  obtain ⟨sb, hsb⟩ : ∃ sb, w.heap.size = sb := ⟨_, rfl⟩
  have HO0 : Hid ((w.alloc (.cells #[.bool s.rk, .slice AM s.ms.length cM, .slice AT s.ts.length cT, .slice AX s.xs.length cX, .slice AC s.cs.length cC, .slice AJ s.js.length cJ] 115)).heap[sb]? = some (.cells #[.bool s.rk, .slice AM s.ms.length cM, .slice AT s.ts.length cT, .slice AX s.xs.length cX, .slice AC s.cs.length cC, .slice AJ s.js.length cJ] 115)) := Lib.hid (by rw [← hsb]; exact HO0.out)
  clear hs hL hM hid hln hcs hjs
  go_enter Tryz.func98, Tryz.ntmps98
  go_upto_region 13 with (first
    | (go_at_call 127; (refine (HL.out _ HB0.out).mono ?_); (rintro e V1 ⟨⟨tb, sv, mb, mp, n1, rfl, ht⟩, hb⟩); (have HB1 := Lib.hid ((HB0.out.trans (hb.mono HB0.out.size)).trans (((Below.refl V1.heap.size V1).alloc (Nat.le_refl _) (.cells #[.pointer (some ⟨tb, 0, none⟩)] 124)).mono (HB0.out.trans (hb.mono HB0.out.size)).size))); (have HO1 := Lib.hid (blk_alloc (blk_below hb (blk_lt HO0.out) HO0.out) (.cells #[.pointer (some ⟨tb, 0, none⟩)] 124))); (have HP1 := Lib.hid (blk_new V1 (.cells #[.pointer (some ⟨tb, 0, none⟩)] 124))); (have HT1 := Lib.hid (ht.below ((Below.refl V1.heap.size V1).alloc (Nat.le_refl _) (.cells #[.pointer (some ⟨tb, 0, none⟩)] 124)) (Nat.le_refl _))); (have a1 := blk_cell HO1.out 3); (simp only [List.getElem?_toArray, List.getElem?_cons_zero, List.getElem?_cons_succ] at a1); (clear ht hb))
    | (go_at_call 128; (obtain ⟨pb, hpb⟩ : ∃ pb, V1.heap.size = pb := ⟨_, rfl⟩); (have HP1 := Lib.hid HP1.out); (rw [hpb] at HP1 ⊢); (generalize hX : V1.alloc (.cells #[.pointer (some ⟨tb, 0, none⟩)] 124) = X at *); (clear hX hpb); (refine (HM.out X HB1.out).mono ?_); (rintro e V2 ⟨⟨mk, sv2, mi, mt, n2, rfl, hm⟩, hb⟩); (have HB2 := Lib.hid (HB1.out.trans (hb.mono HB1.out.size))); (have HO2 := Lib.hid (blk_below hb (blk_lt HO1.out) HO1.out)); (have HP2 := Lib.hid (blk_below hb (blk_lt HP1.out) HP1.out)); (have HT2 := Lib.hid (HT1.out.below hb (Nat.le_refl _))); (have HK2 := Lib.hid hm); (have a2 := blk_cell HO2.out 3); (simp only [List.getElem?_toArray, List.getElem?_cons_zero, List.getElem?_cons_succ] at a2); (clear hm hb))
    | (go_at_call 129; (refine (bidx_any s.xs AX cX pb V2 (HS.out.xs.below HB2.out (Nat.le_refl _)) (blk_cell HP2.out 0) HT2.out HS.out.len.2.2.1).mono ?_); (rintro e V3 ⟨⟨r, rfl, hr⟩, hb⟩); (rw [HI.out] at hr); (have r0 : ¬ (0 : Int) ≤ r := of_decide_eq_false hr); (have HB3 := Lib.hid (HB2.out.trans (hb.mono HB2.out.size))); (have HO3 := Lib.hid (blk_below hb (blk_lt HO2.out) HO2.out)); (have HP3 := Lib.hid (blk_below hb (blk_lt HP2.out) HP2.out)); (have HT3 := Lib.hid (HT2.out.below hb (Nat.le_refl _))); (have HK3 := Lib.hid (HK2.out.below hb (Nat.le_refl _))); (have a3 := blk_cell HO3.out 4); (have a4 := blk_cell HO3.out 5); (simp only [List.getElem?_toArray, List.getElem?_cons_zero, List.getElem?_cons_succ] at a3 a4); (clear hr hb))
    | (go_at_call 131; (refine (bnew_any s.cs s.js AC AJ cC cJ V3 (HS.out.cs.below HB3.out (Nat.le_refl _)) (HS.out.js.below HB3.out (Nat.le_refl _)) HS.out.len.2.2.2.1 HS.out.len.2.2.2.2).mono ?_); (rintro e V4 ⟨hb, hn⟩); (rw [if_pos (by rw [HC.out, HJ.out]; rfl)] at hn); (obtain ⟨bk, hbk, rfl, hbt, hbs⟩ := hn); (have HB4 := Lib.hid (HB3.out.trans (hb.mono HB3.out.size))); (have HO4 := Lib.hid (blk_below hb (blk_lt HO3.out) HO3.out)); (have HP4 := Lib.hid (blk_below hb (blk_lt HP3.out) HP3.out)); (have HT4 := Lib.hid (HT3.out.below hb (Nat.le_refl _))); (have HK4 := Lib.hid (HK3.out.below hb (Nat.le_refl _))); (have HN4 : Hid (BTab V4 bk (Cof s.cs) (Jof s.js)) := Lib.hid ⟨hbt, hbs⟩); (clear hb hbk hbt hbs)))
  clear a1 a2 a3 a4 r0
  refine wp_region_D (Ds := []) (S := fun V => V.cell? ⟨sb, 0, none⟩ = some (.bool s.rk) ∧ V.cell? ⟨sb, 1, none⟩ = some (.slice AM s.ms.length cM) ∧ V.cell? ⟨sb, 2, none⟩ = some (.slice AT s.ts.length cT) ∧ V.cell? ⟨sb, 3, none⟩ = some (.slice AX s.xs.length cX) ∧ V.cell? ⟨sb, 4, none⟩ = some (.slice AC s.cs.length cC) ∧ V.cell? ⟨sb, 5, none⟩ = some (.slice AJ s.js.length cJ) ∧ V.cell? ⟨pb, 0, none⟩ = some (.pointer (some ⟨tb, 0, none⟩))) (by kernel_rfl) (by (have q0 := blk_cell HO4.out 0); (have q1 := blk_cell HO4.out 1); (have q2 := blk_cell HO4.out 2); (have q3 := blk_cell HO4.out 3); (have q4 := blk_cell HO4.out 4); (have q5 := blk_cell HO4.out 5); (have q6 := blk_cell HP4.out 0); (simp only [List.getElem?_toArray, List.getElem?_cons_zero, List.getElem?_cons_succ] at q0 q1 q2 q3 q4 q5 q6); exact And.intro q0 (And.intro q1 (And.intro q2 (And.intro q3 (And.intro q4 (And.intro q5 (q6))))))) (fun hHeld => ?_)
  (have hd : Below V4.heap.size V4 V4.drew := ⟨rfl, rfl, rfl, Nat.le_refl _, fun _ _ => rfl⟩); (replace HB4 := Lib.hid HB4.out.drew); (replace HO4 := Lib.hid (blk_below hd (blk_lt HO4.out) HO4.out)); (replace HP4 := Lib.hid (blk_below hd (blk_lt HP4.out) HP4.out)); (replace HT4 := Lib.hid (HT4.out.below hd (Nat.le_refl _))); (replace HK4 := Lib.hid (HK4.out.below hd (Nat.le_refl _))); (replace HN4 := Lib.hid (HN4.out.below hd (blk_lt HN4.out.1))); clear hd; generalize V4.drew = X4 at *
  refine tkP 3 54 ?_ rfl (.inl ⟨by rfl, ?_⟩) ?_; rotate_left; focus (intro w' _; go_simp; (try with_reducible rfl))
  try simp only [sIB, sC0, sCS]
  refine tkP 4 55 ?_ rfl (.inl ⟨by rfl, ?_⟩) ?_; rotate_left; focus (intro w' _; go_simp; (try with_reducible rfl))
  try simp only [sIB, sC0, sCS]
  refine tkD 0 51 ?_ rfl hHeld (.inl ⟨by rfl, ?_⟩) ?_; rotate_left; focus (intro w' hSw; (try dsimp only at hSw); go_simp; (try with_reducible rfl))
  try simp only [sIB, sC0, sCS]
  refine tkD 2 53 ?_ rfl hHeld (.inl ⟨by rfl, ?_⟩) ?_; rotate_left; focus (intro w' hSw; (try dsimp only at hSw); go_simp; (try with_reducible rfl))
  try simp only [sIB, sC0, sCS]
  refine wpAnyD_one (i := 1) (by kernel_rfl) rfl (by rfl) (fun K hK => ?_)
  go_simp; refine (copied_any (s := s) (HS.out.below HB4.out (Nat.le_refl _)) (by have := HLN.out; omega)).mono ?_; rintro e V5 ⟨⟨A1, A2, A3, A4, A5, c1, c2, c3, c4, c5, rfl, hsp⟩, hb⟩; have HB5 := Lib.hid (HB4.out.trans (hb.mono HB4.out.size)); have HO5 := Lib.hid (blk_below hb (blk_lt HO4.out) HO4.out); have HP5 := Lib.hid (blk_below hb (blk_lt HP4.out) HP4.out); have HT5 := Lib.hid (HT4.out.below hb (Nat.le_refl _)); have HK5 := Lib.hid (HK4.out.below hb (Nat.le_refl _)); have HN5 := Lib.hid (HN4.out.below hb (blk_lt HN4.out.1)); have HS5 := Lib.hid hsp; clear hsp hb; have q0 := blk_cell HO5.out 0; have q1 := blk_cell HO5.out 1; have q2 := blk_cell HO5.out 2; have q3 := blk_cell HO5.out 3; have q4 := blk_cell HO5.out 4; have q5 := blk_cell HO5.out 5; have q6 := blk_cell HP5.out 0; simp only [List.getElem?_toArray, List.getElem?_cons_zero, List.getElem?_cons_succ] at q0 q1 q2 q3 q4 q5 q6; have h := And.intro q0 (And.intro q1 (And.intro q2 (And.intro q3 (And.intro q4 (And.intro q5 (q6)))))); clear q0 q1 q2 q3 q4 q5 q6; unfold specW specV; go_simp
  refine hK.out _ _ h (fun hHeld => ?_)
  clear hK K
  try simp only [Act.put, sIB, sC0, sCS]
  refine tkP 5 56 ?_ rfl (.inl ⟨by rfl, ?_⟩) ?_; rotate_left; focus (intro w' _; go_simp; (try with_reducible rfl))
  try simp only [sIB, sC0, sCS]
  refine tkP 6 57 ?_ rfl (.inl ⟨by rfl, ?_⟩) ?_; rotate_left; focus (intro w' _; go_simp; (try with_reducible rfl))
  try simp only [sIB, sC0, sCS]
  refine wpAnyD_one (i := 7) (by kernel_rfl) rfl (by rfl) (fun K hK => ?_)
  go_simp; have hal := ((Below.refl V5.heap.size V5).alloc (Nat.le_refl _) (.cells #[.bool s.rk, .slice A1 s.ms.length c1, .slice A2 s.ts.length c2, .slice A3 s.xs.length c3, .slice A4 s.cs.length c4, .slice A5 s.js.length c5, .pointer (some ⟨tb, 0, none⟩), .pointer (some ⟨bk, 0, none⟩), .pointer (some ⟨mk, 0, none⟩), .int .u32 0, .int .i32 0, .int .u32 0, .slice none 0 0, .int .i64 0] 202)); have HV := Lib.hid (blk_new V5 (.cells #[.bool s.rk, .slice A1 s.ms.length c1, .slice A2 s.ts.length c2, .slice A3 s.xs.length c3, .slice A4 s.cs.length c4, .slice A5 s.js.length c5, .pointer (some ⟨tb, 0, none⟩), .pointer (some ⟨bk, 0, none⟩), .pointer (some ⟨mk, 0, none⟩), .int .u32 0, .int .i32 0, .int .u32 0, .slice none 0 0, .int .i64 0] 202)); have HB6 := Lib.hid (HB5.out.trans (hal.mono HB5.out.size)); have HO6 := Lib.hid (blk_below hal (blk_lt HO5.out) HO5.out); have HP6 := Lib.hid (blk_below hal (blk_lt HP5.out) HP5.out); have HT6 := Lib.hid (HT5.out.below hal (Nat.le_refl _)); have HK6 := Lib.hid (HK5.out.below hal (Nat.le_refl _)); have HN6 := Lib.hid (HN5.out.below hal (blk_lt HN5.out.1)); have HS6 := Lib.hid (HS5.out.below hal (Nat.le_refl _)); have HVL := Lib.hid HB5.out.size; have HAL := Lib.hid hal; clear hal; obtain ⟨vb, hvb⟩ : ∃ vb, V5.heap.size = vb := ⟨_, rfl⟩; have HVB : Hid (V5.heap.size ≤ vb) := Lib.hid (Nat.le_of_eq hvb); rw [hvb] at HV HVL ⊢; clear hvb; generalize V5.alloc (.cells #[.bool s.rk, .slice A1 s.ms.length c1, .slice A2 s.ts.length c2, .slice A3 s.xs.length c3, .slice A4 s.cs.length c4, .slice A5 s.js.length c5, .pointer (some ⟨tb, 0, none⟩), .pointer (some ⟨bk, 0, none⟩), .pointer (some ⟨mk, 0, none⟩), .int .u32 0, .int .i32 0, .int .u32 0, .slice none 0 0, .int .i64 0] 202) = V6 at *; have q0 := blk_cell HO6.out 0; have q1 := blk_cell HO6.out 1; have q2 := blk_cell HO6.out 2; have q3 := blk_cell HO6.out 3; have q4 := blk_cell HO6.out 4; have q5 := blk_cell HO6.out 5; have q6 := blk_cell HP6.out 0; simp only [List.getElem?_toArray, List.getElem?_cons_zero, List.getElem?_cons_succ] at q0 q1 q2 q3 q4 q5 q6; have h := And.intro q0 (And.intro q1 (And.intro q2 (And.intro q3 (And.intro q4 (And.intro q5 (q6)))))); clear q0 q1 q2 q3 q4 q5 q6
  refine hK.out _ _ h (fun hHeld => ?_)
  clear hK K
  try simp only [Act.put, sIB, sC0, sCS]
  refine tkP 8 2 ?_ rfl (.inl ⟨by rfl, ?_⟩) ?_; rotate_left; focus (intro w' _; go_simp; (try with_reducible rfl))
  try simp only [sIB, sC0, sCS]
  refine tkP 9 3 ?_ rfl (.inl ⟨by rfl, ?_⟩) ?_; rotate_left; focus (intro w' _; go_simp; (try with_reducible rfl))
  try simp only [sIB, sC0, sCS]
  refine tkP 10 4 ?_ rfl (.inl ⟨by rfl, ?_⟩) ?_; rotate_left; focus (intro w' _; go_simp; (try with_reducible rfl))
  try simp only [sIB, sC0, sCS]
  refine tkP 11 5 ?_ rfl (.inl ⟨by rfl, ?_⟩) ?_; rotate_left; focus (intro w' _; go_simp; (try with_reducible rfl))
  try simp only [sIB, sC0, sCS]
  refine wpAnyD_done (by kernel_rfl) ?_ _
  go_wp2_with fail
  refine bodyPost_ret (results_tm4 rfl _ _ _) rfl ?_
  exact ⟨⟨vb, A1, A2, A3, A4, A5, c1, c2, c3, c4, c5, _, tb, bk, _, mk, _, _, _, _, _, _, rfl, HV.out, ⟨V5, HVB.out, HS5.out, HT5.out, HN5.out, HK5.out, HAL.out⟩, HVL.out, HB0.out.size, HB1.out.size⟩, HB6.out⟩
end
section
variable {w : World} {s : SpecP} {T : List Ent} {AM AT AX AC AJ : Option Addr} {cM cT cX cC cJ : Nat}
set_option maxHeartbeats 2000000 in
theorem vnew_any (hs : SpecAt w s AM AT AX AC AJ) (hR : rightS s = true)
    (hL : ∀ V, Below w.heap.size w V → Calls Tryz.prog 127 #[specW s AM AT AX AC AJ cM cT cX cC cJ] V fun e w' => (∃ tb sv mb mp n, e = .returned (.tuple #[.pointer (some ⟨tb, 0, none⟩), .int .i64 n, .int .i64 0]) ∧ TabIs w' V.heap.size tb T sv mb mp) ∧ Below V.heap.size V w')
    (hM : ∀ V, Below w.heap.size w V → Calls Tryz.prog 128 #[.slice AX s.xs.length cX] V fun e w' => (∃ mb sv mi mt n, e = .returned (.tuple #[.pointer (some ⟨mb, 0, none⟩), .int .i64 n, .int .i64 0]) ∧ MarkIs w' V.heap.size mb s.xs sv mi mt) ∧ Below V.heap.size V w')
    (hid : s.xs.all (idB T) = true) (hln : s.ms.length ≤ 1000000 ∧ s.ts.length ≤ 1000000 ∧ s.xs.length ≤ 1000000 ∧ s.cs.length ≤ 1000000 ∧ s.js.length ≤ 1000000) (hcs : s.cs.all spanB = true) (hjs : s.js.all jnB = true) :
    Calls Tryz.prog 62 #[specW s AM AT AX AC AJ cM cT cX cC cJ] w fun e w' => (∃ vb A1 A2 A3 A4 A5 c1 c2 c3 c4 c5 tbase tb bk kbase mk sv mb mp sv2 mi mt, e = .returned (.tuple #[.pointer (some ⟨vb, 0, none⟩), .int .i64 0, .int .i64 0]) ∧ VocIs w' w.heap.size vb s T A1 A2 A3 A4 A5 c1 c2 c3 c4 c5 tbase tb bk kbase mk sv mb mp sv2 mi mt (.slice none 0 0) 0 0 0 0) ∧ Below w.heap.size w w' := by
  have HB0 := Lib.hid ((Below.refl w.heap.size w).alloc (Nat.le_refl _) (.cells #[.bool s.rk, .slice AM s.ms.length cM, .slice AT s.ts.length cT, .slice AX s.xs.length cX, .slice AC s.cs.length cC, .slice AJ s.js.length cJ] 115))
  have HO0 := Lib.hid (blk_new w (.cells #[.bool s.rk, .slice AM s.ms.length cM, .slice AT s.ts.length cT, .slice AX s.xs.length cX, .slice AC s.cs.length cC, .slice AJ s.js.length cJ] 115))
  have HRI := Lib.hid (fun V (hV : Below w.heap.size w V) => sright_any (cM := cM) (cT := cT) (cX := cX) (cC := cC) (cJ := cJ) (hs.below hV (Nat.le_refl _)))
  rw [hR] at HRI
  have HBU := Lib.hid (fun V (hV : Below w.heap.size w V) => build_any (cM := cM) (cT := cT) (cX := cX) (cC := cC) (cJ := cJ) (hs.below hV (Nat.le_refl _)) (fun U hU => hL U (hV.trans (hU.mono hV.size))) (fun U hU => hM U (hV.trans (hU.mono hV.size))) hid hln hcs hjs)
  clear hs hR hL hM hid hln hcs hjs
  unfold specW specV at *
  go_enter Tryz.func62, Tryz.ntmps62
  go_wp2_with (first
    | (go_at_call 97; (refine (HRI.out _ HB0.out).mono ?_); (rintro e V1 ⟨rfl, hb⟩); (have HB1 := Lib.hid (HB0.out.trans (hb.mono HB0.out.size))); (have HO1 := Lib.hid (blk_below hb (blk_lt HO0.out) HO0.out)); (have q0 := blk_cell HO1.out 0); (have q1 := blk_cell HO1.out 1); (have q2 := blk_cell HO1.out 2); (have q3 := blk_cell HO1.out 3); (have q4 := blk_cell HO1.out 4); (have q5 := blk_cell HO1.out 5); (simp only [List.getElem?_toArray, List.getElem?_cons_zero, List.getElem?_cons_succ] at q0 q1 q2 q3 q4 q5); (clear hb))
    | (go_at_call 98; (refine (HBU.out V1 HB1.out).mono ?_); (rintro e V2 ⟨⟨vb, A1, A2, A3, A4, A5, c1, c2, c3, c4, c5, tbase, tb, bk, kbase, mk, sv, mb, mp, sv2, mi, mt, rfl, hv⟩, hb⟩); (have HV := Lib.hid hv); (have HB2 := Lib.hid (HB1.out.trans (hb.mono HB1.out.size))); (clear hv hb)))
  go_ret3
  have hv := HV.out
  have hz := HB1.out.size
  exact ⟨⟨vb, A1, A2, A3, A4, A5, c1, c2, c3, c4, c5, tbase, tb, bk, kbase, mk, sv, mb, mp, sv2, mi, mt, rfl, ⟨hv.blk, hv.org, Nat.le_trans hz hv.lt.1, Nat.le_trans hz hv.lt.2.1, Nat.le_trans hz hv.lt.2.2⟩⟩, HB2.out⟩
end
section
variable {w : World} {base vb : Nat} {s : SpecP} {T : List Ent} {A1 A2 A3 A4 A5 : Option Addr} {c1 c2 c3 c4 c5 tbase tb bk kbase mk : Nat} {sv : Value} {mb mp : Nat} {sv2 : Value} {mi mt : Nat} {l : Value} {dn st se us : Int}
theorem vtable_any (h : VocIs w base vb s T A1 A2 A3 A4 A5 c1 c2 c3 c4 c5 tbase tb bk kbase mk sv mb mp sv2 mi mt l dn st se us) : Calls Tryz.prog 68 #[.pointer (some ⟨vb, 0, none⟩)] w fun e w' => e = .returned (.pointer (some ⟨tb, 0, none⟩)) ∧ w' = w := by
  have c := blk_cell h.blk 6
  simp only [List.getElem?_toArray, List.getElem?_cons_zero, List.getElem?_cons_succ] at c
  clear h
  go_enter Tryz.func68, Tryz.ntmps68
  go_wp2_with fail
  go_ret
  exact ⟨rfl, rfl⟩
end
def cutLast (cut : Nat → Nat → Bool) (p : List UInt8) (c : UInt8) : Bool := match p.getLast? with | none => false | some d => cut d.toNat c.toNat
def addByte (cut : Nat → Nat → Bool) (acc : List (List UInt8)) (c : UInt8) : List (List UInt8) :=
  match acc.getLast? with
  | none => [[c]]
  | some p => if cutLast cut p c then acc ++ [[c]] else acc.dropLast ++ [p ++ [c]]
def pcs (cut : Nat → Nat → Bool) (l : List UInt8) : List (List UInt8) := l.foldl (addByte cut) []
open Go.RowKit
def TP (w : World) (p : Option Addr) (cut : Nat → Nat → Bool) : Prop :=
  (p = none ∧ cut = fun _ _ => false) ∨ ∃ bk C J, p = some ⟨bk, 0, none⟩ ∧ BTab w bk C J ∧ cut = cutB C J
theorem TP.below {B : Nat} {w w' : World} {p : Option Addr} {cut : Nat → Nat → Bool} (h : TP w p cut) (hb : Below B w w') (hB : w.heap.size ≤ B) : TP w' p cut := by
  rcases h with h | ⟨bk, C, J, h1, h2, h3⟩
  · exact .inl h
  · exact .inr ⟨bk, C, J, h1, h2.below hb (Nat.lt_of_lt_of_le (blk_lt h2.1) hB), h3⟩
theorem TP.drewN {w : World} {p : Option Addr} {cut : Nat → Nat → Bool} (h : TP w p cut) (n : Nat) : TP (w.drewN n) p cut := h
def aloneB (T : List Ent) (C : Nat → Int) (J : Nat → Nat → Bool) (id : Int) : Bool := decide (encT T T.length (bytesT T id) = [id]) && decide ((pcs (cutB C J) (bytesT T id)).length ≤ 1)
def aloneL (T : List Ent) (C : Nat → Int) (J : Nat → Nat → Bool) (k : Nat) : List Bool := (List.range T.length).map (fun (i : Nat) => decide (i < k) && aloneB T C J (i : Int))
structure VocP where
  (vb : Nat) (s : SpecP) (T : List Ent) (A1 A2 A3 A4 A5 : Option Addr) (c1 c2 c3 c4 c5 tbase tb bk kbase km : Nat) (sv : Value) (mb mp : Nat) (sv2 : Value) (mi mt : Nat)
def VocQ (w : World) (base : Nat) (p : VocP) (l : Value) (dn st se us : Int) : Prop :=
  VocIs w base p.vb p.s p.T p.A1 p.A2 p.A3 p.A4 p.A5 p.c1 p.c2 p.c3 p.c4 p.c5 p.tbase p.tb p.bk p.kbase p.km p.sv p.mb p.mp p.sv2 p.mi p.mt l dn st se us
section
variable {w w' : World} {base B : Nat} {p : VocP} {l : Value} {dn st se us : Int}
theorem VocQ.keep {F : Nat → Prop} (h : VocQ w base p l dn st se us) (k : Keep F w w') (hF : ∀ x, x ≤ p.vb → ¬ F x) : VocQ w' base p l dn st se us := by
  obtain ⟨V0, h1, h2, h3, h4, h5, h6⟩ := h.org
  exact ⟨k.blk h.blk (hF _ (Nat.le_refl _)), ⟨V0, h1, h2, h3, h4, h5, h6.trans (k.below h6.size (fun x hx => by
    apply Classical.byContradiction
    intro hn
    exact hF x (by omega) hx))⟩, h.lt⟩
theorem VocQ.lt_size (h : VocQ w base p l dn st se us) : p.vb < w.heap.size := blk_lt h.blk
theorem VocQ.below (h : VocQ w base p l dn st se us) (hb : Below B w w') (hB : w.heap.size ≤ B) : VocQ w' base p l dn st se us :=
  h.keep (F := fun x => B ≤ x) ⟨hb.os, hb.tape, hb.output, hb.size, fun x hx hf => hb.block x (by omega)⟩ (fun x hx hf => by have := h.lt_size; omega)
theorem VocQ.drew (h : VocQ w base p l dn st se us) : VocQ w.drew base p l dn st se us := h.below (B := w.heap.size) ⟨rfl, rfl, rfl, Nat.le_refl _, fun _ _ => rfl⟩ (Nat.le_refl _)
theorem VocQ.tab (h : VocQ w base p l dn st se us) : TabIs w p.tbase p.tb p.T p.sv p.mb p.mp := VocIs.tab h
theorem VocQ.bnd (h : VocQ w base p l dn st se us) : BTab w p.bk (Cof p.s.cs) (Jof p.s.js) := VocIs.bnd h
theorem VocQ.spec (h : VocQ w base p l dn st se us) : SpecAt w p.s p.A1 p.A2 p.A3 p.A4 p.A5 := VocIs.spec h
end
def VocP.cut (p : VocP) : Nat → Nat → Bool := cutB (Cof p.s.cs) (Jof p.s.js)
def VocP.al (p : VocP) (k : Nat) : List Bool := aloneL p.T (Cof p.s.cs) (Jof p.s.js) k
def VocAt (w : World) (base : Nat) (p : VocP) (g : Option Nat) : Prop :=
  ∃ l dn st se us, VocQ w base p l dn st se us ∧ ((g = none ∧ l = .slice none 0 0 ∧ dn = 0 ∧ st = 0) ∨
    ∃ r, g = some r ∧ p.vb < r ∧ l = .slice (some ⟨r, 0, none⟩) p.T.length p.T.length ∧ dn = 1 ∧ w.ownsRow r 4 1 (.slice (some ⟨r, 0, none⟩) p.T.length p.T.length) p.T.length ((p.al p.T.length).map Value.bool))
section
variable {w w' : World} {base B : Nat} {p : VocP} {g : Option Nat}
theorem VocAt.keep {F : Nat → Prop} (h : VocAt w base p g) (k : Keep F w w') (hF : ∀ x, x ≤ p.vb ∨ g = some x → ¬ F x) : VocAt w' base p g := by
  obtain ⟨l, dn, st, se, us, h1, h2⟩ := h
  refine ⟨l, dn, st, se, us, h1.keep k (fun x hx => hF x (.inl hx)), ?_⟩
  rcases h2 with h2 | ⟨r, h3, h4, h5, h6, h7⟩
  · exact .inl h2
  · refine .inr ⟨r, h3, h4, h5, h6, own_keep h7 k (fun x hx => ?_)⟩
    simp only [Value.ownBlock, Option.some.injEq] at hx
    subst hx
    exact hF _ (.inr h3)
theorem VocAt.lt_size (h : VocAt w base p g) : p.vb < w.heap.size := by
  obtain ⟨l, dn, st, se, us, h1, h2⟩ := h
  exact h1.lt_size
theorem VocAt.below (h : VocAt w base p g) (hb : Below B w w') (hB : w.heap.size ≤ B) : VocAt w' base p g := by
  obtain ⟨l, dn, st, se, us, h1, h2⟩ := h
  refine ⟨l, dn, st, se, us, h1.below hb hB, ?_⟩
  rcases h2 with h2 | ⟨r, h3, h4, h5, h6, h7⟩
  · exact .inl h2
  · exact .inr ⟨r, h3, h4, h5, h6, own_below h7 hb hB⟩
end
def atP (T : List Ent) (s : List UInt8) (i : Nat) : List Int := atA T (s.drop i)
structure LatIs (w : World) (base lb tr vb : Nat) (T : List Ent) (s : List UInt8) (k : Nat) (A : Option Addr) (c : Nat) (dn st se : Int) (fv : Value) (vals : List Value) : Prop where
  blk : w.heap[lb]? = some (.cells #[.pointer (some ⟨tr, 0, none⟩), .pointer (some ⟨vb, 0, none⟩), .string (bs s), .slice A k c, .int .u32 dn, .int .i32 st, .int .u32 se, fv] 142)
  row : w.ownsRow base 48 1 (.slice A k c) k vals
  ids : ∀ i, i < k → ∃ v, vals[i]? = some v ∧ w.ownsRow base 3 1 v (atP T s i).length ((atP T s i).map (Value.int .i64))
  lo : base ≤ lb
theorem row_tag {w : World} {base n size : Nat} {e : TypeId} {v : Value} {xs : List Value} (h : w.ownsRow base e size v n xs) {g : Nat} (hg : v.ownBlock = some g) : ∃ cs fz, w.heap[g]? = some (.cells cs e fz) := by
  rcases h.2 with ⟨h1, _⟩ | ⟨g', cap, cur, h1, h2, h3, _⟩
  · rw [h1] at hg; simp [Value.ownBlock] at hg
  · rw [h1] at hg
    simp only [Value.ownBlock, Option.some.injEq] at hg
    subst hg
    exact ⟨_, _, h3⟩
theorem row_off {w : World} {base n size : Nat} {e t : TypeId} {v : Value} {xs : List Value} (h : w.ownsRow base e size v n xs) {b : Nat} {cs : Array Value} {fz : Nat × Nat} (hb : w.heap[b]? = some (.cells cs t fz)) (ht : e ≠ t) : ∀ g, v.ownBlock = some g → g ≠ b := by
  intro g hg e0
  obtain ⟨cs', fz', h1⟩ := row_tag h hg
  rw [e0, hb] at h1
  injection h1 with h1
  injection h1 with _ h1 _
  exact ht h1.symm
section
variable {w w' W : World} {base lb tr vb : Nat} {T : List Ent} {s : List UInt8} {k : Nat} {A : Option Addr} {c : Nat} {dn st se : Int} {fv : Value} {vals : List Value}
theorem LatIs.below (h : LatIs w base lb tr vb T s k A c dn st se fv vals) (hb : Below w.heap.size w w') : LatIs w' base lb tr vb T s k A c dn st se fv vals :=
  ⟨blk_below hb (blk_lt h.blk) h.blk, own_below h.row hb (Nat.le_refl _), fun i hi => by
    obtain ⟨v, h1, h2⟩ := h.ids i hi
    exact ⟨v, h1, own_below h2 hb (Nat.le_refl _)⟩, h.lo⟩
theorem LatIs.drew (h : LatIs w base lb tr vb T s k A c dn st se fv vals) : LatIs w.drew base lb tr vb T s k A c dn st se fv vals := h.below (Below.refl _ _).drew
theorem LatIs.drewN (h : LatIs w base lb tr vb T s k A c dn st se fv vals) (m : Nat) : LatIs (w.drewN m) base lb tr vb T s k A c dn st se fv vals := h.below (below_drewN (Below.refl _ _) m)
theorem LatIs.keepT (h : LatIs w base lb tr vb T s k A c dn st se fv vals) {b : Nat} {cs : Array Value} {t : TypeId} {fz : Nat × Nat} (hb : w.heap[b]? = some (.cells cs t fz)) (h1 : t ≠ 142) (h2 : t ≠ 48) (h3 : t ≠ 3) (hk : Keep (fun x => x = b) w w') : LatIs w' base lb tr vb T s k A c dn st se fv vals :=
  ⟨hk.blk h.blk (fun e => by
    subst e
    have := h.blk
    rw [hb] at this
    injection this with this
    injection this with _ this _
    exact h1 this), own_keep h.row hk (row_off h.row hb (fun e => h2 e.symm)), fun i hi => by
    obtain ⟨v, q1, q2⟩ := h.ids i hi
    exact ⟨v, q1, own_keep q2 hk (row_off q2 hb (fun e => h3 e.symm))⟩, h.lo⟩
theorem LatIs.put (h : LatIs w base lb tr vb T s k A c dn st se fv vals) {dn' st' : Int} {fv' : Value} (hk : Keep (fun x => x = lb) w w')
    (hb : w'.heap[lb]? = some (.cells #[.pointer (some ⟨tr, 0, none⟩), .pointer (some ⟨vb, 0, none⟩), .string (bs s), .slice A k c, .int .u32 dn', .int .i32 st', .int .u32 se, fv'] 142)) : LatIs w' base lb tr vb T s k A c dn' st' se fv' vals :=
  ⟨hb, own_keep h.row hk (row_off h.row h.blk (by decide)), fun i hi => by
    obtain ⟨v, q1, q2⟩ := h.ids i hi
    exact ⟨v, q1, own_keep q2 hk (row_off q2 h.blk (by decide))⟩, h.lo⟩
theorem LatIs.lt (h : LatIs w base lb tr vb T s k A c dn st se fv vals) : lb < w.heap.size := blk_lt h.blk
theorem LatIs.c0 (h : LatIs w base lb tr vb T s k A c dn st se fv vals) : w.cell? ⟨lb, 0, none⟩ = some (.pointer (some ⟨tr, 0, none⟩)) := by have := blk_cell h.blk 0; simpa using this
theorem LatIs.c1 (h : LatIs w base lb tr vb T s k A c dn st se fv vals) : w.cell? ⟨lb, 1, none⟩ = some (.pointer (some ⟨vb, 0, none⟩)) := by have := blk_cell h.blk 1; simpa using this
theorem LatIs.c2 (h : LatIs w base lb tr vb T s k A c dn st se fv vals) : w.cell? ⟨lb, 2, none⟩ = some (.string (bs s)) := by have := blk_cell h.blk 2; simpa using this
theorem LatIs.c3 (h : LatIs w base lb tr vb T s k A c dn st se fv vals) : w.cell? ⟨lb, 3, none⟩ = some (.slice A k c) := by have := blk_cell h.blk 3; simpa using this
theorem LatIs.c7 (h : LatIs w base lb tr vb T s k A c dn st se fv vals) : w.cell? ⟨lb, 7, none⟩ = some fv := by have := blk_cell h.blk 7; simpa using this
theorem LatIs.z (h : LatIs w base lb tr vb T s k A c dn st se fv vals) (i : Nat) : w.frozen? ⟨lb, i, none⟩ = false := blk_froz h.blk i
theorem count_long (b : Nat) (s : ByteArray) (w : World) (h : 4000 < s.size) : Calls Tryz.prog 24 #[.pointer (some ⟨b, 0, none⟩), .string s] w fun e w' => e = .returned (.tuple #[.pointer none, .int .i64 3]) ∧ w' = w := by
  have h1 : (4000 : Int) < (s.size : Int) := by omega
  clear h
  go_enter Tryz.func24, Tryz.ntmps24
  go_wp2_with fail
  go_ret2
  exact ⟨rfl, rfl⟩
end
theorem VocAt.tbl {w : World} {base : Nat} {p : VocP} {g : Option Nat} (h : VocAt w base p g) : Calls Tryz.prog 68 #[.pointer (some ⟨p.vb, 0, none⟩)] w fun e w' => e = .returned (.pointer (some ⟨p.tb, 0, none⟩)) ∧ w' = w := by
  obtain ⟨l, dn, st, se, us, h1, _⟩ := h
  exact vtable_any h1
theorem VocAt.tabs {w : World} {base : Nat} {p : VocP} {g : Option Nat} (h : VocAt w base p g) : TabIs w p.tbase p.tb p.T p.sv p.mb p.mp := by
  obtain ⟨l, dn, st, se, us, h1, _⟩ := h
  exact h1.tab
theorem long_le {T : List Ent} : ∀ e ∈ T, e.1.length ≤ longT T := by
  have key : ∀ (l : List Ent) (n : Nat), n ≤ l.foldl (fun n e => max n e.1.length) n ∧ ∀ e ∈ l, e.1.length ≤ l.foldl (fun n e => max n e.1.length) n := by
    intro l
    induction l with
    | nil => intro n; exact ⟨Nat.le_refl _, by simp⟩
    | cons a l ih =>
      intro n
      obtain ⟨h1, h2⟩ := ih (max n a.1.length)
      rw [List.foldl_cons]
      refine ⟨by omega, fun e he => ?_⟩
      rcases List.mem_cons.1 he with rfl | he
      · omega
      · exact h2 e he
  exact (key T 1).2
theorem long_small {T : List Ent} (hT : OkT T) : 1 ≤ longT T ∧ longT T ≤ 64 := by
  have key : ∀ (l : List Ent) (n : Nat), (∀ e ∈ l, e.1.length ≤ 64) → n ≤ 64 → n ≤ l.foldl (fun n e => max n e.1.length) n ∧ l.foldl (fun n e => max n e.1.length) n ≤ 64 := by
    intro l
    induction l with
    | nil => intro n _ hn; exact ⟨Nat.le_refl _, hn⟩
    | cons a l ih =>
      intro n hl hn
      have := hl a (by simp)
      obtain ⟨h1, h2⟩ := ih (max n a.1.length) (fun e he => hl e (by simp [he])) (by omega)
      rw [List.foldl_cons]
      exact ⟨by omega, h2⟩
  exact key T 1 (fun e he => (hT.len e he).2) (by omega)
theorem beg_sub {T : List Ent} (hT : OkT T) (s : List UInt8) (i : Nat) : (begT T ((s.drop i).take (longT T)) ((s.drop i).take (longT T)).length).reverse = atP T s i := by
  rw [beg_long hT _ _ long_le]
  rfl
theorem atP_len (T : List Ent) (s : List UInt8) (i : Nat) : (atP T s i).length ≤ s.length := by
  unfold atP atA
  have := begT_le T (s.drop i) (s.drop i).length
  rw [List.length_drop] at this
  rw [List.length_reverse, List.length_drop]
  omega
theorem sub_bs (s : List UInt8) (i L : Nat) (h : i ≤ s.length) : (bs s).extract i (min (i + L) s.length) = bs ((s.drop i).take L) := by
  rw [extract_bs]
  congr 1
  show ((s.drop i).take (min (i + L) s.length - i)) = _
  by_cases h2 : i + L ≤ s.length
  · rw [Nat.min_eq_left h2, Nat.add_sub_cancel_left]
  · rw [Nat.min_eq_right (by omega), List.take_of_length_le (by rw [List.length_drop]; omega), List.take_of_length_le (by rw [List.length_drop]; omega)]
theorem slice_strB (Z : ByteArray) (a b : Nat) (w : World) (h1 : a ≤ b) (h2 : b ≤ Z.size) : (Instr.slice 9 (.string Z) (some (.int .i64 (a : Int))) (some (.int .i64 (b : Int))) none).run Tryz.prog w = .ok (.string (Z.extract a b)) w := by
  have h3 : (b : Int) ≤ (Z.size : Int) := by omega
  have h4 : (a : Int) ≤ (b : Int) := by omega
  have h5 : ¬ (Z.size : Int) < (b : Int) := by omega
  have h6 : ¬ (b : Int) < (a : Int) := by omega
  simp [go_sem, h1, h2, h3, h4, h5, h6]
theorem TrieIs.keepT2 {F : Nat → Prop} {w w' : World} {base rb : Nat} {N : List TN} {B : List (Nat × Nat)} (h : TrieIs w base rb N B) (k : Keep F w w') {t : TypeId} (ho : ∀ g, F g → ∃ cs fz, w.heap[g]? = some (.cells cs t fz)) (h1 : t ≠ 189) (h2 : t ≠ 210) : TrieIs w' base rb N B := by
  obtain ⟨r0, m0, q1, q2⟩ := h.top
  refine ⟨h.ok, h.len, ⟨r0, m0, q1, k.blk q2 (fun hf => ?_)⟩, fun i x b m hx hb => ?_, h.lo, h.inj⟩
  · obtain ⟨cs, fz, e⟩ := ho _ hf
    rw [q2] at e
    injection e with e
    injection e with _ e _
    exact h1 e.symm
  · obtain ⟨h3, h4⟩ := h.nod i x b m hx hb
    refine ⟨k.blk h3 (fun hf => ?_), h4.keep k (fun hf => ?_)⟩
    · obtain ⟨cs, fz, e⟩ := ho _ hf
      rw [h3] at e
      injection e with e
      injection e with _ e _
      exact h2 e.symm
    · obtain ⟨cs, fz, e⟩ := ho _ hf
      obtain ⟨es, cl, e3⟩ := h4.isMap
      rw [e] at e3
      cases e3
structure CntB (w W : World) (lb rb vb : Nat) (T : List Ent) (s : List UInt8) (k : Nat) (A : Option Addr) (c : Nat) (vals : List Value) (B : List (Nat × Nat)) : Prop where
  lat : LatIs W w.heap.size lb rb vb T s k A c 0 0 0 (.slice none 0 0) vals
  tri : TrieIs W w.heap.size rb (trieT T T.length) B
  blw : Below w.heap.size w W
theorem CntB.below {w W W' : World} {lb rb vb : Nat} {T : List Ent} {s : List UInt8} {k : Nat} {A : Option Addr} {c : Nat} {vals : List Value} {B : List (Nat × Nat)} (h : CntB w W lb rb vb T s k A c vals B) (hb : Below W.heap.size W W') : CntB w W' lb rb vb T s k A c vals B :=
  ⟨h.lat.below hb, h.tri.below hb (Nat.le_refl _), h.blw.trans (hb.mono h.blw.size)⟩
theorem CntB.drew {w W : World} {lb rb vb : Nat} {T : List Ent} {s : List UInt8} {k : Nat} {A : Option Addr} {c : Nat} {vals : List Value} {B : List (Nat × Nat)} (h : CntB w W lb rb vb T s k A c vals B) : CntB w W.drew lb rb vb T s k A c vals B := h.below (Below.refl _ _).drew
theorem info_si : (Tryz.prog.info? 48).map (fun i => (i.zero, i.size, i.bytes)) = some (some (.slice none 0 0), 1, 24) := by kernel_rfl
theorem CntB.step {w W7 W8 : World} {lb rb vb : Nat} {T : List Ent} {s : List UInt8} {k : Nat} {A : Option Addr} {c : Nat} {vals : List Value} {B : List (Nat × Nat)} (h : CntB w W7 lb rb vb T s k A c vals B) {vid : Value}
    (hid : W7.ownsRow w.heap.size 3 1 vid (atP T s k).length ((atP T s k).map (Value.int .i64))) {A' : Option Addr} {c' : Nat} (hrow : W8.ownsRow w.heap.size 48 1 (.slice A' (k + 1) c') (k + 1) (vals ++ [vid])) (hg : W7.grownBy W8 (Value.slice A k c).ownBlock) :
    W8.cell? ⟨lb, 3, none⟩ = some (.slice A k c) ∧ W8.frozen? ⟨lb, 3, none⟩ = false ∧ CntB w (W8.setCell ⟨lb, 3, none⟩ (.slice A' (k + 1) c')) lb rb vb T s (k + 1) A' c' (vals ++ [vid]) B := by
  have hk : Keep (fun g => (Value.slice A k c).ownBlock = some g) W7 W8 := Keep.of_grown hg (fun g hg => hg)
  have hbl := hk.blk h.lat.blk (fun e => row_off h.lat.row h.lat.blk (by decide) _ e rfl)
  have hk2 : Keep (fun g => g = lb) W8 (W8.setCell ⟨lb, 3, none⟩ (.slice A' (k + 1) c')) := (Keep.refl (fun g => g = lb) W8).setCell (p := ⟨lb, 3, none⟩) (.inl rfl) _
  have hb2 := blk_set hbl 3 (.slice A' (k + 1) c')
  simp only [List.setIfInBounds_toArray, List.set_cons_zero, List.set_cons_succ] at hb2
  have hlen : vals.length = k := by have := h.lat.row.1; omega
  have hids : ∀ (v : Value) (n : Nat) (L : List Value), W7.ownsRow w.heap.size 3 1 v n L → (W8.setCell ⟨lb, 3, none⟩ (.slice A' (k + 1) c')).ownsRow w.heap.size 3 1 v n L := by
    intro v n L hv
    have h1 := own_keep hv hk (fun g hg hf => by
      obtain ⟨cs, fz, e1⟩ := row_tag h.lat.row hf
      exact row_off hv e1 (by decide) g hg rfl)
    exact own_keep h1 hk2 (row_off h1 hbl (by decide))
  refine ⟨by have := blk_cell hbl 3; simpa using this, blk_froz hbl 3, ⟨hb2, own_keep hrow hk2 (row_off hrow hbl (by decide)), fun i hi => ?_, h.lat.lo⟩, ?_, ?_⟩
  · by_cases e : i < k
    · obtain ⟨v, q1, q2⟩ := h.lat.ids i e
      exact ⟨v, by rw [List.getElem?_append_left (by omega)]; exact q1, hids _ _ _ q2⟩
    · have e2 : i = k := by omega
      subst e2
      refine ⟨vid, ?_, hids _ _ _ hid⟩
      rw [List.getElem?_append_right (by omega), hlen]
      simp
  · have h1 := TrieIs.keepT2 h.tri hk (fun g hg => row_tag h.lat.row hg) (by decide) (by decide)
    exact TrieIs.keepT2 h1 hk2 (fun g hg => by subst hg; exact ⟨_, _, hbl⟩) (by decide) (by decide)
  · exact (h.blw.trans (hk.below h.blw.size (fun x hx => own_base h.lat.row x hx))).trans (hk2.below (by have := h.blw.size; have := hk.size; omega) (fun x hx => by subst hx; exact h.lat.lo))
section
variable {w w' W : World} {base : Nat} {p : VocP} {g : Option Nat}
set_option maxHeartbeats 4000000 in
theorem count_new (h : VocAt w base p g) (hT : OkT p.T) (s : List UInt8) (hs : s.length ≤ 4000) :
    Calls Tryz.prog 24 #[.pointer (some ⟨p.vb, 0, none⟩), .string (bs s)] w fun e w' => (∃ lb tr A c vals, e = .returned (.tuple #[.pointer (some ⟨lb, 0, none⟩), .int .i64 0]) ∧ LatIs w' w.heap.size lb tr p.vb p.T s s.length A c 0 0 0 (.slice none 0 0) vals) ∧ Below w.heap.size w w' := by
  have HVT : Hid (∀ V, Below w.heap.size w V → Calls Tryz.prog 68 #[.pointer (some ⟨p.vb, 0, none⟩)] V fun e w' => e = .returned (.pointer (some ⟨p.tb, 0, none⟩)) ∧ w' = V) := Lib.hid (fun V hV => (h.below hV (Nat.le_refl _)).tbl)
  have HTN : Hid (∀ V, Below w.heap.size w V → Calls Tryz.prog 67 #[.pointer (some ⟨p.tb, 0, none⟩)] V fun e w' => (∃ rb B, e = .returned (.pointer (some ⟨rb, 0, none⟩)) ∧ TrieIs w' V.heap.size rb (trieT p.T p.T.length) B) ∧ Below V.heap.size V w') := Lib.hid (fun V hV => tnew_any (h.below hV (Nat.le_refl _)).tabs hT)
  have HLG : Hid (∀ V, Below w.heap.size w V → Calls Tryz.prog 69 #[.pointer (some ⟨p.tb, 0, none⟩)] V fun e w' => e = .returned (.int .i64 (longT p.T : Nat)) ∧ w' = V) := Lib.hid (fun V hV => longest_tab (h.below hV (Nat.le_refl _)).tabs)
  have HT := Lib.hid hT
  have HLS := Lib.hid (long_small hT)
  have HSL := Lib.hid hs
  have HDZ : Hid ((bs s).size = s.length) := Lib.hid (bs_size s)
  have hsz : ¬ (4000 : Int) < ((bs s).size : Int) := by rw [bs_size]; omega
  clear h hT hs
  go_enter Tryz.func24, Tryz.ntmps24
  go_upto_region 6 with (first
    | (go_at_call 68; refine (HVT.out _ (Below.refl _ _)).mono ?_; rintro e w1 ⟨rfl, hw⟩; rw [hw]; clear hw w1)
    | (go_at_call 67; refine (HTN.out _ (Below.refl _ _)).mono ?_; rintro e w2 ⟨⟨rb, B, rfl, ht⟩, hb⟩; (have HTR := Lib.hid ht); (have HB2 := Lib.hid hb); clear ht hb))
  have hb3 := (Below.refl w2.heap.size w2).alloc (Nat.le_refl _) (.cells #[.pointer (some ⟨rb, 0, none⟩), .pointer (some ⟨p.vb, 0, none⟩), .string (bs s), .slice none 0 0, .int .u32 0, .int .i32 0, .int .u32 0, .slice none 0 0] 142)
  have HST : Hid (CntB w (w2.alloc (.cells #[.pointer (some ⟨rb, 0, none⟩), .pointer (some ⟨p.vb, 0, none⟩), .string (bs s), .slice none 0 0, .int .u32 0, .int .i32 0, .int .u32 0, .slice none 0 0] 142)) w2.heap.size rb p.vb p.T s 0 none 0 [] B) := Lib.hid ⟨⟨blk_new _ _, own_nil _ _ _ _, fun i hi => by omega, HB2.out.size⟩, HTR.out.below hb3 (Nat.le_refl _), HB2.out.trans (hb3.mono HB2.out.size)⟩
  clear hb3 HTR HB2
  obtain ⟨lb, hlb⟩ : ∃ l, w2.heap.size = l := ⟨_, rfl⟩
  rw [hlb] at HST ⊢
  clear hlb
  generalize w2.alloc (.cells #[.pointer (some ⟨rb, 0, none⟩), .pointer (some ⟨p.vb, 0, none⟩), .string (bs s), .slice none 0 0, .int .u32 0, .int .i32 0, .int .u32 0, .slice none 0 0] 142) = w3 at *
  go_wp2_with (first
    | (go_at_call 68; refine (HVT.out _ HST.out.blw).mono ?_; rintro e w1 ⟨rfl, hw⟩; rw [hw]; clear hw w1)
    | (go_at_call 69; refine (HLG.out _ HST.out.blw).mono ?_; rintro e w1 ⟨rfl, hw⟩; rw [hw]; clear hw w1))
  clear HTN HVT HLG
  obtain ⟨L, hL⟩ : ∃ L, longT p.T = L := ⟨_, rfl⟩
  have HL := Lib.hid hL
  rw [hL] at HLS ⊢
  clear hL
  obtain ⟨Z, hZ⟩ : ∃ Z, bs s = Z := ⟨_, rfl⟩
  have HZ := Lib.hid hZ
  rw [hZ] at HDZ hsz ⊢
  clear hZ
  go_loopg [29] Z.size (fun n i W => ∃ (k : Nat) (A : Option Addr) (c : Nat) (vals : List Value), k + n = Z.size ∧ i = .int .i64 (k : Int) ∧ CntB w W lb rb p.vb p.T s k A c vals B)
  case atStart => exact ⟨0, none, 0, [], by omega, rfl, HST.out⟩
  case round =>
    obtain ⟨k, A, c, vals, hk, rfl, hst⟩ := hrel
    clear HST
    rename World => W
    have HK := Lib.hid hk
    have HST := Lib.hid hst
    clear hk hst
    by_cases hlt : k < Z.size
    · have p0 : (0 : Int) ≤ (k : Int) := by omega
      have p1 : (k : Int) < (Z.size : Int) := by omega
      have p1' : (k : Int) ≤ (Z.size : Int) := by omega
      have w2' : IntKind.i64.wrap ((k : Int) + 1) = (k : Int) + 1 := IntWalk.i64_in _ (by have := HSL.out; have := HDZ.out; omega)
      have w3' : IntKind.i64.wrap ((k : Int) + (L : Int)) = (k : Int) + (L : Int) := IntWalk.i64_in _ (by have := HSL.out; have := HDZ.out; have := HLS.out; omega)
      have e0 := HST.out.lat.c0
      obtain ⟨M, hMd⟩ : ∃ M, min (k + L) Z.size = M := ⟨_, rfl⟩
      have hM : (if (Z.size : Int) < (k : Int) + (L : Int) then (Z.size : Int) else (k : Int) + (L : Int)) = (M : Int) := by split <;> omega
      have hsl : ∀ V, (Instr.slice 9 (.string Z) (some (.int .i64 (k : Int))) (some (.int .i64 (M : Int))) none).run Tryz.prog V = .ok (.string (bs ((s.drop k).take L))) V := fun V => by
        rw [slice_strB Z k M V (by omega) (by omega), ← hMd, ← HZ.out, HZ.out, HDZ.out, ← HZ.out, sub_bs s k L (by have := HDZ.out; omega)]
      have hbg := fun V (hV : CntB w V lb rb p.vb p.T s k A c vals B) => tbegin_any hV.tri HT.out ((s.drop k).take L) (by have := HSL.out; rw [List.length_take, List.length_drop]; omega)
      have HBG := Lib.hid hbg
      have HRV : Hid ((begT p.T ((s.drop k).take L) ((s.drop k).take L).length).reverse = atP p.T s k) := Lib.hid (by rw [← HL.out]; exact beg_sub HT.out s k)
      generalize begT p.T ((s.drop k).take L) ((s.drop k).take L).length = G at *
      generalize bs ((s.drop k).take L) = Y at *
      clear hMd hbg
      go_upto_region 10 with fail
      refine wp_region_D (Ds := []) (S := fun V => V.cell? ⟨lb, 0, none⟩ = some (.pointer (some ⟨rb, 0, none⟩))) (by kernel_rfl) (by exact e0) (fun hHeld => ?_)
      (replace HST := Lib.hid HST.out.drew); clear e0; generalize W.drew = W5 at *
      refine tkP 0 32 ?_ rfl (.inl ⟨by rfl, ?_⟩) ?_; rotate_left; focus (intro w' _; go_simp; (try with_reducible rfl))
      try simp only [sIB, sC0, sCS]
      refine tkP 1 33 ?_ rfl (.inl ⟨by rfl, ?_⟩) ?_; rotate_left; focus (intro w' _; go_simp; (try with_reducible rfl))
      try simp only [sIB, sC0, sCS]
      refine tkP 2 34 ?_ rfl (.inl ⟨by rfl, ?_⟩) ?_; rotate_left; focus (intro w' _; go_simp; (try with_reducible rfl))
      try simp only [sIB, sC0, sCS]
      refine tkP 4 36 ?_ rfl (.inl ⟨by rfl, ?_⟩) ?_; rotate_left; focus (intro w' _; go_simp; (try with_reducible rfl))
      try simp only [sIB, sC0, sCS]
      refine tkP 5 37 ?_ rfl (.inl ⟨by rfl, ?_⟩) ?_; rotate_left; focus (intro w' _; go_simp; (try with_reducible rfl))
      try simp only [sIB, sC0, sCS]
      refine tkP 6 38 ?_ rfl (.inl ⟨by rfl, ?_⟩) ?_; rotate_left; focus (intro w' _; go_simp; (try with_reducible rfl))
      try simp only [sIB, sC0, sCS]
      refine tkP 7 39 ?_ rfl (.inl ⟨by rfl, ?_⟩) ?_; rotate_left; focus (intro w' _; go_simp; (try with_reducible rfl))
      try simp only [sIB, sC0, sCS]
      refine tkP 8 40 ?_ rfl (.inl ⟨by rfl, ?_⟩) ?_; rotate_left; focus (intro w' _; go_simp; (try with_reducible rfl))
      try simp only [sIB, sC0, sCS]
      refine tkP 9 41 ?_ rfl (.inl ⟨by rfl, ?_⟩) ?_; rotate_left; focus (intro w' _; go_simp; (try with_reducible rfl))
      try simp only [sIB, sC0, sCS]
      refine tkD 3 35 ?_ rfl hHeld (.inl ⟨by rfl, ?_⟩) ?_; rotate_left; focus (intro w' hSw; (try dsimp only at hSw); go_simp; (try with_reducible rfl))
      try simp only [sIB, sC0, sCS]
      refine tkD 10 42 ?_ rfl hHeld (.inl ⟨by rfl, ?_⟩) ?_; rotate_left; focus (intro w' hSw; (try dsimp only at hSw); go_simp; (try with_reducible rfl))
      try simp only [sIB, sC0, sCS]
      refine tkD 11 43 ?_ rfl hHeld (.inl ⟨by rfl, ?_⟩) ?_; rotate_left; focus (intro w' hSw; (try dsimp only at hSw); go_simp; (try with_reducible rfl))
      try simp only [sIB, sC0, sCS]
      refine tkD 12 44 ?_ rfl hHeld (.inl ⟨by rfl, ?_⟩) ?_; rotate_left; focus (intro w' hSw; (try dsimp only at hSw); go_simp; (try with_reducible rfl))
      try simp only [sIB, sC0, sCS]
      refine wpAnyD_one (i := 13) (by kernel_rfl) rfl (by rfl) (fun K hK => ?_)
      go_simp; refine (HBG.out _ HST.out).mono ?_; rintro e W6 ⟨⟨v6, rfl, A6, c6, rfl, hv6⟩, hb'⟩; have HV6 := Lib.hid hv6; have HB6 := Lib.hid hb'; have h := below_cell hb' (Nat.le_refl _) hHeld; clear hv6 hb'; go_simp
      refine hK.out _ _ h (fun hHeld => ?_)
      clear hK K
      try simp only [Act.put, sIB, sC0, sCS]
      refine tkP 14 9 ?_ rfl (.inl ⟨by rfl, ?_⟩) ?_; rotate_left; focus (intro w' _; go_simp; (try with_reducible rfl))
      try simp only [sIB, sC0, sCS]
      refine wpAnyD_done (by kernel_rfl) ?_ _
      clear h hHeld hsl hM
      have hpos : 0 < G.length := by
        have h1 := HRV.out
        have hne : s.drop k ≠ [] := by
          intro e
          have h7 : (s.drop k).length = 0 := by rw [e]; rfl
          rw [List.length_drop] at h7
          have := HDZ.out
          omega
        obtain ⟨l, hl⟩ := at_byte HT.out hne
        have h2 := congrArg List.length h1
        unfold atP at h2
        rw [hl, List.length_reverse, List.length_append] at h2
        simp at h2
        omega
      obtain ⟨g6, cap6, he6, hg6, _, _⟩ := own_open HV6.out hpos
      injection he6 with he6 he7 he8
      subst he6
      have HGB := Lib.hid hg6
      have HGL : Hid (G.length < 1000000000000000000) := Lib.hid (by
        have h1 := congrArg List.length HRV.out
        have h2 := atP_len p.T s k
        have h3 := HSL.out
        rw [List.length_reverse] at h1
        omega)
      have HRI := Lib.hid (revI_any G W5.heap.size g6 c6 W6 HV6.out hg6 HGL.out)
      clear hpos hg6 he7 he8
      go_upto_region 12 with (go_at_call 71; refine HRI.out.mono ?_; rintro e W7 ⟨rfl, hr7, hk7⟩; (have HR7 := Lib.hid hr7); (have HB7 := Lib.hid (HB6.out.trans (hk7.below HB6.out.size (fun x hx => by subst hx; exact HGB.out)))); clear hr7 hk7)
      have HST7 := Lib.hid (HST.out.below HB7.out)
      rw [HRV.out] at HR7
      have hGl : G.length = (atP p.T s k).length := by rw [← HRV.out, List.length_reverse]
      have HRW : Hid (W7.ownsRow w.heap.size 3 1 (.slice (some ⟨g6, 0, none⟩) G.length c6) (atP p.T s k).length ((atP p.T s k).map (Value.int .i64))) := Lib.hid (by
        have := own_less HR7.out HST.out.blw.size
        rw [hGl] at this ⊢
        exact this)
      have c3 := HST7.out.lat.c3
      have hsz : w.heap.size ≤ W7.heap.size := HST7.out.blw.size
      have hkl : k ≤ 4000 := by have := HSL.out; have := HDZ.out; omega
      clear hGl HR7 HRI HV6 HB6 HST
      go_wp2_with (at_builtin; refine app_new w.heap.size 41 48 (.slice none 0 0) 1 24 [_] 1 _ _ rfl rfl Tryz.underlying41 info_si rfl (by decide) _ _ _ rfl rfl rfl (by intro u hu; simp at hu; subst hu; rfl) HST7.out.lat.row (by omega) (by omega) (by exact hsz) ?_)
      intro v' W8 hown hg8 hnew
      obtain ⟨A8, c8, rfl⟩ := own_slice hown
      have HST8 := Lib.hid (HST7.out.step HRW.out hown hg8)
      have d3 := HST8.out.1
      have z3 := HST8.out.2.1
      clear hown hg8 hnew c3 hsz hkl
      go_wp2_with fail
      go_roundg (gk - 1)
      case measure => have := HK.out; omega
      case rel => exact ⟨k + 1, A8, c8, _, by have := HK.out; omega, by simp, HST8.out.2.2⟩
    · have hke : k = s.length := by have := HK.out; have := HDZ.out; omega
      have p1 : ¬ (k : Int) < (Z.size : Int) := by have := HK.out; omega
      have HFIN : Hid (LatIs W w.heap.size lb rb p.vb p.T s s.length A c 0 0 0 (.slice none 0 0) vals) := Lib.hid (by rw [← hke]; exact HST.out.lat)
      clear hke
      go_wp2_with fail
      go_ret2
      first | exact ⟨⟨lb, rb, A, c, vals, rfl, HFIN.out⟩, HST.out.blw⟩ | exact ⟨⟨lb, rfl, rb, A, c, vals, HFIN.out⟩, HST.out.blw⟩
end
theorem eql_cInt (A : Option Addr) (n c : Nat) (w : World) : (binOp .eql 48 (.slice A n c) (.slice none 0 0)).run Tryz.prog w = .ok (.bool A.isNone) w := by
  cases A <;> kernel_rfl
theorem clone_int (l : List Int) (A : Option Addr) (c : Nat) (w : World) (h : Sl1 w A (Value.int .i64) l) (hlen : l.length ≤ 1000000) :
    Calls Tryz.prog 75 #[.slice A l.length c] w fun e w' => (∃ v, e = .returned v ∧ IntsIs w' w.heap.size v l) ∧ Below w.heap.size w w' := by
  have HL := Lib.hid h
  clear h
  cases A with
  | none =>
    have hl0 : l = [] := by
      rcases l with _ | ⟨x, l⟩
      · rfl
      · obtain ⟨b, o, e, _⟩ := HL.out 0 x rfl
        cases e
    subst hl0
    have heq := eql_cInt none 0 c w
    simp only [Option.isNone_none] at heq
    go_enter Tryz.func75, Tryz.ntmps75
    go_wp2_with fail
    go_ret
    exact ⟨⟨_, rfl, none, 0, rfl, own_nil _ _ _ _⟩, Below.refl _ _⟩
  | some a =>
    have heq := eql_cInt (some a) l.length c w
    simp only [Option.isNone_some] at heq
    have HE : Hid ((w.alloc (.cells #[] 3)).ownsRow w.heap.size 3 1 (.slice (some ⟨w.heap.size, 0, none⟩) 0 0) 0 []) := Lib.hid ⟨by simp, .inr ⟨w.heap.size, 0, #[], rfl, Nat.le_refl _, blk_new w _, Nat.le_refl _, Nat.zero_le _, by simp, by simp⟩⟩
    have HN : Hid (∀ j u, (l.map (Value.int .i64))[j]? = some u → (w.alloc (.cells #[] 3)).cell? (a.add j) = some u) := Lib.hid (by
      intro j u hu
      rw [List.getElem?_map, Option.map_eq_some_iff] at hu
      obtain ⟨x, h1, h2⟩ := hu
      subst h2
      obtain ⟨b, o, e, hc⟩ := HL.out j x h1
      cases e
      rw [add_plain]
      exact below_cell ((Below.refl w.heap.size w).alloc (Nat.le_refl _) _) (Nat.le_refl _) hc)
    have H1 : Hid (∀ u ∈ l.map (Value.int .i64), u.oneCell' = true) := Lib.hid (by intro u hu; obtain ⟨x, _, rfl⟩ := List.mem_map.1 hu; rfl)
    have HLEN : Hid ((l.map (Value.int .i64)).length = l.length * 1) := Lib.hid (by simp)
    obtain ⟨i, hif, hz0, hz1, hz2⟩ := info_parts info_int5
    have HI := Lib.hid hif
    have HZ := Lib.hid (And.intro hz0 (And.intro hz1 hz2))
    clear hif hz0 hz1 hz2
    go_enter Tryz.func75, Tryz.ntmps75
    go_wp2_with (at_builtin; refine wpList_append_own_at _ rfl _ _ 48 rfl w.heap.size 3 i (.int .i64 0) 1 8 Tryz.underlying48 HI.out HZ.out.1 HZ.out.2.1 HZ.out.2.2 rfl (by decide) _ 0 [] rfl HE.out a l.length c _ rfl HLEN.out HN.out H1.out (by unfold maxLen; omega) (by omega) (by simp) ?_)
    intro v' w' r1 r2 _ _
    have hb : Below w.heap.size w w' := by
      have h0 := (Below.refl w.heap.size w).alloc (Nat.le_refl _) (.cells #[] 3)
      have hk : Keep (fun k => k = w.heap.size) (w.alloc (.cells #[] 3)) w' := Keep.of_grown r2 (fun k hk => by simpa [Value.ownBlock] using hk.symm)
      exact h0.trans (hk.below (by simp) (fun x hx => by omega))
    obtain ⟨A, c', rfl⟩ := own_slice r1
    have HB := Lib.hid hb
    have HR := Lib.hid r1
    clear r1 r2 hb
    go_wp2_with fail
    go_ret
    exact ⟨⟨_, rfl, A, c', by simp, HR.out⟩, HB.out⟩
section
variable {w w' W : World} {base lb tr vb : Nat} {T : List Ent} {s : List UInt8} {A : Option Addr} {c : Nat} {dn st se : Int} {fv : Value} {vals : List Value}
theorem lvocab_any (h : LatIs w base lb tr vb T s s.length A c dn st se fv vals) : Calls Tryz.prog 33 #[.pointer (some ⟨lb, 0, none⟩)] w fun e w' => e = .returned (.pointer (some ⟨vb, 0, none⟩)) ∧ w' = w := by
  have c1 := h.c1
  clear h
  go_enter Tryz.func33, Tryz.ntmps33
  go_wp2_with fail
  go_ret
  exact ⟨rfl, rfl⟩
theorem lbytes_any (h : LatIs w base lb tr vb T s s.length A c dn st se fv vals) : Calls Tryz.prog 30 #[.pointer (some ⟨lb, 0, none⟩)] w fun e w' => e = .returned (.string (bs s)) ∧ w' = w := by
  have c2 := h.c2
  clear h
  generalize bs s = Z at *
  go_enter Tryz.func30, Tryz.ntmps30
  go_wp2_with fail
  go_ret
  exact ⟨rfl, rfl⟩
theorem lsize_any {b0 : Nat} {p : VocP} {g : Option Nat} (h : LatIs w base lb tr p.vb T s s.length A c dn st se fv vals) (hv : VocAt w b0 p g) (id : Int) : Calls Tryz.prog 31 #[.pointer (some ⟨lb, 0, none⟩), .int .i64 id] w fun e w' => e = .returned (.int .i64 (lenT p.T id : Nat)) ∧ w' = w := by
  have H1 := Lib.hid (lvocab_any h)
  have H2 := Lib.hid hv.tbl
  have H3 := Lib.hid (bytes_tab id hv.tabs)
  have HZ : Hid ((bs (bytesT p.T id)).size = lenT p.T id) := Lib.hid (by rw [bs_size]; rfl)
  clear h hv
  unfold strV at H3
  generalize bs (bytesT p.T id) = Z at *
  go_enter Tryz.func31, Tryz.ntmps31
  go_wp2_with (first
    | (go_at_call 33; refine H1.out.mono ?_; rintro e w1 ⟨rfl, hw⟩; rw [hw]; clear hw w1)
    | (go_at_call 68; refine H2.out.mono ?_; rintro e w1 ⟨rfl, hw⟩; rw [hw]; clear hw w1)
    | (go_at_call 76; refine H3.out.mono ?_; rintro e w1 ⟨rfl, hw⟩; rw [hw]; clear hw w1))
  go_ret
  exact ⟨by simp [HZ.out], rfl⟩
theorem lat_out (h : LatIs w base lb tr vb T s s.length A c dn st se fv vals) (i : Int) (hi : ¬ (0 ≤ i ∧ i < s.length)) : Calls Tryz.prog 29 #[.pointer (some ⟨lb, 0, none⟩), .int .i64 i] w fun e w' => e = .returned (.slice none 0 0) ∧ w' = w := by
  have H1 := Lib.hid (lbytes_any h)
  have hz : (bs s).size = s.length := bs_size s
  clear h
  generalize bs s = Z at *
  by_cases h0 : i < 0
  · go_enter Tryz.func29, Tryz.ntmps29
    go_wp2_with fail
    go_ret
    exact ⟨rfl, rfl⟩
  · have h2 : i ≥ 0 := by omega
    have h3 : (Z.size : Int) ≤ i := by omega
    clear hz hi
    go_enter Tryz.func29, Tryz.ntmps29
    go_wp2_with (go_at_call 30; refine H1.out.mono ?_; rintro e w1 ⟨rfl, hw⟩; rw [hw]; clear hw w1)
    go_ret
    exact ⟨rfl, rfl⟩
theorem lat_any (h : LatIs w base lb tr vb T s s.length A c dn st se fv vals) (i : Nat) (hi : i < s.length) (hs : s.length ≤ 1000000) : Calls Tryz.prog 29 #[.pointer (some ⟨lb, 0, none⟩), .int .i64 (i : Int)] w fun e w' => (∃ v, e = .returned v ∧ IntsIs w' w.heap.size v (atP T s i)) ∧ Below w.heap.size w w' := by
  have H1 := Lib.hid (lbytes_any h)
  have HZ : Hid ((bs s).size = s.length) := Lib.hid (bs_size s)
  have c3 := h.c3
  obtain ⟨v, hv1, hv2⟩ := h.ids i hi
  obtain ⟨A2, c2, rfl⟩ := own_slice hv2
  obtain ⟨g, cap, e1, _, _, hc⟩ := own_open h.row (by omega)
  injection e1 with e1 e2 e3
  subst e1
  have d0 := (hc i _ hv1).1
  have HC := Lib.hid (clone_int (atP T s i) A2 c2 w (own_sl1 hv2) (by have := atP_len T s i; omega))
  have p0 : (0 : Int) ≤ (i : Int) := by omega
  have p1 : ¬ (i : Int) < 0 := by omega
  have HSI := Lib.hid hi
  clear h hv1 hv2 hc e2 e3 hs
  obtain ⟨N, hN⟩ : ∃ N, s.length = N := ⟨_, rfl⟩
  rw [hN] at c3 HSI HZ
  clear hN
  generalize bs s = Z at *
  have p2 : (i : Int) < (Z.size : Int) := by have := HZ.out; have := HSI.out; omega
  have p3 : (i : Int) < (N : Int) := by have := HSI.out; omega
  clear hi
  go_enter Tryz.func29, Tryz.ntmps29
  go_wp2_with (first
    | (go_at_call 30; refine H1.out.mono ?_; rintro e w1 ⟨rfl, hw⟩; rw [hw]; clear hw w1)
    | (go_at_call 75; refine HC.out.mono ?_; rintro e w2 ⟨⟨v, rfl, A4, c4, rfl, hv⟩, hb⟩; (have HV := Lib.hid hv); (have HB := Lib.hid hb); clear hv hb))
  go_ret
  exact ⟨⟨_, rfl, A4, c4, rfl, HV.out⟩, HB.out⟩
end
abbrev Spl := Int × List UInt8
def longX (xs : List Spl) : Bool := xs.any (fun x => decide (100 < x.2.length))
def greatX (xs : List Spl) : Bool := longX xs || decide (40 < xs.length)
def rightX (x : Spl) : Bool := decide (0 ≤ x.1) && decide (x.1 ≤ 1073741824) && decide (1 ≤ x.2.length) && decide (x.2.length ≤ 64)
def freshX (l : List Spl) (x : Spl) : Bool := l.all (fun y => decide (y.1 ≠ x.1) && decide (y.2 ≠ x.2))
def okX (xs : List Spl) : Bool := decide (xs.length ≤ 32) && (List.range xs.length).all (fun i => rightX (xs.getD i (0, [])) && freshX (xs.take i) (xs.getD i (0, [])))
theorem okX_iff (xs : List Spl) : okX xs = true ↔ xs.length ≤ 32 ∧ ∀ i (h : i < xs.length), rightX xs[i] = true ∧ freshX (xs.take i) xs[i] = true := by
  unfold okX
  rw [Bool.and_eq_true, decide_eq_true_eq, List.all_eq_true]
  constructor
  · rintro ⟨h1, h2⟩
    refine ⟨h1, fun i h => ?_⟩
    have := h2 i (List.mem_range.2 h)
    rw [Bool.and_eq_true, List.getD_eq_getElem?_getD, List.getElem?_eq_getElem h] at this
    exact this
  · rintro ⟨h1, h2⟩
    refine ⟨h1, fun i hi => ?_⟩
    have h := List.mem_range.1 hi
    rw [Bool.and_eq_true, List.getD_eq_getElem?_getD, List.getElem?_eq_getElem h]
    exact h2 i h
theorem okX_bad {xs : List Spl} {i : Nat} (h : i < xs.length) (h2 : rightX xs[i] = false ∨ freshX (xs.take i) xs[i] = false ∨ 32 ≤ i) : okX xs = false := by
  rw [Bool.eq_false_iff]
  intro hk
  obtain ⟨h3, h4⟩ := (okX_iff xs).1 hk
  obtain ⟨h5, h6⟩ := h4 i h
  rcases h2 with h2 | h2 | h2
  · rw [h5] at h2; cases h2
  · rw [h6] at h2; cases h2
  · omega
theorem fresh_step {l : List Spl} {x : Spl} {k : Nat} (h : k < l.length) (h1 : freshX (l.take k) x = true) (h2 : l[k].1 ≠ x.1) (h3 : l[k].2 ≠ x.2) : freshX (l.take (k + 1)) x = true := by
  unfold freshX at *
  rw [List.take_add_one, List.getElem?_eq_getElem h, List.all_append, h1]
  simp [h2, h3]
theorem fresh_no {l : List Spl} {x : Spl} {k i : Nat} (h : k < l.length) (hk : k < i) (h2 : l[k].1 = x.1 ∨ l[k].2 = x.2) : freshX (l.take i) x = false := by
  rw [Bool.eq_false_iff]
  intro hf
  unfold freshX at hf
  rw [List.all_eq_true] at hf
  have := hf l[k] (List.mem_take_iff_getElem.2 ⟨k, by omega, rfl⟩)
  simp only [Bool.and_eq_true, decide_eq_true_eq] at this
  rcases h2 with h2 | h2
  · exact this.1 h2
  · exact this.2 h2
section
variable {w : World} {xs : List Spl} {A : Option Addr} {c : Nat}
theorem rgreat9_any (h : Sl w A encIS 2 xs) (hl : xs.length ≤ 9223372036854775807) :
    Calls Tryz.prog 96 #[.slice A xs.length c] w fun e w' => e = .returned (.bool (greatX xs)) ∧ w' = w := by
  have HS := Lib.hid h
  have HL := Lib.hid hl
  clear h hl
  go_enter Tryz.func96, Tryz.ntmps96
  go_wp2_with fail
  obtain ⟨N, hN⟩ : ∃ N, xs.length = N := ⟨_, rfl⟩
  have HN := Lib.hid hN
  rw [hN] at HL ⊢
  clear hN
  go_loopg [3] N (fun n i W => ∃ k : Nat, k + n = N ∧ i = .int .i64 (k : Int) ∧ longX (xs.take k) = false ∧ W = w)
  case atStart => exact ⟨0, by omega, rfl, rfl, rfl⟩
  case round =>
    obtain ⟨k, hk, rfl, hlo, hW⟩ := hrel
    subst hW
    have HLO := Lib.hid hlo
    clear hlo
    by_cases hlt : k < N
    · have hlt' : (k : Int) < (N : Int) := by omega
      have q0 : (0 : Int) ≤ (k : Int) := by omega
      have hk2 : k < xs.length := by rw [HN.out]; exact hlt
      obtain ⟨b, o, hA, hc⟩ := HS.out.at k hk2
      subst hA
      obtain ⟨x, hx⟩ : ∃ x, xs[k] = x := ⟨_, rfl⟩
      have HX := Lib.hid hx
      rw [hx] at hc
      have c1 : World.cell? _ ⟨b, o + k * 2 + 1, none⟩ = some (.string (bs x.2)) := hc 1 _ rfl
      have hsz : ((bs x.2).size : Int) = (x.2.length : Int) := by rw [bs_size]
      have ws : IntKind.i64.wrap ((k : Int) + 1) = (k : Int) + 1 := IntWalk.i64_in _ (by have := HL.out; omega)
      clear hc hx
      have HK2 := Lib.hid hk2
      by_cases h100 : 100 < x.2.length
      · have h100' : (100 : Int) < (x.2.length : Int) := by omega
        go_wp2_with fail
        go_ret
        refine ⟨?_, rfl⟩
        have : greatX xs = true := by
          unfold greatX longX
          rw [Bool.or_eq_true, List.any_eq_true]
          exact .inl ⟨xs[k]'HK2.out, List.getElem_mem _, by rw [HX.out]; simpa using h100⟩
        rw [this]
        rfl
      · have h100' : ¬ (100 : Int) < (x.2.length : Int) := by omega
        go_wp2_with fail
        go_roundg (gk - 1)
        case measure => omega
        case rel => exact ⟨k + 1, by omega, by simp, by
          unfold longX at *
          rw [List.take_add_one, List.getElem?_eq_getElem HK2.out, List.any_append, HLO.out, HX.out]
          simpa using h100, rfl⟩
    · have hke : k = N := by omega
      subst hke
      have hlt' : ¬ ((k : Nat) : Int) < (k : Int) := by omega
      go_wp2_with fail
      go_ret
      refine ⟨?_, rfl⟩
      have h1 := HLO.out
      rw [List.take_of_length_le (by rw [HN.out]; exact Nat.le_refl _)] at h1
      unfold greatX
      rw [h1, HN.out]
      simp
      omega
theorem rgreat_any {AL AC AJ : Option Addr} {cL cC cJ nl nc nj : Nat} (h : Sl w A encIS 2 xs) (hl : xs.length ≤ 9223372036854775807) :
    Calls Tryz.prog 61 #[.slice AL nl cL, .slice AC nc cC, .slice AJ nj cJ, .slice A xs.length c] w fun e w' => e = .returned (.bool (decide (60 < nl) || decide (20 < nc) || decide (20 < nj) || greatX xs)) ∧ w' = w := by
  have HG := Lib.hid (rgreat9_any (c := c) h hl)
  clear h hl
  by_cases h1 : 60 < nl
  · have h1' : (60 : Int) < (nl : Int) := by omega
    go_enter Tryz.func61, Tryz.ntmps61
    go_wp2_with fail
    go_ret
    exact ⟨by simp [h1], rfl⟩
  · have h1' : ¬ (60 : Int) < (nl : Int) := by omega
    by_cases h2 : 20 < nc
    · have h2' : (20 : Int) < (nc : Int) := by omega
      go_enter Tryz.func61, Tryz.ntmps61
      go_wp2_with fail
      go_ret
      exact ⟨by simp [h2], rfl⟩
    · have h2' : ¬ (20 : Int) < (nc : Int) := by omega
      by_cases h3 : 20 < nj
      · have h3' : (20 : Int) < (nj : Int) := by omega
        go_enter Tryz.func61, Tryz.ntmps61
        go_wp2_with fail
        go_ret
        exact ⟨by simp [h3], rfl⟩
      · have h3' : ¬ (20 : Int) < (nj : Int) := by omega
        obtain ⟨q, hq⟩ : ∃ q, greatX xs = q := ⟨_, rfl⟩
        rw [hq] at HG ⊢
        clear hq
        go_enter Tryz.func61, Tryz.ntmps61
        go_wp2_with (go_at_call 96; refine HG.out.mono ?_; rintro e W1 ⟨rfl, rfl⟩)
        go_ret
        exact ⟨by simp [h1, h2, h3], rfl⟩
end
def chkE (xs : List Spl) (e : Ending) : Prop := ∃ (n : Nat) (k : Int), e = .returned (.tuple #[.int .i64 (n : Int), .int .i64 k]) ∧ (okX xs = true → n = xs.length ∧ k = 0) ∧ (okX xs = false → k ≠ 0)
section
variable {w : World} {xs : List Spl} {A : Option Addr} {c : Nat}
theorem rightX_no {x : Spl} (h : ¬ (0 ≤ x.1 ∧ x.1 ≤ 1073741824 ∧ 1 ≤ x.2.length ∧ x.2.length ≤ 64)) : rightX x = false := by
  unfold rightX
  rw [Bool.eq_false_iff]
  intro h2
  simp only [Bool.and_eq_true, decide_eq_true_eq] at h2
  exact h ⟨h2.1.1.1, h2.1.1.2, h2.1.2, h2.2⟩
theorem rightX_yes {x : Spl} (h : 0 ≤ x.1 ∧ x.1 ≤ 1073741824 ∧ 1 ≤ x.2.length ∧ x.2.length ≤ 64) : rightX x = true := by
  unfold rightX
  simp only [Bool.and_eq_true, decide_eq_true_eq]
  exact ⟨⟨⟨h.1, h.2.1⟩, h.2.2.1⟩, h.2.2.2⟩
set_option maxHeartbeats 4000000 in
theorem rcheck_any (h : Sl w A encIS 2 xs) (hl : xs.length < 1000000000) :
    Calls Tryz.prog 103 #[.slice A xs.length c] w fun e w' => chkE xs e ∧ ∃ m, w' = w.drewN m := by
  have HS := Lib.hid h
  have HL := Lib.hid hl
  clear h hl
  go_enter Tryz.func103, Tryz.ntmps103
  go_wp2_with fail
  obtain ⟨N, hN⟩ : ∃ N, xs.length = N := ⟨_, rfl⟩
  have HN := Lib.hid hN
  rw [hN] at HL ⊢
  clear hN
  go_loopg [4] N (fun n i W => ∃ k : Nat, k + n = N ∧ i = .int .i64 (k : Int) ∧ (k ≤ 32 ∧ ∀ j (h : j < xs.length), j < k → rightX xs[j] = true ∧ freshX (xs.take j) xs[j] = true) ∧ ∃ m, W = w.drewN m)
  case atStart => exact ⟨0, by omega, rfl, ⟨by omega, fun j h hj => by omega⟩, 0, rfl⟩
  case round =>
    obtain ⟨k, hk, rfl, hok, m, hW⟩ := hrel
    subst hW
    have HOK := Lib.hid hok
    clear hok
    by_cases hlt : k < N
    · have hlt' : (k : Int) < (N : Int) := by omega
      have q0 : (0 : Int) ≤ (k : Int) := by omega
      have hk2 : k < xs.length := by rw [HN.out]; exact hlt
      have HK2 := Lib.hid hk2
      obtain ⟨b, o, hA, hc⟩ := HS.out.at k hk2
      subst hA
      obtain ⟨x, hx⟩ : ∃ x, xs[k] = x := ⟨_, rfl⟩
      replace hc : ∀ j v, (encIS x)[j]? = some v → (w.drewN m).cell? ⟨b, o + k * 2 + j, none⟩ = some v := by rw [← hx]; exact hc
      obtain ⟨id, tx⟩ := x
      have HX := Lib.hid hx
      have c0 : (w.drewN m).cell? ⟨b, o + k * 2, none⟩ = some (.int .i64 id) := hc 0 _ rfl
      obtain ⟨z, hz⟩ : ∃ z, bs tx = z := ⟨_, rfl⟩
      have HZ := Lib.hid hz
      have c1 : (w.drewN m).cell? ⟨b, o + k * 2 + 1, none⟩ = some (.string z) := by rw [← hz]; exact hc 1 _ rfl
      have hsz : (z.size : Int) = (tx.length : Int) := by rw [← hz, bs_size]
      clear hz
      have ws : IntKind.i64.wrap ((k : Int) + 1) = (k : Int) + 1 := IntWalk.i64_in _ (by have := HL.out; omega)
      clear hc hx
      have hbad : ∀ (e : Ending), ¬ (0 ≤ id ∧ id ≤ 1073741824 ∧ 1 ≤ tx.length ∧ tx.length ≤ 64) → e = .returned (.tuple #[.int .i64 (k : Int), .int .i64 1]) → chkE xs e := fun e hn he => ⟨k, 1, he, fun h => absurd h (by rw [okX_bad HK2.out (.inl ((congrArg rightX HX.out).trans (rightX_no hn)))]; decide), fun _ => by decide⟩
      have HBAD := Lib.hid hbad
      clear hbad
      by_cases n1 : id < 0
      · go_wp2_with fail
        go_ret2
        exact ⟨HBAD.out _ (by omega) rfl, m, rfl⟩
      · by_cases n2 : 1073741824 < id
        · go_wp2_with fail
          go_ret2
          exact ⟨HBAD.out _ (by omega) rfl, m, rfl⟩
        · by_cases n3 : tx.length < 1
          · have n3' : (tx.length : Int) < 1 := by omega
            go_wp2_with fail
            go_ret2
            exact ⟨HBAD.out _ (by omega) rfl, m, rfl⟩
          · have n3' : ¬ (tx.length : Int) < 1 := by omega
            by_cases n4 : 64 < tx.length
            · have n4' : (64 : Int) < (tx.length : Int) := by omega
              go_wp2_with fail
              go_ret2
              exact ⟨HBAD.out _ (by omega) rfl, m, rfl⟩
            · have n4' : ¬ (64 : Int) < (tx.length : Int) := by omega
              have HR := Lib.hid (rightX_yes (x := (id, tx)) (by simp only; omega))
              by_cases n5 : 32 ≤ k
              · have n5' : (32 : Int) ≤ (k : Int) := by omega
                go_wp2_with fail
                go_ret2
                exact ⟨⟨k, 3, rfl, fun h => absurd h (by rw [okX_bad HK2.out (.inr (.inr n5))]; decide), fun _ => by decide⟩, m, rfl⟩
              · have n5' : ¬ (32 : Int) ≤ (k : Int) := by omega
                have HC0 : Hid (∀ m, (w.drewN m).cell? ⟨b, o + k * 2, none⟩ = some (.int .i64 id)) := Lib.hid (fun _ => c0)
                have HC1 : Hid (∀ m, (w.drewN m).cell? ⟨b, o + k * 2 + 1, none⟩ = some (.string z)) := Lib.hid (fun _ => c1)
                go_upto_region 8 with fail
                have HN5 := Lib.hid n5
                clear c0 c1 n1 n2 n3 n3' n4 n4' n5 n5' hsz
                go_upto_region 9 with fail
                obtain ⟨g0, hg0⟩ : ∃ g, g + 1 = gk := ⟨gk - 1, by omega⟩
                have HG0 : Hid (k + 1 + g0 = N) := Lib.hid (by omega)
                clear hg0
                go_loopg [5] k (fun n j W => ∃ q m : Nat, q + n = k ∧ j = .int .i64 (q : Int) ∧ freshX (xs.take q) (id, tx) = true ∧ W = w.drewN m)
                case atStart => exact ⟨0, m, by omega, rfl, rfl, rfl⟩
                case round =>
                  obtain ⟨q, m2, hq, rfl, hfr, hW⟩ := hrel
                  subst hW
                  have HFR := Lib.hid hfr
                  clear hfr
                  by_cases hqk : q < k
                  · have hqk' : (q : Int) < (k : Int) := by omega
                    have hqN : (q : Int) < (N : Int) := by omega
                    have p0 : (0 : Int) ≤ (q : Int) := by omega
                    have hq2 : q < xs.length := by rw [HN.out]; omega
                    have HQ2 := Lib.hid hq2
                    obtain ⟨b2, o2, hA2, hc2⟩ := HS.out.at q hq2
                    injection hA2 with hA2
                    injection hA2 with hA2 hA3
                    subst hA2
                    subst hA3
                    obtain ⟨y, hy⟩ : ∃ y, xs[q] = y := ⟨_, rfl⟩
                    replace hc2 : ∀ j v, (encIS y)[j]? = some v → (w.drewN m2).cell? ⟨b, o + q * 2 + j, none⟩ = some v := by rw [← hy]; exact hc2
                    obtain ⟨id2, tx2⟩ := y
                    have HY := Lib.hid hy
                    have d0 : (w.drewN m2).cell? ⟨b, o + q * 2, none⟩ = some (.int .i64 id2) := hc2 0 _ rfl
                    obtain ⟨z2, hz2⟩ : ∃ z, bs tx2 = z := ⟨_, rfl⟩
                    have HZ2 := Lib.hid hz2
                    have d1 : (w.drewN m2).cell? ⟨b, o + q * 2 + 1, none⟩ = some (.string z2) := by rw [← hz2]; exact hc2 1 _ rfl
                    clear hz2
                    have c0 := HC0.out m2
                    have c1 := HC1.out m2
                    have wq : IntKind.i64.wrap ((q : Int) + 1) = (q : Int) + 1 := IntWalk.i64_in _ (by have := HL.out; omega)
                    clear hc2 hy
                    have HNO : Hid ((id2 = id ∨ tx2 = tx) → chkE xs (.returned (.tuple #[.int .i64 (k : Int), .int .i64 10]))) := Lib.hid (fun h => ⟨k, 10, rfl, fun h2 => absurd h2 (by
                      rw [okX_bad HK2.out (.inr (.inl ((congrArg (freshX (xs.take k)) HX.out).trans (fresh_no HQ2.out hqk (by
                        have e : xs[q]'HQ2.out = (id2, tx2) := HY.out
                        rcases h with h | h
                        · exact .inl ((congrArg Prod.fst e).trans h)
                        · exact .inr ((congrArg Prod.snd e).trans h))))))]; decide), fun _ => by decide⟩)
                    have HYES : Hid (id2 ≠ id → tx2 ≠ tx → freshX (xs.take (q + 1)) (id, tx) = true) := Lib.hid (fun h1 h2 => fresh_step HQ2.out HFR.out (fun e => h1 ((congrArg Prod.fst HY.out).symm.trans e)) (fun e => h2 ((congrArg Prod.snd HY.out).symm.trans e)))
                    by_cases hid : id2 = id
                    · have HNO2 := Lib.hid (HNO.out (.inl hid))
                      subst hid
                      go_upto_region 11 with fail
                      refine wp_region_held_drew (S := fun V => V.cell? ⟨b, o + k * 2, none⟩ = some (.int .i64 id2) ∧ V.cell? ⟨b, o + k * 2 + 1, none⟩ = some (.string z) ∧ V.cell? ⟨b, o + q * 2, none⟩ = some (.int .i64 id2) ∧ V.cell? ⟨b, o + q * 2 + 1, none⟩ = some (.string z2)) (by kernel_rfl) (by exact And.intro c0 (And.intro c1 (And.intro d0 d1))) (fun hHeld => ?_)
                      refine tkH 0 53 ?_ rfl hHeld (.inl ⟨by rfl, ?_⟩) ?_; rotate_left; focus (intro w' hSw; (try dsimp only at hSw); go_simp; (try with_reducible rfl))
                      try simp only [sIB, sC0, sCS]
                      refine tkH 1 54 ?_ rfl hHeld (.inl ⟨by rfl, ?_⟩) ?_; rotate_left; focus (intro w' hSw; (try dsimp only at hSw); go_simp; (try with_reducible rfl))
                      try simp only [sIB, sC0, sCS]
                      refine tkH 2 55 ?_ rfl hHeld (.inl ⟨by rfl, ?_⟩) ?_; rotate_left; focus (intro w' hSw; (try dsimp only at hSw); go_simp; (try with_reducible rfl))
                      try simp only [sIB, sC0, sCS]
                      refine tkH 3 56 ?_ rfl hHeld (.inl ⟨by rfl, ?_⟩) ?_; rotate_left; focus (intro w' hSw; (try dsimp only at hSw); go_simp; (try with_reducible rfl))
                      try simp only [sIB, sC0, sCS]
                      refine tkH 4 57 ?_ rfl hHeld (.inl ⟨by rfl, ?_⟩) ?_; rotate_left; focus (intro w' hSw; (try dsimp only at hSw); go_simp; (try with_reducible rfl))
                      try simp only [sIB, sC0, sCS]
                      refine tkH 5 58 ?_ rfl hHeld (.inl ⟨by rfl, ?_⟩) ?_; rotate_left; focus (intro w' hSw; (try dsimp only at hSw); go_simp; (try with_reducible rfl))
                      try simp only [sIB, sC0, sCS]
                      refine tkH 6 59 ?_ rfl hHeld (.inl ⟨by rfl, ?_⟩) ?_; rotate_left; focus (intro w' hSw; (try dsimp only at hSw); go_simp; (try with_reducible rfl))
                      try simp only [sIB, sC0, sCS]
                      refine tkH 7 60 ?_ rfl hHeld (.inl ⟨by rfl, ?_⟩) ?_; rotate_left; focus (intro w' hSw; (try dsimp only at hSw); go_simp; (try with_reducible rfl))
                      try simp only [sIB, sC0, sCS]
                      refine tkH 8 61 ?_ rfl hHeld (.inl ⟨by rfl, ?_⟩) ?_; rotate_left; focus (intro w' hSw; (try dsimp only at hSw); go_simp; (try with_reducible rfl))
                      try simp only [sIB, sC0, sCS]
                      refine tkH 9 62 ?_ rfl hHeld (.inl ⟨by rfl, ?_⟩) ?_; rotate_left; focus (intro w' hSw; (try dsimp only at hSw); go_simp; (try with_reducible rfl))
                      try simp only [sIB, sC0, sCS]
                      refine tkH 10 63 ?_ rfl hHeld (.inl ⟨by rfl, ?_⟩) ?_; rotate_left; focus (intro w' hSw; (try dsimp only at hSw); go_simp; (try with_reducible rfl))
                      try simp only [sIB, sC0, sCS]
                      refine tkH 11 64 ?_ rfl hHeld (.inl ⟨by rfl, ?_⟩) ?_; rotate_left; focus (intro w' hSw; (try dsimp only at hSw); go_simp; (try with_reducible rfl))
                      try simp only [sIB, sC0, sCS]
                      refine tkH 12 65 undef rfl hHeld (.inr ⟨by rfl, rfl⟩) ?_; try simp only [sIB, sC0, sCS]
                      refine tkH 13 66 undef rfl hHeld (.inr ⟨by rfl, rfl⟩) ?_; try simp only [sIB, sC0, sCS]
                      refine tkH 14 67 undef rfl hHeld (.inr ⟨by rfl, rfl⟩) ?_; try simp only [sIB, sC0, sCS]
                      refine tkH 15 68 undef rfl hHeld (.inr ⟨by rfl, rfl⟩) ?_; try simp only [sIB, sC0, sCS]
                      refine tkH 16 69 undef rfl hHeld (.inr ⟨by rfl, rfl⟩) ?_; try simp only [sIB, sC0, sCS]
                      refine tkH 17 70 undef rfl hHeld (.inr ⟨by rfl, rfl⟩) ?_; try simp only [sIB, sC0, sCS]
                      refine tkH 18 71 undef rfl hHeld (.inr ⟨by rfl, rfl⟩) ?_; try simp only [sIB, sC0, sCS]
                      refine tkH 19 72 undef rfl hHeld (.inr ⟨by rfl, rfl⟩) ?_; try simp only [sIB, sC0, sCS]
                      refine tkH 20 73 undef rfl hHeld (.inr ⟨by rfl, rfl⟩) ?_; try simp only [sIB, sC0, sCS]
                      refine tkH 21 74 undef rfl hHeld (.inr ⟨by rfl, rfl⟩) ?_; try simp only [sIB, sC0, sCS]
                      refine tkH 22 75 undef rfl hHeld (.inr ⟨by rfl, rfl⟩) ?_; try simp only [sIB, sC0, sCS]
                      refine tkH 23 76 ?_ rfl hHeld (.inl ⟨by rfl, ?_⟩) ?_; rotate_left; focus (intro w' hSw; (try dsimp only at hSw); go_simp; (try with_reducible rfl))
                      try simp only [sIB, sC0, sCS]
                      refine wpAnyH_done (by kernel_rfl) ?_ _
                      go_wp2_with fail
                      go_ret2
                      exact ⟨HNO2.out, _, rfl⟩
                    · have hid2 : (id2 == id) = false := by simp [hid]
                      by_cases htx : tx2 = tx
                      · have HNO2 := Lib.hid (HNO.out (.inr htx))
                        have hz3 : (z2.toList == z.toList) = true := by
                          rw [beq_iff_eq, ← HZ2.out, ← HZ.out, ByteArray.toList_eq, ByteArray.toList_eq]
                          exact htx
                        have HZ3 := Lib.hid hz3
                        clear htx hz3
                        go_upto_region 11 with fail
                        refine wp_region_held_drew (S := fun V => V.cell? ⟨b, o + k * 2, none⟩ = some (.int .i64 id) ∧ V.cell? ⟨b, o + k * 2 + 1, none⟩ = some (.string z) ∧ V.cell? ⟨b, o + q * 2, none⟩ = some (.int .i64 id2) ∧ V.cell? ⟨b, o + q * 2 + 1, none⟩ = some (.string z2)) (by kernel_rfl) (by exact And.intro c0 (And.intro c1 (And.intro d0 d1))) (fun hHeld => ?_)
                        refine tkH 0 53 ?_ rfl hHeld (.inl ⟨by rfl, ?_⟩) ?_; rotate_left; focus (intro w' hSw; (try dsimp only at hSw); go_simp; (try with_reducible rfl))
                        try simp only [sIB, sC0, sCS]
                        refine tkH 1 54 ?_ rfl hHeld (.inl ⟨by rfl, ?_⟩) ?_; rotate_left; focus (intro w' hSw; (try dsimp only at hSw); go_simp; (try with_reducible rfl))
                        try simp only [sIB, sC0, sCS]
                        refine tkH 2 55 ?_ rfl hHeld (.inl ⟨by rfl, ?_⟩) ?_; rotate_left; focus (intro w' hSw; (try dsimp only at hSw); go_simp; (try with_reducible rfl))
                        try simp only [sIB, sC0, sCS]
                        refine tkH 3 56 ?_ rfl hHeld (.inl ⟨by rfl, ?_⟩) ?_; rotate_left; focus (intro w' hSw; (try dsimp only at hSw); go_simp; (try with_reducible rfl))
                        try simp only [sIB, sC0, sCS]
                        refine tkH 4 57 ?_ rfl hHeld (.inl ⟨by rfl, ?_⟩) ?_; rotate_left; focus (intro w' hSw; (try dsimp only at hSw); go_simp; (try with_reducible rfl))
                        try simp only [sIB, sC0, sCS]
                        refine tkH 5 58 ?_ rfl hHeld (.inl ⟨by rfl, ?_⟩) ?_; rotate_left; focus (intro w' hSw; (try dsimp only at hSw); go_simp; (try with_reducible rfl))
                        try simp only [sIB, sC0, sCS]
                        refine tkH 6 59 ?_ rfl hHeld (.inl ⟨by rfl, ?_⟩) ?_; rotate_left; focus (intro w' hSw; (try dsimp only at hSw); go_simp; (try with_reducible rfl))
                        try simp only [sIB, sC0, sCS]
                        refine tkH 7 60 ?_ rfl hHeld (.inl ⟨by rfl, ?_⟩) ?_; rotate_left; focus (intro w' hSw; (try dsimp only at hSw); go_simp; (try with_reducible rfl))
                        try simp only [sIB, sC0, sCS]
                        refine tkH 8 61 ?_ rfl hHeld (.inl ⟨by rfl, ?_⟩) ?_; rotate_left; focus (intro w' hSw; (try dsimp only at hSw); go_simp; (try with_reducible rfl))
                        try simp only [sIB, sC0, sCS]
                        refine tkH 9 62 ?_ rfl hHeld (.inl ⟨by rfl, ?_⟩) ?_; rotate_left; focus (intro w' hSw; (try dsimp only at hSw); go_simp; (try with_reducible rfl))
                        try simp only [sIB, sC0, sCS]
                        refine tkH 10 63 ?_ rfl hHeld (.inl ⟨by rfl, ?_⟩) ?_; rotate_left; focus (intro w' hSw; (try dsimp only at hSw); go_simp; ((try rw [hid2])); (try with_reducible rfl))
                        try simp only [sIB, sC0, sCS]
                        refine tkH 11 64 ?_ rfl hHeld (.inl ⟨by rfl, ?_⟩) ?_; rotate_left; focus (intro w' hSw; (try dsimp only at hSw); go_simp; (try with_reducible rfl))
                        try simp only [sIB, sC0, sCS]
                        refine tkH 12 65 ?_ rfl hHeld (.inl ⟨by rfl, ?_⟩) ?_; rotate_left; focus (intro w' hSw; (try dsimp only at hSw); go_simp; (try with_reducible rfl))
                        try simp only [sIB, sC0, sCS]
                        refine tkH 13 66 ?_ rfl hHeld (.inl ⟨by rfl, ?_⟩) ?_; rotate_left; focus (intro w' hSw; (try dsimp only at hSw); go_simp; (try with_reducible rfl))
                        try simp only [sIB, sC0, sCS]
                        refine tkH 14 67 ?_ rfl hHeld (.inl ⟨by rfl, ?_⟩) ?_; rotate_left; focus (intro w' hSw; (try dsimp only at hSw); go_simp; (try with_reducible rfl))
                        try simp only [sIB, sC0, sCS]
                        refine tkH 15 68 ?_ rfl hHeld (.inl ⟨by rfl, ?_⟩) ?_; rotate_left; focus (intro w' hSw; (try dsimp only at hSw); go_simp; (try with_reducible rfl))
                        try simp only [sIB, sC0, sCS]
                        refine tkH 16 69 ?_ rfl hHeld (.inl ⟨by rfl, ?_⟩) ?_; rotate_left; focus (intro w' hSw; (try dsimp only at hSw); go_simp; (try with_reducible rfl))
                        try simp only [sIB, sC0, sCS]
                        refine tkH 17 70 ?_ rfl hHeld (.inl ⟨by rfl, ?_⟩) ?_; rotate_left; focus (intro w' hSw; (try dsimp only at hSw); go_simp; (try with_reducible rfl))
                        try simp only [sIB, sC0, sCS]
                        refine tkH 18 71 ?_ rfl hHeld (.inl ⟨by rfl, ?_⟩) ?_; rotate_left; focus (intro w' hSw; (try dsimp only at hSw); go_simp; (try with_reducible rfl))
                        try simp only [sIB, sC0, sCS]
                        refine tkH 19 72 ?_ rfl hHeld (.inl ⟨by rfl, ?_⟩) ?_; rotate_left; focus (intro w' hSw; (try dsimp only at hSw); go_simp; (try with_reducible rfl))
                        try simp only [sIB, sC0, sCS]
                        refine tkH 20 73 ?_ rfl hHeld (.inl ⟨by rfl, ?_⟩) ?_; rotate_left; focus (intro w' hSw; (try dsimp only at hSw); go_simp; (try with_reducible rfl))
                        try simp only [sIB, sC0, sCS]
                        refine tkH 21 74 ?_ rfl hHeld (.inl ⟨by rfl, ?_⟩) ?_; rotate_left; focus (intro w' hSw; (try dsimp only at hSw); go_simp; (try with_reducible rfl))
                        try simp only [sIB, sC0, sCS]
                        refine tkH 22 75 ?_ rfl hHeld (.inl ⟨by rfl, ?_⟩) ?_; rotate_left; focus (intro w' hSw; (try dsimp only at hSw); go_simp; (rw [HZ3.out]); (try with_reducible rfl))
                        try simp only [sIB, sC0, sCS]
                        refine tkH 23 76 ?_ rfl hHeld (.inl ⟨by rfl, ?_⟩) ?_; rotate_left; focus (intro w' hSw; (try dsimp only at hSw); go_simp; (try with_reducible rfl))
                        try simp only [sIB, sC0, sCS]
                        refine wpAnyH_done (by kernel_rfl) ?_ _
                        go_wp2_with fail
                        go_ret2
                        exact ⟨HNO2.out, _, rfl⟩
                      · have hz3 : (z2.toList == z.toList) = false := by
                          rw [beq_eq_false_iff_ne, ← HZ2.out, ← HZ.out, ByteArray.toList_eq, ByteArray.toList_eq]
                          exact htx
                        have HZ3 := Lib.hid hz3
                        clear htx hz3
                        go_upto_region 11 with fail
                        refine wp_region_held_drew (S := fun V => V.cell? ⟨b, o + k * 2, none⟩ = some (.int .i64 id) ∧ V.cell? ⟨b, o + k * 2 + 1, none⟩ = some (.string z) ∧ V.cell? ⟨b, o + q * 2, none⟩ = some (.int .i64 id2) ∧ V.cell? ⟨b, o + q * 2 + 1, none⟩ = some (.string z2)) (by kernel_rfl) (by exact And.intro c0 (And.intro c1 (And.intro d0 d1))) (fun hHeld => ?_)
                        refine tkH 0 53 ?_ rfl hHeld (.inl ⟨by rfl, ?_⟩) ?_; rotate_left; focus (intro w' hSw; (try dsimp only at hSw); go_simp; (try with_reducible rfl))
                        try simp only [sIB, sC0, sCS]
                        refine tkH 1 54 ?_ rfl hHeld (.inl ⟨by rfl, ?_⟩) ?_; rotate_left; focus (intro w' hSw; (try dsimp only at hSw); go_simp; (try with_reducible rfl))
                        try simp only [sIB, sC0, sCS]
                        refine tkH 2 55 ?_ rfl hHeld (.inl ⟨by rfl, ?_⟩) ?_; rotate_left; focus (intro w' hSw; (try dsimp only at hSw); go_simp; (try with_reducible rfl))
                        try simp only [sIB, sC0, sCS]
                        refine tkH 3 56 ?_ rfl hHeld (.inl ⟨by rfl, ?_⟩) ?_; rotate_left; focus (intro w' hSw; (try dsimp only at hSw); go_simp; (try with_reducible rfl))
                        try simp only [sIB, sC0, sCS]
                        refine tkH 4 57 ?_ rfl hHeld (.inl ⟨by rfl, ?_⟩) ?_; rotate_left; focus (intro w' hSw; (try dsimp only at hSw); go_simp; (try with_reducible rfl))
                        try simp only [sIB, sC0, sCS]
                        refine tkH 5 58 ?_ rfl hHeld (.inl ⟨by rfl, ?_⟩) ?_; rotate_left; focus (intro w' hSw; (try dsimp only at hSw); go_simp; (try with_reducible rfl))
                        try simp only [sIB, sC0, sCS]
                        refine tkH 6 59 ?_ rfl hHeld (.inl ⟨by rfl, ?_⟩) ?_; rotate_left; focus (intro w' hSw; (try dsimp only at hSw); go_simp; (try with_reducible rfl))
                        try simp only [sIB, sC0, sCS]
                        refine tkH 7 60 ?_ rfl hHeld (.inl ⟨by rfl, ?_⟩) ?_; rotate_left; focus (intro w' hSw; (try dsimp only at hSw); go_simp; (try with_reducible rfl))
                        try simp only [sIB, sC0, sCS]
                        refine tkH 8 61 ?_ rfl hHeld (.inl ⟨by rfl, ?_⟩) ?_; rotate_left; focus (intro w' hSw; (try dsimp only at hSw); go_simp; (try with_reducible rfl))
                        try simp only [sIB, sC0, sCS]
                        refine tkH 9 62 ?_ rfl hHeld (.inl ⟨by rfl, ?_⟩) ?_; rotate_left; focus (intro w' hSw; (try dsimp only at hSw); go_simp; (try with_reducible rfl))
                        try simp only [sIB, sC0, sCS]
                        refine tkH 10 63 ?_ rfl hHeld (.inl ⟨by rfl, ?_⟩) ?_; rotate_left; focus (intro w' hSw; (try dsimp only at hSw); go_simp; ((try rw [hid2])); (try with_reducible rfl))
                        try simp only [sIB, sC0, sCS]
                        refine tkH 11 64 ?_ rfl hHeld (.inl ⟨by rfl, ?_⟩) ?_; rotate_left; focus (intro w' hSw; (try dsimp only at hSw); go_simp; (try with_reducible rfl))
                        try simp only [sIB, sC0, sCS]
                        refine tkH 12 65 ?_ rfl hHeld (.inl ⟨by rfl, ?_⟩) ?_; rotate_left; focus (intro w' hSw; (try dsimp only at hSw); go_simp; (try with_reducible rfl))
                        try simp only [sIB, sC0, sCS]
                        refine tkH 13 66 ?_ rfl hHeld (.inl ⟨by rfl, ?_⟩) ?_; rotate_left; focus (intro w' hSw; (try dsimp only at hSw); go_simp; (try with_reducible rfl))
                        try simp only [sIB, sC0, sCS]
                        refine tkH 14 67 ?_ rfl hHeld (.inl ⟨by rfl, ?_⟩) ?_; rotate_left; focus (intro w' hSw; (try dsimp only at hSw); go_simp; (try with_reducible rfl))
                        try simp only [sIB, sC0, sCS]
                        refine tkH 15 68 ?_ rfl hHeld (.inl ⟨by rfl, ?_⟩) ?_; rotate_left; focus (intro w' hSw; (try dsimp only at hSw); go_simp; (try with_reducible rfl))
                        try simp only [sIB, sC0, sCS]
                        refine tkH 16 69 ?_ rfl hHeld (.inl ⟨by rfl, ?_⟩) ?_; rotate_left; focus (intro w' hSw; (try dsimp only at hSw); go_simp; (try with_reducible rfl))
                        try simp only [sIB, sC0, sCS]
                        refine tkH 17 70 ?_ rfl hHeld (.inl ⟨by rfl, ?_⟩) ?_; rotate_left; focus (intro w' hSw; (try dsimp only at hSw); go_simp; (try with_reducible rfl))
                        try simp only [sIB, sC0, sCS]
                        refine tkH 18 71 ?_ rfl hHeld (.inl ⟨by rfl, ?_⟩) ?_; rotate_left; focus (intro w' hSw; (try dsimp only at hSw); go_simp; (try with_reducible rfl))
                        try simp only [sIB, sC0, sCS]
                        refine tkH 19 72 ?_ rfl hHeld (.inl ⟨by rfl, ?_⟩) ?_; rotate_left; focus (intro w' hSw; (try dsimp only at hSw); go_simp; (try with_reducible rfl))
                        try simp only [sIB, sC0, sCS]
                        refine tkH 20 73 ?_ rfl hHeld (.inl ⟨by rfl, ?_⟩) ?_; rotate_left; focus (intro w' hSw; (try dsimp only at hSw); go_simp; (try with_reducible rfl))
                        try simp only [sIB, sC0, sCS]
                        refine tkH 21 74 ?_ rfl hHeld (.inl ⟨by rfl, ?_⟩) ?_; rotate_left; focus (intro w' hSw; (try dsimp only at hSw); go_simp; (try with_reducible rfl))
                        try simp only [sIB, sC0, sCS]
                        refine tkH 22 75 ?_ rfl hHeld (.inl ⟨by rfl, ?_⟩) ?_; rotate_left; focus (intro w' hSw; (try dsimp only at hSw); go_simp; (rw [HZ3.out]); (try with_reducible rfl))
                        try simp only [sIB, sC0, sCS]
                        refine tkH 23 76 ?_ rfl hHeld (.inl ⟨by rfl, ?_⟩) ?_; rotate_left; focus (intro w' hSw; (try dsimp only at hSw); go_simp; (try with_reducible rfl))
                        try simp only [sIB, sC0, sCS]
                        refine wpAnyH_done (by kernel_rfl) ?_ _
                        have HYY := Lib.hid (HYES.out hid (fun e => by
                          have h3 := HZ3.out
                          rw [beq_eq_false_iff_ne, ← HZ2.out, ← HZ.out, ByteArray.toList_eq, ByteArray.toList_eq] at h3
                          exact h3 e))
                        go_wp2_with fail
                        go_roundg (gk - 1)
                        case measure => omega
                        case rel => exact ⟨q + 1, m2 + 1, by omega, by simp, HYY.out, rfl⟩
                  · have hke : q = k := by omega
                    subst hke
                    have hqk' : ¬ ((q : Nat) : Int) < (q : Int) := by omega
                    go_wp2_with fail
                    go_roundg g0
                    case measure => have := HG0.out; omega
                    case rel => exact ⟨q + 1, HG0.out, by simp, ⟨by have := HN5.out; omega, fun j h hj => by
                      by_cases e : j = q
                      · subst e
                        exact ⟨(congrArg rightX HX.out).trans HR.out, (congrArg (freshX (xs.take j)) HX.out).trans HFR.out⟩
                      · exact HOK.out.2 j h (by omega)⟩, m2, rfl⟩
    · have hke : k = N := by omega
      subst hke
      have hlt' : ¬ ((k : Nat) : Int) < (k : Int) := by omega
      go_wp2_with fail
      go_ret2
      refine ⟨⟨k, 0, rfl, fun _ => ⟨HN.out.symm, rfl⟩, fun h => ?_⟩, m, rfl⟩
      exfalso
      have := (okX_iff xs).2 ⟨by rw [HN.out]; exact HOK.out.1, fun i hi => HOK.out.2 i hi (by rw [HN.out] at hi; exact hi)⟩
      rw [h] at this
      cases this
end
structure BRTab (w0 : World) (cs : List Cls) (js : List Jn) (A B : Option Addr) (w : World) : Prop where
  below : Below w0.heap.size w0 w
  cl0 : Sl w0 A encCls 3 cs
  jn0 : Sl w0 B encJn 2 js
theorem BRTab.cl {w0 w : World} {cs : List Cls} {js : List Jn} {A B : Option Addr} (h : BRTab w0 cs js A B w) : Sl w A encCls 3 cs := h.cl0.below h.below (Nat.le_refl _)
theorem BRTab.jn {w0 w : World} {cs : List Cls} {js : List Jn} {A B : Option Addr} (h : BRTab w0 cs js A B w) : Sl w B encJn 2 js := h.jn0.below h.below (Nat.le_refl _)
theorem BRTab.keep {w0 w w' : World} {cs : List Cls} {js : List Jn} {A B : Option Addr} (h : BRTab w0 cs js A B w) (hb : Below w0.heap.size w w') : BRTab w0 cs js A B w' := ⟨h.1.trans hb, h.2, h.3⟩
theorem BRTab.step {w0 w w' : World} {cs : List Cls} {js : List Jn} {A B : Option Addr} (h : BRTab w0 cs js A B w) (hb : Below w.heap.size w w') : BRTab w0 cs js A B w' :=
  ⟨below_then h.1 h.1.size hb, h.2, h.3⟩
theorem BRTab.drew {w0 w : World} {cs : List Cls} {js : List Jn} {A B : Option Addr} (h : BRTab w0 cs js A B w) : BRTab w0 cs js A B w.drew := ⟨h.1.drew, h.2, h.3⟩
set_option maxHeartbeats 2000000 in
theorem right_any (cs : List Cls) (js : List Jn) (A B : Option Addr) (cA cB : Nat) (w : World) (hA : Sl w A encCls 3 cs) (hB : Sl w B encJn 2 js) (hcs : cs.length < 9000000000000000000) (hjs : js.length < 9000000000000000000) :
    Calls Tryz.prog 102 #[.agg #[.slice A cs.length cA, .slice B js.length cB]] w fun e w' => e = .returned (.bool (cs.all spanB && js.all jnB)) ∧ Below w.heap.size w w' := by
  have H0 : BRTab w cs js A B (w.alloc (.cells #[.slice A cs.length cA, .slice B js.length cB] 36)) := BRTab.step ⟨Below.refl _ _, hA, hB⟩ ((Below.refl w.heap.size w).alloc (Nat.le_refl _) _)
  have HBK := Lib.hid (blk_new w (.cells #[.slice A cs.length cA, .slice B js.length cB] 36))
  have HH := Lib.hid H0
  clear H0 hA hB
  go_enter Tryz.func102, Tryz.ntmps102
  go_wp2_with fail
  go_loopw [3] (fun i W => ∃ k : Nat, k ≤ cs.length ∧ i = .int .i64 (k : Int) ∧ (cs.take k).all spanB = true ∧ BRTab w cs js A B W ∧ W.heap[w.heap.size]? = some (.cells #[.slice A cs.length cA, .slice B js.length cB] 36 (0, 0))) (fun i _ => cs.length - (intOf i).toNat)
  case atStart => exact ⟨0, Nat.zero_le _, rfl, rfl, HH.out, HBK.out⟩
  case round =>
    obtain ⟨k, hk, rfl, hall, hT, hbk⟩ := hrel
    rename World => W
    have d0 := blk_cell hbk 0
    have d1 := blk_cell hbk 1
    simp only [List.getElem?_toArray, List.getElem?_cons_zero, List.getElem?_cons_succ] at d0 d1
    have HAL := Lib.hid hall
    have HT := Lib.hid hT
    have HB := Lib.hid hbk
    have hsz := hT.below.size
    have hsz2 := blk_lt hbk
    clear hall hT hbk HH HBK
    by_cases hlt : k < cs.length
    · have hck : cs[k]? = some cs[k] := by simp
      obtain ⟨ba, o, rfl, hc0⟩ := HT.out.cl.at k hlt
      have g0 : W.cell? ⟨ba, o + k * 3, none⟩ = some (.int .i64 cs[k].lo) := hc0 0 _ rfl
      have g1 : W.cell? ⟨ba, o + k * 3 + 1, none⟩ = some (.int .i64 cs[k].hi) := hc0 1 _ rfl
      have g2 : W.cell? ⟨ba, o + k * 3 + 2, none⟩ = some (.int .i64 cs[k].n) := hc0 2 _ rfl
      have HTK := Lib.hid (take_snoc hlt)
      have HCK := Lib.hid hck
      generalize cs[k] = c at *
      clear hc0 hck
      obtain ⟨lo, hi, n⟩ := c
      simp only at *
      go_wp2_with fail
      all_goals first
        | (go_ret
           have hsp : spanB ⟨lo, hi, n⟩ = false := by simp only [spanB, decide_eq_false_iff_not]; omega
           refine ⟨ret_bool ?_, (HT.out.below.alloc hsz _)⟩
           rw [all_false HCK.out hsp]; rfl)
        | (go_roundw
           case rel =>
             have hsp : spanB ⟨lo, hi, n⟩ = true := by simp only [spanB, decide_eq_true_eq]; omega
             refine ⟨k + 1, by omega, by go_num, ?_, HT.out.step ((Below.refl _ _).alloc (Nat.le_refl _) _), blk_alloc HB.out _⟩
             rw [HTK.out, all_snoc, HAL.out, hsp]; rfl
           case measure => (simp [intOf]; try omega))
    · obtain rfl : k = cs.length := by omega
      have HAC := Lib.hid (show cs.all spanB = true by have := HAL.out; rwa [List.take_length] at this)
      clear HAL
      go_wp2_with fail
      go_loopw [5] (fun i W => ∃ k : Nat, k ≤ js.length ∧ i = .int .i64 (k : Int) ∧ (js.take k).all jnB = true ∧ BRTab w cs js A B W ∧ W.heap[w.heap.size]? = some (.cells #[.slice A cs.length cA, .slice B js.length cB] 36 (0, 0))) (fun i _ => js.length - (intOf i).toNat)
      case atStart => exact ⟨0, Nat.zero_le _, rfl, rfl, HT.out, HB.out⟩
      case round =>
        obtain ⟨k, hk, rfl, hall, hT, hbk⟩ := hrel
        rename World => U
        have e0 := blk_cell hbk 0
        have e1 := blk_cell hbk 1
        simp only [List.getElem?_toArray, List.getElem?_cons_zero, List.getElem?_cons_succ] at e0 e1
        have HAL := Lib.hid hall
        have HTU := Lib.hid hT
        have HBU := Lib.hid hbk
        have hsz3 := hT.below.size
        have hsz4 := blk_lt hbk
        clear hall hT hbk HT HB d0 d1
        by_cases hlt : k < js.length
        · have hck : js[k]? = some js[k] := by simp
          obtain ⟨ba, o, rfl, hc0⟩ := HTU.out.jn.at k hlt
          have g0 : U.cell? ⟨ba, o + k * 2, none⟩ = some (.int .i64 js[k].a) := hc0 0 _ rfl
          have g1 : U.cell? ⟨ba, o + k * 2 + 1, none⟩ = some (.int .i64 js[k].b) := hc0 1 _ rfl
          have HTK := Lib.hid (take_snoc hlt)
          have HCK := Lib.hid hck
          generalize js[k] = c at *
          clear hc0 hck
          obtain ⟨ja, jb⟩ := c
          simp only at *
          go_wp2_with fail
          all_goals first
            | (go_ret
               have hsp : jnB ⟨ja, jb⟩ = false := by simp only [jnB, clsB, Bool.and_eq_false_iff, decide_eq_false_iff_not]; omega
               refine ⟨ret_bool ?_, (HTU.out.below.alloc hsz3 _)⟩
               rw [all_false HCK.out hsp, HAC.out]; rfl)
            | (go_roundw
               case rel =>
                 have hsp : jnB ⟨ja, jb⟩ = true := by simp only [jnB, clsB, Bool.and_eq_true, decide_eq_true_eq]; omega
                 refine ⟨k + 1, by omega, by go_num, ?_, HTU.out.step ((Below.refl _ _).alloc (Nat.le_refl _) _), blk_alloc HBU.out _⟩
                 rw [HTK.out, all_snoc, HAL.out, hsp]; rfl
               case measure => (simp [intOf]; try omega))
        · obtain rfl : k = js.length := by omega
          have HAJ := Lib.hid (show js.all jnB = true by have := HAL.out; rwa [List.take_length] at this)
          clear HAL
          go_wp2_with fail
          go_ret
          refine ⟨ret_bool ?_, HTU.out.below⟩
          rw [HAC.out, HAJ.out]; rfl
def someC (cs : List Cls) : List Cls := (cs.take 8).filter spanB
def someJ (js : List Jn) : List Jn := (js.take 8).filter jnB
def someX (xs : List Spl) : Nat → List Spl
  | 0 => []
  | k + 1 => if okX (someX xs k ++ [(1000 + (k : Int), (xs.getD k (0, [])).2)]) then someX xs k ++ [(1000 + (k : Int), (xs.getD k (0, [])).2)] else someX xs k
theorem take_filter_succ {α : Type} (l : List α) (p : α → Bool) (k : Nat) (h : k < l.length) (h8 : k < 8) : ((l.take (k + 1)).take 8).filter p = ((l.take k).take 8).filter p ++ (if p l[k] then [l[k]] else []) := by
  rw [List.take_of_length_le (by rw [List.length_take]; omega), List.take_of_length_le (l := l.take k) (by rw [List.length_take]; omega), List.take_add_one, List.getElem?_eq_getElem h, List.filter_append]
  congr 1
  simp [List.filter_cons]
theorem take_filter_end {α : Type} (l : List α) (p : α → Bool) (k : Nat) (h : k = l.length ∨ k = 8) : ((l.take k).take 8).filter p = (l.take 8).filter p := by
  rcases h with h | h
  · rw [h, List.take_length]
  · rw [h, List.take_take, Nat.min_self]
theorem someX_ok (xs : List Spl) : ∀ k, okX (someX xs k) = true
  | 0 => rfl
  | k + 1 => by
    rw [someX]
    split
    · assumption
    · exact someX_ok xs k
theorem someX_len (xs : List Spl) : ∀ k, (someX xs k).length ≤ k
  | 0 => Nat.le_refl _
  | k + 1 => by
    have := someX_len xs k
    rw [someX]
    split
    · rw [List.length_append]; simp; omega
    · omega
theorem someX_ids (xs : List Spl) : ∀ k, ∀ x ∈ someX xs k, 1000 ≤ x.1 ∧ x.1 < 1000 + (k : Int)
  | 0 => fun x hx => by simp [someX] at hx
  | k + 1 => fun x hx => by
    rw [someX] at hx
    split at hx
    · rcases List.mem_append.1 hx with hx | hx
      · have := someX_ids xs k x hx; omega
      · rw [List.mem_singleton] at hx
        subst hx
        simp only; omega
    · have := someX_ids xs k x hx; omega
theorem someC_ok (cs : List Cls) : (someC cs).all spanB = true := by
  unfold someC
  rw [List.all_eq_true]
  intro x hx
  exact (List.mem_filter.1 hx).2
theorem someJ_ok (js : List Jn) : (someJ js).all jnB = true := by
  unfold someJ
  rw [List.all_eq_true]
  intro x hx
  exact (List.mem_filter.1 hx).2
theorem someC_len (cs : List Cls) : (someC cs).length ≤ 8 := by
  unfold someC
  refine Nat.le_trans (List.length_filter_le _ _) ?_
  rw [List.length_take]; omega
theorem someJ_len (js : List Jn) : (someJ js).length ≤ 8 := by
  unfold someJ
  refine Nat.le_trans (List.length_filter_le _ _) ?_
  rw [List.length_take]; omega
structure FldIs (W0 W : World) (sb : Nat) (t : TypeId) (cells : Array Value) (e : TypeId) (size : Nat) (v : Value) (n : Nat) (xs : List Value) : Prop where
  blk : W.heap[sb]? = some (.cells cells t)
  row : W.ownsRow W0.heap.size e size v n xs
  keep : Keep (fun x => x = sb) W0 W
  lt : sb < W0.heap.size
section
variable {W0 W W' : World} {sb n m i : Nat} {t e : TypeId} {cells : Array Value} {size : Nat} {v v' : Value} {xs ys : List Value}
theorem FldIs.below (h : FldIs W0 W sb t cells e size v n xs) (hb : Below W.heap.size W W') : FldIs W0 W' sb t cells e size v n xs :=
  ⟨blk_below hb (blk_lt h.blk) h.blk, own_below h.row hb (Nat.le_refl _), h.keep.trans (G := fun _ => False) ⟨hb.os, hb.tape, hb.output, hb.size, fun x hx _ => hb.block x hx⟩ (fun x hx => hx.elim), h.lt⟩
theorem FldIs.drew (h : FldIs W0 W sb t cells e size v n xs) : FldIs W0 W.drew sb t cells e size v n xs := h.below ⟨rfl, rfl, rfl, Nat.le_refl _, fun _ _ => rfl⟩
theorem FldIs.put (h : FldIs W0 W sb t cells e size v n xs) (hk : Keep (fun g => v.ownBlock = some g) W W') (ho : W'.ownsRow W0.heap.size e size v' m ys) (i : Nat) :
    FldIs W0 (W'.setCell ⟨sb, i, none⟩ v') sb t (cells.setIfInBounds i v') e size v' m ys := by
  have hne : ∀ g, v.ownBlock = some g → g ≠ sb := fun g hg he => by have := own_base h.row g hg; have := h.lt; omega
  have hk2 : Keep (fun x => x = sb) W' (W'.setCell ⟨sb, i, none⟩ v') := (Keep.refl (fun x => x = sb) W').setCell (p := ⟨sb, i, none⟩) (.inl rfl) _
  have hb := hk.blk h.blk (fun hg => hne sb hg rfl)
  refine ⟨blk_set hb i v', own_keep ho hk2 (fun g hg he => ?_), ?_, h.lt⟩
  · have := own_base ho g hg; have := h.lt; omega
  · exact (h.keep.trans hk (fun x hx => .inr (own_base h.row x hx))).trans hk2 (fun x hx => .inl hx)
end
theorem info_cls : (Tryz.prog.info? 181).map (fun i => (i.zero, i.size, i.bytes)) = some (some (.agg #[.int .i64 0, .int .i64 0, .int .i64 0]), 3, 24) := by kernel_rfl
theorem info_jn : (Tryz.prog.info? 182).map (fun i => (i.zero, i.size, i.bytes)) = some (some (.agg #[.int .i64 0, .int .i64 0]), 2, 16) := by kernel_rfl
theorem info_spl : (Tryz.prog.info? 170).map (fun i => (i.zero, i.size, i.bytes)) = some (some (.agg #[.int .i64 0, .string ⟨#[]⟩]), 2, 24) := by kernel_rfl
theorem slice_cls (b o n c k : Nat) (w : World) (h1 : k < n) (h2 : n ≤ c) : (Instr.sliceAt 23 (.slice (some ⟨b, o, none⟩) n c) (some (.int .i64 (k : Int))) (some (.int .i64 ((k : Int) + 1))) none).run Tryz.prog w = .ok (.slice (some ⟨b, o + k * 3, none⟩) 1 (c - k)) w := by
  have q1 : (0 : Int) ≤ (k : Int) := by omega
  have q2 : (k : Int) + 1 ≤ (c : Int) := by omega
  have q3 : (k : Int) ≤ (k : Int) + 1 := by omega
  have q4 : ((k : Int) + 1 - (k : Int)).toNat = 1 := by omega
  have q5 : ((c : Int) - (k : Int)).toNat = c - k := by omega
  simp [go_sem, q1, q2, q3, q4, q5]
  intro h
  omega
theorem slice_jn (b o n c k : Nat) (w : World) (h1 : k < n) (h2 : n ≤ c) : (Instr.sliceAt 24 (.slice (some ⟨b, o, none⟩) n c) (some (.int .i64 (k : Int))) (some (.int .i64 ((k : Int) + 1))) none).run Tryz.prog w = .ok (.slice (some ⟨b, o + k * 2, none⟩) 1 (c - k)) w := by
  have q1 : (0 : Int) ≤ (k : Int) := by omega
  have q2 : (k : Int) + 1 ≤ (c : Int) := by omega
  have q3 : (k : Int) ≤ (k : Int) + 1 := by omega
  have q4 : ((k : Int) + 1 - (k : Int)).toNat = 1 := by omega
  have q5 : ((c : Int) - (k : Int)).toNat = c - k := by omega
  simp [go_sem, q1, q2, q3, q4, q5]
  intro h
  omega
theorem sl_one {α : Type} {w : World} {A : Option Addr} {enc : α → List Value} {sz b o k : Nat} {xs : List α} (h : Sl w A enc sz xs) (hk : k < xs.length) (hA : A = some ⟨b, o, none⟩) : Sl w (some ⟨b, o + k * sz, none⟩) enc sz [xs[k]] := by
  intro i x hx
  have hi : i = 0 := by have := (List.getElem?_eq_some_iff.1 hx).1; simpa using this
  subst hi
  simp at hx
  subst hx
  obtain ⟨b', o', e, hc⟩ := h k xs[k] (List.getElem?_eq_getElem hk)
  rw [hA] at e
  injection e with e
  injection e with e1 e2
  subst e1
  subst e2
  exact ⟨b, o + k * sz, rfl, fun j v hv => by rw [Nat.zero_mul, Nat.add_zero]; exact hc j v hv⟩
theorem Keep.keepCell {F : Nat → Prop} {w w' : World} (k : Keep F w w') {a : Addr} {v : Value} (h : w.cell? a = some v) (hf : ¬ F a.block := by intro _; contradiction) : w'.cell? a = some v :=
  (World.cell?_of_block (w := w) (k.block a.block (World.block_lt_of_cell? w a h) hf)).trans h
theorem own_addr {w : World} {base n m c : Nat} {e : TypeId} {size : Nat} {A : Option Addr} {xs : List Value} (h : w.ownsRow base e size (.slice A m c) n xs) : ∀ a, A = some a → base ≤ a.block := by
  intro a ha
  rcases h.2 with ⟨h1, _⟩ | ⟨g, cap, cur, h1, hb, _⟩
  · injection h1 with h1 _ _
    rw [ha] at h1; cases h1
  · injection h1 with h1 _ _
    rw [ha] at h1
    injection h1 with h1
    rw [h1]; exact hb
theorem own_empty {w : World} {base g : Nat} {e : TypeId} {size : Nat} (h : w.heap[g]? = some (.cells #[] e)) (hb : base ≤ g) : w.ownsRow base e size (.slice (some ⟨g, 0, none⟩) 0 0) 0 [] :=
  ⟨by simp, .inr ⟨g, 0, #[], rfl, hb, h, Nat.le_refl _, by unfold maxLen; omega, by simp, by simp⟩⟩
theorem wp_app_row {P : Program} {w : World} {o : Oper} {a : Act} {K : Act → World → Prop} {Q : Exit → Act → World → Prop} (base base0 : Nat) (t e : TypeId) (z : Value) (size bytes : Nat) (s x : Operand)
    (ho : o.op = .call { callee := .builtin .append, args := #[s, x], argTypes := #[t, t] })
    (ht : P.underlying t = some (.slice e)) (hinfo : (P.info? e).map (fun i => (i.zero, i.size, i.bytes)) = some (some z, size, bytes)) (hzs : z.cells.size = size) (hsz : 0 < size)
    (v : Value) (n : Nat) (xs : List Value) (hs : a.eval s = v) (u : Value) (m : Nat) (ys : List Value) (hx : a.eval x = u) (h1 : ∀ z ∈ ys, z.oneCell' = true)
    (hown : w.ownsRow base e size v n xs) (hrow : w.ownsRow base0 e size u m ys) (hbytes : (n + m) * bytes ≤ 140737488355328) (h63 : n + m ≤ 9000000000000000000) (hbase : base ≤ w.heap.size)
    (h : ∀ v' w', w'.ownsRow base e size v' (n + m) (xs ++ ys) → w.grownBy w' v.ownBlock → K (a.put o.dst v') w') : Oper.wp P o a w K Q := by
  rcases hrow.2 with ⟨h2, h3⟩ | ⟨g, cap, cur, h2, hb, hg, hc1, hc2, hc3, htk⟩
  · subst h3
    have hy : ys = [] := List.eq_nil_of_length_eq_zero (by simpa using hrow.1)
    subst hy
    obtain ⟨i, hi, hz0, hz1, hz2⟩ := info_parts hinfo
    have hrun := run_append_owned_none (P := P) (w := w) base t o.type e i size ht hi v n xs hown
    unfold Oper.wp
    simp [execOp, ho, resolve, invoke, builtin, hs, hx, h2, hrun, Result.andThen]
    exact h v w (by simpa using hown) ⟨rfl, rfl, rfl, Nat.le_refl _, fun _ _ _ => rfl⟩
  · refine wp_app_list base t e z size bytes ys cap m ⟨g, 0, none⟩ s x ho ht hinfo hzs hsz v n xs hs (by rw [hx, h2]) hrow.1 ?_ h1 hown hbytes h63 hbase (fun v' w' r1 r2 _ => h v' w' r1 r2)
    intro j u' hu
    rw [add_plain, Nat.zero_add, blk_cell hg j]
    rw [← htk] at hu
    rw [List.getElem?_take] at hu
    split at hu
    · simpa using hu
    · simp at hu
theorem own_addr_lt {w : World} {base n m c : Nat} {e : TypeId} {size : Nat} {A : Option Addr} {xs : List Value} (h : w.ownsRow base e size (.slice A m c) n xs) : ∀ a, A = some a → a.block < w.heap.size := by
  intro a ha
  rcases h.2 with ⟨h1, _⟩ | ⟨g, cap, cur, h1, hb, hg, _⟩
  · injection h1 with h1 _ _
    rw [ha] at h1; cases h1
  · injection h1 with h1 _ _
    rw [ha] at h1
    injection h1 with h1
    rw [h1]; exact blk_lt hg
structure CaseP where
  (l : List Nat) (cs : List Cls) (js : List Jn) (xs : List Spl)
structure CaseAt (w : World) (c : CaseP) (AL AC AJ AX : Option Addr) (cL cC cJ cX : Nat) : Prop where
  l : Sl1 w AL (fun x : Nat => .int .u16 (x : Int)) c.l
  cs : Sl w AC encCls 3 c.cs
  js : Sl w AJ encJn 2 c.js
  xs : Sl w AX encIS 2 c.xs
  cap : c.cs.length ≤ cC ∧ c.js.length ≤ cJ
theorem CaseAt.below {w w' : World} {c : CaseP} {AL AC AJ AX : Option Addr} {cL cC cJ cX : Nat} (h : CaseAt w c AL AC AJ AX cL cC cJ cX) {B : Nat} (hb : Below B w w') (hB : w.heap.size ≤ B) : CaseAt w' c AL AC AJ AX cL cC cJ cX :=
  ⟨h.l.below hb hB, h.cs.below hb hB, h.js.below hb hB, h.xs.below hb hB, h.cap⟩
structure CaseOk (c : CaseP) : Prop where
  sm : ∀ x ∈ c.l, x < 65536
  len : c.l.length ≤ 60
  cs : c.cs.length ≤ 20
  js : c.js.length ≤ 20
  xs : c.xs.length ≤ 40
  tx : ∀ x ∈ c.xs, x.2.length ≤ 100
def CaseP.T (c : CaseP) : List Ent := growT c.l (min (c.l.length / 2) 30)
def CaseP.spec (c : CaseP) : SpecP := ⟨false, mrgsT c.T, [], someX c.xs (min c.xs.length 6), someC c.cs, someJ c.js⟩
section
variable {w : World} {c : CaseP} {AL AC AJ AX : Option Addr} {cL cC cJ cX : Nat}
set_option maxHeartbeats 4000000 in
theorem some_any (h : CaseAt w c AL AC AJ AX cL cC cJ cX) (ho : CaseOk c) :
    Calls Tryz.prog 65 #[.slice AL c.l.length cL, .slice AC c.cs.length cC, .slice AJ c.js.length cJ, .slice AX c.xs.length cX] w fun e w' => (∃ A1 A3 A4 A5 c1 c3 c4 c5, e = .returned (specW c.spec A1 none A3 A4 A5 c1 0 c3 c4 c5) ∧ SpecAt w' c.spec A1 none A3 A4 A5) ∧ Below w.heap.size w w' := by
  have HC := Lib.hid h
  have HO := Lib.hid ho
  have HB0 := Lib.hid ((Below.refl w.heap.size w).alloc (Nat.le_refl _) (.cells #[.bool false, .slice none 0 0, .slice none 0 0, .slice none 0 0, .slice none 0 0, .slice none 0 0] 115))
  have HN0 := Lib.hid (blk_new w (.cells #[.bool false, .slice none 0 0, .slice none 0 0, .slice none 0 0, .slice none 0 0, .slice none 0 0] 115))
  clear h ho
  go_enter Tryz.func65, Tryz.ntmps65
  go_upto_region 1 with fail
  obtain ⟨r0, hr0⟩ : ∃ r, w.heap.size = r := ⟨_, rfl⟩
  have HR0 := Lib.hid (Nat.le_of_eq hr0)
  have HN0 : Hid ((w.alloc (.cells #[.bool false, .slice none 0 0, .slice none 0 0, .slice none 0 0, .slice none 0 0, .slice none 0 0] 115)).heap[r0]? = some (.cells #[.bool false, .slice none 0 0, .slice none 0 0, .slice none 0 0, .slice none 0 0, .slice none 0 0] 115)) := Lib.hid (by rw [← hr0]; exact HN0.out)
  rw [hr0]
  clear hr0
  generalize w.alloc (.cells #[.bool false, .slice none 0 0, .slice none 0 0, .slice none 0 0, .slice none 0 0, .slice none 0 0] 115) = w1 at *
  go_upto_region 2 with (go_at_call 101; refine (grow_any c.l AL cL w1 (HC.out.below HB0.out (Nat.le_refl _)).l HO.out.sm (by have := HO.out.len; omega)).mono ?_; rintro e w2 ⟨hb2, A1, n1, c1, A2, n2, c2, rfl, href⟩; (have HREF := Lib.hid href); (have HB2 := Lib.hid (HB0.out.trans (hb2.mono HB0.out.size))); (have HN2 := Lib.hid (blk_below hb2 (blk_lt HN0.out) HN0.out)); clear href hb2)
  have hn2 : n2 = (mrgsT c.T).length := by obtain ⟨_, _, e⟩ := own_slice HREF.out.mrg; injection e
  subst hn2
  have HMSL : Hid ((mrgsT c.T).length ≤ 1000) := Lib.hid (by have := (addsT_grow c.l (min (c.l.length / 2) 30)).1.small; have e : (mrgsT c.T).length = (growT c.l (min (c.l.length / 2) 30)).length - 256 := mrgs_len; omega)
  have hmlt : ∀ a, A2 = some a → r0 < a.block ∧ a.block < w2.heap.size := fun a ha => by
    have h1 := own_addr HREF.out.mrg a ha
    have h2 := own_addr_lt HREF.out.mrg a ha
    have h3 := blk_lt HN0.out
    omega
  have HMS := Lib.hid (own_sl (enc := encM) (fun _ => rfl) HREF.out.mrg (by decide) : Sl w2 A2 encM 2 (mrgsT c.T))
  have hb3 := (Below.refl w2.heap.size w2).alloc (Nat.le_refl _) (.cells #[.slice A1 n1 c1, .slice A2 (mrgsT c.T).length c2] 34)
  have hn3 := blk_new w2 (.cells #[.slice A1 n1 c1, .slice A2 (mrgsT c.T).length c2] 34)
  replace HB2 := Lib.hid (HB2.out.trans (hb3.mono HB2.out.size))
  replace HMS := Lib.hid (HMS.out.below hb3 (Nat.le_refl _))
  replace HN2 := Lib.hid (blk_below hb3 (blk_lt HN2.out) HN2.out)
  have m1 := blk_cell hn3 1
  simp only [List.getElem?_toArray, List.getElem?_cons_zero, List.getElem?_cons_succ] at m1
  clear hb3 hn3 HREF HN0
  obtain ⟨g3, hg3⟩ : ∃ g, w2.heap.size = g := ⟨_, rfl⟩
  have HG3 : Hid (g3 ≤ (w2.alloc (.cells #[.slice A1 n1 c1, .slice A2 (mrgsT c.T).length c2] 34)).heap.size) := Lib.hid (by rw [← hg3, size_alloc]; omega)
  rw [hg3] at m1 hmlt ⊢
  clear hg3
  have HMLT := Lib.hid hmlt
  clear hmlt
  generalize w2.alloc (.cells #[.slice A1 n1 c1, .slice A2 (mrgsT c.T).length c2] 34) = w3 at *
  go_upto_region 3 with fail
  have HSB := Lib.hid HB2.out.size
  have HRS := Lib.hid (blk_lt HN2.out)
  have hb4 := (Below.refl w3.heap.size w3).alloc (Nat.le_refl _) (.cells #[.bool false, .slice A2 (mrgsT c.T).length c2, .slice none 0 0, .slice none 0 0, .slice none 0 0, .slice none 0 0] 115)
  have hn4 := blk_new w3 (.cells #[.bool false, .slice A2 (mrgsT c.T).length c2, .slice none 0 0, .slice none 0 0, .slice none 0 0, .slice none 0 0] 115)
  have hsz4 : w3.heap.size < (w3.alloc (.cells #[.bool false, .slice A2 (mrgsT c.T).length c2, .slice none 0 0, .slice none 0 0, .slice none 0 0, .slice none 0 0] 115)).heap.size := blk_lt hn4
  replace HB2 := Lib.hid (HB2.out.trans (hb4.mono HB2.out.size))
  replace HMS := Lib.hid (HMS.out.below hb4 (Nat.le_refl _))
  replace HN2 := Lib.hid (blk_below hb4 (blk_lt HN2.out) HN2.out)
  generalize w3.heap.size = sb at *
  generalize w3.alloc (.cells #[.bool false, .slice A2 (mrgsT c.T).length c2, .slice none 0 0, .slice none 0 0, .slice none 0 0, .slice none 0 0] 115) = w4 at *
  have HF : Hid (FldIs w4 w4 sb 115 #[.bool false, .slice A2 (mrgsT c.T).length c2, .slice none 0 0, .slice none 0 0, .slice none 0 0, .slice none 0 0] 181 3 (.slice none 0 0) 0 []) := Lib.hid ⟨hn4, own_nil _ _ _ _, Keep.refl _ _, hsz4⟩
  have HCA := Lib.hid (HC.out.below HB2.out (Nat.le_refl _))
  clear hb4 hn4 hsz4 m1
  go_wp2_with fail
  have HBW := HB2
  go_loopg [11] (min c.cs.length 8) (fun n i W => ∃ k : Nat, k + n = min c.cs.length 8 ∧ i = .int .i64 (k : Int) ∧ ∃ AV cv, FldIs w4 W sb 115 #[.bool false, .slice A2 (mrgsT c.T).length c2, .slice none 0 0, .slice none 0 0, .slice AV (((c.cs.take k).take 8).filter spanB).length cv, .slice none 0 0] 181 3 (.slice AV (((c.cs.take k).take 8).filter spanB).length cv) (((c.cs.take k).take 8).filter spanB).length ((((c.cs.take k).take 8).filter spanB).flatMap encCls))
  case atStart => exact ⟨0, by omega, rfl, none, 0, by simpa using HF.out⟩
  case round =>
    obtain ⟨k, hk, rfl, AV, cv, hf⟩ := hrel
    clear HF
    rename World => W
    have HF := Lib.hid hf
    clear hf
    by_cases hlt : k < min c.cs.length 8
    · have hk1 : k < c.cs.length := by omega
      have hlt1 : (k : Int) < (c.cs.length : Int) := by omega
      have hlt2 : (k : Int) < 8 := by omega
      have q0 : (0 : Int) ≤ (k : Int) := by omega
      have ws : IntKind.i64.wrap ((k : Int) + 1) = (k : Int) + 1 := IntWalk.i64_in _ (by omega)
      have HSUC := Lib.hid (take_filter_succ c.cs spanB k hk1 (by omega))
      obtain ⟨b, o, hA, hcc⟩ := HC.out.cs.at k hk1
      have HCAP := Lib.hid HC.out.cap.1
      have hsl := slice_cls b o c.cs.length cC k W hk1 HCAP.out
      have HSO : Hid (∀ V, Keep (fun x => x = sb) w4 V → Sl V (some ⟨b, o + k * 3, none⟩) encCls 3 [c.cs[k]]) := Lib.hid (fun V hV => sl_one (HC.out.below (HBW.out.trans (hV.below HBW.out.size (fun x hx => by rw [hx]; exact HSB.out))) (Nat.le_refl _)).cs hk1 hA)
      subst hA
      obtain ⟨x, hx⟩ : ∃ x, c.cs[k] = x := ⟨_, rfl⟩
      rw [hx] at HSO HSUC
      have HRT := Lib.hid (right_any [x] [] (some ⟨b, o + k * 3, none⟩) none (cC - k) 0 W (HSO.out _ HF.out.keep) (Sl.nil _ _ _ _) (by simp) (by simp))
      obtain ⟨q, hq⟩ : ∃ q, spanB x = q := ⟨_, rfl⟩
      have HRT2 : Hid (([x].all spanB && ([] : List Jn).all jnB) = q) := Lib.hid (by rw [← hq]; simp)
      rw [HRT2.out] at HRT
      rw [hq] at HSUC
      have HLL : Hid ((((c.cs.take k).take 8).filter spanB).length ≤ 1000) := Lib.hid (Nat.le_trans (List.length_filter_le _ _) (by rw [List.length_take]; omega))
      have HSC : Hid (∀ V, Keep (fun x => x = sb) w4 V → V.cell? ⟨b, o + k * 3, none⟩ = some (.int .i64 x.lo) ∧ V.cell? ⟨b, o + k * 3 + 1, none⟩ = some (.int .i64 x.hi) ∧ V.cell? ⟨b, o + k * 3 + 2, none⟩ = some (.int .i64 x.n)) := Lib.hid (fun V hV => by
        obtain ⟨bx, ox, hAx, hcx⟩ := (HSO.out V hV).at 0 (by simp)
        injection hAx with hAx
        injection hAx with hAx1 hAx2
        subst hAx1
        subst hAx2
        simp only [List.getElem_cons_zero, Nat.zero_mul, Nat.add_zero] at hcx
        exact ⟨by simpa using hcx 0 _ rfl, hcx 1 _ rfl, hcx 2 _ rfl⟩)
      clear hcc hx hq HRT2
      generalize ((c.cs.take k).take 8).filter spanB = L at *
      cases q with
      | false =>
        go_wp2_with (go_at_call 102; refine HRT.out.mono ?_; rintro e W1 ⟨rfl, hb⟩; (replace HF := Lib.hid (HF.out.below hb)); clear hb)
        go_roundg (gk - 1)
        case measure => omega
        case rel => exact ⟨k + 1, by omega, by simp, AV, cv, by rw [HSUC.out]; simpa using HF.out⟩
      | true =>
        replace HSUC := Lib.hid (HSUC.out.trans (congrArg (L ++ ·) (if_pos rfl)))
        go_upto_region 7 with (go_at_call 102; refine HRT.out.mono ?_; rintro e W1 ⟨rfl, hb⟩; (replace HF := Lib.hid (HF.out.below hb)); clear hb)
        have cv4 := blk_cell HF.out.blk 4
        simp only [List.getElem?_toArray, List.getElem?_cons_zero, List.getElem?_cons_succ] at cv4
        obtain ⟨e0, e1, e2⟩ := HSC.out _ HF.out.keep
        clear hsl
        refine wp_region_D (Ds := [9]) (S := fun V => V.cell? ⟨sb, 4, none⟩ = some (.slice AV L.length cv) ∧ V.cell? ⟨b, o + k * 3, none⟩ = some (.int .i64 x.lo) ∧ V.cell? ⟨b, o + k * 3 + 1, none⟩ = some (.int .i64 x.hi) ∧ V.cell? ⟨b, o + k * 3 + 2, none⟩ = some (.int .i64 x.n)) (by kernel_rfl) (by exact (And.intro cv4 (And.intro e0 (And.intro e1 e2)))) (fun hHeld => ?_)
        (replace HF := Lib.hid HF.out.drew); clear cv4 e0 e1 e2; generalize W1.drew = W2 at *
        refine tkP 0 39 ?_ rfl (.inl ⟨by rfl, ?_⟩) ?_; rotate_left; focus (intro w' _; go_simp; (try with_reducible rfl))
        try simp only [sIB, sC0, sCS]
        refine tkP 2 41 ?_ rfl (.inl ⟨by rfl, ?_⟩) ?_; rotate_left; focus (intro w' _; go_simp; (try with_reducible rfl))
        try simp only [sIB, sC0, sCS]
        refine tkP 3 42 ?_ rfl (.inl ⟨by rfl, ?_⟩) ?_; rotate_left; focus (intro w' _; go_simp; (try with_reducible rfl))
        try simp only [sIB, sC0, sCS]
        refine tkP 4 43 ?_ rfl (.inl ⟨by rfl, ?_⟩) ?_; rotate_left; focus (intro w' _; go_simp; (try with_reducible rfl))
        try simp only [sIB, sC0, sCS]
        refine tkD 1 40 ?_ rfl hHeld (.inl ⟨by rfl, ?_⟩) ?_; rotate_left; focus (intro w' hSw; (try dsimp only at hSw); go_simp; (try with_reducible rfl))
        try simp only [sIB, sC0, sCS]
        refine tkD 5 44 ?_ rfl hHeld (.inl ⟨by rfl, ?_⟩) ?_; rotate_left; focus (intro w' hSw; (try dsimp only at hSw); go_simp; (try with_reducible rfl))
        try simp only [sIB, sC0, sCS]
        refine wpAnyD_one (i := 6) (by kernel_rfl) rfl (by rfl) (fun K hK => ?_)
        go_simp; have hbl := (Below.refl W2.heap.size W2).alloc (Nat.le_refl _) (.cells #[.int .i64 x.lo, .int .i64 x.hi, .int .i64 x.n] 181); have h := (And.intro (below_cell hbl (Nat.le_refl _) hHeld.1) (And.intro (below_cell hbl (Nat.le_refl _) hHeld.2.1) (And.intro (below_cell hbl (Nat.le_refl _) hHeld.2.2.1) (below_cell hbl (Nat.le_refl _) hHeld.2.2.2)))); clear hbl
        refine hK.out _ _ h (fun hHeld => ?_)
        clear hK K
        try simp only [Act.put, sIB, sC0, sCS]
        refine wpAnyD_one (i := 7) (by kernel_rfl) rfl (by rfl) (fun K hK => ?_)
        refine wp_app_one w4.heap.size 23 181 (.agg #[.int .i64 0, .int .i64 0, .int .i64 0]) 3 24 [_, _, _] 1 _ _ rfl Tryz.underlying23 info_cls rfl (by decide) _ _ _ rfl _ rfl rfl rfl (by intro u hu; simp at hu; rcases hu with rfl | rfl | rfl <;> rfl) HF.out.row (by have := HLL.out; omega) (by have := HLL.out; omega) HF.out.keep.size ?_; intro v' W3 hown1 hg1 hnew; obtain ⟨AN, cN, rfl⟩ := own_slice hown1; have hk1 : Keep (fun g => (Value.slice AV L.length cv).ownBlock = some g) W2 W3 := Keep.of_grown hg1 (fun g hg => hg); have HFN := Lib.hid (HF.out.put hk1 hown1 4); have b1 := hk1.blk HF.out.blk (fun hg => by have := own_base HF.out.row _ hg; have := HF.out.lt; omega); have c9 := blk_cell b1 4; simp only [List.getElem?_toArray, List.getElem?_cons_zero, List.getElem?_cons_succ] at c9; have h := And.intro c9 (HSC.out _ (HF.out.keep.trans hk1 (fun x hx => .inr (own_base HF.out.row x hx))))
        refine hK.out _ _ h (fun hHeld => ?_)
        clear hK K
        try simp only [Act.put, sIB, sC0, sCS]
        refine tkP 8 47 ?_ rfl (.inl ⟨by rfl, ?_⟩) ?_; rotate_left; focus (intro w' _; go_simp; (try with_reducible rfl))
        try simp only [sIB, sC0, sCS]
        refine wpAnyD_last (D := 9) (by decide) (by kernel_rfl) rfl (by rfl) (fun K hK => ?_)
        have z0 := blk_froz b1 4; have c0 := hHeld.1; go_simp
        refine hK.out _ _ ?_
        clear hK K
        try simp only [Act.put, sIB, sC0, sCS]
        refine wpAnyD_done (by kernel_rfl) ?_ _
        have hfn := HFN.out
        simp only [List.setIfInBounds_toArray, List.set_cons_zero, List.set_cons_succ] at hfn
        have HFN2 := Lib.hid hfn
        clear hfn HFN z0 c0 b1 c9 h hHeld hown1 hg1 hnew hk1
        generalize W3.setCell ⟨sb, 4, none⟩ (.slice AN (L.length + 1) cN) = W4 at *
        go_wp2_with fail
        go_roundg (gk - 1)
        case measure => omega
        case rel => exact ⟨k + 1, by omega, by simp, AN, cN, by
          rw [HSUC.out, List.length_append, List.flatMap_append]
          exact HFN2.out⟩
    · have hke : k = min c.cs.length 8 := by omega
      have HEND := Lib.hid (take_filter_end c.cs spanB k (by omega))
      have hcond : ¬ ((k : Int) < (c.cs.length : Int)) ∨ ((k : Int) < (c.cs.length : Int) ∧ ¬ (k : Int) < 8) := by omega
      rw [HEND.out] at HF
      have HKE := Lib.hid hke
      clear hke
      go_upto_region 4 with fail
      go_cut [29] (fun v U => v = .bool false ∧ W = U)
      case first =>
        rcases hcond with h1 | ⟨h1, h2⟩ <;> (go_wp2_with fail; go_meet; case rel => exact ⟨rfl, rfl⟩)
      case rest =>
        obtain ⟨rfl, rfl⟩ := hcut
        clear hcond
        go_upto_region 8 with fail
        have HCR : Hid (Sl W AV encCls 3 (someC c.cs)) := Lib.hid (own_sl (enc := encCls) (fun _ => rfl) HF.out.row (by decide))
        have HCRB : Hid (∀ a, AV = some a → sb < a.block) := Lib.hid (fun a ha => by have := own_addr HF.out.row a ha; have := HF.out.lt; omega)
        have HBW2 := Lib.hid (HBW.out.trans (HF.out.keep.below HBW.out.size (fun x hx => by rw [hx]; exact HSB.out)))
        have HKW := Lib.hid HF.out.keep
        have HF : Hid (FldIs W W sb 115 #[.bool false, .slice A2 (mrgsT c.T).length c2, .slice none 0 0, .slice none 0 0, .slice AV (someC c.cs).length cv, .slice none 0 0] 182 2 (.slice none 0 0) 0 []) := Lib.hid ⟨HF.out.blk, own_nil _ _ _ _, Keep.refl _ _, Nat.lt_of_lt_of_le HF.out.lt HF.out.keep.size⟩
        have HBW := HBW2
        clear HBW2
        rename World => w5
        generalize AV = AC2 at *
        generalize cv = cC2 at *
        go_wp2_with fail
        go_loopg [12] (min c.js.length 8) (fun n i W => ∃ k : Nat, k + n = min c.js.length 8 ∧ i = .int .i64 (k : Int) ∧ ∃ AV cv, FldIs w5 W sb 115 #[.bool false, .slice A2 (mrgsT c.T).length c2, .slice none 0 0, .slice none 0 0, .slice AC2 (someC c.cs).length cC2, .slice AV (((c.js.take k).take 8).filter jnB).length cv] 182 2 (.slice AV (((c.js.take k).take 8).filter jnB).length cv) (((c.js.take k).take 8).filter jnB).length ((((c.js.take k).take 8).filter jnB).flatMap encJn))
        case atStart => exact ⟨0, by omega, rfl, none, 0, by simpa using HF.out⟩
        case round =>
          obtain ⟨k, hk, rfl, AV, cv, hf⟩ := hrel
          clear HF
          rename World => W
          have HF := Lib.hid hf
          clear hf
          by_cases hlt : k < min c.js.length 8
          · have hk1 : k < c.js.length := by omega
            have hlt1 : (k : Int) < (c.js.length : Int) := by omega
            have hlt2 : (k : Int) < 8 := by omega
            have q0 : (0 : Int) ≤ (k : Int) := by omega
            have ws : IntKind.i64.wrap ((k : Int) + 1) = (k : Int) + 1 := IntWalk.i64_in _ (by omega)
            have HSUC := Lib.hid (take_filter_succ c.js jnB k hk1 (by omega))
            obtain ⟨b, o, hA, hcc⟩ := HC.out.js.at k hk1
            have HCAP := Lib.hid HC.out.cap.2
            have hsl := slice_jn b o c.js.length cJ k W hk1 HCAP.out
            have HSO : Hid (∀ V, Keep (fun x => x = sb) w5 V → Sl V (some ⟨b, o + k * 2, none⟩) encJn 2 [c.js[k]]) := Lib.hid (fun V hV => sl_one (HC.out.below (HBW.out.trans (hV.below HBW.out.size (fun x hx => by rw [hx]; exact HSB.out))) (Nat.le_refl _)).js hk1 hA)
            subst hA
            obtain ⟨x, hx⟩ : ∃ x, c.js[k] = x := ⟨_, rfl⟩
            rw [hx] at HSO HSUC
            have HRT := Lib.hid (right_any [] [x] none (some ⟨b, o + k * 2, none⟩) 0 (cJ - k) W (Sl.nil _ _ _ _) (HSO.out _ HF.out.keep) (by simp) (by simp))
            obtain ⟨q, hq⟩ : ∃ q, jnB x = q := ⟨_, rfl⟩
            have HRT2 : Hid ((([] : List Cls).all spanB && [x].all jnB) = q) := Lib.hid (by rw [← hq]; simp)
            rw [HRT2.out] at HRT
            rw [hq] at HSUC
            have HLL : Hid ((((c.js.take k).take 8).filter jnB).length ≤ 1000) := Lib.hid (Nat.le_trans (List.length_filter_le _ _) (by rw [List.length_take]; omega))
            have HSC : Hid (∀ V, Keep (fun x => x = sb) w5 V → V.cell? ⟨b, o + k * 2, none⟩ = some (.int .i64 x.a) ∧ V.cell? ⟨b, o + k * 2 + 1, none⟩ = some (.int .i64 x.b)) := Lib.hid (fun V hV => by
              obtain ⟨bx, ox, hAx, hcx⟩ := (HSO.out V hV).at 0 (by simp)
              injection hAx with hAx
              injection hAx with hAx1 hAx2
              subst hAx1
              subst hAx2
              simp only [List.getElem_cons_zero, Nat.zero_mul, Nat.add_zero] at hcx
              exact ⟨by simpa using hcx 0 _ rfl, hcx 1 _ rfl⟩)
            clear hcc hx hq HRT2
            generalize ((c.js.take k).take 8).filter jnB = L at *
            cases q with
            | false =>
              go_wp2_with (go_at_call 102; refine HRT.out.mono ?_; rintro e W1 ⟨rfl, hb⟩; (replace HF := Lib.hid (HF.out.below hb)); clear hb)
              go_roundg (gk - 1)
              case measure => omega
              case rel => exact ⟨k + 1, by omega, by simp, AV, cv, by rw [HSUC.out]; simpa using HF.out⟩
            | true =>
              replace HSUC := Lib.hid (HSUC.out.trans (congrArg (L ++ ·) (if_pos rfl)))
              go_upto_region 12 with (go_at_call 102; refine HRT.out.mono ?_; rintro e W1 ⟨rfl, hb⟩; (replace HF := Lib.hid (HF.out.below hb)); clear hb)
              have cv4 := blk_cell HF.out.blk 5
              simp only [List.getElem?_toArray, List.getElem?_cons_zero, List.getElem?_cons_succ] at cv4
              obtain ⟨e0, e1⟩ := HSC.out _ HF.out.keep
              clear hsl
              refine wp_region_D (Ds := [9]) (S := fun V => V.cell? ⟨sb, 5, none⟩ = some (.slice AV L.length cv) ∧ V.cell? ⟨b, o + k * 2, none⟩ = some (.int .i64 x.a) ∧ V.cell? ⟨b, o + k * 2 + 1, none⟩ = some (.int .i64 x.b)) (by kernel_rfl) (by exact (And.intro cv4 (And.intro e0 e1))) (fun hHeld => ?_)
              (replace HF := Lib.hid HF.out.drew); clear cv4 e0 e1; generalize W1.drew = W2 at *
              refine tkP 0 65 ?_ rfl (.inl ⟨by rfl, ?_⟩) ?_; rotate_left; focus (intro w' _; go_simp; (try with_reducible rfl))
              try simp only [sIB, sC0, sCS]
              refine tkP 2 67 ?_ rfl (.inl ⟨by rfl, ?_⟩) ?_; rotate_left; focus (intro w' _; go_simp; (try with_reducible rfl))
              try simp only [sIB, sC0, sCS]
              refine tkP 3 68 ?_ rfl (.inl ⟨by rfl, ?_⟩) ?_; rotate_left; focus (intro w' _; go_simp; (try with_reducible rfl))
              try simp only [sIB, sC0, sCS]
              refine tkP 4 69 ?_ rfl (.inl ⟨by rfl, ?_⟩) ?_; rotate_left; focus (intro w' _; go_simp; (try with_reducible rfl))
              try simp only [sIB, sC0, sCS]
              refine tkD 1 66 ?_ rfl hHeld (.inl ⟨by rfl, ?_⟩) ?_; rotate_left; focus (intro w' hSw; (try dsimp only at hSw); go_simp; (try with_reducible rfl))
              try simp only [sIB, sC0, sCS]
              refine tkD 5 70 ?_ rfl hHeld (.inl ⟨by rfl, ?_⟩) ?_; rotate_left; focus (intro w' hSw; (try dsimp only at hSw); go_simp; (try with_reducible rfl))
              try simp only [sIB, sC0, sCS]
              refine wpAnyD_one (i := 6) (by kernel_rfl) rfl (by rfl) (fun K hK => ?_)
              go_simp; have hbl := (Below.refl W2.heap.size W2).alloc (Nat.le_refl _) (.cells #[.int .i64 x.a, .int .i64 x.b] 182); have h := (And.intro (below_cell hbl (Nat.le_refl _) hHeld.1) (And.intro (below_cell hbl (Nat.le_refl _) hHeld.2.1) (below_cell hbl (Nat.le_refl _) hHeld.2.2))); clear hbl
              refine hK.out _ _ h (fun hHeld => ?_)
              clear hK K
              try simp only [Act.put, sIB, sC0, sCS]
              refine wpAnyD_one (i := 7) (by kernel_rfl) rfl (by rfl) (fun K hK => ?_)
              refine wp_app_one w5.heap.size 24 182 (.agg #[.int .i64 0, .int .i64 0]) 2 16 [_, _] 1 _ _ rfl Tryz.underlying24 info_jn rfl (by decide) _ _ _ rfl _ rfl rfl rfl (by intro u hu; simp at hu; rcases hu with rfl | rfl <;> rfl) HF.out.row (by have := HLL.out; omega) (by have := HLL.out; omega) HF.out.keep.size ?_; intro v' W3 hown1 hg1 hnew; obtain ⟨AN, cN, rfl⟩ := own_slice hown1; have hk1 : Keep (fun g => (Value.slice AV L.length cv).ownBlock = some g) W2 W3 := Keep.of_grown hg1 (fun g hg => hg); have HFN := Lib.hid (HF.out.put hk1 hown1 5); have b1 := hk1.blk HF.out.blk (fun hg => by have := own_base HF.out.row _ hg; have := HF.out.lt; omega); have c9 := blk_cell b1 5; simp only [List.getElem?_toArray, List.getElem?_cons_zero, List.getElem?_cons_succ] at c9; have h := And.intro c9 (HSC.out _ (HF.out.keep.trans hk1 (fun x hx => .inr (own_base HF.out.row x hx))))
              refine hK.out _ _ h (fun hHeld => ?_)
              clear hK K
              try simp only [Act.put, sIB, sC0, sCS]
              refine tkP 8 73 ?_ rfl (.inl ⟨by rfl, ?_⟩) ?_; rotate_left; focus (intro w' _; go_simp; (try with_reducible rfl))
              try simp only [sIB, sC0, sCS]
              refine wpAnyD_last (D := 9) (by decide) (by kernel_rfl) rfl (by rfl) (fun K hK => ?_)
              have z0 := blk_froz b1 5; have c0 := hHeld.1; go_simp
              refine hK.out _ _ ?_
              clear hK K
              try simp only [Act.put, sIB, sC0, sCS]
              refine wpAnyD_done (by kernel_rfl) ?_ _
              have hfn := HFN.out
              simp only [List.setIfInBounds_toArray, List.set_cons_zero, List.set_cons_succ] at hfn
              have HFN2 := Lib.hid hfn
              clear hfn HFN z0 c0 b1 c9 h hHeld hown1 hg1 hnew hk1
              generalize W3.setCell ⟨sb, 5, none⟩ (.slice AN (L.length + 1) cN) = W4 at *
              go_wp2_with fail
              go_roundg (gk - 1)
              case measure => omega
              case rel => exact ⟨k + 1, by omega, by simp, AN, cN, by
                rw [HSUC.out, List.length_append, List.flatMap_append]
                exact HFN2.out⟩
          · have hke : k = min c.js.length 8 := by omega
            have HEND := Lib.hid (take_filter_end c.js jnB k (by omega))
            have hcond : ¬ ((k : Int) < (c.js.length : Int)) ∨ ((k : Int) < (c.js.length : Int) ∧ ¬ (k : Int) < 8) := by omega
            rw [HEND.out] at HF
            have HKE := Lib.hid hke
            clear hke
            go_upto_region 9 with fail
            go_cut [55] (fun v U => v = .bool false ∧ W = U)
            case first =>
              rcases hcond with h1 | ⟨h1, h2⟩ <;> (go_wp2_with fail; go_meet; case rel => exact ⟨rfl, rfl⟩)
            case rest =>
              obtain ⟨rfl, rfl⟩ := hcut
              clear hcond
              go_upto_region 13 with fail
              have HJR : Hid (Sl W AV encJn 2 (someJ c.js)) := Lib.hid (own_sl (enc := encJn) (fun _ => rfl) HF.out.row (by decide))
              have HJRB : Hid (∀ a, AV = some a → sb < a.block) := Lib.hid (fun a ha => by have := own_addr HF.out.row a ha; have := HF.out.lt; omega)
              have HBW2 := Lib.hid (HBW.out.trans (HF.out.keep.below HBW.out.size (fun x hx => by rw [hx]; exact HSB.out)))
              have HKW2 := Lib.hid HF.out.keep
              rename World => w6
              generalize AV = AJ2 at *
              generalize cv = cJ2 at *
              have HF : Hid (FldIs w6 w6 sb 115 #[.bool false, .slice A2 (mrgsT c.T).length c2, .slice none 0 0, .slice none 0 0, .slice AC2 (someC c.cs).length cC2, .slice AJ2 (someJ c.js).length cJ2] 170 2 (.slice none 0 0) 0 []) := Lib.hid ⟨HF.out.blk, own_nil _ _ _ _, Keep.refl _ _, Nat.lt_of_lt_of_le HF.out.lt HF.out.keep.size⟩
              have HBW := HBW2
              clear HBW2
              go_wp2_with fail
              go_loopg [13] (min c.xs.length 6) (fun n i W => ∃ k : Nat, k + n = min c.xs.length 6 ∧ i = .int .i64 (k : Int) ∧ ∃ AV cv, FldIs w6 W sb 115 #[.bool false, .slice A2 (mrgsT c.T).length c2, .slice none 0 0, .slice AV (someX c.xs k).length cv, .slice AC2 (someC c.cs).length cC2, .slice AJ2 (someJ c.js).length cJ2] 170 2 (.slice AV (someX c.xs k).length cv) (someX c.xs k).length ((someX c.xs k).flatMap encIS))
              case atStart => exact ⟨0, by omega, rfl, none, 0, HF.out⟩
              case round =>
                obtain ⟨k, hk, rfl, AV, cv, hf⟩ := hrel
                clear HF
                rename World => W
                have HF := Lib.hid hf
                clear hf
                by_cases hlt : k < min c.xs.length 6
                · have hk1 : k < c.xs.length := by omega
                  have hlt1 : (k : Int) < (c.xs.length : Int) := by omega
                  have hlt2 : (k : Int) < 6 := by omega
                  have q0 : (0 : Int) ≤ (k : Int) := by omega
                  have ws : IntKind.i64.wrap ((k : Int) + 1) = (k : Int) + 1 := IntWalk.i64_in _ (by omega)
                  have wk : IntKind.i64.wrap (1000 + (k : Int)) = 1000 + (k : Int) := IntWalk.i64_in _ (by omega)
                  obtain ⟨b, o, hA, hcc⟩ := HC.out.xs.at k hk1
                  obtain ⟨x, hx⟩ : ∃ x, c.xs[k] = x := ⟨_, rfl⟩
                  have HGD : Hid (c.xs.getD k (0, []) = x) := Lib.hid (by rw [← hx, List.getD_eq_getElem?_getD, List.getElem?_eq_getElem hk1]; rfl)
                  have hc1 : w.cell? ⟨b, o + k * 2 + 1, none⟩ = some (strV x.2) := by rw [← hx]; exact hcc 1 _ rfl
                  obtain ⟨z, hz⟩ : ∃ z, bs x.2 = z := ⟨_, rfl⟩
                  have HZ := Lib.hid hz
                  have HSC : Hid (∀ V, Keep (fun x => x = sb) w6 V → V.cell? ⟨b, o + k * 2 + 1, none⟩ = some (.string z)) := Lib.hid (fun V hV => by rw [← hz]; exact below_cell (HBW.out.trans (hV.below HBW.out.size (fun x hx => by rw [hx]; exact HSB.out))) (Nat.le_refl _) hc1)
                  subst hA
                  have HSUC : Hid (someX c.xs (k + 1) = if okX (someX c.xs k ++ [(1000 + (k : Int), x.2)]) then someX c.xs k ++ [(1000 + (k : Int), x.2)] else someX c.xs k) := Lib.hid (by rw [someX, HGD.out])
                  have HLL : Hid ((someX c.xs k).length ≤ 1000) := Lib.hid (by have := someX_len c.xs k; omega)
                  clear hcc hc1 hx hz
                  generalize someX c.xs k = L at *
                  have c3 := blk_cell HF.out.blk 3
                  simp only [List.getElem?_toArray, List.getElem?_cons_zero, List.getElem?_cons_succ] at c3
                  have e1 := HSC.out _ HF.out.keep
                  go_upto_region 16 with fail
                  refine wp_region_D (Ds := []) (S := fun V => V.cell? ⟨sb, 3, none⟩ = some (.slice AV L.length cv) ∧ V.cell? ⟨b, o + k * 2 + 1, none⟩ = some (.string z)) (by kernel_rfl) (by exact And.intro c3 e1) (fun hHeld => ?_)
                  (replace HF := Lib.hid HF.out.drew); clear c3 e1; generalize W.drew = W2 at *; (have HCL : Hid (∀ V, Below W2.heap.size W2 V → V.cell? ⟨sb, 3, none⟩ = some (.slice AV L.length cv) ∧ V.cell? ⟨b, o + k * 2 + 1, none⟩ = some (.string z)) := Lib.hid (fun V hV => And.intro (by have := blk_cell (HF.out.below hV).blk 3; simpa using this) (HSC.out _ (HF.out.below hV).keep))); (have HBB := Lib.hid (Below.refl W2.heap.size W2))
                  refine tkP 1 85 ?_ rfl (.inl ⟨by rfl, ?_⟩) ?_; rotate_left; focus (intro w' _; go_simp; (try with_reducible rfl))
                  try simp only [sIB, sC0, sCS]
                  refine tkP 4 88 ?_ rfl (.inl ⟨by rfl, ?_⟩) ?_; rotate_left; focus (intro w' _; go_simp; (try with_reducible rfl))
                  try simp only [sIB, sC0, sCS]
                  refine tkP 5 89 ?_ rfl (.inl ⟨by rfl, ?_⟩) ?_; rotate_left; focus (intro w' _; go_simp; (try with_reducible rfl))
                  try simp only [sIB, sC0, sCS]
                  refine tkP 6 90 ?_ rfl (.inl ⟨by rfl, ?_⟩) ?_; rotate_left; focus (intro w' _; go_simp; (try with_reducible rfl))
                  try simp only [sIB, sC0, sCS]
                  refine tkP 7 91 ?_ rfl (.inl ⟨by rfl, ?_⟩) ?_; rotate_left; focus (intro w' _; go_simp; (try with_reducible rfl))
                  try simp only [sIB, sC0, sCS]
                  refine tkP 8 92 ?_ rfl (.inl ⟨by rfl, ?_⟩) ?_; rotate_left; focus (intro w' _; go_simp; (try with_reducible rfl))
                  try simp only [sIB, sC0, sCS]
                  refine tkP 9 93 ?_ rfl (.inl ⟨by rfl, ?_⟩) ?_; rotate_left; focus (intro w' _; go_simp; (try with_reducible rfl))
                  try simp only [sIB, sC0, sCS]
                  refine tkD 2 86 ?_ rfl hHeld (.inl ⟨by rfl, ?_⟩) ?_; rotate_left; focus (intro w' hSw; (try dsimp only at hSw); go_simp; (try with_reducible rfl))
                  try simp only [sIB, sC0, sCS]
                  refine tkD 10 94 ?_ rfl hHeld (.inl ⟨by rfl, ?_⟩) ?_; rotate_left; focus (intro w' hSw; (try dsimp only at hSw); go_simp; (try with_reducible rfl))
                  try simp only [sIB, sC0, sCS]
                  refine tkP 11 95 ?_ rfl (.inl ⟨by rfl, ?_⟩) ?_; rotate_left; focus (intro w' _; go_simp; (try with_reducible rfl))
                  try simp only [sIB, sC0, sCS]
                  refine wpAnyD_two (i := 0) (j := 12) (by kernel_rfl) rfl rfl (by rfl) (by rfl) (fun K hK => ?_) (fun K hK => ?_)
                  ·
                    go_simp; have HGE := Lib.hid HBB.out.size; have HEB := Lib.hid (bel_new HBB.out (.cells #[] 170)); (try have HK := Lib.hid (blk_alloc HK.out (.cells #[] 170))); have HBB := Lib.hid (bel_alloc HBB.out (.cells #[] 170)); refine gen_below HBB.out rfl (fun W' hW' => ?_); rw [← hW'] at HBB HEB; (try rw [← hW'] at HK); clear hW'; have h := HCL.out _ HBB.out
                    refine hK.out _ _ h (fun hHeld => ?_)
                    clear hK K
                    try simp only [Act.put, sIB, sC0, sCS]
                    refine wpAnyD_two (i := 3) (j := 12) (by kernel_rfl) rfl rfl (by rfl) (by rfl) (fun K hK => ?_) (fun K hK => ?_)
                    ·
                      refine wp_app_row W2.heap.size w6.heap.size 25 170 (.agg #[.int .i64 0, .string ⟨#[]⟩]) 2 24 _ _ rfl Tryz.underlying25 info_spl rfl (by decide) (.slice (some ⟨_, 0, none⟩) 0 0) 0 [] rfl _ L.length (L.flatMap encIS) rfl (by intro u hu; obtain ⟨y, _, hy⟩ := List.mem_flatMap.1 hu; simp [encIS, strV] at hy; rcases hy with rfl | rfl <;> rfl) (own_empty HEB.out HGE.out) (HF.out.below HBB.out).row (by have := HLL.out; omega) (by have := HLL.out; omega) HBB.out.size ?_; intro v' W' hown' hg'; rw [Nat.zero_add, List.nil_append] at hown'; obtain ⟨AR, cR, rfl⟩ := own_slice hown'; have hk' := (Keep.of_grown (F := fun g => _ = g) hg' (fun g hg => by injection hg)); (try have HK := Lib.hid (hk'.blk HK.out (fun e => by have h1 := HK.out; rw [← e, HEB.out] at h1; simp at h1))); have HBB := Lib.hid (HBB.out.trans (hk'.below HBB.out.size (fun g hg => by rw [← hg]; exact HGE.out))); have HROW := Lib.hid hown'; clear hown' hg' hk' HEB HGE; have h := HCL.out _ HBB.out
                      refine hK.out _ _ h (fun hHeld => ?_)
                      clear hK K
                      try simp only [Act.put, sIB, sC0, sCS]
                      refine wpAnyD_one (i := 12) (by kernel_rfl) rfl (by rfl) (fun K hK => ?_)
                      go_simp; (try have HEB := Lib.hid (blk_alloc HEB.out (.cells #[.int .i64 (1000 + (k : Int)), .string z] 170))); (try have HROW := Lib.hid (row_alloc HROW.out (.cells #[.int .i64 (1000 + (k : Int)), .string z] 170))); have HK := Lib.hid (bel_new HBB.out (.cells #[.int .i64 (1000 + (k : Int)), .string z] 170)); have HBB := Lib.hid (bel_alloc HBB.out (.cells #[.int .i64 (1000 + (k : Int)), .string z] 170)); refine gen_below HBB.out rfl (fun W' hW' => ?_); rw [← hW'] at HBB HK; (try rw [← hW'] at HEB); (try rw [← hW'] at HROW); clear hW'; have h := HCL.out _ HBB.out
                      refine hK.out _ _ h (fun hHeld => ?_)
                      clear hK K
                      try simp only [Act.put, sIB, sC0, sCS]
                      refine wpAnyD_one (i := 13) (by kernel_rfl) rfl (by rfl) (fun K hK => ?_)
                      refine wp_app_at W2.heap.size 25 170 (.agg #[.int .i64 0, .string ⟨#[]⟩]) 2 24 [_, _] 1 _ _ _ rfl Tryz.underlying25 info_spl rfl (by decide) _ _ _ rfl rfl rfl (by intro u hu; simp at hu; rcases hu with rfl | rfl <;> rfl) HK.out HROW.out (by have := HLL.out; omega) (by have := HLL.out; omega) HBB.out.size ?_; intro v' W' hown' hg' _; obtain ⟨AY, cY, rfl⟩ := own_slice hown'; have hk' : Keep (fun g => (Value.slice AR L.length cR).ownBlock = some g) _ W' := Keep.of_grown hg' (fun g hg => hg); have HBB := Lib.hid (HBB.out.trans (hk'.below HBB.out.size (own_base HROW.out))); have HY := Lib.hid hown'; clear hown' hg' hk' HROW HK; have h := HCL.out _ HBB.out
                      refine hK.out _ _ h (fun hHeld => ?_)
                      clear hK K
                      try simp only [Act.put, sIB, sC0, sCS]
                      refine tkP 14 14 ?_ rfl (.inl ⟨by rfl, ?_⟩) ?_; rotate_left; focus (intro w' _; go_simp; (try with_reducible rfl))
                      try simp only [sIB, sC0, sCS]
                      refine wpAnyD_done (by kernel_rfl) ?_ _
                      clear h hHeld
                      have HYS : Hid (Sl W' AY encIS 2 (L ++ [(1000 + (k : Int), x.2)])) := Lib.hid (own_sl (enc := encIS) (fun _ => rfl) (n := L.length + 1) (c := cY) (by rw [List.flatMap_append]; have h9 := HY.out; rw [← HZ.out] at h9; exact h9) (by decide))
                      have HCK := Lib.hid (rcheck_any (c := cY) HYS.out (by rw [List.length_append]; have := HLL.out; simp; omega))
                      rw [show (L ++ [(1000 + (k : Int), x.2)]).length = L.length + 1 from by rw [List.length_append]; rfl] at HCK
                      obtain ⟨q, hq⟩ : ∃ q, okX (L ++ [(1000 + (k : Int), x.2)]) = q := ⟨_, rfl⟩
                      have HQ := Lib.hid hq
                      rw [hq] at HSUC
                      clear hq
                      cases q with
                      | true =>
                        replace HSUC := Lib.hid (HSUC.out.trans (if_pos rfl))
                        go_upto_region 19 with (go_at_call 103; refine HCK.out.mono ?_; rintro e V ⟨⟨n0, k0, rfl, hy1, hy2⟩, m, rfl⟩; obtain ⟨_, hk00⟩ := hy1 HQ.out; subst hk00; clear hy1 hy2)
                        have HFC := Lib.hid (HF.out.below (below_drewN HBB.out m))
                        have cc := blk_cell HFC.out.blk 3
                        have zz := blk_froz HFC.out.blk 3
                        simp only [List.getElem?_toArray, List.getElem?_cons_zero, List.getElem?_cons_succ] at cc
                        have hfn := HF.out.put (Keep.of_below (below_drewN HBB.out m)) (own_less (own_drewN HY.out m) HF.out.keep.size) 3
                        simp only [List.setIfInBounds_toArray, List.set_cons_zero, List.set_cons_succ] at hfn
                        have HFN := Lib.hid hfn
                        clear hfn
                        go_wp2_with fail
                        go_roundg (gk - 1)
                        case measure => omega
                        case rel => exact ⟨k + 1, by omega, by simp, AY, cY, by
                          rw [HSUC.out, List.length_append, List.flatMap_append]
                          have h9 := HFN.out
                          rw [← HZ.out] at h9
                          exact h9⟩
                      | false =>
                        replace HSUC := Lib.hid (HSUC.out.trans (if_neg (by decide)))
                        go_wp2_with (go_at_call 103; refine HCK.out.mono ?_; rintro e V ⟨⟨n0, k0, rfl, hy1, hy2⟩, m, rfl⟩; (have hk00 := hy2 HQ.out); clear hy1 hy2)
                        have HFC := Lib.hid (HF.out.below (below_drewN HBB.out m))
                        go_roundg (gk - 1)
                        case measure => omega
                        case rel => exact ⟨k + 1, by omega, by simp, AV, cv, by rw [HSUC.out]; exact HFC.out⟩
                    ·
                      go_simp; (try have HEB := Lib.hid (blk_alloc HEB.out (.cells #[.int .i64 (1000 + (k : Int)), .string z] 170))); (try have HROW := Lib.hid (row_alloc HROW.out (.cells #[.int .i64 (1000 + (k : Int)), .string z] 170))); have HK := Lib.hid (bel_new HBB.out (.cells #[.int .i64 (1000 + (k : Int)), .string z] 170)); have HBB := Lib.hid (bel_alloc HBB.out (.cells #[.int .i64 (1000 + (k : Int)), .string z] 170)); refine gen_below HBB.out rfl (fun W' hW' => ?_); rw [← hW'] at HBB HK; (try rw [← hW'] at HEB); (try rw [← hW'] at HROW); clear hW'; have h := HCL.out _ HBB.out
                      refine hK.out _ _ h (fun hHeld => ?_)
                      clear hK K
                      try simp only [Act.put, sIB, sC0, sCS]
                      refine wpAnyD_one (i := 3) (by kernel_rfl) rfl (by rfl) (fun K hK => ?_)
                      refine wp_app_row W2.heap.size w6.heap.size 25 170 (.agg #[.int .i64 0, .string ⟨#[]⟩]) 2 24 _ _ rfl Tryz.underlying25 info_spl rfl (by decide) (.slice (some ⟨_, 0, none⟩) 0 0) 0 [] rfl _ L.length (L.flatMap encIS) rfl (by intro u hu; obtain ⟨y, _, hy⟩ := List.mem_flatMap.1 hu; simp [encIS, strV] at hy; rcases hy with rfl | rfl <;> rfl) (own_empty HEB.out HGE.out) (HF.out.below HBB.out).row (by have := HLL.out; omega) (by have := HLL.out; omega) HBB.out.size ?_; intro v' W' hown' hg'; rw [Nat.zero_add, List.nil_append] at hown'; obtain ⟨AR, cR, rfl⟩ := own_slice hown'; have hk' := (Keep.of_grown (F := fun g => _ = g) hg' (fun g hg => by injection hg)); (try have HK := Lib.hid (hk'.blk HK.out (fun e => by have h1 := HK.out; rw [← e, HEB.out] at h1; simp at h1))); have HBB := Lib.hid (HBB.out.trans (hk'.below HBB.out.size (fun g hg => by rw [← hg]; exact HGE.out))); have HROW := Lib.hid hown'; clear hown' hg' hk' HEB HGE; have h := HCL.out _ HBB.out
                      refine hK.out _ _ h (fun hHeld => ?_)
                      clear hK K
                      try simp only [Act.put, sIB, sC0, sCS]
                      refine wpAnyD_one (i := 13) (by kernel_rfl) rfl (by rfl) (fun K hK => ?_)
                      refine wp_app_at W2.heap.size 25 170 (.agg #[.int .i64 0, .string ⟨#[]⟩]) 2 24 [_, _] 1 _ _ _ rfl Tryz.underlying25 info_spl rfl (by decide) _ _ _ rfl rfl rfl (by intro u hu; simp at hu; rcases hu with rfl | rfl <;> rfl) HK.out HROW.out (by have := HLL.out; omega) (by have := HLL.out; omega) HBB.out.size ?_; intro v' W' hown' hg' _; obtain ⟨AY, cY, rfl⟩ := own_slice hown'; have hk' : Keep (fun g => (Value.slice AR L.length cR).ownBlock = some g) _ W' := Keep.of_grown hg' (fun g hg => hg); have HBB := Lib.hid (HBB.out.trans (hk'.below HBB.out.size (own_base HROW.out))); have HY := Lib.hid hown'; clear hown' hg' hk' HROW HK; have h := HCL.out _ HBB.out
                      refine hK.out _ _ h (fun hHeld => ?_)
                      clear hK K
                      try simp only [Act.put, sIB, sC0, sCS]
                      refine tkP 14 14 ?_ rfl (.inl ⟨by rfl, ?_⟩) ?_; rotate_left; focus (intro w' _; go_simp; (try with_reducible rfl))
                      try simp only [sIB, sC0, sCS]
                      refine wpAnyD_done (by kernel_rfl) ?_ _
                      clear h hHeld
                      have HYS : Hid (Sl W' AY encIS 2 (L ++ [(1000 + (k : Int), x.2)])) := Lib.hid (own_sl (enc := encIS) (fun _ => rfl) (n := L.length + 1) (c := cY) (by rw [List.flatMap_append]; have h9 := HY.out; rw [← HZ.out] at h9; exact h9) (by decide))
                      have HCK := Lib.hid (rcheck_any (c := cY) HYS.out (by rw [List.length_append]; have := HLL.out; simp; omega))
                      rw [show (L ++ [(1000 + (k : Int), x.2)]).length = L.length + 1 from by rw [List.length_append]; rfl] at HCK
                      obtain ⟨q, hq⟩ : ∃ q, okX (L ++ [(1000 + (k : Int), x.2)]) = q := ⟨_, rfl⟩
                      have HQ := Lib.hid hq
                      rw [hq] at HSUC
                      clear hq
                      cases q with
                      | true =>
                        replace HSUC := Lib.hid (HSUC.out.trans (if_pos rfl))
                        go_upto_region 19 with (go_at_call 103; refine HCK.out.mono ?_; rintro e V ⟨⟨n0, k0, rfl, hy1, hy2⟩, m, rfl⟩; obtain ⟨_, hk00⟩ := hy1 HQ.out; subst hk00; clear hy1 hy2)
                        have HFC := Lib.hid (HF.out.below (below_drewN HBB.out m))
                        have cc := blk_cell HFC.out.blk 3
                        have zz := blk_froz HFC.out.blk 3
                        simp only [List.getElem?_toArray, List.getElem?_cons_zero, List.getElem?_cons_succ] at cc
                        have hfn := HF.out.put (Keep.of_below (below_drewN HBB.out m)) (own_less (own_drewN HY.out m) HF.out.keep.size) 3
                        simp only [List.setIfInBounds_toArray, List.set_cons_zero, List.set_cons_succ] at hfn
                        have HFN := Lib.hid hfn
                        clear hfn
                        go_wp2_with fail
                        go_roundg (gk - 1)
                        case measure => omega
                        case rel => exact ⟨k + 1, by omega, by simp, AY, cY, by
                          rw [HSUC.out, List.length_append, List.flatMap_append]
                          have h9 := HFN.out
                          rw [← HZ.out] at h9
                          exact h9⟩
                      | false =>
                        replace HSUC := Lib.hid (HSUC.out.trans (if_neg (by decide)))
                        go_wp2_with (go_at_call 103; refine HCK.out.mono ?_; rintro e V ⟨⟨n0, k0, rfl, hy1, hy2⟩, m, rfl⟩; (have hk00 := hy2 HQ.out); clear hy1 hy2)
                        have HFC := Lib.hid (HF.out.below (below_drewN HBB.out m))
                        go_roundg (gk - 1)
                        case measure => omega
                        case rel => exact ⟨k + 1, by omega, by simp, AV, cv, by rw [HSUC.out]; exact HFC.out⟩
                  ·
                    go_simp; (try have HEB := Lib.hid (blk_alloc HEB.out (.cells #[.int .i64 (1000 + (k : Int)), .string z] 170))); (try have HROW := Lib.hid (row_alloc HROW.out (.cells #[.int .i64 (1000 + (k : Int)), .string z] 170))); have HK := Lib.hid (bel_new HBB.out (.cells #[.int .i64 (1000 + (k : Int)), .string z] 170)); have HBB := Lib.hid (bel_alloc HBB.out (.cells #[.int .i64 (1000 + (k : Int)), .string z] 170)); refine gen_below HBB.out rfl (fun W' hW' => ?_); rw [← hW'] at HBB HK; (try rw [← hW'] at HEB); (try rw [← hW'] at HROW); clear hW'; have h := HCL.out _ HBB.out
                    refine hK.out _ _ h (fun hHeld => ?_)
                    clear hK K
                    try simp only [Act.put, sIB, sC0, sCS]
                    refine wpAnyD_one (i := 0) (by kernel_rfl) rfl (by rfl) (fun K hK => ?_)
                    go_simp; have HGE := Lib.hid HBB.out.size; have HEB := Lib.hid (bel_new HBB.out (.cells #[] 170)); (try have HK := Lib.hid (blk_alloc HK.out (.cells #[] 170))); have HBB := Lib.hid (bel_alloc HBB.out (.cells #[] 170)); refine gen_below HBB.out rfl (fun W' hW' => ?_); rw [← hW'] at HBB HEB; (try rw [← hW'] at HK); clear hW'; have h := HCL.out _ HBB.out
                    refine hK.out _ _ h (fun hHeld => ?_)
                    clear hK K
                    try simp only [Act.put, sIB, sC0, sCS]
                    refine wpAnyD_one (i := 3) (by kernel_rfl) rfl (by rfl) (fun K hK => ?_)
                    refine wp_app_row W2.heap.size w6.heap.size 25 170 (.agg #[.int .i64 0, .string ⟨#[]⟩]) 2 24 _ _ rfl Tryz.underlying25 info_spl rfl (by decide) (.slice (some ⟨_, 0, none⟩) 0 0) 0 [] rfl _ L.length (L.flatMap encIS) rfl (by intro u hu; obtain ⟨y, _, hy⟩ := List.mem_flatMap.1 hu; simp [encIS, strV] at hy; rcases hy with rfl | rfl <;> rfl) (own_empty HEB.out HGE.out) (HF.out.below HBB.out).row (by have := HLL.out; omega) (by have := HLL.out; omega) HBB.out.size ?_; intro v' W' hown' hg'; rw [Nat.zero_add, List.nil_append] at hown'; obtain ⟨AR, cR, rfl⟩ := own_slice hown'; have hk' := (Keep.of_grown (F := fun g => _ = g) hg' (fun g hg => by injection hg)); (try have HK := Lib.hid (hk'.blk HK.out (fun e => by have h1 := HK.out; rw [← e, HEB.out] at h1; simp at h1))); have HBB := Lib.hid (HBB.out.trans (hk'.below HBB.out.size (fun g hg => by rw [← hg]; exact HGE.out))); have HROW := Lib.hid hown'; clear hown' hg' hk' HEB HGE; have h := HCL.out _ HBB.out
                    refine hK.out _ _ h (fun hHeld => ?_)
                    clear hK K
                    try simp only [Act.put, sIB, sC0, sCS]
                    refine wpAnyD_one (i := 13) (by kernel_rfl) rfl (by rfl) (fun K hK => ?_)
                    refine wp_app_at W2.heap.size 25 170 (.agg #[.int .i64 0, .string ⟨#[]⟩]) 2 24 [_, _] 1 _ _ _ rfl Tryz.underlying25 info_spl rfl (by decide) _ _ _ rfl rfl rfl (by intro u hu; simp at hu; rcases hu with rfl | rfl <;> rfl) HK.out HROW.out (by have := HLL.out; omega) (by have := HLL.out; omega) HBB.out.size ?_; intro v' W' hown' hg' _; obtain ⟨AY, cY, rfl⟩ := own_slice hown'; have hk' : Keep (fun g => (Value.slice AR L.length cR).ownBlock = some g) _ W' := Keep.of_grown hg' (fun g hg => hg); have HBB := Lib.hid (HBB.out.trans (hk'.below HBB.out.size (own_base HROW.out))); have HY := Lib.hid hown'; clear hown' hg' hk' HROW HK; have h := HCL.out _ HBB.out
                    refine hK.out _ _ h (fun hHeld => ?_)
                    clear hK K
                    try simp only [Act.put, sIB, sC0, sCS]
                    refine tkP 14 14 ?_ rfl (.inl ⟨by rfl, ?_⟩) ?_; rotate_left; focus (intro w' _; go_simp; (try with_reducible rfl))
                    try simp only [sIB, sC0, sCS]
                    refine wpAnyD_done (by kernel_rfl) ?_ _
                    clear h hHeld
                    have HYS : Hid (Sl W' AY encIS 2 (L ++ [(1000 + (k : Int), x.2)])) := Lib.hid (own_sl (enc := encIS) (fun _ => rfl) (n := L.length + 1) (c := cY) (by rw [List.flatMap_append]; have h9 := HY.out; rw [← HZ.out] at h9; exact h9) (by decide))
                    have HCK := Lib.hid (rcheck_any (c := cY) HYS.out (by rw [List.length_append]; have := HLL.out; simp; omega))
                    rw [show (L ++ [(1000 + (k : Int), x.2)]).length = L.length + 1 from by rw [List.length_append]; rfl] at HCK
                    obtain ⟨q, hq⟩ : ∃ q, okX (L ++ [(1000 + (k : Int), x.2)]) = q := ⟨_, rfl⟩
                    have HQ := Lib.hid hq
                    rw [hq] at HSUC
                    clear hq
                    cases q with
                    | true =>
                      replace HSUC := Lib.hid (HSUC.out.trans (if_pos rfl))
                      go_upto_region 19 with (go_at_call 103; refine HCK.out.mono ?_; rintro e V ⟨⟨n0, k0, rfl, hy1, hy2⟩, m, rfl⟩; obtain ⟨_, hk00⟩ := hy1 HQ.out; subst hk00; clear hy1 hy2)
                      have HFC := Lib.hid (HF.out.below (below_drewN HBB.out m))
                      have cc := blk_cell HFC.out.blk 3
                      have zz := blk_froz HFC.out.blk 3
                      simp only [List.getElem?_toArray, List.getElem?_cons_zero, List.getElem?_cons_succ] at cc
                      have hfn := HF.out.put (Keep.of_below (below_drewN HBB.out m)) (own_less (own_drewN HY.out m) HF.out.keep.size) 3
                      simp only [List.setIfInBounds_toArray, List.set_cons_zero, List.set_cons_succ] at hfn
                      have HFN := Lib.hid hfn
                      clear hfn
                      go_wp2_with fail
                      go_roundg (gk - 1)
                      case measure => omega
                      case rel => exact ⟨k + 1, by omega, by simp, AY, cY, by
                        rw [HSUC.out, List.length_append, List.flatMap_append]
                        have h9 := HFN.out
                        rw [← HZ.out] at h9
                        exact h9⟩
                    | false =>
                      replace HSUC := Lib.hid (HSUC.out.trans (if_neg (by decide)))
                      go_wp2_with (go_at_call 103; refine HCK.out.mono ?_; rintro e V ⟨⟨n0, k0, rfl, hy1, hy2⟩, m, rfl⟩; (have hk00 := hy2 HQ.out); clear hy1 hy2)
                      have HFC := Lib.hid (HF.out.below (below_drewN HBB.out m))
                      go_roundg (gk - 1)
                      case measure => omega
                      case rel => exact ⟨k + 1, by omega, by simp, AV, cv, by rw [HSUC.out]; exact HFC.out⟩
                · have hke : k = min c.xs.length 6 := by omega
                  have hcond : ¬ ((k : Int) < (c.xs.length : Int)) ∨ ((k : Int) < (c.xs.length : Int) ∧ ¬ (k : Int) < 6) := by omega
                  rw [hke] at HF
                  have HKE := Lib.hid hke
                  clear hke
                  go_upto_region 14 with fail
                  go_cut [81] (fun v U => v = .bool false ∧ W = U)
                  case first =>
                    rcases hcond with h1 | ⟨h1, h2⟩ <;> (go_wp2_with fail; go_meet; case rel => exact ⟨rfl, rfl⟩)
                  case rest =>
                    obtain ⟨rfl, rfl⟩ := hcut
                    clear hcond
                    have HXR : Hid (Sl W AV encIS 2 (someX c.xs (min c.xs.length 6))) := Lib.hid (own_sl (enc := encIS) (fun _ => rfl) HF.out.row (by decide))
                    have HBW2 := Lib.hid (HBW.out.trans (HF.out.keep.below HBW.out.size (fun x hx => by rw [hx]; exact HSB.out)))
                    have HKALL := Lib.hid ((HKW.out.trans HKW2.out (fun x hx => .inl hx)).trans HF.out.keep (fun x hx => .inl hx))
                    have d0 := blk_cell HF.out.blk 0
                    have d1 := blk_cell HF.out.blk 1
                    have d2 := blk_cell HF.out.blk 2
                    have d3 := blk_cell HF.out.blk 3
                    have d4 := blk_cell HF.out.blk 4
                    have d5 := blk_cell HF.out.blk 5
                    simp only [List.getElem?_toArray, List.getElem?_cons_zero, List.getElem?_cons_succ] at d0 d1 d2 d3 d4 d5
                    have HN9 := Lib.hid (HKALL.out.blk HN2.out (fun e => by have := HRS.out; omega))
                    have f0 := blk_cell HN9.out 0
                    have f1 := blk_cell HN9.out 1
                    have f2 := blk_cell HN9.out 2
                    have f3 := blk_cell HN9.out 3
                    have f4 := blk_cell HN9.out 4
                    have f5 := blk_cell HN9.out 5
                    have z0 := blk_froz HN9.out 0
                    have z1 := blk_froz HN9.out 1
                    have z2 := blk_froz HN9.out 2
                    have z3 := blk_froz HN9.out 3
                    have z4 := blk_froz HN9.out 4
                    have z5 := blk_froz HN9.out 5
                    simp only [List.getElem?_toArray, List.getElem?_cons_zero, List.getElem?_cons_succ] at f0 f1 f2 f3 f4 f5
                    go_upto_region 20 with fail
                    go_wp2_with fail
                    have HXRB : ∀ a, AV = some a → sb < a.block := fun a ha => by have := own_addr HF.out.row a ha; have := HF.out.lt; omega
                    have hb9 := blk_set (blk_set (blk_set (blk_set (blk_set (blk_set HN9.out 0 (.bool false)) 1 (.slice A2 (mrgsT c.T).length c2)) 2 (.slice none 0 0)) 3 (.slice AV (someX c.xs (min c.xs.length 6)).length cv)) 4 (.slice AC2 (someC c.cs).length cC2)) 5 (.slice AJ2 (someJ c.js).length cJ2)
                    simp only [List.setIfInBounds_toArray, List.set_cons_zero, List.set_cons_succ] at hb9
                    have KR := ((((((Keep.refl (fun x => x = sb ∨ x = r0) W).setCell (p := ⟨r0, 0, none⟩) (.inl (.inr rfl)) (.bool false)).setCell (p := ⟨r0, 1, none⟩) (.inl (.inr rfl)) (.slice A2 (mrgsT c.T).length c2)).setCell (p := ⟨r0, 2, none⟩) (.inl (.inr rfl)) (.slice none 0 0)).setCell (p := ⟨r0, 3, none⟩) (.inl (.inr rfl)) (.slice AV (someX c.xs (min c.xs.length 6)).length cv)).setCell (p := ⟨r0, 4, none⟩) (.inl (.inr rfl)) (.slice AC2 (someC c.cs).length cC2)).setCell (p := ⟨r0, 5, none⟩) (.inl (.inr rfl)) (.slice AJ2 (someJ c.js).length cJ2)
                    have hrs := HRS.out
                    have hms := HMSL.out
                    have K6 := (HF.out.keep.mono (G := fun x => x = sb ∨ x = r0) (fun x hx => .inl hx)).trans KR (fun x hx => .inl hx)
                    have K5 := (HKW2.out.mono (G := fun x => x = sb ∨ x = r0) (fun x hx => .inl hx)).trans K6 (fun x hx => .inl hx)
                    have K4 := (HKW.out.mono (G := fun x => x = sb ∨ x = r0) (fun x hx => .inl hx)).trans K5 (fun x hx => .inl hx)
                    refine ret_cell1 (r := r0) rfl rfl (load_spec hb9) ⟨⟨A2, AV, AC2, AJ2, c2, cv, cC2, cJ2, rfl, ?_⟩, HBW2.out.trans (KR.below HBW2.out.size (fun x hx => by have := HSB.out; have := HR0.out; omega))⟩
                    refine ⟨sl_keep HMS.out K4 (fun a ha h => by have := HMLT.out a ha; have := HG3.out; omega), Sl1.nil _ _ _, sl_keep HXR.out KR (fun a ha h => by have := HXRB a ha; omega), sl_keep HCR.out K5 (fun a ha h => by have := HCRB.out a ha; omega), sl_keep HJR.out K6 (fun a ha h => by have := HJRB.out a ha; omega), ?_⟩
                    have l1 := someX_len c.xs (min c.xs.length 6)
                    have l2 := someC_len c.cs
                    have l3 := someJ_len c.js
                    simp only [CaseP.spec, List.length_nil]
                    omega
end
theorem MapOf.look {α : Type} {P : Program} {K E : TypeId} {kv : α → Value} {w : World} {b n : Nat} {f : α → Option Int} (h : MapOf P K E kv w b n f) (law : Keyed P K) {t : TypeId} (ht : P.underlying t = some (.map K E)) (he : P.underlying E = some (.int .i64)) (hz : (zeroValue E).run P w = .ok (.int .i64 0) w) (y : α) (hkey : ∃ l, keyOf P K (kv y) = some l) :
    (Instr.lookup t (.map (some b)) (kv y) true).run P w = .ok (.tuple #[.int .i64 ((f y).getD 0), .bool (f y).isSome]) w := by
  obtain ⟨D, hown, hD, hf⟩ := h
  obtain ⟨l, hl⟩ := hkey
  obtain ⟨h1, h2⟩ := hf y l hl
  have hw0 : (Lit.int .i64 0).wf = true := by decide
  obtain ⟨v, ps, hrun, hv⟩ := hown.look_ok law ht hz (plainElem_int he hw0) hl
  obtain ⟨c, rfl, hc, hwc⟩ := plainElem_int_inv he hv
  rw [hrun, h1]
  simp only [Prod.mk.injEq] at hc
  have hc := hc.1
  cases hy : f y with
  | none =>
    rw [hy] at h1
    have := atKey_of_not_has (by rw [h1]; rfl) (.lit (.int .i64 0) : DataW Unit)
    rw [this] at hc
    cases hc
    rfl
  | some v =>
    rw [h2 v hy] at hc
    cases hc
    rfl
theorem mright_any (x : Spl) (w : World) : Calls Tryz.prog 178 #[.agg #[.int .i64 x.1, strV x.2]] w fun e w' => e = .returned (.bool (rightX x)) ∧ Below w.heap.size w w' := by
  obtain ⟨id, tx⟩ := x
  simp only
  unfold strV
  obtain ⟨z, hz⟩ : ∃ z, bs tx = z := ⟨_, rfl⟩
  have HSZ := Lib.hid (show (z.size : Int) = (tx.length : Int) by rw [← hz, bs_size])
  have HZ := Lib.hid hz
  rw [hz]
  have HB := Lib.hid ((Below.refl w.heap.size w).alloc (Nat.le_refl _) (.cells #[.int .i64 id, .string z] 170))
  have hn := blk_new w (.cells #[.int .i64 id, .string z] 170)
  have n0 := blk_cell hn 0
  have n1 := blk_cell hn 1
  simp only [List.getElem?_toArray, List.getElem?_cons_zero, List.getElem?_cons_succ] at n0 n1
  clear hz hn
  by_cases h1 : 0 ≤ id
  · by_cases h2 : id ≤ 1073741824
    · have hzt : z.toList = tx := by rw [← HZ.out, ByteArray.toList_eq]; rfl
      by_cases h3 : tx = []
      · have e3 : z.toList.isEmpty = true := by rw [hzt, h3]; rfl
        have HR : Hid (rightX (id, tx) = false) := Lib.hid (rightX_no (by rw [h3]; simp))
        have e4 : z.toList = [] := by rw [hzt, h3]
        clear h3 hzt
        go_enter Tryz.func178, Tryz.ntmps178
        go_wp2_with fail
        go_ret
        exact ⟨by rw [HR.out]; simp, HB.out⟩
      · have e3 : z.toList.isEmpty = false := by rw [hzt]; cases tx with | nil => exact absurd rfl h3 | cons a l => rfl
        have e4 : ¬ z.toList = [] := by rw [hzt]; exact h3
        have HL3 : Hid (1 ≤ tx.length) := Lib.hid (by cases tx with | nil => exact absurd rfl h3 | cons a l => simp)
        clear h3 hzt
        by_cases h5 : (z.size : Int) ≤ 64
        · have HR : Hid (rightX (id, tx) = true) := Lib.hid (rightX_yes (by have := HSZ.out; have := HL3.out; simp only; omega))
          go_enter Tryz.func178, Tryz.ntmps178
          go_wp2_with fail
          go_ret
          exact ⟨by rw [HR.out]; simp, HB.out⟩
        · have HR : Hid (rightX (id, tx) = false) := Lib.hid (rightX_no (by have := HSZ.out; simp only; omega))
          go_enter Tryz.func178, Tryz.ntmps178
          go_wp2_with fail
          go_ret
          exact ⟨by rw [HR.out]; simp, HB.out⟩
    · have HR : Hid (rightX (id, tx) = false) := Lib.hid (rightX_no (by simp only; omega))
      go_enter Tryz.func178, Tryz.ntmps178
      go_wp2_with fail
      go_ret
      exact ⟨by rw [HR.out]; rfl, HB.out⟩
  · have HR : Hid (rightX (id, tx) = false) := Lib.hid (rightX_no (by simp only; omega))
    go_enter Tryz.func178, Tryz.ntmps178
    go_wp2_with fail
    go_ret
    exact ⟨by rw [HR.out]; rfl, HB.out⟩
theorem fndI_snoc (M : List Spl) (x : Spl) (i : Int) (h : fndI M x.1 = none) : fndI (M ++ [x]) i = if i = x.1 then some M.length else fndI M i := by
  unfold fndI at *
  rw [find_snoc]
  by_cases hi : i = x.1
  · subst hi; rw [h]; simp
  · rw [if_neg hi]
    cases hf : M.findIdx? (fun y => y.1 == i) with
    | some j => simp
    | none => simp; exact fun e => hi e.symm
theorem fndX_snoc (M : List Spl) (x : Spl) (s : List UInt8) (h : fndX M x.2 = none) : fndX (M ++ [x]) s = if s = x.2 then some M.length else fndX M s := by
  unfold fndX at *
  rw [find_snoc]
  by_cases hi : s = x.2
  · subst hi; rw [h]; simp
  · rw [if_neg hi]
    cases hf : M.findIdx? (fun y => y.2 == s) with
    | some j => simp
    | none => simp; exact fun e => hi e.symm
theorem mostM_snoc (M : List Spl) (x : Spl) : mostM (M ++ [x]) = max (mostM M) x.2.length := by simp [mostM]
theorem firstB_snoc (M : List Spl) (x : Spl) (c : UInt8) (l : List UInt8) (hx : x.2 = c :: l) (b : Nat) : firstB (M ++ [x]) b = (firstB M b || (c.toNat == b)) := by
  unfold firstB
  rw [List.any_append]
  simp [hx]
theorem mark_set (sv : Value) (mi mt : Nat) (fs : Nat → Bool) (mo : Nat) (i : Nat) (v : Value) (sv' : Value) (fs' : Nat → Bool) (mo' : Nat) (h : ∀ j, j < 260 → (if i = j then v else markC sv mi mt fs mo j) = markC sv' mi mt fs' mo' j) :
    (markA sv mi mt fs mo).setIfInBounds i v = markA sv' mi mt fs' mo' := by
  apply Array.ext
  · simp [markA]
  · intro j h1 h2
    have hj : j < 260 := by simpa [markA] using h2
    rw [Array.getElem_setIfInBounds (by simpa using h1)]
    have := h j hj
    simp only [markA, Array.getElem_ofFn]
    rw [← this]
theorem mark_put0 (sv sv' : Value) (mi mt : Nat) (fs : Nat → Bool) (mo : Nat) : (markA sv mi mt fs mo).setIfInBounds 0 sv' = markA sv' mi mt fs mo := by
  apply mark_set
  intro j hj
  unfold markC
  by_cases h : 0 = j
  · rw [if_pos h, if_pos h.symm]
  · rw [if_neg h]
    simp only [show ¬ j = 0 from fun e => h e.symm, if_false]
theorem mark_putF (sv : Value) (mi mt : Nat) (fs : Nat → Bool) (mo : Nat) (c : Nat) (hc : c < 256) : (markA sv mi mt fs mo).setIfInBounds (3 + c) (.bool true) = markA sv mi mt (fun b => fs b || c == b) mo := by
  apply mark_set
  intro j hj
  unfold markC
  by_cases h : 3 + c = j
  · subst h
    rw [if_pos rfl, if_neg (by omega), if_neg (by omega), if_neg (by omega), if_pos (by omega)]
    simp
  · rw [if_neg h]
    by_cases h0 : j = 0
    · simp [h0]
    · by_cases h1 : j = 1
      · simp [h1]
      · by_cases h2 : j = 2
        · simp [h2]
        · simp only [h0, h1, h2, if_false]
          split
          · have : (c == j - 3) = false := by rw [beq_eq_false_iff_ne]; omega
            rw [this, Bool.or_false]
          · rfl
theorem mark_putM (sv : Value) (mi mt : Nat) (fs : Nat → Bool) (mo mo' : Nat) : (markA sv mi mt fs mo).setIfInBounds 259 (.int .i64 (mo' : Nat)) = markA sv mi mt fs mo' := by
  apply mark_set
  intro j hj
  unfold markC
  by_cases h : 259 = j
  · subst h; simp
  · rw [if_neg h]
    by_cases h0 : j = 0
    · simp [h0]
    · by_cases h1 : j = 1
      · simp [h1]
      · by_cases h2 : j = 2
        · simp [h2]
        · simp only [h0, h1, h2, if_false]
          rw [if_pos (by omega), if_pos (by omega)]
structure MkIs (w W : World) (base mb mi mt : Nat) (sv : Value) (fs : Nat → Bool) (mo : Nat) (M : List Spl) (id : Int) (tx : List UInt8) (z : ByteArray) (bx : Nat) : Prop where
  blk : W.heap[mb]? = some (.cells (markA sv mi mt fs mo) 260)
  box : W.heap[bx]? = some (.cells #[.int .i64 id, .string z] 170)
  row : W.ownsRow base 170 2 sv M.length (M.flatMap encIS)
  ids : MapOf Tryz.prog 3 3 (Value.int .i64) W mi (M.length + 1) (fun x => if x = id then some (M.length : Int) else (fndI M x).map Int.ofNat)
  txs : MapOf Tryz.prog 9 3 strV W mt (M.length + 1) (fun x => if x = tx then some (M.length : Int) else (fndX M x).map Int.ofNat)
  keep : Keep (fun g => base ≤ g) w W
  lt : base ≤ mb ∧ base ≤ mi ∧ base ≤ mt
  ne : mi ≠ mt
section
variable {w W W' : World} {base mb mi mt : Nat} {sv : Value} {fs : Nat → Bool} {mo : Nat} {M : List Spl} {id : Int} {tx : List UInt8} {z : ByteArray} {bx : Nat}
theorem MkIs.keepF {F : Nat → Prop} (h : MkIs w W base mb mi mt sv fs mo M id tx z bx) (k : Keep F W W') (h1 : ¬ F mb) (h2 : ¬ F bx) (h3 : ¬ F mi) (h4 : ¬ F mt) (h5 : ∀ g, sv.ownBlock = some g → ¬ F g) (h6 : ∀ x, F x → base ≤ x ∨ w.heap.size ≤ x) : MkIs w W' base mb mi mt sv fs mo M id tx z bx :=
  ⟨k.blk h.blk h1, k.blk h.box h2, own_keep h.row k h5, h.ids.keep k h3, h.txs.keep k h4, h.keep.trans k h6, h.lt, h.ne⟩
theorem MkIs.drew (h : MkIs w W base mb mi mt sv fs mo M id tx z bx) : MkIs w W.drew base mb mi mt sv fs mo M id tx z bx :=
  h.keepF ((Keep.refl (fun _ => False) W).drew) (fun h => h) (fun h => h) (fun h => h) (fun h => h) (fun _ _ h => h) (fun _ h => h.elim)
theorem MkIs.ne_box (h : MkIs w W base mb mi mt sv fs mo M id tx z bx) : bx ≠ mb := by
  intro e
  have h1 := h.box
  rw [e, h.blk] at h1
  simp at h1
theorem MkIs.put (h : MkIs w W base mb mi mt sv fs mo M id tx z bx) (i : Nat) (v : Value) {sv' : Value} {fs' : Nat → Bool} {mo' : Nat} (he : (markA sv mi mt fs mo).setIfInBounds i v = markA sv' mi mt fs' mo') :
    (W.setCell ⟨mb, i, none⟩ v).heap[mb]? = some (.cells (markA sv' mi mt fs' mo') 260) ∧ (W.setCell ⟨mb, i, none⟩ v).heap[bx]? = some (.cells #[.int .i64 id, .string z] 170) ∧
    (W.setCell ⟨mb, i, none⟩ v).ownsRow base 170 2 sv M.length (M.flatMap encIS) ∧
    MapOf Tryz.prog 3 3 (Value.int .i64) (W.setCell ⟨mb, i, none⟩ v) mi (M.length + 1) (fun x => if x = id then some (M.length : Int) else (fndI M x).map Int.ofNat) ∧
    MapOf Tryz.prog 9 3 strV (W.setCell ⟨mb, i, none⟩ v) mt (M.length + 1) (fun x => if x = tx then some (M.length : Int) else (fndX M x).map Int.ofNat) ∧ Keep (fun g => base ≤ g) w (W.setCell ⟨mb, i, none⟩ v) := by
  have k : Keep (fun g => g = mb) W (W.setCell ⟨mb, i, none⟩ v) := (Keep.refl (fun g => g = mb) W).setCell (p := ⟨mb, i, none⟩) (.inl rfl) v
  refine ⟨?_, k.blk h.box h.ne_box, own_keep h.row k (fun g hg e => row_ne h.row h.blk (by decide) (by rw [hg, e])), h.ids.keep k (h.ids.blk_ne h.blk), h.txs.keep k (h.txs.blk_ne h.blk), h.keep.trans k (fun x hx => .inl (by rw [hx]; exact h.lt.1))⟩
  have := blk_set h.blk i v
  rw [he] at this
  exact this
theorem MkIs.put2 (h : MkIs w W base mb mi mt sv fs mo M id tx z bx) (i : Nat) (v : Value) {fs' : Nat → Bool} {mo' : Nat} (he : (markA sv mi mt fs mo).setIfInBounds i v = markA sv mi mt fs' mo') : MkIs w (W.setCell ⟨mb, i, none⟩ v) base mb mi mt sv fs' mo' M id tx z bx := by
  obtain ⟨h1, h2, h3, h4, h5, h6⟩ := h.put i v he
  exact ⟨h1, h2, h3, h4, h5, h6, h.lt, h.ne⟩
theorem MkIs.at0 (h : MkIs w W base mb mi mt sv fs mo M id tx z bx) : W.cell? ⟨mb, 0, none⟩ = some sv := by
  have := blk_cell h.blk 0
  rw [mark_get _ _ _ _ _ _ (by decide)] at this
  exact this
theorem MkIs.atF (h : MkIs w W base mb mi mt sv fs mo M id tx z bx) (c : Nat) (hc : c < 256) : W.cell? ⟨mb, 3 + c, none⟩ = some (.bool (fs c)) := by
  have := blk_cell h.blk (3 + c)
  rw [mark_get _ _ _ _ _ _ (by omega)] at this
  rw [this]
  unfold markC
  rw [if_neg (by omega), if_neg (by omega), if_neg (by omega), if_pos (by omega)]
  simp
theorem MkIs.atM (h : MkIs w W base mb mi mt sv fs mo M id tx z bx) : W.cell? ⟨mb, 259, none⟩ = some (.int .i64 (mo : Nat)) := by
  have := blk_cell h.blk 259
  rw [mark_get _ _ _ _ _ _ (by decide)] at this
  exact this
theorem MkIs.frz (h : MkIs w W base mb mi mt sv fs mo M id tx z bx) (i : Nat) : W.frozen? ⟨mb, i, none⟩ = false := blk_froz h.blk i
theorem MkIs.bx0 (h : MkIs w W base mb mi mt sv fs mo M id tx z bx) : W.cell? ⟨bx, 0, none⟩ = some (.int .i64 id) := by have := blk_cell h.box 0; simpa using this
theorem MkIs.bx1 (h : MkIs w W base mb mi mt sv fs mo M id tx z bx) : W.cell? ⟨bx, 1, none⟩ = some (.string z) := by have := blk_cell h.box 1; simpa using this
end
theorem mkown_lt {w : World} {base e : TypeId} {size n : Nat} {v : Value} {xs : List Value} (h : w.ownsRow base e size v n xs) : ∀ g, v.ownBlock = some g → g < w.heap.size := by
  intro g hg
  rcases h.2 with ⟨rfl, _⟩ | ⟨g', cap, cur, rfl, _, hb, _⟩
  · simp [Value.ownBlock] at hg
  · simp only [Value.ownBlock, Option.some.injEq] at hg
    have := blk_lt hb; omega
section
variable {w : World} {base mb : Nat} {M : List Spl} {sv : Value} {mi mt : Nat}
set_option maxHeartbeats 4000000 in
theorem madd_ok (h : MarkIs w base mb M sv mi mt) (x : Spl) (hr : rightX x = true) (hM : M.length < 32) (hi : fndI M x.1 = none) (ht : fndX M x.2 = none) :
    Calls Tryz.prog 155 #[.pointer (some ⟨mb, 0, none⟩), .agg #[.int .i64 x.1, strV x.2]] w fun e w' => e = .returned (.int .i64 0) ∧ ∃ sv', MarkIs w' base mb (M ++ [x]) sv' mi mt ∧ Keep (fun g => base ≤ g) w w' := by
  have HMR := Lib.hid (fun V => mright_any x V)
  have HOL := Lib.hid (mkown_lt h.row)
  rw [hr] at HMR
  obtain ⟨id, tx⟩ := x
  simp only at hi ht HMR ⊢
  unfold strV at HMR ⊢
  obtain ⟨z, hz⟩ : ∃ z, bs tx = z := ⟨_, rfl⟩
  have HZ := Lib.hid hz
  have HZV : Hid (strV tx = .string z) := Lib.hid (by unfold strV; rw [hz])
  rw [hz] at HMR ⊢
  have hrx : 0 ≤ id ∧ id ≤ 1073741824 ∧ 1 ≤ tx.length ∧ tx.length ≤ 64 := by
    unfold rightX at hr
    simp only [Bool.and_eq_true, decide_eq_true_eq] at hr
    exact ⟨hr.1.1.1, hr.1.1.2, hr.1.2, hr.2⟩
  have hb0 := (Below.refl w.heap.size w).alloc (Nat.le_refl _) (.cells #[.int .i64 id, .string z] 170)
  have HX := Lib.hid (blk_new w (.cells #[.int .i64 id, .string z] 170))
  have HM := Lib.hid (h.below hb0 (Nat.le_refl _))
  have HB := Lib.hid hb0
  have HRX := Lib.hid hrx
  have HFI := Lib.hid hi
  have HFX := Lib.hid ht
  have HML := Lib.hid hM
  have hwf : (Lit.int .i64 id).wf = true := wf_i64 (by omega) (by omega)
  have HKI := Lib.hid (key_int hwf)
  have HKX := Lib.hid (key_str tx (by unfold maxLen; omega))
  have HLI : Hid (∀ V, MarkIs V base mb M sv mi mt → (Instr.lookup 257 (.map (some mi)) (.int .i64 id) true).run Tryz.prog V = .ok (.tuple #[.int .i64 0, .bool false]) V) := Lib.hid (fun V hV => by
    have := hV.ids.look keyed_int Tryz.underlying257 Tryz.underlying3 (zero_int V) id HKI.out
    rw [HFI.out] at this
    exact this)
  have HLX : Hid (∀ V, MarkIs V base mb M sv mi mt → (Instr.lookup 204 (.map (some mt)) (.string z) true).run Tryz.prog V = .ok (.tuple #[.int .i64 0, .bool false]) V) := Lib.hid (fun V hV => by
    have := hV.txs.look keyed_str Tryz.underlying204 Tryz.underlying3 (zero_int V) tx HKX.out
    rw [HFX.out, HZV.out] at this
    exact this)
  clear h hr hM hi ht hz hrx hb0 hwf
  go_enter Tryz.func155, Tryz.ntmps155
  go_upto_region 1 with fail
  obtain ⟨bx, hbx⟩ : ∃ b, w.heap.size = b := ⟨_, rfl⟩
  have HBX := Lib.hid (Nat.le_of_eq hbx)
  have HX2 : Hid ((w.alloc (.cells #[.int .i64 id, .string z] 170)).heap[bx]? = some (.cells #[.int .i64 id, .string z] 170)) := Lib.hid (by rw [← hbx]; exact HX.out)
  rw [hbx]
  clear hbx HX
  generalize w.alloc (.cells #[.int .i64 id, .string z] 170) = w1 at *
  have c1 : w1.cell? ⟨mb, 1, none⟩ = some (.map (some mi)) := by have := blk_cell HM.out.blk 1; rw [mark_get _ _ _ _ _ _ (by decide)] at this; exact this
  have x0 : w1.cell? ⟨bx, 0, none⟩ = some (.int .i64 id) := by have := blk_cell HX2.out 0; simpa using this
  refine wp_region_held_drew (S := fun V => V.cell? ⟨mb, 1, none⟩ = some (.map (some mi)) ∧ V.cell? ⟨bx, 0, none⟩ = some (.int .i64 id) ∧ (Instr.lookup 257 (.map (some mi)) (.int .i64 id) true).run Tryz.prog V = .ok (.tuple #[.int .i64 0, .bool false]) V) (by kernel_rfl) (by exact And.intro c1 (And.intro x0 (HLI.out _ (HM.out.below (B := w1.heap.size) ⟨rfl, rfl, rfl, Nat.le_refl _, fun _ _ => rfl⟩ (Nat.le_refl _))))) (fun hHeld => ?_)
  refine tkH 0 10 ?_ rfl hHeld (.inl ⟨by rfl, ?_⟩) ?_; rotate_left; focus (intro w' hSw; (try dsimp only at hSw); go_simp; (try with_reducible rfl))
  try simp only [sIB, sC0, sCS]
  refine tkH 1 11 ?_ rfl hHeld (.inl ⟨by rfl, ?_⟩) ?_; rotate_left; focus (intro w' hSw; (try dsimp only at hSw); go_simp; (try with_reducible rfl))
  try simp only [sIB, sC0, sCS]
  refine tkH 2 12 ?_ rfl hHeld (.inl ⟨by rfl, ?_⟩) ?_; rotate_left; focus (intro w' hSw; (try dsimp only at hSw); go_simp; (try with_reducible rfl))
  try simp only [sIB, sC0, sCS]
  refine tkH 3 13 ?_ rfl hHeld (.inl ⟨by rfl, ?_⟩) ?_; rotate_left; focus (intro w' hSw; (try dsimp only at hSw); go_simp; (try with_reducible rfl))
  try simp only [sIB, sC0, sCS]
  refine tkH 4 14 ?_ rfl hHeld (.inl ⟨by rfl, ?_⟩) ?_; rotate_left; focus (intro w' hSw; (try dsimp only at hSw); go_simp; (try with_reducible rfl))
  try simp only [sIB, sC0, sCS]
  refine tkH 5 15 ?_ rfl hHeld (.inl ⟨by rfl, ?_⟩) ?_; rotate_left; focus (intro w' hSw; (try dsimp only at hSw); go_simp; (try with_reducible rfl))
  try simp only [sIB, sC0, sCS]
  refine tkH 6 16 ?_ rfl hHeld (.inl ⟨by rfl, ?_⟩) ?_; rotate_left; focus (intro w' hSw; (try dsimp only at hSw); go_simp; (try with_reducible rfl))
  try simp only [sIB, sC0, sCS]
  refine tkH 7 9 ?_ rfl hHeld (.inl ⟨by rfl, ?_⟩) ?_; rotate_left; focus (intro w' hSw; (try dsimp only at hSw); go_simp; (try with_reducible rfl))
  try simp only [sIB, sC0, sCS]
  refine tkH 8 17 ?_ rfl hHeld (.inl ⟨by rfl, ?_⟩) ?_; rotate_left; focus (intro w' hSw; (try dsimp only at hSw); go_simp; (try with_reducible rfl))
  try simp only [sIB, sC0, sCS]
  refine tkH 9 18 ?_ rfl hHeld (.inl ⟨by rfl, ?_⟩) ?_; rotate_left; focus (intro w' hSw; (try dsimp only at hSw); go_simp; (try with_reducible rfl))
  try simp only [sIB, sC0, sCS]
  refine tkH 10 5 ?_ rfl hHeld (.inl ⟨by rfl, ?_⟩) ?_; rotate_left; focus (intro w' hSw; (try dsimp only at hSw); go_simp; (try with_reducible rfl))
  try simp only [sIB, sC0, sCS]
  refine tkH 11 6 ?_ rfl hHeld (.inl ⟨by rfl, ?_⟩) ?_; rotate_left; focus (intro w' hSw; (try dsimp only at hSw); go_simp; (try with_reducible rfl))
  try simp only [sIB, sC0, sCS]
  refine wpAnyH_done (by kernel_rfl) ?_ _
  have HM : Hid (MarkIs w1.drew base mb M sv mi mt) := Lib.hid (HM.out.below (B := w1.heap.size) ⟨rfl, rfl, rfl, Nat.le_refl _, fun _ _ => rfl⟩ (Nat.le_refl _))
  have HB := Lib.hid HB.out.drew
  have HX2 : Hid (w1.drew.heap[bx]? = some (.cells #[.int .i64 id, .string z] 170)) := HX2
  clear c1 x0
  generalize w1.drew = w2 at *
  go_upto_region 2 with fail
  have c2 : w2.cell? ⟨mb, 2, none⟩ = some (.map (some mt)) := by have := blk_cell HM.out.blk 2; rw [mark_get _ _ _ _ _ _ (by decide)] at this; exact this
  have x1 : w2.cell? ⟨bx, 1, none⟩ = some (.string z) := by have := blk_cell HX2.out 1; simpa using this
  refine wp_region_held_drew (S := fun V => V.cell? ⟨mb, 2, none⟩ = some (.map (some mt)) ∧ V.cell? ⟨bx, 1, none⟩ = some (.string z) ∧ (Instr.lookup 204 (.map (some mt)) (.string z) true).run Tryz.prog V = .ok (.tuple #[.int .i64 0, .bool false]) V) (by kernel_rfl) (by exact And.intro c2 (And.intro x1 (HLX.out _ (HM.out.below (B := w2.heap.size) ⟨rfl, rfl, rfl, Nat.le_refl _, fun _ _ => rfl⟩ (Nat.le_refl _))))) (fun hHeld => ?_)
  refine tkH 0 20 ?_ rfl hHeld (.inl ⟨by rfl, ?_⟩) ?_; rotate_left; focus (intro w' hSw; (try dsimp only at hSw); go_simp; (try with_reducible rfl))
  try simp only [sIB, sC0, sCS]
  refine tkH 1 21 ?_ rfl hHeld (.inl ⟨by rfl, ?_⟩) ?_; rotate_left; focus (intro w' hSw; (try dsimp only at hSw); go_simp; (try with_reducible rfl))
  try simp only [sIB, sC0, sCS]
  refine tkH 2 22 ?_ rfl hHeld (.inl ⟨by rfl, ?_⟩) ?_; rotate_left; focus (intro w' hSw; (try dsimp only at hSw); go_simp; (try with_reducible rfl))
  try simp only [sIB, sC0, sCS]
  refine tkH 3 23 ?_ rfl hHeld (.inl ⟨by rfl, ?_⟩) ?_; rotate_left; focus (intro w' hSw; (try dsimp only at hSw); go_simp; (try with_reducible rfl))
  try simp only [sIB, sC0, sCS]
  refine tkH 4 24 ?_ rfl hHeld (.inl ⟨by rfl, ?_⟩) ?_; rotate_left; focus (intro w' hSw; (try dsimp only at hSw); go_simp; (try with_reducible rfl))
  try simp only [sIB, sC0, sCS]
  refine tkH 5 25 ?_ rfl hHeld (.inl ⟨by rfl, ?_⟩) ?_; rotate_left; focus (intro w' hSw; (try dsimp only at hSw); go_simp; (try with_reducible rfl))
  try simp only [sIB, sC0, sCS]
  refine tkH 6 26 ?_ rfl hHeld (.inl ⟨by rfl, ?_⟩) ?_; rotate_left; focus (intro w' hSw; (try dsimp only at hSw); go_simp; (try with_reducible rfl))
  try simp only [sIB, sC0, sCS]
  refine tkH 7 19 ?_ rfl hHeld (.inl ⟨by rfl, ?_⟩) ?_; rotate_left; focus (intro w' hSw; (try dsimp only at hSw); go_simp; (try with_reducible rfl))
  try simp only [sIB, sC0, sCS]
  refine tkH 8 27 ?_ rfl hHeld (.inl ⟨by rfl, ?_⟩) ?_; rotate_left; focus (intro w' hSw; (try dsimp only at hSw); go_simp; (try with_reducible rfl))
  try simp only [sIB, sC0, sCS]
  refine tkH 9 28 ?_ rfl hHeld (.inl ⟨by rfl, ?_⟩) ?_; rotate_left; focus (intro w' hSw; (try dsimp only at hSw); go_simp; (try with_reducible rfl))
  try simp only [sIB, sC0, sCS]
  refine tkH 10 7 ?_ rfl hHeld (.inl ⟨by rfl, ?_⟩) ?_; rotate_left; focus (intro w' hSw; (try dsimp only at hSw); go_simp; (try with_reducible rfl))
  try simp only [sIB, sC0, sCS]
  refine tkH 11 8 ?_ rfl hHeld (.inl ⟨by rfl, ?_⟩) ?_; rotate_left; focus (intro w' hSw; (try dsimp only at hSw); go_simp; (try with_reducible rfl))
  try simp only [sIB, sC0, sCS]
  refine wpAnyH_done (by kernel_rfl) ?_ _
  have HM : Hid (MarkIs w2.drew base mb M sv mi mt) := Lib.hid (HM.out.below (B := w2.heap.size) ⟨rfl, rfl, rfl, Nat.le_refl _, fun _ _ => rfl⟩ (Nat.le_refl _))
  have HB := Lib.hid HB.out.drew
  have HX2 : Hid (w2.drew.heap[bx]? = some (.cells #[.int .i64 id, .string z] 170)) := HX2
  clear c2 x1
  generalize w2.drew = w3 at *
  have x0 : w3.cell? ⟨bx, 0, none⟩ = some (.int .i64 id) := by have := blk_cell HX2.out 0; simpa using this
  have x1 : w3.cell? ⟨bx, 1, none⟩ = some (.string z) := by have := blk_cell HX2.out 1; simpa using this
  go_upto_region 5 with (go_at_call 178; refine (HMR.out _).mono ?_; rintro e w4 ⟨rfl, hb⟩; (replace HM := Lib.hid (HM.out.below hb (Nat.le_refl _))); (replace HB := Lib.hid (HB.out.trans (hb.mono HB.out.size))); (replace HX2 := Lib.hid (blk_below hb (blk_lt HX2.out) HX2.out)); clear hb x0 x1)
  obtain ⟨A, c, hsv⟩ := own_slice HM.out.row
  subst hsv
  have c0 : w4.cell? ⟨mb, 0, none⟩ = some (.slice A M.length c) := by have := blk_cell HM.out.blk 0; rw [mark_get _ _ _ _ _ _ (by decide)] at this; exact this
  have l32 : ¬ (32 : Int) ≤ (M.length : Int) := by have := HML.out; omega
  go_upto_region 9 with fail
  have HML2 := Lib.hid (show M.length < maxLen by have := HML.out; unfold maxLen; omega)
  have hids : MapOf Tryz.prog 3 3 (Value.int .i64) w4.drew mi M.length (fun i => (fndI M i).map Int.ofNat) := HM.out.ids.keep ((Keep.refl (fun _ => False) _).drew) (fun h => h)
  have htxs : MapOf Tryz.prog 9 3 strV w4.drew mt M.length (fun s => (fndX M s).map Int.ofNat) := HM.out.txs.keep ((Keep.refl (fun _ => False) _).drew) (fun h => h)
  obtain ⟨st1, o1, o2, hE1, hS1, hM1⟩ := entry_new (t := 257) keyed_int Tryz.underlying257 Tryz.underlying3 zero_int (fun x y e => by injection e) hids HML2.out id HKI.out (by rw [HFI.out]; rfl) (M.length : Int) (wf_i64 (by omega) (by have := HML.out; omega))
  have htx2 := htxs.keep (setBlock_keep (w := w4.drew) (b := mi) (o := o2)) (fun e => HM.out.ne e.symm)
  obtain ⟨st2, p1, p2, hE2, hS2, hM2⟩ := entry_new (t := 204) keyed_str Tryz.underlying204 Tryz.underlying3 zero_int strV_inj htx2 HML2.out tx HKX.out (by rw [HFX.out]; rfl) (M.length : Int) (wf_i64 (by omega) (by have := HML.out; omega))
  rw [HZV.out] at hE2
  have hilt : mi < w4.drew.heap.size := hids.lt
  have htlt : mt < (Go.ChangeMaps.setBlock w4.drew mi o2).heap.size := htx2.lt
  have NMI := Lib.hid (hids.blk_ne HM.out.blk)
  have NMT := Lib.hid (htxs.blk_ne HM.out.blk)
  have NXI := Lib.hid (hids.blk_ne HX2.out)
  have NXT := Lib.hid (htxs.blk_ne HX2.out)
  have d1 : w4.drew.heap[mb]? = _ := HM.out.blk
  have e1 : w4.drew.heap[bx]? = _ := HX2.out
  have D1 := Lib.hid d1
  have E1 := Lib.hid e1
  have D2 := Lib.hid ((setBlock_keep (w := w4.drew) (b := mi) (o := o1)).blk d1 (fun e => NMI.out e.symm))
  have E2 := Lib.hid ((setBlock_keep (w := w4.drew) (b := mi) (o := o1)).blk e1 (fun e => NXI.out e.symm))
  have D3 := Lib.hid ((setBlock_keep (w := w4.drew) (b := mi) (o := o2)).blk d1 (fun e => NMI.out e.symm))
  have E3 := Lib.hid ((setBlock_keep (w := w4.drew) (b := mi) (o := o2)).blk e1 (fun e => NXI.out e.symm))
  have D4 := Lib.hid ((setBlock_keep (w := Go.ChangeMaps.setBlock w4.drew mi o2) (b := mt) (o := p1)).blk D3.out (fun e => NMT.out e.symm))
  have E4 := Lib.hid ((setBlock_keep (w := Go.ChangeMaps.setBlock w4.drew mi o2) (b := mt) (o := p1)).blk E3.out (fun e => NXT.out e.symm))
  have D5 := Lib.hid ((setBlock_keep (w := Go.ChangeMaps.setBlock w4.drew mi o2) (b := mt) (o := p2)).blk D3.out (fun e => NMT.out e.symm))
  have E5 := Lib.hid ((setBlock_keep (w := Go.ChangeMaps.setBlock w4.drew mi o2) (b := mt) (o := p2)).blk E3.out (fun e => NXT.out e.symm))
  have HCD : Hid (∀ V : World, V.heap[mb]? = some (.cells (markA (.slice A M.length c) mi mt (firstB M) (mostM M)) 260) → V.heap[bx]? = some (.cells #[.int .i64 id, .string z] 170) →
      V.cell? ⟨mb, 1, none⟩ = some (.map (some mi)) ∧ V.cell? ⟨mb, 2, none⟩ = some (.map (some mt)) ∧ V.cell? ⟨mb, 0, none⟩ = some (.slice A M.length c) ∧ V.cell? ⟨bx, 0, none⟩ = some (.int .i64 id) ∧ V.cell? ⟨bx, 1, none⟩ = some (.string z)) := Lib.hid (fun V h1 h2 => by
    have a0 := blk_cell h1 0
    have a1 := blk_cell h1 1
    have a2 := blk_cell h1 2
    rw [mark_get _ _ _ _ _ _ (by decide)] at a0 a1 a2
    have b0 := blk_cell h2 0
    have b1 := blk_cell h2 1
    simp only [List.getElem?_toArray, List.getElem?_cons_zero, List.getElem?_cons_succ] at b0 b1
    exact ⟨a1, a2, a0, b0, b1⟩)
  have RE1 := Lib.hid hE1
  have RS1 := Lib.hid (hS1 _ (setBlock_at hilt))
  have RE2 := Lib.hid hE2
  have RS2 := Lib.hid (hS2 _ (setBlock_at htlt))
  have HM1 := Lib.hid hM1
  have HM2 := Lib.hid hM2
  clear hids htxs htx2 hE1 hS1 hE2 hS2 hM1 hM2 hilt htlt d1 e1 c0 l32
  refine wp_region_G (D := 27) (S := fun V => V.cell? ⟨mb, 1, none⟩ = some (.map (some mi)) ∧ V.cell? ⟨mb, 2, none⟩ = some (.map (some mt)) ∧ V.cell? ⟨mb, 0, none⟩ = some (.slice A M.length c) ∧ V.cell? ⟨bx, 0, none⟩ = some (.int .i64 id) ∧ V.cell? ⟨bx, 1, none⟩ = some (.string z)) (by kernel_rfl) (by exact HCD.out _ D1.out E1.out) (fun hHeld => ?_)
  refine tkG 0 45 ?_ rfl hHeld (.inl ⟨by rfl, ?_⟩) ?_; rotate_left; focus (intro w' hSw; (try dsimp only at hSw); go_simp; (try with_reducible rfl))
  try simp only [sIB, sC0, sCS]
  refine tkG 1 46 ?_ rfl hHeld (.inl ⟨by rfl, ?_⟩) ?_; rotate_left; focus (intro w' hSw; (try dsimp only at hSw); go_simp; (try with_reducible rfl))
  try simp only [sIB, sC0, sCS]
  refine tkG 2 47 ?_ rfl hHeld (.inl ⟨by rfl, ?_⟩) ?_; rotate_left; focus (intro w' hSw; (try dsimp only at hSw); go_simp; (try with_reducible rfl))
  try simp only [sIB, sC0, sCS]
  refine tkG 3 48 ?_ rfl hHeld (.inl ⟨by rfl, ?_⟩) ?_; rotate_left; focus (intro w' hSw; (try dsimp only at hSw); go_simp; (try with_reducible rfl))
  try simp only [sIB, sC0, sCS]
  refine tkG 4 49 ?_ rfl hHeld (.inl ⟨by rfl, ?_⟩) ?_; rotate_left; focus (intro w' hSw; (try dsimp only at hSw); go_simp; (try with_reducible rfl))
  try simp only [sIB, sC0, sCS]
  refine tkG 5 50 ?_ rfl hHeld (.inl ⟨by rfl, ?_⟩) ?_; rotate_left; focus (intro w' hSw; (try dsimp only at hSw); go_simp; (try with_reducible rfl))
  try simp only [sIB, sC0, sCS]
  refine tkG 6 51 ?_ rfl hHeld (.inl ⟨by rfl, ?_⟩) ?_; rotate_left; focus (intro w' hSw; (try dsimp only at hSw); go_simp; (try with_reducible rfl))
  try simp only [sIB, sC0, sCS]
  refine tkG 7 52 ?_ rfl hHeld (.inl ⟨by rfl, ?_⟩) ?_; rotate_left; focus (intro w' hSw; (try dsimp only at hSw); go_simp; (try with_reducible rfl))
  try simp only [sIB, sC0, sCS]
  refine tkG 8 53 ?_ rfl hHeld (.inl ⟨by rfl, ?_⟩) ?_; rotate_left; focus (intro w' hSw; (try dsimp only at hSw); go_simp; (try with_reducible rfl))
  try simp only [sIB, sC0, sCS]
  refine tkG 9 54 ?_ rfl hHeld (.inl ⟨by rfl, ?_⟩) ?_; rotate_left; focus (intro w' hSw; (try dsimp only at hSw); go_simp; (try with_reducible rfl))
  try simp only [sIB, sC0, sCS]
  refine tkG 10 55 ?_ rfl hHeld (.inl ⟨by rfl, ?_⟩) ?_; rotate_left; focus (intro w' hSw; (try dsimp only at hSw); go_simp; (try with_reducible rfl))
  try simp only [sIB, sC0, sCS]
  refine tkG 11 56 ?_ rfl hHeld (.inl ⟨by rfl, ?_⟩) ?_; rotate_left; focus (intro w' hSw; (try dsimp only at hSw); go_simp; (try with_reducible rfl))
  try simp only [sIB, sC0, sCS]
  refine tkG 12 57 ?_ rfl hHeld (.inl ⟨by rfl, ?_⟩) ?_; rotate_left; focus (intro w' hSw; (try dsimp only at hSw); go_simp; (try with_reducible rfl))
  try simp only [sIB, sC0, sCS]
  refine tkG 13 58 ?_ rfl hHeld (.inl ⟨by rfl, ?_⟩) ?_; rotate_left; focus (intro w' hSw; (try dsimp only at hSw); go_simp; (try with_reducible rfl))
  try simp only [sIB, sC0, sCS]
  refine tkG 14 59 ?_ rfl hHeld (.inl ⟨by rfl, ?_⟩) ?_; rotate_left; focus (intro w' hSw; (try dsimp only at hSw); go_simp; (try with_reducible rfl))
  try simp only [sIB, sC0, sCS]
  refine tkG 15 60 ?_ rfl hHeld (.inl ⟨by rfl, ?_⟩) ?_; rotate_left; focus (intro w' hSw; (try dsimp only at hSw); go_simp; (try with_reducible rfl))
  try simp only [sIB, sC0, sCS]
  refine tkG 16 61 ?_ rfl hHeld (.inl ⟨by rfl, ?_⟩) ?_; rotate_left; focus (intro w' hSw; (try dsimp only at hSw); go_simp; (try with_reducible rfl))
  try simp only [sIB, sC0, sCS]
  refine tkG 17 62 ?_ rfl hHeld (.inl ⟨by rfl, ?_⟩) ?_; rotate_left; focus (intro w' hSw; (try dsimp only at hSw); go_simp; (try with_reducible rfl))
  try simp only [sIB, sC0, sCS]
  refine tkG 18 63 ?_ rfl hHeld (.inl ⟨by rfl, ?_⟩) ?_; rotate_left; focus (intro w' hSw; (try dsimp only at hSw); go_simp; (try with_reducible rfl))
  try simp only [sIB, sC0, sCS]
  refine tkG 19 64 ?_ rfl hHeld (.inl ⟨by rfl, ?_⟩) ?_; rotate_left; focus (intro w' hSw; (try dsimp only at hSw); go_simp; (try with_reducible rfl))
  try simp only [sIB, sC0, sCS]
  refine tkG 20 65 ?_ rfl hHeld (.inl ⟨by rfl, ?_⟩) ?_; rotate_left; focus (intro w' hSw; (try dsimp only at hSw); go_simp; (try with_reducible rfl))
  try simp only [sIB, sC0, sCS]
  refine tkG 21 66 ?_ rfl hHeld (.inl ⟨by rfl, ?_⟩) ?_; rotate_left; focus (intro w' hSw; (try dsimp only at hSw); go_simp; (try with_reducible rfl))
  try simp only [sIB, sC0, sCS]
  refine wpAnyG_one (i := 22) (by kernel_rfl) rfl (by rfl) (fun K hK => ?_)
  refine wp_mapEntry 257 _ _ _ _ rfl rfl rfl RE1.out ?_; have h := HCD.out _ D2.out E2.out
  refine hK.out _ _ h (fun hHeld => ?_)
  clear hK K
  try simp only [Act.put, sIB, sC0, sCS]
  refine tkG 23 68 ?_ rfl hHeld (.inl ⟨by rfl, ?_⟩) ?_; rotate_left; focus (intro w' hSw; (try dsimp only at hSw); go_simp; (try with_reducible rfl))
  try simp only [sIB, sC0, sCS]
  refine wpAnyG_one (i := 24) (by kernel_rfl) rfl (by rfl) (fun K hK => ?_)
  refine wp_entryStore 257 _ _ _ _ _ _ rfl rfl rfl rfl RS1.out ?_; rw [setBlock_twice]; have h := HCD.out _ D3.out E3.out
  refine hK.out _ _ h (fun hHeld => ?_)
  clear hK K
  try simp only [Act.put, sIB, sC0, sCS]
  refine wpAnyG_one (i := 25) (by kernel_rfl) rfl (by rfl) (fun K hK => ?_)
  refine wp_mapEntry 204 _ _ _ _ rfl rfl rfl RE2.out ?_; have h := HCD.out _ D4.out E4.out
  refine hK.out _ _ h (fun hHeld => ?_)
  clear hK K
  try simp only [Act.put, sIB, sC0, sCS]
  refine tkG 26 70 ?_ rfl hHeld (.inl ⟨by rfl, ?_⟩) ?_; rotate_left; focus (intro w' hSw; (try dsimp only at hSw); go_simp; (try with_reducible rfl))
  try simp only [sIB, sC0, sCS]
  refine wpAnyG_last (by kernel_rfl) rfl (by rfl) (fun K hK => ?_)
  refine wp_entryStore 204 _ _ _ _ _ _ rfl rfl rfl rfl RS2.out ?_; rw [setBlock_twice]
  refine hK.out _ _ ?_
  clear hK K
  try simp only [Act.put, sIB, sC0, sCS]
  refine wpAnyG_done (by kernel_rfl) ?_ _
  clear hHeld
  have KA : Keep (fun g => g = mi) w4 (Go.ChangeMaps.setBlock w4.drew mi o2) := ((Keep.refl (fun g => g = mi) w4).drew).trans setBlock_keep (fun x hx => .inl hx)
  have KB : Keep (fun g => g = mt) (Go.ChangeMaps.setBlock w4.drew mi o2) (Go.ChangeMaps.setBlock (Go.ChangeMaps.setBlock w4.drew mi o2) mt p2) := setBlock_keep
  have own3 := own_keep HM.out.row KA (fun g hg e => HM.out.ids.row_ne HM.out.row (by rw [hg, e]))
  have HTX3 := HM.out.txs.keep KA (fun e => HM.out.ne e.symm)
  have HOWN := Lib.hid (own_keep own3 KB (fun g hg e => HTX3.row_ne own3 (by rw [hg, e])))
  have HIDS := Lib.hid (HM1.out.keep KB (fun e => HM.out.ne e))
  have HLT := Lib.hid HM.out.lt
  have HNE := Lib.hid HM.out.ne
  have HKW := Lib.hid (((Keep.of_below HB.out : Keep (fun g => base ≤ g) w w4).trans KA (fun x hx => .inl (by rw [hx]; exact HLT.out.2.1))).trans KB (fun x hx => .inl (by rw [hx]; exact HLT.out.2.2)))
  clear KA KB own3 HTX3 RE1 RS1 RE2 RS2 HM1 D1 D2 D3 D4 E1 E2 E3 E4 HCD HM HLI HLX HMR
  generalize Go.ChangeMaps.setBlock (Go.ChangeMaps.setBlock w4.drew mi o2) mt p2 = w5 at *
  have HK : Hid (MkIs w w5 base mb mi mt (.slice A M.length c) (firstB M) (mostM M) M id tx z bx) := Lib.hid ⟨D5.out, E5.out, HOWN.out, HIDS.out, HM2.out, HKW.out, HLT.out, HNE.out⟩
  clear D5 E5 HOWN HIDS HM2 HKW h
  obtain ⟨ch, l, hch⟩ : ∃ ch l, tx = ch :: l := by
    have := HRX.out
    cases tx with
    | nil => simp at this
    | cons a l => exact ⟨a, l, rfl⟩
  have HCH := Lib.hid hch
  obtain ⟨n, hn⟩ : ∃ n, ch.toNat = n := ⟨_, rfl⟩
  have HN := Lib.hid hn
  have hn2 : n < 256 := by rw [← hn]; exact ch.toNat_lt
  have hzs : z.size = tx.length := by rw [← HZ.out, bs_size]
  have HZS := Lib.hid hzs
  have hidx : ∀ V : World, (Instr.index 9 (.string z) (.int .i64 0)).run Tryz.prog V = .ok (.int .u8 (n : Int)) V := fun V => by
    have h1 : 0 < z.size := by rw [hzs, hch]; simp
    have h2 : z[0] = ch := by
      have : ∀ (hq : 0 < z.size), z[0]'hq = ch := by
        rw [← HZ.out, hch]
        intro hq
        rfl
      exact this h1
    simp [go_sem, h1, h2, hn]
  have HIX := Lib.hid hidx
  clear hch hn hzs hidx
  have n0 : (0 : Int) ≤ (n : Int) := by omega
  have n1 : (n : Int) < 256 := by omega
  have x1 := HK.out.bx1
  have ix := HIX.out w5
  go_upto_region 10 with fail
  refine wp_region_G (D := 7) (S := fun V => V.cell? ⟨bx, 1, none⟩ = some (.string z) ∧ (Instr.index 9 (.string z) (.int .i64 0)).run Tryz.prog V = .ok (.int .u8 (n : Int)) V) (by kernel_rfl) (by exact And.intro x1 (HIX.out _)) (fun hHeld => ?_)
  (replace HK := Lib.hid HK.out.drew); clear x1 ix; generalize w5.drew = w6 at *
  refine tkG 0 71 ?_ rfl hHeld (.inl ⟨by rfl, ?_⟩) ?_; rotate_left; focus (intro w' hSw; (try dsimp only at hSw); go_simp; (try with_reducible rfl))
  try simp only [sIB, sC0, sCS]
  refine tkG 1 72 ?_ rfl hHeld (.inl ⟨by rfl, ?_⟩) ?_; rotate_left; focus (intro w' hSw; (try dsimp only at hSw); go_simp; (try with_reducible rfl))
  try simp only [sIB, sC0, sCS]
  refine tkG 2 73 ?_ rfl hHeld (.inl ⟨by rfl, ?_⟩) ?_; rotate_left; focus (intro w' hSw; (try dsimp only at hSw); go_simp; (try with_reducible rfl))
  try simp only [sIB, sC0, sCS]
  refine tkG 3 74 ?_ rfl hHeld (.inl ⟨by rfl, ?_⟩) ?_; rotate_left; focus (intro w' hSw; (try dsimp only at hSw); go_simp; (try with_reducible rfl))
  try simp only [sIB, sC0, sCS]
  refine wpAnyG_one (i := 4) (by kernel_rfl) rfl (by rfl) (fun K hK => ?_)
  go_simp
  refine hK.out _ _ hHeld (fun hHeld => ?_)
  clear hK K
  try simp only [Act.put, sIB, sC0, sCS]
  refine wpAnyG_one (i := 5) (by kernel_rfl) rfl (by rfl) (fun K hK => ?_)
  go_simp
  refine hK.out _ _ hHeld (fun hHeld => ?_)
  clear hK K
  try simp only [Act.put, sIB, sC0, sCS]
  refine tkG 6 77 ?_ rfl hHeld (.inl ⟨by rfl, ?_⟩) ?_; rotate_left; focus (intro w' hSw; (try dsimp only at hSw); go_simp; (try with_reducible rfl))
  try simp only [sIB, sC0, sCS]
  refine wpAnyG_last (by kernel_rfl) rfl (by rfl) (fun K hK => ?_)
  have f0 := HK.out.atF n (by omega); have fz := HK.out.frz (3 + n); go_simp
  refine hK.out _ _ ?_
  clear hK K
  try simp only [Act.put, sIB, sC0, sCS]
  refine wpAnyG_done (by kernel_rfl) ?_ _
  clear hHeld
  have HK2 : Hid (MkIs w (w6.setCell ⟨mb, 3 + n, none⟩ (.bool true)) base mb mi mt (.slice A M.length c) (fun b => firstB M b || n == b) (mostM M) M id tx z bx) := Lib.hid (HK.out.put2 (3 + n) (.bool true) (mark_putF _ _ _ _ _ n (by omega)))
  clear f0 fz
  generalize w6.setCell ⟨mb, 3 + n, none⟩ (.bool true) = w7 at *
  obtain ⟨mo, hmo⟩ : ∃ mo, mostM M = mo := ⟨_, rfl⟩
  have HMO := Lib.hid hmo
  rw [hmo] at HK2
  clear hmo
  have x1 := HK2.out.bx1
  have m0 := HK2.out.atM
  go_upto_region 11 with fail
  refine wp_region_G (D := 11) (S := fun V => V.cell? ⟨bx, 1, none⟩ = some (.string z) ∧ V.cell? ⟨mb, 259, none⟩ = some (.int .i64 (mo : Nat))) (by kernel_rfl) (by exact And.intro x1 m0) (fun hHeld => ?_)
  (replace HK2 := Lib.hid HK2.out.drew); clear x1 m0; generalize w7.drew = w8 at *
  refine tkG 0 78 ?_ rfl hHeld (.inl ⟨by rfl, ?_⟩) ?_; rotate_left; focus (intro w' hSw; (try dsimp only at hSw); go_simp; (try with_reducible rfl))
  try simp only [sIB, sC0, sCS]
  refine tkG 1 79 ?_ rfl hHeld (.inl ⟨by rfl, ?_⟩) ?_; rotate_left; focus (intro w' hSw; (try dsimp only at hSw); go_simp; (try with_reducible rfl))
  try simp only [sIB, sC0, sCS]
  refine tkG 2 80 ?_ rfl hHeld (.inl ⟨by rfl, ?_⟩) ?_; rotate_left; focus (intro w' hSw; (try dsimp only at hSw); go_simp; (try with_reducible rfl))
  try simp only [sIB, sC0, sCS]
  refine tkG 3 81 ?_ rfl hHeld (.inl ⟨by rfl, ?_⟩) ?_; rotate_left; focus (intro w' hSw; (try dsimp only at hSw); go_simp; (try with_reducible rfl))
  try simp only [sIB, sC0, sCS]
  refine tkG 4 82 ?_ rfl hHeld (.inl ⟨by rfl, ?_⟩) ?_; rotate_left; focus (intro w' hSw; (try dsimp only at hSw); go_simp; (try with_reducible rfl))
  try simp only [sIB, sC0, sCS]
  refine tkG 5 83 ?_ rfl hHeld (.inl ⟨by rfl, ?_⟩) ?_; rotate_left; focus (intro w' hSw; (try dsimp only at hSw); go_simp; (try with_reducible rfl))
  try simp only [sIB, sC0, sCS]
  refine tkG 6 84 ?_ rfl hHeld (.inl ⟨by rfl, ?_⟩) ?_; rotate_left; focus (intro w' hSw; (try dsimp only at hSw); go_simp; (try with_reducible rfl))
  try simp only [sIB, sC0, sCS]
  refine tkG 7 85 ?_ rfl hHeld (.inl ⟨by rfl, ?_⟩) ?_; rotate_left; focus (intro w' hSw; (try dsimp only at hSw); go_simp; (try with_reducible rfl))
  try simp only [sIB, sC0, sCS]
  refine tkG 8 86 ?_ rfl hHeld (.inl ⟨by rfl, ?_⟩) ?_; rotate_left; focus (intro w' hSw; (try dsimp only at hSw); go_simp; (try with_reducible rfl))
  try simp only [sIB, sC0, sCS]
  refine wpAnyG_one (i := 9) (by kernel_rfl) rfl (by rfl) (fun K hK => ?_)
  go_simp
  refine hK.out _ _ hHeld (fun hHeld => ?_)
  clear hK K
  try simp only [Act.put, sIB, sC0, sCS]
  refine tkG 10 88 ?_ rfl hHeld (.inl ⟨by rfl, ?_⟩) ?_; rotate_left; focus (intro w' hSw; (try dsimp only at hSw); go_simp; (try with_reducible rfl))
  try simp only [sIB, sC0, sCS]
  refine wpAnyG_last (by kernel_rfl) rfl (by rfl) (fun K hK => ?_)
  have f0 := HK2.out.atM; have fz := HK2.out.frz 259; go_simp
  refine hK.out _ _ ?_
  clear hK K
  try simp only [Act.put, sIB, sC0, sCS]
  refine wpAnyG_done (by kernel_rfl) ?_ _
  clear h hHeld
  rw [show (if mo < z.size then (z.size : Int) else (mo : Int)) = ((max mo z.size : Nat) : Int) from by split <;> omega]
  have HK3 : Hid (MkIs w (w8.setCell ⟨mb, 259, none⟩ (.int .i64 ((max mo z.size : Nat) : Int))) base mb mi mt (.slice A M.length c) (fun b => firstB M b || n == b) (max mo z.size) M id tx z bx) := Lib.hid (HK2.out.put2 259 _ (mark_putM _ _ _ _ _ _))
  clear f0 fz
  generalize w8.setCell ⟨mb, 259, none⟩ (.int .i64 ((max mo z.size : Nat) : Int)) = w9 at *
  have a0 := HK3.out.at0
  have a1 := HK3.out.bx0
  have a2 := HK3.out.bx1
  have HBO : ¬ ((Value.slice A M.length c).ownBlock = some bx) := fun e => by have := HOL.out bx e; have := HBX.out; omega
  go_upto_region 12 with fail
  refine wp_region_D (Ds := [10]) (S := fun V => V.cell? ⟨mb, 0, none⟩ = some (.slice A M.length c) ∧ V.cell? ⟨bx, 0, none⟩ = some (.int .i64 id) ∧ V.cell? ⟨bx, 1, none⟩ = some (.string z)) (by kernel_rfl) (by exact And.intro a0 (And.intro a1 a2)) (fun hHeld => ?_)
  (replace HK3 := Lib.hid HK3.out.drew); clear a0 a1 a2; generalize w9.drew = w10 at *
  refine tkP 0 89 ?_ rfl (.inl ⟨by rfl, ?_⟩) ?_; rotate_left; focus (intro w' _; go_simp; (try with_reducible rfl))
  try simp only [sIB, sC0, sCS]
  refine tkP 1 90 ?_ rfl (.inl ⟨by rfl, ?_⟩) ?_; rotate_left; focus (intro w' _; go_simp; (try with_reducible rfl))
  try simp only [sIB, sC0, sCS]
  refine tkP 2 91 ?_ rfl (.inl ⟨by rfl, ?_⟩) ?_; rotate_left; focus (intro w' _; go_simp; (try with_reducible rfl))
  try simp only [sIB, sC0, sCS]
  refine tkP 3 92 ?_ rfl (.inl ⟨by rfl, ?_⟩) ?_; rotate_left; focus (intro w' _; go_simp; (try with_reducible rfl))
  try simp only [sIB, sC0, sCS]
  refine tkD 4 93 ?_ rfl hHeld (.inl ⟨by rfl, ?_⟩) ?_; rotate_left; focus (intro w' hSw; (try dsimp only at hSw); go_simp; (try with_reducible rfl))
  try simp only [sIB, sC0, sCS]
  refine tkD 5 94 ?_ rfl hHeld (.inl ⟨by rfl, ?_⟩) ?_; rotate_left; focus (intro w' hSw; (try dsimp only at hSw); go_simp; (try with_reducible rfl))
  try simp only [sIB, sC0, sCS]
  refine wpAnyD_one (i := 6) (by kernel_rfl) rfl (by rfl) (fun K hK => ?_)
  go_simp; have hbl := (Below.refl w10.heap.size w10).alloc (Nat.le_refl _) (.cells #[.int .i64 id, .string z] 170); have h := And.intro (below_cell hbl (Nat.le_refl _) hHeld.1) (And.intro (below_cell hbl (Nat.le_refl _) hHeld.2.1) (below_cell hbl (Nat.le_refl _) hHeld.2.2)); clear hbl
  refine hK.out _ _ h (fun hHeld => ?_)
  clear hK K
  try simp only [Act.put, sIB, sC0, sCS]
  refine wpAnyD_one (i := 7) (by kernel_rfl) rfl (by rfl) (fun K hK => ?_)
  refine wp_app_one base 25 170 (.agg #[.int .i64 0, .string ⟨#[]⟩]) 2 24 [_, _] 1 _ _ rfl Tryz.underlying25 info_spl rfl (by decide) _ _ _ rfl _ rfl rfl rfl (by intro u hu; simp at hu; rcases hu with rfl | rfl <;> rfl) HK3.out.row (by have := HML.out; omega) (by have := HML.out; omega) (Nat.le_trans HK3.out.lt.1 (Nat.le_of_lt (blk_lt HK3.out.blk))) ?_; intro v' w11 hown1 hg1 hnew; obtain ⟨A1, cA1, rfl⟩ := own_slice hown1; have hk1 : Keep (fun g => (Value.slice A M.length c).ownBlock = some g) w10 w11 := Keep.of_grown hg1 (fun g hg => hg); have b1 := hk1.blk HK3.out.blk (row_ne HK3.out.row HK3.out.blk (by decide)); have b2 := blk_cell b1 0; rw [mark_get _ _ _ _ _ _ (by decide)] at b2; have b3 := hk1.blk HK3.out.box HBO; have h := And.intro b2 (And.intro (by have := blk_cell b3 0; simpa using this) (by have := blk_cell b3 1; simpa using this))
  refine hK.out _ _ h (fun hHeld => ?_)
  clear hK K
  try simp only [Act.put, sIB, sC0, sCS]
  refine tkP 8 97 ?_ rfl (.inl ⟨by rfl, ?_⟩) ?_; rotate_left; focus (intro w' _; go_simp; (try with_reducible rfl))
  try simp only [sIB, sC0, sCS]
  refine tkP 9 98 ?_ rfl (.inl ⟨by rfl, ?_⟩) ?_; rotate_left; focus (intro w' _; go_simp; (try with_reducible rfl))
  try simp only [sIB, sC0, sCS]
  refine wpAnyD_last (D := 10) (by decide) (by kernel_rfl) rfl (by rfl) (fun K hK => ?_)
  have z0 := blk_froz b1 0; have c0 := hHeld.1; go_simp
  refine hK.out _ _ ?_
  clear hK K
  try simp only [Act.put, sIB, sC0, sCS]
  refine wpAnyD_done (by kernel_rfl) ?_ _
  have k2 : Keep (fun g => g = mb) w11 (w11.setCell ⟨mb, 0, none⟩ (.slice A1 (M.length + 1) cA1)) := (Keep.refl (fun g => g = mb) w11).setCell (p := ⟨mb, 0, none⟩) (.inl rfl) _
  have hblk := blk_set b1 0 (.slice A1 (M.length + 1) cA1)
  rw [mark_put0] at hblk
  have hids := (HK3.out.ids.keep hk1 (HK3.out.ids.row_ne HK3.out.row)).keep k2 (HK3.out.ids.blk_ne HK3.out.blk)
  have htxs := (HK3.out.txs.keep hk1 (HK3.out.txs.row_ne HK3.out.row)).keep k2 (HK3.out.txs.blk_ne HK3.out.blk)
  have hown2 := own_keep hown1 k2 (fun g hg e => row_ne hown1 b1 (by decide) (by rw [hg, e]))
  have hkk := (HK3.out.keep.trans hk1 (fun x hx => .inl (own_base HK3.out.row x hx))).trans k2 (fun x hx => .inl (by rw [hx]; exact HK3.out.lt.1))
  have HFIN : Hid (MarkIs (w11.setCell ⟨mb, 0, none⟩ (.slice A1 (M.length + 1) cA1)) base mb (M ++ [(id, tx)]) (.slice A1 (M.length + 1) cA1) mi mt) := Lib.hid (by
    have hl : (M ++ [((id, tx) : Spl)]).length = M.length + 1 := by simp
    refine ⟨?_, ?_, ?_, ?_, HK3.out.ne, HK3.out.lt⟩
    · have e1 : firstB (M ++ [((id, tx) : Spl)]) = fun b => firstB M b || n == b := by
        funext b
        rw [firstB_snoc M (id, tx) ch l HCH.out, HN.out]
      have e2 : mostM (M ++ [((id, tx) : Spl)]) = max mo z.size := by rw [mostM_snoc, HMO.out, HZS.out]
      rw [e1, e2]
      exact hblk
    · rw [hl, List.flatMap_append]
      have e3 : [((id, tx) : Spl)].flatMap encIS = [Value.int .i64 id, .string z] := by simp [encIS, HZV.out]
      rw [e3]
      exact hown2
    · rw [hl]
      refine hids.congr (fun i => ?_)
      rw [fndI_snoc _ _ _ HFI.out]
      simp only
      split <;> rfl
    · rw [hl]
      refine htxs.congr (fun i => ?_)
      rw [fndX_snoc _ _ _ HFX.out]
      simp only
      split <;> rfl)
  have HKK := Lib.hid hkk
  clear hkk hids htxs hown2 hblk k2 hown1 hg1 hnew hk1 b1 b2 b3 h hHeld z0 c0 HBO
  generalize w11.setCell ⟨mb, 0, none⟩ (.slice A1 (M.length + 1) cA1) = w12 at *
  go_wp2_with fail
  go_ret
  exact ⟨rfl, _, HFIN.out, HKK.out⟩
end
end Go.Proofs.YtkkcekgbnloegaaGreat
