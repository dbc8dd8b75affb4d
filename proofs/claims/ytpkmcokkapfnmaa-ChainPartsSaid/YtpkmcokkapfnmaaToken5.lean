/- Layer 4 (token): New. -/
import Derived.Test.YtpkmcokkapfnmaaToken4
namespace Go.Proofs.Ytpkmcokkapfnmaa
open Go.RowKit Go.Maps Go.WideMaps
set_option maxRecDepth 100000
set_option linter.unusedVariables false
set_option linter.unusedSimpArgs false

/-- all that is added, if all of it can be -/
def addsT (T : List Ent) : List (Int × Int) → Option (List Ent)
  | [] => some T
  | m :: r => if (addT T m.1 m.2).2.1 = 0 then addsT (addT T m.1 m.2).2.2 r else none
theorem addsT_snoc (l : List (Int × Int)) (m : Int × Int) : ∀ T, addsT T (l ++ [m]) = (addsT T l).bind (fun T' => if (addT T' m.1 m.2).2.1 = 0 then some (addT T' m.1 m.2).2.2 else none) := by
  induction l with
  | nil => intro T; simp [addsT]
  | cons a l ih =>
    intro T
    simp only [List.cons_append, addsT]
    split
    · rw [ih]
    · rfl
theorem okT_adds (l : List (Int × Int)) : ∀ T T', OkT T → addsT T l = some T' → OkT T' := by
  induction l with
  | nil => intro T T' h e; simp only [addsT, Option.some.injEq] at e; subst e; exact h
  | cons a l ih =>
    intro T T' h e
    simp only [addsT] at e
    split at e
    · rename_i h0
      exact ih _ _ (okT_add h _ _ h0) e
    · cases e
def encM (m : Int × Int) : List Value := [.int .i64 m.1, .int .i64 m.2]

/-- New's table when k are added -/
structure NewIs (w W : World) (l : List (Int × Int)) (tb mb mp k : Nat) : Prop where
  ex : ∃ T sv, addsT baseT (l.take k) = some T ∧ OkT T ∧ TabIs W w.heap.size tb T sv mb mp
  below : Below w.heap.size w W

set_option maxHeartbeats 2000000 in
theorem new_any (l : List (Int × Int)) (A : Option Addr) (c : Nat) (w : World) (hl : Sl w A encM 2 l) (hlen : l.length < 9000000000000000000) :
    Calls Try.prog 22 #[.slice A l.length c] w fun e w' => Below w.heap.size w w' ∧
      ((∃ T tb sv mb mp, e = .returned (.tuple #[.pointer (some ⟨tb, 0, none⟩), .int .i64 (l.length : Nat), .int .i64 0]) ∧ addsT baseT l = some T ∧ OkT T ∧ TabIs w' w.heap.size tb T sv mb mp) ∨
      (∃ (k : Nat) (hk : k < l.length) (T : List Ent), addsT baseT (l.take k) = some T ∧ OkT T ∧ (addT T l[k].1 l[k].2).2.1 ≠ 0 ∧ e = .returned (.tuple #[.pointer none, .int .i64 (k : Nat), .int .i64 (addT T l[k].1 l[k].2).2.1]))) := by
  have HL := Lib.hid hl
  clear hl
  go_enter Try.func22, Try.ntmps22
  go_wp2_with fail
  refine (begin_any _).mono ?_
  rintro e w0 ⟨tb, sv, mb, mp, rfl, h0, hb0⟩
  have HS := Lib.hid (show NewIs w w0 l tb mb mp 0 from ⟨⟨baseT, sv, by simp [addsT], okT_base, h0⟩, hb0⟩)
  clear h0 hb0
  go_wp2_with fail
  go_loopg [13] l.length (fun n i W => ∃ k : Nat, k + n = l.length ∧ i = .int .i64 (k : Int) ∧ NewIs w W l tb mb mp k)
  case atStart => exact ⟨0, by omega, rfl, HS.out⟩
  case round =>
    obtain ⟨k, hk, rfl, hW⟩ := hrel
    clear HS
    rename World => W
    by_cases hlt : k < l.length
    · obtain ⟨T, sv, ha, hok, ht⟩ := hW.ex
      obtain ⟨ba, o, rfl, hc0⟩ := (HL.out.below hW.below (Nat.le_refl _)).at k hlt
      have g0 : W.cell? ⟨ba, o + k * 2, none⟩ = some (.int .i64 l[k].1) := hc0 0 _ rfl
      have g1 : W.cell? ⟨ba, o + k * 2 + 1, none⟩ = some (.int .i64 l[k].2) := hc0 1 _ rfl
      obtain ⟨x, hx⟩ : ∃ x, l[k].1 = x := ⟨_, rfl⟩
      obtain ⟨y, hy⟩ : ∃ y, l[k].2 = y := ⟨_, rfl⟩
      rw [hx] at g0
      rw [hy] at g1
      have HX := Lib.hid hx
      have HY := Lib.hid hy
      have HA := Lib.hid ha
      have HOK := Lib.hid hok
      have HT := Lib.hid ht
      have HB := Lib.hid hW.below
      have q0 : 0 ≤ (k : Int) := by omega
      have q1 : (k : Int) < (l.length : Int) := by omega
      have hb1 := (Below.refl W.heap.size W).alloc (Nat.le_refl _) (.cells #[.int .i64 l[k].1, .int .i64 l[k].2] 71)
      have HT1 := Lib.hid (ht.below hb1 (Nat.le_refl _))
      have HB1 := Lib.hid (hW.below.trans (hb1.mono hW.below.size))
      rw [hx, hy] at HT1 HB1
      clear hx hy hc0 ha hok ht hW hb1
      go_wp2_with fail
      clear g0 g1
      generalize W.alloc (.cells #[.int .i64 x, .int .i64 y] 71) = W1 at *
      by_cases he : (addT T x y).2.1 = 0
      · have HE := Lib.hid he
        refine (add_ok x y HT1.out HOK.out he HB1.out.size).mono ?_
        rintro e w' ⟨rfl, had⟩
        obtain ⟨sv', ht', hn⟩ := had.ex
        have HT2 := Lib.hid ht'
        have HB2 := Lib.hid (HB1.out.trans (had.keep.below HB1.out.size (fun g hg => by
          rcases hg with rfl | hg | rfl | rfl
          · exact HT1.out.lt.1
          · exact own_base HT1.out.row g hg
          · exact HT1.out.lt.2.1
          · exact HT1.out.lt.2.2)))
        clear ht' hn had he
        go_wp2_with fail
        go_roundg (gk - 1)
        case measure => omega
        case rel =>
          refine ⟨k + 1, by omega, by simp, ⟨⟨(addT T x y).2.2, sv', ?_, okT_add HOK.out _ _ HE.out, HT2.out⟩, HB2.out⟩⟩
          rw [take_snoc hlt, addsT_snoc, HA.out]
          simp only [Option.bind_some, HX.out, HY.out, HE.out, if_true]
      · have HE := Lib.hid he
        refine (add_err x y HT1.out HOK.out he).mono ?_
        rintro e w' ⟨rfl, hbw⟩
        have HB2 := Lib.hid (HB1.out.trans (hbw.mono HB1.out.size))
        obtain ⟨E, hE⟩ : ∃ E, (addT T x y).2.1 = E := ⟨_, rfl⟩
        have HEE := Lib.hid hE
        rw [hE] at he ⊢
        clear hbw hE
        go_wp2_with fail
        refine bodyPost_ret (results_tmp3 rfl _ _ _) rfl ⟨HB2.out, .inr ⟨k, hlt, T, HA.out, HOK.out, ?_, ?_⟩⟩
        · rw [HX.out, HY.out]; exact HE.out
        · rw [HX.out, HY.out, HEE.out]; rfl
    · have : k = l.length := by omega
      subst this
      obtain ⟨T, sv, ha, hok, ht⟩ := hW.ex
      have HA := Lib.hid ha
      have HOK := Lib.hid hok
      have HT := Lib.hid ht
      have HB := Lib.hid hW.below
      clear ha hok ht hW
      go_wp2_with fail
      refine bodyPost_ret (results_tmp3 rfl _ _ _) rfl ⟨HB.out, .inl ⟨T, tb, sv, mb, mp, rfl, ?_, HOK.out, HT.out⟩⟩
      have := HA.out
      rw [List.take_length] at this
      exact this
end Go.Proofs.Ytpkmcokkapfnmaa
