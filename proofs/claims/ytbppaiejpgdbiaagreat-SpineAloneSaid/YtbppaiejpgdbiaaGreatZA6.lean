/- Texts of several layers, one behind the other: Beside1, VocNew0, Awake14, SpineP0, SpineP1, SpineP2, RWalk0, Pick0, BothT, SpineLawW, Alone7, SpineLawA. -/
import Derived.Test.YtbppaiejpgdbiaaGreatZA5
import Derived.WalkKit
import Derived.KernelRfl
import Derived.Lib.Hide
import Derived.Deep.QuietTactic
import Derived.BigQuiet
import Derived.OwnWalk
import Derived.Lib.Strings
import Derived.Deep.DeepCutAuto
import Derived.Deep.RegionHeld3
import Derived.StillTailTactics
import Derived.Test.YtbppaiejpgdbiaaGreatProg
import Derived.Deep.Slices
import Derived.Deep.Fields
import Derived.ChangeSame
import Derived.SliceStrings
import Derived.OpenShut
import Derived.Maps.OwnSet
import Derived.Maps.OwnOps
import Derived.DeepKeys4
import Derived.WideKeyEntry
import Derived.Maps.AppendAt
import Derived.Laws.ResultCell
import Derived.Laws.IdiomStrings
import Derived.Laws.AppendOwnNone
import Derived.Lib.AppendStr
import Derived.Laws.LoneSync
import Derived.Tactics
import Derived.Tactics2
import Derived.Defers
import Derived.Laws.Pointers
import Derived.RegionTactic
import Derived.RegionCalls
import Derived.ChangeAlike
import Derived.Test.YtbppaiejpgdbiaaGreatRows
import Derived.ProofKit
import Derived.ShutString
import Derived.ChangeOld
import Derived.Below
import Derived.Lib.SmallJoins
/- Layer 14 (spine): Valid; of nothing. -/
namespace Go.Proofs.YtbppaiejpgdbiaaGreat
open Go.RowKit Go.Maps Go.WideMaps
set_option maxRecDepth 100000
set_option linter.unusedVariables false
set_option linter.unusedSimpArgs false
section
variable {w w' W W1 : World} {base : Nat} {p : VocP} {g g1 : Option Nat}
theorem AskV.trans (hk : Keep (fun x => x = p.vb) w W) (hl : g1 = g ∨ ∃ x, g1 = some x ∧ w.heap.size ≤ x) (h2 : AskV W W1 base p g1) : AskV w W1 base p g := by
  obtain ⟨g2, hv, hk2, hl2⟩ := h2
  refine ⟨g2, hv, hk.trans hk2 (fun x hx => .inl hx), ?_⟩
  rcases hl2 with rfl | ⟨x, rfl, hx⟩
  · exact hl
  · exact .inr ⟨x, rfl, Nat.le_trans hk.size hx⟩
theorem AskV.of_below (h : VocAt w base p g) (hb : Below w.heap.size w W) : AskV w W base p g :=
  ⟨g, h.below hb (Nat.le_refl _), Keep.of_below hb, .inl rfl⟩
theorem VocAt.bes_any (h : VocAt w base p g) (hT : OkT p.T) (a b : Int) (ha : (Lit.int .i64 a).wf = true) (hb : (Lit.int .i64 b).wf = true) (hM : p.s.xs.length ≤ 1000) :
    Calls Tryz.prog 52 #[.pointer (some ⟨p.vb, 0, none⟩), .int .i64 a, .int .i64 b] w fun e w' => e = .returned (.bool (p.bes a b)) ∧ Below w.heap.size w w' := by
  obtain ⟨l, dn, st, se, us, h1, _⟩ := h
  exact beside_q h1 hT a b ha hb hM
set_option maxHeartbeats 1000000 in
theorem svalid_any (h : VocAt w base p g) (hT : OkT p.T) (a b : Int) (ha : (Lit.int .i64 a).wf = true) (hb : (Lit.int .i64 b).wf = true) (hM : p.s.xs.length ≤ 1000) :
    Calls Tryz.prog 19 #[.pointer (some ⟨p.vb, 0, none⟩), .int .i64 a, .int .i64 b] w fun e w' => e = .returned (.bool (p.aln a && p.aln b && p.bes a b)) ∧ AskV w w' base p g := by
  have HA := Lib.hid (valone_any h hT a ha hM)
  have HB : Hid (∀ V g, VocAt V base p g → Calls Tryz.prog 51 #[.pointer (some ⟨p.vb, 0, none⟩), .int .i64 b] V fun e w' => e = .returned (.bool (p.aln b)) ∧ AskV V w' base p g) := Lib.hid (fun V g hV => valone_any hV hT b hb hM)
  have HC : Hid (∀ V g, VocAt V base p g → Calls Tryz.prog 52 #[.pointer (some ⟨p.vb, 0, none⟩), .int .i64 a, .int .i64 b] V fun e w' => e = .returned (.bool (p.bes a b)) ∧ Below V.heap.size V w') := Lib.hid (fun V g hV => hV.bes_any hT a b ha hb hM)
  clear h hT ha hb hM
  obtain ⟨q1, h1⟩ : ∃ q, p.aln a = q := ⟨_, rfl⟩
  obtain ⟨q2, h2⟩ : ∃ q, p.aln b = q := ⟨_, rfl⟩
  rw [h1] at HA ⊢
  rw [h2] at HB ⊢
  clear h1 h2
  generalize p.bes a b = q3 at *
  cases q1 with
  | false =>
    go_enter Tryz.func19, Tryz.ntmps19
    go_wp2_with (go_at_call 51; refine HA.out.mono ?_; rintro e W1 ⟨rfl, hA⟩; have HR := Lib.hid hA; clear hA)
    go_ret
    exact ⟨by simp, HR.out⟩
  | true =>
    cases q2 with
    | false =>
      go_enter Tryz.func19, Tryz.ntmps19
      go_wp2_with (go_at_call 51; first
        | (refine HA.out.mono ?_; rintro e W1 ⟨rfl, g1, hv, hk, hl⟩; (have HV := Lib.hid hv); (have HK := Lib.hid hk); (have HL := Lib.hid hl); clear hv hk hl HA)
        | (refine (HB.out _ g1 HV.out).mono ?_; rintro e W2 ⟨rfl, hA⟩; have HR := Lib.hid (AskV.trans HK.out HL.out hA); clear hA))
      go_ret
      exact ⟨by simp, HR.out⟩
    | true =>
      go_enter Tryz.func19, Tryz.ntmps19
      go_wp2_with (first
        | (go_at_call 51; first
          | (refine HA.out.mono ?_; rintro e W1 ⟨rfl, g1, hv, hk, hl⟩; (have HV := Lib.hid hv); (have HK := Lib.hid hk); (have HL := Lib.hid hl); clear hv hk hl HA)
          | (refine (HB.out _ g1 HV.out).mono ?_; rintro e W2 ⟨rfl, hA⟩; (have HR := Lib.hid (AskV.trans HK.out HL.out hA)); obtain ⟨g2, hv, _⟩ := hA; (have HV2 := Lib.hid hv); clear hv))
        | (go_at_call 52; refine (HC.out _ g2 HV2.out).mono ?_; rintro e W3 ⟨rfl, hb⟩; have HBE := Lib.hid hb; clear hb))
      go_ret
      obtain ⟨g3, hv3, hk3, hl3⟩ := HR.out
      exact ⟨by simp, AskV.trans hk3 hl3 (AskV.of_below hv3 HBE.out)⟩
end
end Go.Proofs.YtbppaiejpgdbiaaGreat

/- Layer 10 (vocab): New of merges alone. -/
namespace Go.Proofs.YtbppaiejpgdbiaaGreat
open Go.RowKit Go.Maps Go.WideMaps
set_option maxRecDepth 100000
set_option linter.unusedVariables false
set_option linter.unusedSimpArgs false
def mrgS (l : List (Int × Int)) : SpecP := ⟨false, l, [], [], [], []⟩
theorem VocAt.base_le {w : World} {base : Nat} {p : VocP} {g : Option Nat} (h : VocAt w base p g) : base ≤ p.vb := by
  obtain ⟨l, dn, st, se, us, h1, _⟩ := h
  exact h1.lt.1
theorem AskV.below {w0 w W : World} {base : Nat} {p : VocP} {g : Option Nat} (h : AskV w W base p g) (hB : Below w0.heap.size w0 w) (hb : w0.heap.size ≤ p.vb) : Below w0.heap.size w0 W := by
  obtain ⟨g', hv, hk, hl⟩ := h
  exact hB.trans (hk.below hB.size (fun x hx => by omega))
theorem adds_okT : ∀ (l : List (Int × Int)) (T T' : List Ent), OkT T → addsT T l = some T' → OkT T'
  | [], T, T', h, e => by simp [addsT] at e; rw [← e]; exact h
  | m :: l, T, T', h, e => by
    rw [addsT] at e
    split at e
    · rename_i h0
      exact adds_okT l _ T' (okT_add h _ _ h0) e
    · simp at e
theorem vnew_m {l : List (Int × Int)} {T : List Ent} (hT : addsT baseT l = some T) (A : Option Addr) (c : Nat) (w : World) (hl : Sl w A encM 2 l) (hlen : l.length ≤ 744) (hr : l.all mrgR = true) :
    Calls Tryz.prog 15 #[specV false A l.length c none 0 0 none 0 0 none 0 0 none 0 0] w fun e w' => (∃ p, e = .returned (.tuple #[.pointer (some ⟨p.vb, 0, none⟩), .int .i64 0, .int .i64 0]) ∧ VocAt w' w.heap.size p none ∧ p.T = T ∧ p.s = mrgS l ∧ OkT T) ∧ Below w.heap.size w w' := by
  have hs : SpecAt w (mrgS l) A none none none none := ⟨hl, Sl1.nil _ _ _, Sl.nil _ _ _ _, Sl.nil _ _ _ _, Sl.nil _ _ _ _, by simp [mrgS]; omega⟩
  have hR : rightS (mrgS l) = true := by
    have h1 : headR (mrgS l) = true := rfl
    have h2 : (decide ((((mrgS l).ms.length : Nat) : Int) ≤ 744) && (mrgS l).ms.all mrgR) = true := by
      show (decide (((l.length : Nat) : Int) ≤ 744) && l.all mrgR) = true
      rw [hr]; simp; omega
    unfold rightS
    rw [h1, h2]
    rfl
  have hok : OkT T := adds_okT l baseT T okT_base hT
  have hL : ∀ V, Below w.heap.size w V → Calls Tryz.prog 87 #[specW (mrgS l) A none none none none c 0 0 0 0] V fun e w' => (∃ tb sv mb mp n, e = .returned (.tuple #[.pointer (some ⟨tb, 0, none⟩), .int .i64 n, .int .i64 0]) ∧ TabIs w' V.heap.size tb T sv mb mp) ∧ Below V.heap.size V w' := by
    intro V hV
    refine (load_false (R := fun x y z w' => (∃ tb sv mb mp n, x = .pointer (some ⟨tb, 0, none⟩) ∧ y = .int .i64 n ∧ z = .int .i64 0 ∧ TabIs w' V.heap.size tb T sv mb mp) ∧ Below V.heap.size V w') rfl (fun W hW => ?_)).mono ?_
    · refine (new_ok hT A c W (hl.below (hV.trans (hW.mono hV.size)) (Nat.le_refl _)) (by omega)).mono ?_
      rintro e w' ⟨tb, sv, mb, mp, rfl, _, ht, hb⟩
      exact ⟨_, _, _, rfl, ⟨tb, sv, mb, mp, _, rfl, rfl, rfl, ht.less hW.size⟩, hW.trans (hb.mono hW.size)⟩
    · rintro e w' ⟨x, y, z, rfl, ⟨tb, sv, mb, mp, n, rfl, rfl, rfl, ht⟩, hb⟩
      exact ⟨⟨tb, sv, mb, mp, n, rfl, ht⟩, hb⟩
  have hM : ∀ V, Below w.heap.size w V → Calls Tryz.prog 88 #[.slice none (mrgS l).xs.length 0] V fun e w' => (∃ mb sv mi mt n, e = .returned (.tuple #[.pointer (some ⟨mb, 0, none⟩), .int .i64 n, .int .i64 0]) ∧ MarkIs w' V.heap.size mb (mrgS l).xs sv mi mt) ∧ Below V.heap.size V w' := by
    intro V hV
    refine (mnew_nil V 0).mono ?_
    rintro e w' ⟨⟨mb, sv, mi, mt, rfl, hm⟩, hb⟩
    exact ⟨⟨mb, sv, mi, mt, 0, rfl, hm⟩, hb⟩
  refine (vnew_any (cM := c) (cT := 0) (cX := 0) (cC := 0) (cJ := 0) hs hR hL hM rfl (by simp [mrgS]; omega) rfl rfl).mono ?_
  rintro e w' ⟨⟨vb, A1, A2, A3, A4, A5, c1, c2, c3, c4, c5, tbase, tb, bk, kbase, mk, sv, mb, mp, sv2, mi, mt, rfl, hv⟩, hb⟩
  exact ⟨⟨⟨vb, mrgS l, T, A1, A2, A3, A4, A5, c1, c2, c3, c4, c5, tbase, tb, bk, kbase, mk, sv, mb, mp, sv2, mi, mt⟩, rfl, ⟨_, 0, 0, 0, 0, hv, .inl ⟨rfl, rfl, rfl, rfl⟩⟩, rfl, rfl, hok⟩, hb⟩
theorem VocP.aln_eq {p q : VocP} (h1 : p.T = q.T) (h2 : p.s = q.s) (x : Int) : p.aln x = q.aln x := by unfold VocP.aln; rw [h1, h2]
theorem VocP.bes_eq {p q : VocP} (h1 : p.T = q.T) (h2 : p.s = q.s) (x y : Int) : p.bes x y = q.bes x y := by unfold VocP.bes VocP.besO VocP.cut; rw [h1, h2]
end Go.Proofs.YtbppaiejpgdbiaaGreat

/- Layer 14 (spine): the document's example. -/
namespace Go.Proofs.YtbppaiejpgdbiaaGreat
open Go.RowKit Go.Maps Go.WideMaps
set_option maxRecDepth 100000
set_option linter.unusedVariables false
set_option linter.unusedSimpArgs false
def aw14 : List (Int × Int) := [(97, 98), (98, 99)]
def awT14a : List Ent := baseT ++ [([97, 98], 97, 98)]
def awT14 : List Ent := awT14a ++ [([98, 99], 98, 99)]
theorem aw14_1 : addT baseT 97 98 = (256, 0, awT14a) := by kernel_rfl
theorem aw14_2 : addT awT14a 98 99 = (257, 0, awT14) := by kernel_rfl
theorem aw14_adds : addsT baseT aw14 = some awT14 := by simp only [aw14, addsT, aw14_1, aw14_2, if_true]
def awp14 : VocP := ⟨0, mrgS aw14, awT14, none, none, none, none, none, 0, 0, 0, 0, 0, 0, 0, 0, 0, 0, .bool false, 0, 0, .bool false, 0, 0⟩
theorem aw14_v1 : (awp14.aln 97 && awp14.aln 257 && awp14.bes 97 257) = false := by kernel_rfl
theorem aw14_v2 : (awp14.aln 256 && awp14.aln 99 && awp14.bes 256 99) = true := by kernel_rfl
theorem aw14_v3 : (awp14.aln 256 && awp14.aln 257 && awp14.bes 256 257) = true := by kernel_rfl
set_option maxHeartbeats 2000000 in
theorem awake14_any (w : World) : Calls Tryz.prog 16 #[] w fun e w' => e = .returned (.bool true) ∧ Below w.heap.size w w' := by
  have HB0 := Lib.hid ((Below.refl w.heap.size w).alloc (Nat.le_refl _) (.cells #[.int .i64 97, .int .i64 98, .int .i64 98, .int .i64 99] 55))
  have HSL := Lib.hid (sl_mrg (l := aw14) (blk_new w (.cells #[.int .i64 97, .int .i64 98, .int .i64 98, .int .i64 99] 55)))
  have HN : Hid (∀ V, Sl V (some ⟨w.heap.size, 0, none⟩) encM 2 aw14 → Calls Tryz.prog 15 #[.agg #[.bool false, .slice (some ⟨w.heap.size, 0, none⟩) 2 2, .slice none 0 0, .slice none 0 0, .slice none 0 0, .slice none 0 0]] V fun e w' => (∃ p, e = .returned (.tuple #[.pointer (some ⟨p.vb, 0, none⟩), .int .i64 0, .int .i64 0]) ∧ VocAt w' V.heap.size p none ∧ p.T = awT14 ∧ p.s = mrgS aw14 ∧ OkT awT14) ∧ Below V.heap.size V w') := Lib.hid (fun V hV => vnew_m aw14_adds _ 2 V hV (by decide) (by decide))
  go_enter Tryz.func16, Tryz.ntmps16
  go_upto_region 2 with (go_at_call 15; refine (HN.out _ HSL.out).mono ?_; rintro e W ⟨⟨p, rfl, hv, hT, hs, hok⟩, hb⟩; (have HV := Lib.hid hv); (have HT := Lib.hid hT); (have HS := Lib.hid hs); (have HOK := Lib.hid hok); (have HB := Lib.hid (HB0.out.trans (hb.mono HB0.out.size))); (have HVB := Lib.hid (Nat.le_trans HB0.out.size hv.base_le)); clear hv hT hs hok hb)
  have E1 : Hid ((p.aln 97 && p.aln 257 && p.bes 97 257) = false) := Lib.hid (by rw [VocP.aln_eq (q := awp14) HT.out HS.out, VocP.aln_eq (q := awp14) HT.out HS.out, VocP.bes_eq (q := awp14) HT.out HS.out]; exact aw14_v1)
  have E2 : Hid ((p.aln 256 && p.aln 99 && p.bes 256 99) = true) := Lib.hid (by rw [VocP.aln_eq (q := awp14) HT.out HS.out, VocP.aln_eq (q := awp14) HT.out HS.out, VocP.bes_eq (q := awp14) HT.out HS.out]; exact aw14_v2)
  have E3 : Hid ((p.aln 256 && p.aln 257 && p.bes 256 257) = true) := Lib.hid (by rw [VocP.aln_eq (q := awp14) HT.out HS.out, VocP.aln_eq (q := awp14) HT.out HS.out, VocP.bes_eq (q := awp14) HT.out HS.out]; exact aw14_v3)
  have HM : Hid (p.s.xs.length ≤ 1000) := Lib.hid (by rw [HS.out]; decide)
  have HOP : Hid (OkT p.T) := Lib.hid (by rw [HT.out]; exact HOK.out)
  have HVX : Hid (∃ g, VocAt W (w.alloc (.cells #[.int .i64 97, .int .i64 98, .int .i64 98, .int .i64 99] 55)).heap.size p g) := Lib.hid ⟨_, HV.out⟩
  clear HV HT HS HOK HSL HN HB0
  obtain ⟨gb, hgb⟩ : ∃ b, (w.alloc (.cells #[.int .i64 97, .int .i64 98, .int .i64 98, .int .i64 99] 55)).heap.size = b := ⟨_, rfl⟩
  rw [hgb] at HVX
  clear hgb
  have HVA : Hid (∀ V a b, (∃ g, VocAt V gb p g) → (Lit.int .i64 a).wf = true → (Lit.int .i64 b).wf = true → Calls Tryz.prog 19 #[.pointer (some ⟨p.vb, 0, none⟩), .int .i64 a, .int .i64 b] V fun e w' => e = .returned (.bool (p.aln a && p.aln b && p.bes a b)) ∧ (∃ g, VocAt w' gb p g) ∧ (Below w.heap.size w V → Below w.heap.size w w')) := Lib.hid (fun V a b ⟨g, hV⟩ ha hb => by
    refine (svalid_any hV HOP.out a b ha hb HM.out).mono ?_
    rintro e w' ⟨rfl, hA⟩
    exact ⟨rfl, ⟨_, hA.choose_spec.1⟩, fun hB => hA.below hB HVB.out⟩)
  go_wp2_with (go_at_call 19; refine (HVA.out _ _ _ HVX.out (by rfl) (by rfl)).mono ?_; rintro e V ⟨he, hx, hb⟩; (first | rw [E1.out] at he | rw [E2.out] at he | rw [E3.out] at he); subst he; (replace HVX := Lib.hid hx); (replace HB := Lib.hid (hb HB.out)); clear hx hb)
  go_ret
  exact ⟨rfl, HB.out⟩
end Go.Proofs.YtbppaiejpgdbiaaGreat

/- Layer 14 (spine): what is made, stage by stage; where nothing goes across: the plain law. -/
namespace Go.Proofs.YtbppaiejpgdbiaaGreat
set_option linter.unusedVariables false
set_option linter.unusedSimpArgs false

/-- what is made of bytes by the first k merges -/
def stg (T : List Ent) (k : Nat) (s : List UInt8) : List Int := seqE ((mrgsT T).take k) 256 (bysI s)
theorem encT_stg (T : List Ent) (bel : Int) (s : List UInt8) : encT T bel s = stg T (bel - 256).toNat s := rfl
theorem seqE_append : ∀ (M N : List (Int × Int)) (c : Int) (l : List Int), seqE (M ++ N) c l = seqE N (c + (M.length : Nat)) (seqE M c l)
  | [], N, c, l => by simp [seqE]
  | m :: M, N, c, l => by
    rw [List.cons_append, seqE, seqE, seqE_append M N (c + 1)]
    congr 1
    simp only [List.length_cons]; omega
theorem seqE_single : ∀ (M : List (Int × Int)) (c x : Int), seqE M c [x] = [x]
  | [], _, _ => rfl
  | m :: M, c, x => by rw [seqE]; exact seqE_single M (c + 1) x
theorem stg_succ {T : List Ent} {k : Nat} {m : Int × Int} (h : (mrgsT T)[k]? = some m) (s : List UInt8) : stg T (k + 1) s = rep m.1 m.2 (256 + k) (stg T k s) := by
  have hlt : k < (mrgsT T).length := (List.getElem?_eq_some_iff.1 h).1
  have e : (mrgsT T).take (k + 1) = (mrgsT T).take k ++ [m] := by rw [List.take_add_one, h]; rfl
  unfold stg
  rw [e, seqE_append, seqE, seqE, List.length_take, Nat.min_eq_left (Nat.le_of_lt hlt)]
theorem stg_more {T : List Ent} {k : Nat} (h : (mrgsT T)[k]? = none) (s : List UInt8) : stg T (k + 1) s = stg T k s := by
  have hlt : (mrgsT T).length ≤ k := List.getElem?_eq_none_iff.1 h
  unfold stg
  rw [List.take_of_length_le (by omega), List.take_of_length_le hlt]
/-- later: what came of what is there -/
theorem stg_later (T : List Ent) {j k : Nat} (h : j ≤ k) : ∃ M c, ∀ s, stg T k s = seqE M c (stg T j s) := by
  obtain ⟨N, hN⟩ : ∃ N, (mrgsT T).take k = (mrgsT T).take j ++ N := by
    refine ⟨((mrgsT T).take k).drop j, ?_⟩
    have h1 := List.take_append_drop j ((mrgsT T).take k)
    rw [List.take_take, Nat.min_eq_left h] at h1
    exact h1.symm
  refine ⟨N, 256 + ((((mrgsT T).take j).length : Nat) : Int), fun s => ?_⟩
  unfold stg
  rw [hN, seqE_append]
theorem stg_keep {T : List Ent} {j k : Nat} (h : j ≤ k) {s : List UInt8} {x : Int} (hs : stg T j s = [x]) : stg T k s = [x] := by
  obtain ⟨M, c, hM⟩ := stg_later T h
  rw [hM, hs, seqE_single]
theorem stg_enc {T : List Ent} (k : Nat) (s : List UInt8) : stg T k s = encT T (256 + (k : Int)) s := by
  rw [encT_stg]; congr 1; omega
theorem stg_cut {T : List Ent} (hT : OkT T) (k : Nat) (a b : List UInt8) {W1 W2 : List Int} (h : stg T k (a ++ b) = W1 ++ W2) (hl : (catT T W1).length = a.length) : W1 = stg T k a ∧ W2 = stg T k b := by
  rw [stg_enc] at h ⊢
  rw [stg_enc]
  exact encT_cut hT _ a b h hl
theorem stg_cat {T : List Ent} (hT : OkT T) (k : Nat) (s : List UInt8) : catT T (stg T k s) = s := by rw [stg_enc]; exact encT_cat hT _ s
theorem stg_has {T : List Ent} (hT : OkT T) (k : Nat) (s : List UInt8) : ∀ x ∈ stg T k s, hasT T x = true := by rw [stg_enc]; exact encT_has hT _ s
theorem bysI_lt (s : List UInt8) : ∀ x ∈ bysI s, 0 ≤ x ∧ x < 256 := by
  intro x hx
  unfold bysI at hx
  obtain ⟨c, _, rfl⟩ := List.mem_map.1 hx
  have := c.toNat_lt
  omega
theorem stg_lt (T : List Ent) (k : Nat) (s : List UInt8) : ∀ x ∈ stg T k s, x < 256 + (k : Int) := by
  unfold stg
  refine seqE_all (fun x => x < 256 + (k : Int)) _ _ _ (fun j hj => ?_) (fun x hx => ?_)
  · rw [List.length_take] at hj
    omega
  · have := bysI_lt s x hx
    omega

/-! side by side -/
theorem rep_ne_nil (a b c : Int) : ∀ l : List Int, l ≠ [] → rep a b c l ≠ []
  | [], h => absurd rfl h
  | [x], _ => by simp [rep]
  | x :: y :: l, _ => by rw [rep]; split <;> simp
theorem last_cons {x : Int} {l : List Int} (h : l ≠ []) : (x :: l).getLast? = l.getLast? := by
  cases l with
  | nil => exact absurd rfl h
  | cons y l => rw [List.getLast?_cons_cons]
theorem rep_cat2 (a b c : Int) : ∀ l r : List Int, ¬ ((rep a b c l).getLast? = some a ∧ r.head? = some b) → rep a b c (l ++ r) = rep a b c l ++ rep a b c r
  | [], r, _ => rfl
  | [x], [], _ => rfl
  | [x], y :: r, h => by
    have h1 : ¬ (x = a ∧ y = b) := by simpa [rep] using h
    show rep a b c (x :: y :: r) = _
    rw [rep, if_neg h1]
    rfl
  | x :: y :: l, r, h => by
    show rep a b c (x :: y :: (l ++ r)) = _
    rw [rep] at h ⊢
    rw [rep]
    split
    · rename_i e
      rw [if_pos e] at h
      rw [rep_cat2 a b c l r ?_]
      · rfl
      · rintro ⟨h1, h2⟩
        refine h ⟨?_, h2⟩
        rw [last_cons (fun e => by rw [e] at h1; simp at h1)]
        exact h1
    · rename_i e
      rw [if_neg e] at h
      have ih := rep_cat2 a b c (y :: l) r ?_
      · have ih' : rep a b c (y :: (l ++ r)) = rep a b c (y :: l) ++ rep a b c r := ih
        rw [ih']
        rfl
      · rintro ⟨h1, h2⟩
        refine h ⟨?_, h2⟩
        rw [last_cons (rep_ne_nil _ _ _ _ (by simp))]
        exact h1
theorem rep_cross (a b c : Int) (hca : c ≠ a) : ∀ l r : List Int, (rep a b c l).getLast? = some a → ∃ p, rep a b c l = p ++ [a] ∧ rep a b c (l ++ b :: r) = p ++ c :: rep a b c r
  | [], r, h => by simp [rep] at h
  | [x], r, h => by
    have e : x = a := by simpa [rep] using h
    subst e
    refine ⟨[], rfl, ?_⟩
    show rep x b c (x :: b :: r) = _
    rw [rep, if_pos ⟨rfl, rfl⟩]
    rfl
  | x :: y :: l, r, h => by
    rw [rep] at h ⊢
    show ∃ p, _ ∧ rep a b c (x :: y :: (l ++ b :: r)) = _
    rw [rep]
    split
    · rename_i e
      rw [if_pos e] at h
      have h1 : (rep a b c l).getLast? = some a := by
        by_cases hn : rep a b c l = []
        · rw [hn] at h
          simp at h
          exact absurd h hca
        · rw [last_cons hn] at h; exact h
      obtain ⟨p, e1, e2⟩ := rep_cross a b c hca l r h1
      exact ⟨c :: p, by rw [e1]; rfl, by rw [e2]; rfl⟩
    · rename_i e
      rw [if_neg e, last_cons (rep_ne_nil _ _ _ _ (by simp))] at h
      obtain ⟨p, e1, e2⟩ := rep_cross a b c hca (y :: l) r h
      have e2' : rep a b c (y :: (l ++ b :: r)) = p ++ c :: rep a b c r := e2
      exact ⟨x :: p, by rw [e1]; rfl, by rw [e2']; rfl⟩
/-- at no stage below L a merge goes across -/
def NoX (T : List Ent) (L : Nat) (s u : List UInt8) : Prop := ∀ (k : Nat) m, k < L → (mrgsT T)[k]? = some m → ¬ ((stg T (k + 1) s).getLast? = some m.1 ∧ (stg T k u).head? = some m.2)
theorem stg_join {T : List Ent} {s u : List UInt8} : ∀ (L : Nat), NoX T L s u → stg T L (s ++ u) = stg T L s ++ stg T L u
  | 0, _ => by
    have e : ∀ s, stg T 0 s = bysI s := fun s => by unfold stg; simp [seqE]
    rw [e, e, e, bysI_append]
  | L + 1, h => by
    have ih := stg_join L (fun k m hk => h k m (by omega))
    cases hm : (mrgsT T)[L]? with
    | none => rw [stg_more hm, stg_more hm, stg_more hm, ih]
    | some m =>
      have h1 := h L m (by omega) hm
      rw [stg_succ hm] at h1
      rw [stg_succ hm, stg_succ hm, stg_succ hm, ih]
      exact rep_cat2 _ _ _ _ _ h1
theorem mrgs_ne {T : List Ent} (hT : OkT T) {k : Nat} {m : Int × Int} (h : (mrgsT T)[k]? = some m) : (256 : Int) + k ≠ m.1 := by
  have := mrgs_ok hT h
  omega
/-- made as two sides: nothing went across -/
theorem stg_apart {T : List Ent} (hT : OkT T) {s u : List UInt8} {L : Nat} {W1 W2 : List Int} (h : stg T L (s ++ u) = W1 ++ W2) (hl : (catT T W1).length = s.length) : NoX T L s u := by
  have key : ∀ k, k ≤ L → stg T k (s ++ u) = stg T k s ++ stg T k u := by
    intro k hk
    obtain ⟨M, c, hM⟩ := stg_later T hk
    have h1 := hM (s ++ u)
    rw [h] at h1
    obtain ⟨U1, U2, e1, e2, e3⟩ := seqE_split _ _ _ _ _ h1.symm
    have hc := stg_cut hT L s u h hl
    -- both sides' lengths: by the stages
    have hb : stg T k (s ++ u) = U1 ++ U2 := e1
    have hlen : (catT T U1).length = s.length := by
      have hW : catT T W1 = s := by rw [hc.1, stg_cat hT]
      -- U1 and W1 have the same bytes
      have hall := stg_cat hT k (s ++ u)
      rw [hb] at hall
      have hcat : catT T U1 ++ catT T U2 = s ++ u := by rw [← hall]; unfold catT; rw [List.flatMap_append]
      -- by encT_cut at any length: U1 is made of a beginning
      have hle : (catT T U1).length ≤ (s ++ u).length := by rw [← hcat, List.length_append]; omega
      have hU : catT T U1 = (s ++ u).take (catT T U1).length := by rw [← hcat]; simp
      have hV : catT T U2 = (s ++ u).drop (catT T U1).length := by rw [← hcat]; simp
      have hsp : (s ++ u).take (catT T U1).length ++ (s ++ u).drop (catT T U1).length = s ++ u := List.take_append_drop _ _
      have h2 := stg_cut hT k ((s ++ u).take (catT T U1).length) ((s ++ u).drop (catT T U1).length) (W1 := U1) (W2 := U2) (by rw [hsp]; exact hb) (by rw [List.length_take]; omega)
      have h3 := hM ((s ++ u).take (catT T U1).length)
      rw [← h2.1, ← e2] at h3
      have h4 := congrArg (catT T) h3
      rw [stg_cat hT, hW, ← hU] at h4
      rw [h4]
    have h5 := stg_cut hT k s u hb hlen
    rw [hb, ← h5.1, ← h5.2]
  intro k m hk hm ⟨h1, h2⟩
  have a1 := key k (by omega)
  have a2 := key (k + 1) (by omega)
  rw [stg_succ hm] at h1
  rw [stg_succ hm, stg_succ hm, stg_succ hm, a1] at a2
  cases hu : stg T k u with
  | nil => rw [hu] at h2; simp at h2
  | cons y r =>
    rw [hu] at h2 a2
    simp at h2
    subst h2
    obtain ⟨p, e1, e2⟩ := rep_cross m.1 m.2 (256 + k) (mrgs_ne hT hm) (stg T k s) r h1
    rw [e2, e1] at a2
    simp at a2
    exact absurd a2.1 (mrgs_ne hT hm)
end Go.Proofs.YtbppaiejpgdbiaaGreat

/- Layer 14 (spine): the walk tells where nothing goes across; tokens that are made of their bytes: the plain law. -/
namespace Go.Proofs.YtbppaiejpgdbiaaGreat
set_option linter.unusedVariables false
set_option linter.unusedSimpArgs false

/-- down the right spine to what is there at stage k -/
inductive IsR (T : List Ent) : Int → Nat → Int → Prop
  | here {a : Int} {k : Nat} : a < 256 + (k : Int) → IsR T a k a
  | down {a : Int} {k : Nat} {r : Int} : 256 + (k : Int) ≤ a → IsR T (parT T a).2 k r → IsR T a k r
/-- down the left spine -/
inductive IsL (T : List Ent) : Int → Nat → Int → Prop
  | here {a : Int} {k : Nat} : a < 256 + (k : Int) → IsL T a k a
  | down {a : Int} {k : Nat} {r : Int} : 256 + (k : Int) ≤ a → IsL T (parT T a).1 k r → IsL T a k r
theorem isR_here {T : List Ent} {a : Int} {k : Nat} {r : Int} (h : IsR T a k r) (ha : a < 256 + (k : Int)) : r = a := by
  cases h with
  | here _ => rfl
  | down h1 _ => omega
theorem isR_down {T : List Ent} {a : Int} {k : Nat} {r : Int} (h : IsR T a k r) (ha : 256 + (k : Int) ≤ a) : IsR T (parT T a).2 k r := by
  cases h with
  | here _ => omega
  | down _ h => exact h
theorem isL_here {T : List Ent} {a : Int} {k : Nat} {r : Int} (h : IsL T a k r) (ha : a < 256 + (k : Int)) : r = a := by
  cases h with
  | here _ => rfl
  | down h1 _ => omega
theorem isL_down {T : List Ent} {a : Int} {k : Nat} {r : Int} (h : IsL T a k r) (ha : 256 + (k : Int) ≤ a) : IsL T (parT T a).1 k r := by
  cases h with
  | here _ => omega
  | down _ h => exact h
theorem isR_ex {T : List Ent} (hT : OkT T) (k : Nat) : ∀ (n : Nat) (a : Int), a.toNat < n → hasT T a = true → ∃ r, IsR T a k r
  | 0, _, h, _ => absurd h (Nat.not_lt_zero _)
  | n + 1, a, h, ha => by
    by_cases hk : a < 256 + (k : Int)
    · exact ⟨a, .here hk⟩
    · obtain ⟨_, p2, _, p4⟩ := par_has hT ha (by omega)
      have := hasT_iff.1 p2
      have := hasT_iff.1 ha
      obtain ⟨r, hr⟩ := isR_ex hT k n (parT T a).2 (by omega) p2
      exact ⟨r, .down (by omega) hr⟩
theorem isL_ex {T : List Ent} (hT : OkT T) (k : Nat) : ∀ (n : Nat) (a : Int), a.toNat < n → hasT T a = true → ∃ r, IsL T a k r
  | 0, _, h, _ => absurd h (Nat.not_lt_zero _)
  | n + 1, a, h, ha => by
    by_cases hk : a < 256 + (k : Int)
    · exact ⟨a, .here hk⟩
    · obtain ⟨p2, _, p4, _⟩ := par_has hT ha (by omega)
      have := hasT_iff.1 p2
      have := hasT_iff.1 ha
      obtain ⟨r, hr⟩ := isL_ex hT k n (parT T a).1 (by omega) p2
      exact ⟨r, .down (by omega) hr⟩
/-- below a limit nothing goes across from one token's right spine to another one's left spine -/
def NC (T : List Ent) (a b lim : Int) : Prop := ∀ (k : Nat) (r l : Int), 256 + (k : Int) < lim → IsR T a (k + 1) r → IsL T b k l → (mrgsT T)[k]? ≠ some (r, l)
theorem pairB_at {T : List Ent} (hT : OkT T) {lim : Int} {k : Nat} {a b : Int} (hm : (mrgsT T)[k]? = some (a, b)) (hk : 256 + (k : Int) < lim) : (pairB T lim a b).isSome = true := by
  have : pairB T lim a b = some (256 + (k : Int)) := (pairB_iff hT lim a b _).2 ⟨k, by unfold mrgsB; rw [List.getElem?_take, if_pos (by omega)]; exact hm, rfl⟩
  rw [this]; rfl
theorem walk_nc {T : List Ent} (hT : OkT T) : ∀ (n : Nat) (a b lim : Int), a.toNat + b.toNat < n → hasT T a = true → hasT T b = true → a < lim → b < lim → ((wlkT T a b lim).1 = true ↔ NC T a b lim)
  | 0, _, _, _, h, _, _, _, _ => absurd h (Nat.not_lt_zero _)
  | n + 1, a, b, lim, h, ha, hb, hal, hbl => by
    cases hp : (pairB T lim a b).isSome with
    | true =>
      rw [wlk_blocked hp]
      constructor
      · intro h; simp at h
      · intro hn
        exfalso
        obtain ⟨r, hr⟩ := Option.isSome_iff_exists.1 hp
        obtain ⟨k, hk, rfl⟩ := (pairB_iff hT lim a b r).1 hr
        unfold mrgsB at hk
        rw [List.getElem?_take] at hk
        by_cases hlt : k < (lim - 256).toNat
        · rw [if_pos hlt] at hk
          obtain ⟨_, _, _, h3, h4⟩ := mrgs_ok hT hk
          simp only at h3 h4
          exact hn k a b (by omega) (.here (by omega)) (.here (by omega)) hk
        · rw [if_neg hlt] at hk; simp at hk
    | false =>
      have hnp : ∀ k : Nat, 256 + (k : Int) < lim → (mrgsT T)[k]? ≠ some (a, b) := fun k hk hm => by
        have := pairB_at hT hm hk
        rw [hp] at this; simp at this
      by_cases h2 : a < 256 ∧ b < 256
      · rw [wlk_bytes hp h2]
        refine ⟨fun _ => ?_, fun _ => rfl⟩
        intro k r l hk hr hl hm
        rw [isR_here hr (by omega), isL_here hl (by omega)] at hm
        exact hnp k hk hm
      · rw [wlk_next hT ha hb hp h2]
        obtain ⟨q1, q2, q3⟩ := nxt_has hT ha hb h2
        show (wlkT T (nxtW T a b).1 (nxtW T a b).2.1 (nxtW T a b).2.2).1 = true ↔ _
        unfold nxtW at q1 q2 q3 ⊢
        by_cases hc : b < 256 ∨ a > b
        · rw [if_pos hc] at q1 q2 q3 ⊢
          have ha2 : 256 ≤ a := by omega
          have hab : b < a := by omega
          obtain ⟨_, _, _, p4⟩ := par_has hT ha ha2
          rw [walk_nc hT n (parT T a).2 b a (by omega) q1 q2 p4 hab]
          constructor
          · intro hn k r l hk hr hl hm
            by_cases hka : 256 + (k : Int) < a
            · exact hn k r l hka (isR_down hr (by omega)) hl hm
            · rw [isR_here hr (by omega), isL_here hl (by omega)] at hm
              exact hnp k hk hm
          · intro hn k r l hk hr hl
            exact hn k r l (by omega) (.down (by omega) hr) hl
        · rw [if_neg hc] at q1 q2 q3 ⊢
          have hb2 : 256 ≤ b := by omega
          have hab : a ≤ b := by omega
          obtain ⟨_, _, p3, _⟩ := par_has hT hb hb2
          rw [walk_nc hT n a (parT T b).1 (b + 1) (by omega) q1 q2 (by omega) (by omega)]
          constructor
          · intro hn k r l hk hr hl hm
            by_cases hkb : 256 + (k : Int) ≤ b
            · exact hn k r l (by omega) hr (isL_down hl hkb) hm
            · rw [isR_here hr (by omega), isL_here hl (by omega)] at hm
              exact hnp k hk hm
          · intro hn k r l hk hr hl
            exact hn k r l (by omega) hr (.down (by omega) hl)

/-! alone -/
/-- is a token what is made of its bytes -/
def Aln (T : List Ent) (a : Int) : Prop := encT T T.length (bytesT T a) = [a]
theorem mrgs_par {T : List Ent} (hT : OkT T) {k : Nat} {a : Int} (ha : hasT T a = true) (e : a = 256 + (k : Int)) : (mrgsT T)[k]? = some (parT T a) := by
  subst e
  have h1 := hasT_iff.1 ha
  have hk : 256 + k < T.length := by omega
  obtain ⟨q1, _⟩ := made_all hT (i := 256 + k) (by omega) hk
  have e2 : (256 : Int) + (k : Int) = ((256 + k : Nat) : Int) := by omega
  rw [e2]
  unfold parT
  rw [if_pos q1]
  unfold mrgsT
  rw [entT_nat _ _ hk]
  simp [List.getElem?_drop, hk]
theorem par_bytes {T : List Ent} (hT : OkT T) {a : Int} (ha : hasT T a = true) (h2 : 256 ≤ a) : bytesT T a = bytesT T (parT T a).1 ++ bytesT T (parT T a).2 := by
  obtain ⟨k, rfl, hk, _⟩ := hasT_at ha
  obtain ⟨_, _, _, _, q5, _⟩ := made_all hT (i := k) (by omega) hk
  exact q5
theorem bytes_pos {T : List Ent} (hT : OkT T) {a : Int} (ha : hasT T a = true) : 0 < (bytesT T a).length := by
  unfold bytesT
  rw [if_pos ha]
  obtain ⟨k, rfl, hk, e⟩ := hasT_at ha
  rw [e]
  exact (hT.len _ (List.getElem_mem hk)).1
theorem catT_nil {T : List Ent} (hT : OkT T) {l : List Int} (h : ∀ x ∈ l, hasT T x = true) (hc : catT T l = []) : l = [] := by
  cases l with
  | nil => rfl
  | cons x l =>
    exfalso
    have := bytes_pos hT (h x (by simp))
    unfold catT at hc
    rw [List.flatMap_cons, List.append_eq_nil_iff] at hc
    rw [hc.1] at this
    simp at this
theorem stg_byte {T : List Ent} (hT : OkT T) {a : Int} (ha : hasT T a = true) (h2 : a < 256) (k : Nat) : stg T k (bytesT T a) = [a] := by
  have := hasT_iff.1 ha
  obtain ⟨i, rfl⟩ := Int.eq_ofNat_of_zero_le this.1
  have hb := (byte_has hT (i := i) (by omega)).2
  unfold stg
  rw [hb]
  have : bysI [UInt8.ofNat i] = [(i : Int)] := by
    unfold bysI
    simp
    omega
  rw [this, seqE_single]
theorem len_mrgs {T : List Ent} : (mrgsT T).length = T.length - 256 := by unfold mrgsT; simp
theorem aln_stg {T : List Ent} {a : Int} : Aln T a ↔ stg T (mrgsT T).length (bytesT T a) = [a] := by
  unfold Aln
  rw [encT_stg, len_mrgs]
  have : ((T.length : Int) - 256).toNat = T.length - 256 := by omega
  rw [this]
theorem rep_in (a b c : Int) : ∀ l : List Int, c ∈ rep a b c l → c ∈ l ∨ Adj l a b
  | [], h => .inl h
  | [x], h => .inl h
  | x :: y :: l, h => by
    rw [rep] at h
    split at h
    · rename_i e
      refine .inr ?_
      rw [adj_cons2]
      exact .inl ⟨e.1, e.2⟩
    · rcases List.mem_cons.1 h with h | h
      · exact .inl (by simp [h])
      · rcases rep_in a b c (y :: l) h with h | h
        · exact .inl (List.mem_cons_of_mem _ h)
        · refine .inr ?_
          rw [adj_cons2]
          exact .inr h
theorem rep_mem (a b c : Int) : ∀ (l : List Int) (x : Int), x ∈ rep a b c l → x = c ∨ x ∈ l
  | [], x, h => .inr h
  | [z], x, h => .inr h
  | u :: v :: l, x, h => by
    rw [rep] at h
    split at h
    · rcases List.mem_cons.1 h with h | h
      · exact .inl h
      · rcases rep_mem a b c l x h with h | h
        · exact .inl h
        · exact .inr (by simp [h])
    · rcases List.mem_cons.1 h with h | h
      · exact .inr (by simp [h])
      · rcases rep_mem a b c (v :: l) x h with h | h
        · exact .inl h
        · exact .inr (List.mem_cons_of_mem _ h)
/-- what isn't there behind its own stage is never there -/
theorem stg_never {T : List Ent} {j : Nat} {s : List UInt8} (h : (256 + (j : Int)) ∉ stg T (j + 1) s) : ∀ k, j < k → (256 + (j : Int)) ∉ stg T k s
  | 0, hk => by omega
  | k + 1, hk => by
    by_cases e : k = j
    · subst e; exact h
    · have ih := stg_never h k (by omega)
      cases hm : (mrgsT T)[k]? with
      | none => rw [stg_more hm]; exact ih
      | some m =>
        rw [stg_succ hm]
        intro hx
        rcases rep_mem _ _ _ _ _ hx with hx | hx
        · omega
        · exact ih hx
theorem aln_iff {T : List Ent} (hT : OkT T) {a : Int} (ha : hasT T a = true) {j : Nat} (e : a = 256 + (j : Int)) : Aln T a ↔ stg T j (bytesT T a) = [(parT T a).1, (parT T a).2] := by
  have hm := mrgs_par hT ha e
  have hj : j < (mrgsT T).length := (List.getElem?_eq_some_iff.1 hm).1
  have h2 : 256 ≤ a := by omega
  obtain ⟨p1, p2, p3, p4⟩ := par_has hT ha h2
  rw [aln_stg]
  constructor
  · intro h
    have hin : (256 + (j : Int)) ∈ stg T (j + 1) (bytesT T a) := by
      apply Classical.byContradiction
      intro hn
      have := stg_never hn (mrgsT T).length hj
      rw [h] at this
      simp at this
      omega
    rw [stg_succ hm] at hin
    rcases rep_in _ _ _ _ hin with h1 | ⟨u, v, h1⟩
    · have := stg_lt T j _ _ h1
      omega
    · have hc := stg_cat hT j (bytesT T a)
      have hh := stg_has hT j (bytesT T a)
      rw [h1] at hc hh
      have hb := par_bytes hT ha h2
      have hl := congrArg List.length hc
      rw [hb] at hl
      unfold catT at hl
      rw [List.flatMap_append, List.flatMap_cons, List.flatMap_cons] at hl
      simp only [List.length_append] at hl
      have hu : u = [] := catT_nil hT (fun x hx => hh x (by simp [hx])) (List.eq_nil_of_length_eq_zero (by unfold catT; omega))
      have hv : v = [] := catT_nil hT (fun x hx => hh x (by simp [hx])) (List.eq_nil_of_length_eq_zero (by unfold catT; omega))
      rw [h1, hu, hv]
      rfl
  · intro h
    refine stg_keep (j := j + 1) hj ?_
    rw [stg_succ hm, h, rep, if_pos ⟨rfl, rfl⟩, e]
    rfl
/-- a token that is made of its bytes is there from its own stage on -/
theorem aln_from {T : List Ent} (hT : OkT T) {a : Int} (ha : hasT T a = true) (h : Aln T a) {k : Nat} (hk : a < 256 + (k : Int)) : stg T k (bytesT T a) = [a] := by
  by_cases h2 : a < 256
  · exact stg_byte hT ha h2 k
  · obtain ⟨j, hj⟩ : ∃ j : Nat, a = 256 + (j : Int) := ⟨(a - 256).toNat, by omega⟩
    have h1 := (aln_iff hT ha hj).1 h
    refine stg_keep (j := j + 1) (by omega) ?_
    rw [stg_succ (mrgs_par hT ha hj), h1, rep, if_pos ⟨rfl, rfl⟩, hj]
    rfl
/-- its parents are, too -/
theorem aln_par {T : List Ent} (hT : OkT T) {a : Int} (ha : hasT T a = true) {j : Nat} (e : a = 256 + (j : Int)) (h : Aln T a) :
    Aln T (parT T a).1 ∧ Aln T (parT T a).2 ∧ NoX T j (bytesT T (parT T a).1) (bytesT T (parT T a).2) := by
  have h1 := (aln_iff hT ha e).1 h
  rw [par_bytes hT ha (by omega)] at h1
  have hj : j < (mrgsT T).length := (List.getElem?_eq_some_iff.1 (mrgs_par hT ha e)).1
  have hl : (catT T [(parT T a).1]).length = (bytesT T (parT T a).1).length := by simp [catT]
  have h2 := stg_cut hT j _ _ (W1 := [(parT T a).1]) (W2 := [(parT T a).2]) h1 hl
  refine ⟨aln_stg.2 (stg_keep (Nat.le_of_lt hj) h2.1.symm), aln_stg.2 (stg_keep (Nat.le_of_lt hj) h2.2.symm), stg_apart hT (W1 := [(parT T a).1]) (W2 := [(parT T a).2]) h1 hl⟩
theorem stg_ne {T : List Ent} (hT : OkT T) (k : Nat) {s : List UInt8} (h : 0 < s.length) : stg T k s ≠ [] := by
  intro e
  have := stg_cat hT k s
  rw [e] at this
  rw [← this] at h
  simp [catT] at h
theorem last_append {l r : List Int} (h : r ≠ []) : (l ++ r).getLast? = r.getLast? := by
  rw [List.getLast?_append]
  cases hr : r.getLast? with
  | none => rw [List.getLast?_eq_none_iff] at hr; exact absurd hr h
  | some x => rfl
theorem head_append {l r : List Int} (h : l ≠ []) : (l ++ r).head? = l.head? := by
  cases l with
  | nil => exact absurd rfl h
  | cons x l => rfl
theorem nox_mono {T : List Ent} {L k : Nat} {s u : List UInt8} (h : NoX T L s u) (hk : k ≤ L) : NoX T k s u := fun j m hj => h j m (by omega)
theorem aln_last {T : List Ent} (hT : OkT T) {a : Int} {k : Nat} {r : Int} (hr : IsR T a k r) : hasT T a = true → Aln T a → (stg T k (bytesT T a)).getLast? = some r := by
  induction hr with
  | here h => intro ha hA; rw [aln_from hT ha hA h]; rfl
  | down h _ ih =>
    rename_i a k r _
    intro ha hA
    obtain ⟨j, hj⟩ : ∃ j : Nat, a = 256 + (j : Int) := ⟨(a - 256).toNat, by omega⟩
    obtain ⟨p1, p2, p3, p4⟩ := par_has hT ha (by omega)
    obtain ⟨_, h2, h3⟩ := aln_par hT ha hj hA
    rw [par_bytes hT ha (by omega), stg_join k (nox_mono h3 (by omega)), last_append (stg_ne hT k (bytes_pos hT p2))]
    exact ih p2 h2
theorem aln_head {T : List Ent} (hT : OkT T) {a : Int} {k : Nat} {r : Int} (hr : IsL T a k r) : hasT T a = true → Aln T a → (stg T k (bytesT T a)).head? = some r := by
  induction hr with
  | here h => intro ha hA; rw [aln_from hT ha hA h]; rfl
  | down h _ ih =>
    rename_i a k r _
    intro ha hA
    obtain ⟨j, hj⟩ : ∃ j : Nat, a = 256 + (j : Int) := ⟨(a - 256).toNat, by omega⟩
    obtain ⟨p1, p2, p3, p4⟩ := par_has hT ha (by omega)
    obtain ⟨h1, _, h3⟩ := aln_par hT ha hj hA
    rw [par_bytes hT ha (by omega), stg_join k (nox_mono h3 (by omega)), head_append (stg_ne hT k (bytes_pos hT p1))]
    exact ih p1 h1
/-- two that are made of their bytes: nothing goes across just where the spines say so -/
theorem nox_nc {T : List Ent} (hT : OkT T) {a b : Int} (ha : hasT T a = true) (hb : hasT T b = true) (hA : Aln T a) (hB : Aln T b) (L : Nat) : NoX T L (bytesT T a) (bytesT T b) ↔ NC T a b (256 + (L : Int)) := by
  constructor
  · intro h k r l hk hr hl hm
    exact h k (r, l) (by omega) hm ⟨aln_last hT hr ha hA, aln_head hT hl hb hB⟩
  · intro h k m hk hm ⟨h1, h2⟩
    obtain ⟨r, hr⟩ := isR_ex hT (k + 1) (a.toNat + 1) a (Nat.lt_succ_self _) ha
    obtain ⟨l, hl⟩ := isL_ex hT k (b.toNat + 1) b (Nat.lt_succ_self _) hb
    rw [aln_last hT hr ha hA] at h1
    rw [aln_head hT hl hb hB] at h2
    simp at h1 h2
    exact h k r l (by omega) hr hl (by rw [hm, h1, h2])
/-- a token is made of its bytes: its parents are, and may stand side by side below it -/
theorem aln_walk {T : List Ent} (hT : OkT T) {a : Int} (ha : hasT T a = true) (h2 : 256 ≤ a) : Aln T a ↔ Aln T (parT T a).1 ∧ Aln T (parT T a).2 ∧ (wlkT T (parT T a).1 (parT T a).2 a).1 = true := by
  obtain ⟨j, hj⟩ : ∃ j : Nat, a = 256 + (j : Int) := ⟨(a - 256).toNat, by omega⟩
  obtain ⟨p1, p2, p3, p4⟩ := par_has hT ha h2
  rw [walk_nc hT ((parT T a).1.toNat + (parT T a).2.toNat + 1) _ _ _ (Nat.lt_succ_self _) p1 p2 p3 p4]
  constructor
  · intro h
    obtain ⟨h3, h4, h5⟩ := aln_par hT ha hj h
    have := (nox_nc hT p1 p2 h3 h4 j).1 h5
    rw [← hj] at this
    exact ⟨h3, h4, this⟩
  · rintro ⟨h3, h4, h5⟩
    have h6 : NC T (parT T a).1 (parT T a).2 (256 + (j : Int)) := by rw [← hj]; exact h5
    have h7 := (nox_nc hT p1 p2 h3 h4 j).2 h6
    rw [aln_iff hT ha hj, par_bytes hT ha h2, stg_join j h7, aln_from hT p1 h3 (by omega), aln_from hT p2 h4 (by omega)]
    rfl
theorem aln_byte {T : List Ent} (hT : OkT T) {a : Int} (ha : hasT T a = true) (h2 : a < 256) : Aln T a := aln_stg.2 (stg_byte hT ha h2 _)
end Go.Proofs.YtbppaiejpgdbiaaGreat

/- Layer 14 (spine): Alone tells which tokens are made of their bytes: the plain law. -/
namespace Go.Proofs.YtbppaiejpgdbiaaGreat
set_option linter.unusedVariables false
set_option linter.unusedSimpArgs false
theorem alT_iff {T : List Ent} (hT : OkT T) : ∀ (n : Nat) (id : Int), id.toNat < n → (alT T n id = true ↔ hasT T id = true ∧ Aln T id)
  | 0, _, h => absurd h (Nat.not_lt_zero _)
  | n + 1, id, h => by
    rw [alT]
    by_cases hb : bornT T id = true
    · rw [if_pos hb]
      obtain ⟨h0, h2⟩ := born_le hT hb
      obtain ⟨p1, p2, p3, p4⟩ := par_has hT h0 h2
      have b1 := hasT_iff.1 p1
      have b2 := hasT_iff.1 p2
      rw [Bool.and_eq_true, Bool.and_eq_true, alT_iff hT n (parT T id).1 (by omega), alT_iff hT n (parT T id).2 (by omega), aln_walk hT h0 h2]
      constructor
      · rintro ⟨⟨⟨_, h3⟩, _, h4⟩, h5⟩
        exact ⟨h0, h3, h4, h5⟩
      · rintro ⟨_, h3, h4, h5⟩
        exact ⟨⟨⟨p1, h3⟩, p2, h4⟩, h5⟩
    · rw [if_neg hb]
      constructor
      · intro h0
        refine ⟨h0, aln_byte hT h0 ?_⟩
        rw [born_iff hT h0] at hb
        simpa using hb
      · exact fun h => h.1
end Go.Proofs.YtbppaiejpgdbiaaGreat

/- Layer 14 (spine): the document's walk. -/
namespace Go.Proofs.YtbppaiejpgdbiaaGreat
open Go.RowKit Go.Maps Go.WideMaps
set_option maxRecDepth 100000
set_option linter.unusedVariables false
set_option linter.unusedSimpArgs false
theorem pairI_none {T : List Ent} {a b : Int} (h : pairT T (a, b) = none) : pairI T (a, b) = -1 := by unfold pairI; rw [h]
theorem pairI_some {T : List Ent} {a b : Int} {i : Nat} (h : pairT T (a, b) = some i) : pairI T (a, b) = (i : Int) := by unfold pairI; rw [h]
/-- how the walk's limit lets a pair by -/
theorem pairI_blk {T : List Ent} {a b lim : Int} (h : (pairB T lim a b).isSome = true) : 0 ≤ pairI T (a, b) ∧ pairI T (a, b) < lim := by
  unfold pairB at h
  cases hp : pairT T (a, b) with
  | none => rw [hp] at h; simp at h
  | some i =>
    rw [hp] at h
    rw [pairI_some hp]
    simp only [Option.bind_some] at h
    split at h
    · omega
    · simp at h
theorem pairI_free {T : List Ent} {a b lim : Int} (h : (pairB T lim a b).isSome = false) : ¬ 0 ≤ pairI T (a, b) ∨ (0 ≤ pairI T (a, b) ∧ ¬ pairI T (a, b) < lim) := by
  unfold pairB at h
  cases hp : pairT T (a, b) with
  | none => rw [pairI_none hp]; exact .inl (by decide)
  | some i =>
    rw [hp] at h
    rw [pairI_some hp]
    simp only [Option.bind_some] at h
    split at h
    · simp at h
    · exact .inr (by omega)
structure RWalk (w W : World) (base : Nat) (T : List Ent) (vb vm : Value) (a b lim A B L : Int) (m : Nat) : Prop where
  ref : RefIs W base T vb vm
  box : W.heap[w.heap.size]? = some (.cells #[vb, vm] 34)
  blw : Below w.heap.size w W
  ha : hasT T A = true
  hb : hasT T B = true
  h0 : hasT T a = true ∧ hasT T b = true
  eq : wlkT T a b lim = ((wlkT T A B L).1, (wlkT T A B L).2 + m)
section
variable {w W W' : World} {base m : Nat} {T : List Ent} {vb vm : Value} {a b lim A B L : Int}
theorem RWalk.below (h : RWalk w W base T vb vm a b lim A B L m) (hb : Below W.heap.size W W') : RWalk w W' base T vb vm a b lim A B L m :=
  ⟨h.ref.below hb (Nat.le_refl _), blk_below hb (blk_lt h.box) h.box, h.blw.trans (hb.mono h.blw.size), h.ha, h.hb, h.h0, h.eq⟩
theorem RWalk.next (h : RWalk w W base T vb vm a b lim A B L m) (hT : OkT T) (hp : (pairB T L A B).isSome = false) (hn : ¬ (A < 256 ∧ B < 256)) {A' B' L' : Int} (e : nxtW T A B = (A', B', L')) : RWalk w W base T vb vm a b lim A' B' L' (m + 1) := by
  obtain ⟨q1, q2, q3⟩ := nxt_has hT h.ha h.hb hn
  have h1 := wlk_next hT h.ha h.hb hp hn
  rw [e] at q1 q2 h1
  refine ⟨h.ref, h.box, h.blw, q1, q2, h.h0, ?_⟩
  rw [h.eq, h1]
  simp only
  congr 1
  omega
theorem RWalk.len (h : RWalk w W base T vb vm a b lim A B L m) (hT : OkT T) : m ≤ 2000000 := by
  have h1 := wlk_len hT (a.toNat + b.toNat) a b lim (Nat.le_refl _) h.h0.1 h.h0.2
  rw [h.eq] at h1
  simp only at h1
  have h2 := hasT_iff.1 h.h0.1
  have h3 := hasT_iff.1 h.h0.2
  have := hT.small
  omega
theorem RWalk.cell {A1 A2 : Option Addr} {c1 c2 N M j : Nat} (h : RWalk w W base T (.slice A1 N c1) (.slice A2 M c2) a b lim A B L m) (hT : OkT T) {X : Int} (hX : hasT T X = true) (hj : X = 256 + (j : Int)) :
    j < (mrgsT T).length ∧ ∃ g o, (.slice A2 M c2 : Value) = .slice (some ⟨g, o, none⟩) M c2 ∧ W.cell? ⟨g, o + j * 2, none⟩ = some (.int .i64 (parT T X).1) ∧ W.cell? ⟨g, o + j * 2 + 1, none⟩ = some (.int .i64 (parT T X).2) := by
  have hm := mrgs_par hT hX hj
  obtain ⟨hlt, he⟩ := List.getElem?_eq_some_iff.1 hm
  obtain ⟨A', c', e⟩ := own_slice h.ref.mrg
  injection e with e1 e2 e3
  subst e1; subst e2; subst e3
  obtain ⟨g, o, hA, hc⟩ := (own_sl (enc := encM) (fun _ => rfl) h.ref.mrg (by decide)).at j hlt
  subst hA
  rw [he] at hc
  exact ⟨hlt, g, o, rfl, hc 0 _ rfl, hc 1 _ rfl⟩
set_option maxHeartbeats 4000000 in
theorem rwalk_any (h : RefIs w base T vb vm) (hT : OkT T) (ha : hasT T a = true) (hb : hasT T b = true) :
    Calls Tryz.prog 32 #[.agg #[vb, vm], .int .i64 a, .int .i64 b, .int .i64 lim] w fun e w' => e = .returned (.tuple #[.bool (wlkT T a b lim).1, .int .i64 ((wlkT T a b lim).2 : Nat)]) ∧ Below w.heap.size w w' := by
  obtain ⟨A1, c1, rfl⟩ := own_slice h.row
  obtain ⟨A2, c2, hvm⟩ := own_slice h.mrg
  subst hvm
  have HW : Hid (RWalk w (w.alloc (.cells #[.slice A1 T.length c1, .slice A2 (mrgsT T).length c2] 34)) base T (.slice A1 T.length c1) (.slice A2 (mrgsT T).length c2) a b lim a b lim 0) := Lib.hid (by
    have hb0 := (Below.refl w.heap.size w).alloc (Nat.le_refl _) (.cells #[.slice A1 T.length c1, .slice A2 (mrgsT T).length c2] 34)
    exact ⟨h.below hb0 (Nat.le_refl _), blk_new _ _, hb0, ha, hb, ⟨ha, hb⟩, rfl⟩)
  have HT := Lib.hid hT
  have hsm := hT.small
  have HSM := Lib.hid hsm
  have HML : Hid ((mrgsT T).length ≤ 1000) := Lib.hid (by rw [mrgs_len]; omega)
  clear h hT ha hb hsm
  go_enter Tryz.func32, Tryz.ntmps32
  go_wp2_with fail
  generalize w.alloc (.cells #[.slice A1 T.length c1, .slice A2 (mrgsT T).length c2] 34) = W0 at *
  obtain ⟨N, hN⟩ : ∃ N, T.length = N := ⟨_, rfl⟩
  obtain ⟨M, hM⟩ : ∃ M, (mrgsT T).length = M := ⟨_, rfl⟩
  have HN := Lib.hid hN
  have HM := Lib.hid hM
  rw [hN] at HW HSM
  rw [hM] at HW HML
  clear hN hM
  go_loopg [1, 2, 3, 10] (a.toNat + b.toNat) (fun n x y z i W => ∃ (A B L : Int) (m : Nat), x = .int .i64 A ∧ y = .int .i64 B ∧ z = .int .i64 L ∧ i = .int .i64 (m : Int) ∧ A.toNat + B.toNat ≤ n ∧ RWalk w W base T (.slice A1 N c1) (.slice A2 M c2) a b lim A B L m)
  case atStart => exact ⟨a, b, lim, 0, rfl, rfl, rfl, rfl, Nat.le_refl _, HW.out⟩
  case round =>
    obtain ⟨A, B, L, m, rfl, rfl, rfl, rfl, hle, hw⟩ := hrel
    clear HW
    rename World => W
    have HW := Lib.hid hw
    have HLE := Lib.hid hle
    clear hw hle
    have n0 := blk_cell HW.out.box 0
    have n1 := blk_cell HW.out.box 1
    simp only [List.getElem?_toArray, List.getElem?_cons_zero, List.getElem?_cons_succ] at n0 n1
    obtain ⟨v, hv⟩ : ∃ v, pairI T (A, B) = v := ⟨_, rfl⟩
    have HP := Lib.hid (rpair_any A B HW.out.ref HT.out)
    rw [hv] at HP
    have HV := Lib.hid hv
    clear hv
    cases hblk : (pairB T L A B).isSome with
    | true =>
      obtain ⟨v0, v1⟩ := pairI_blk hblk
      rw [HV.out] at v0 v1
      have HBK := Lib.hid hblk
      clear hblk
      go_wp2_with (go_at_call 62; refine HP.out.mono ?_; rintro e W1 ⟨rfl, hb⟩; (replace HW := Lib.hid (HW.out.below hb)); clear hb)
      go_ret2
      refine ⟨?_, HW.out.blw⟩
      rw [HW.out.eq, wlk_blocked HBK.out]
      simp
    | false =>
      have hfr := pairI_free hblk
      rw [HV.out] at hfr
      have HBK := Lib.hid hblk
      clear hblk
      rcases hfr with v0 | ⟨v0, v1⟩
      · by_cases h2 : A < 256 ∧ B < 256
        · obtain ⟨a2, b2⟩ := h2
          go_wp2_with (go_at_call 62; refine HP.out.mono ?_; rintro e W1 ⟨rfl, hb⟩; (replace HW := Lib.hid (HW.out.below hb)); (replace n0 := blk_cell HW.out.box 0); (replace n1 := blk_cell HW.out.box 1); (simp only [List.getElem?_toArray, List.getElem?_cons_zero, List.getElem?_cons_succ] at n0 n1); clear hb)
          go_ret2
          refine ⟨?_, HW.out.blw⟩
          rw [HW.out.eq, wlk_bytes HBK.out ⟨a2, b2⟩]
          simp
        · have H2 := Lib.hid h2
          clear h2
          have ws : IntKind.i64.wrap ((m : Int) + 1) = (m : Int) + 1 := IntWalk.i64_in _ (by have := HW.out.len HT.out; have := HSM.out; omega)
          by_cases hc : B < 256 ∨ A > B
          · have HNX := Lib.hid (show nxtW T A B = _ from if_pos hc)
            obtain ⟨j, hj⟩ : ∃ j : Nat, A = 256 + (j : Int) := ⟨(A - 256).toNat, by have := H2.out; omega⟩
            have HJ := Lib.hid hj
            have HX := Lib.hid (HW.out.cell HT.out HW.out.ha hj)
            have wj : IntKind.i64.wrap (A - 256) = (j : Int) := by rw [show A - 256 = (j : Int) by omega]; exact IntWalk.i64_in _ (by have := HX.out.1; have := HML.out; have := HM.out; omega)
            have j0 : (0 : Int) ≤ (j : Int) := by omega
            have j1 : (j : Int) < (M : Int) := by have := HX.out.1; have := HM.out; omega
            have x256 : ¬ A < 256 := by omega
            obtain ⟨g, o, hA2, hcc⟩ := HX.out.2
            injection hA2 with hA2 _ _
            subst hA2
            have HCC := Lib.hid hcc
            clear hcc
            obtain ⟨p1, p2, p3, p4⟩ := par_has HT.out HW.out.ha (by omega)
            have HPH := Lib.hid (And.intro p3 p4)
            obtain ⟨q, hq⟩ : ∃ q, (parT T A).2 = q := ⟨_, rfl⟩
            have HQ := Lib.hid hq
            rw [hq] at HNX
            have cc : ∀ V, Below W.heap.size W V → V.cell? ⟨g, o + j * 2 + 1, none⟩ = some (.int .i64 q) := fun V hV => by have := HCC.out.2; rw [hq] at this; exact below_cell hV (Nat.le_refl _) this
            have HC := Lib.hid cc
            clear cc hq p1 p2 p3 p4 hj HX
            have HWN := Lib.hid (HW.out.next HT.out HBK.out H2.out HNX.out)
            by_cases b2 : B < 256
            · go_wp2_with (go_at_call 62; refine HP.out.mono ?_; rintro e W1 ⟨rfl, hb⟩; (replace HW := Lib.hid (HW.out.below hb)); (replace n0 := blk_cell HW.out.box 0); (replace n1 := blk_cell HW.out.box 1); (simp only [List.getElem?_toArray, List.getElem?_cons_zero, List.getElem?_cons_succ] at n0 n1); (have c9 := HC.out _ hb); (replace HWN := Lib.hid (HWN.out.below hb)); clear hb)
              go_roundg (gk - 1)
              case measure => have := HLE.out; have := HPH.out; have := HQ.out; have := HJ.out; have := hasT_iff.1 HWN.out.ha; have := hasT_iff.1 HWN.out.hb; omega
              case rel => exact ⟨q, B, A, m + 1, rfl, rfl, rfl, by simp, by have := HLE.out; have := HPH.out; have := HQ.out; have := HJ.out; have := hasT_iff.1 HWN.out.ha; have := hasT_iff.1 HWN.out.hb; omega, HWN.out⟩
            · have hab : B < A := by omega
              go_wp2_with (go_at_call 62; refine HP.out.mono ?_; rintro e W1 ⟨rfl, hb⟩; (replace HW := Lib.hid (HW.out.below hb)); (replace n0 := blk_cell HW.out.box 0); (replace n1 := blk_cell HW.out.box 1); (simp only [List.getElem?_toArray, List.getElem?_cons_zero, List.getElem?_cons_succ] at n0 n1); (have c9 := HC.out _ hb); (replace HWN := Lib.hid (HWN.out.below hb)); clear hb)
              go_roundg (gk - 1)
              case measure => have := HLE.out; have := HPH.out; have := HQ.out; have := HJ.out; have := hasT_iff.1 HWN.out.ha; have := hasT_iff.1 HWN.out.hb; omega
              case rel => exact ⟨q, B, A, m + 1, rfl, rfl, rfl, by simp, by have := HLE.out; have := HPH.out; have := HQ.out; have := HJ.out; have := hasT_iff.1 HWN.out.ha; have := hasT_iff.1 HWN.out.hb; omega, HWN.out⟩
          · have HNX := Lib.hid (show nxtW T A B = _ from if_neg hc)
            obtain ⟨j, hj⟩ : ∃ j : Nat, B = 256 + (j : Int) := ⟨(B - 256).toNat, by have := H2.out; omega⟩
            have HJ := Lib.hid hj
            have HX := Lib.hid (HW.out.cell HT.out HW.out.hb hj)
            have wj : IntKind.i64.wrap (B - 256) = (j : Int) := by rw [show B - 256 = (j : Int) by omega]; exact IntWalk.i64_in _ (by have := HX.out.1; have := HML.out; have := HM.out; omega)
            have j0 : (0 : Int) ≤ (j : Int) := by omega
            have j1 : (j : Int) < (M : Int) := by have := HX.out.1; have := HM.out; omega
            have x256 : ¬ B < 256 := by omega
            have wb : IntKind.i64.wrap (B + 1) = B + 1 := IntWalk.i64_in _ (by have := hasT_iff.1 HW.out.hb; have := HSM.out; have := HN.out; omega)
            obtain ⟨g, o, hA2, hcc⟩ := HX.out.2
            injection hA2 with hA2 _ _
            subst hA2
            have HCC := Lib.hid hcc
            clear hcc
            obtain ⟨p1, p2, p3, p4⟩ := par_has HT.out HW.out.hb (by omega)
            have HPH := Lib.hid (And.intro p3 p4)
            obtain ⟨q, hq⟩ : ∃ q, (parT T B).1 = q := ⟨_, rfl⟩
            have HQ := Lib.hid hq
            rw [hq] at HNX
            have cc : ∀ V, Below W.heap.size W V → V.cell? ⟨g, o + j * 2, none⟩ = some (.int .i64 q) := fun V hV => by have := HCC.out.1; rw [hq] at this; exact below_cell hV (Nat.le_refl _) this
            have HC := Lib.hid cc
            clear cc hq p1 p2 p3 p4 hj HX
            have HWN := Lib.hid (HW.out.next HT.out HBK.out H2.out HNX.out)
            have b2 : ¬ B < 256 := by omega
            have hab : ¬ B < A := by omega
            by_cases a2 : A < 256
            · go_wp2_with (go_at_call 62; refine HP.out.mono ?_; rintro e W1 ⟨rfl, hb⟩; (replace HW := Lib.hid (HW.out.below hb)); (replace n0 := blk_cell HW.out.box 0); (replace n1 := blk_cell HW.out.box 1); (simp only [List.getElem?_toArray, List.getElem?_cons_zero, List.getElem?_cons_succ] at n0 n1); (have c9 := HC.out _ hb); (replace HWN := Lib.hid (HWN.out.below hb)); clear hb)
              go_roundg (gk - 1)
              case measure => have := HLE.out; have := HPH.out; have := HQ.out; have := HJ.out; have := hasT_iff.1 HWN.out.ha; have := hasT_iff.1 HWN.out.hb; omega
              case rel => exact ⟨A, q, B + 1, m + 1, rfl, rfl, rfl, by simp, by have := HLE.out; have := HPH.out; have := HQ.out; have := HJ.out; have := hasT_iff.1 HWN.out.ha; have := hasT_iff.1 HWN.out.hb; omega, HWN.out⟩
            · go_wp2_with (go_at_call 62; refine HP.out.mono ?_; rintro e W1 ⟨rfl, hb⟩; (replace HW := Lib.hid (HW.out.below hb)); (replace n0 := blk_cell HW.out.box 0); (replace n1 := blk_cell HW.out.box 1); (simp only [List.getElem?_toArray, List.getElem?_cons_zero, List.getElem?_cons_succ] at n0 n1); (have c9 := HC.out _ hb); (replace HWN := Lib.hid (HWN.out.below hb)); clear hb)
              go_roundg (gk - 1)
              case measure => have := HLE.out; have := HPH.out; have := HQ.out; have := HJ.out; have := hasT_iff.1 HWN.out.ha; have := hasT_iff.1 HWN.out.hb; omega
              case rel => exact ⟨A, q, B + 1, m + 1, rfl, rfl, rfl, by simp, by have := HLE.out; have := HPH.out; have := HQ.out; have := HJ.out; have := hasT_iff.1 HWN.out.ha; have := hasT_iff.1 HWN.out.hb; omega, HWN.out⟩
      · by_cases h2 : A < 256 ∧ B < 256
        · obtain ⟨a2, b2⟩ := h2
          go_wp2_with (go_at_call 62; refine HP.out.mono ?_; rintro e W1 ⟨rfl, hb⟩; (replace HW := Lib.hid (HW.out.below hb)); (replace n0 := blk_cell HW.out.box 0); (replace n1 := blk_cell HW.out.box 1); (simp only [List.getElem?_toArray, List.getElem?_cons_zero, List.getElem?_cons_succ] at n0 n1); clear hb)
          go_ret2
          refine ⟨?_, HW.out.blw⟩
          rw [HW.out.eq, wlk_bytes HBK.out ⟨a2, b2⟩]
          simp
        · have H2 := Lib.hid h2
          clear h2
          have ws : IntKind.i64.wrap ((m : Int) + 1) = (m : Int) + 1 := IntWalk.i64_in _ (by have := HW.out.len HT.out; have := HSM.out; omega)
          by_cases hc : B < 256 ∨ A > B
          · have HNX := Lib.hid (show nxtW T A B = _ from if_pos hc)
            obtain ⟨j, hj⟩ : ∃ j : Nat, A = 256 + (j : Int) := ⟨(A - 256).toNat, by have := H2.out; omega⟩
            have HJ := Lib.hid hj
            have HX := Lib.hid (HW.out.cell HT.out HW.out.ha hj)
            have wj : IntKind.i64.wrap (A - 256) = (j : Int) := by rw [show A - 256 = (j : Int) by omega]; exact IntWalk.i64_in _ (by have := HX.out.1; have := HML.out; have := HM.out; omega)
            have j0 : (0 : Int) ≤ (j : Int) := by omega
            have j1 : (j : Int) < (M : Int) := by have := HX.out.1; have := HM.out; omega
            have x256 : ¬ A < 256 := by omega
            obtain ⟨g, o, hA2, hcc⟩ := HX.out.2
            injection hA2 with hA2 _ _
            subst hA2
            have HCC := Lib.hid hcc
            clear hcc
            obtain ⟨p1, p2, p3, p4⟩ := par_has HT.out HW.out.ha (by omega)
            have HPH := Lib.hid (And.intro p3 p4)
            obtain ⟨q, hq⟩ : ∃ q, (parT T A).2 = q := ⟨_, rfl⟩
            have HQ := Lib.hid hq
            rw [hq] at HNX
            have cc : ∀ V, Below W.heap.size W V → V.cell? ⟨g, o + j * 2 + 1, none⟩ = some (.int .i64 q) := fun V hV => by have := HCC.out.2; rw [hq] at this; exact below_cell hV (Nat.le_refl _) this
            have HC := Lib.hid cc
            clear cc hq p1 p2 p3 p4 hj HX
            have HWN := Lib.hid (HW.out.next HT.out HBK.out H2.out HNX.out)
            by_cases b2 : B < 256
            · go_wp2_with (go_at_call 62; refine HP.out.mono ?_; rintro e W1 ⟨rfl, hb⟩; (replace HW := Lib.hid (HW.out.below hb)); (replace n0 := blk_cell HW.out.box 0); (replace n1 := blk_cell HW.out.box 1); (simp only [List.getElem?_toArray, List.getElem?_cons_zero, List.getElem?_cons_succ] at n0 n1); (have c9 := HC.out _ hb); (replace HWN := Lib.hid (HWN.out.below hb)); clear hb)
              go_roundg (gk - 1)
              case measure => have := HLE.out; have := HPH.out; have := HQ.out; have := HJ.out; have := hasT_iff.1 HWN.out.ha; have := hasT_iff.1 HWN.out.hb; omega
              case rel => exact ⟨q, B, A, m + 1, rfl, rfl, rfl, by simp, by have := HLE.out; have := HPH.out; have := HQ.out; have := HJ.out; have := hasT_iff.1 HWN.out.ha; have := hasT_iff.1 HWN.out.hb; omega, HWN.out⟩
            · have hab : B < A := by omega
              go_wp2_with (go_at_call 62; refine HP.out.mono ?_; rintro e W1 ⟨rfl, hb⟩; (replace HW := Lib.hid (HW.out.below hb)); (replace n0 := blk_cell HW.out.box 0); (replace n1 := blk_cell HW.out.box 1); (simp only [List.getElem?_toArray, List.getElem?_cons_zero, List.getElem?_cons_succ] at n0 n1); (have c9 := HC.out _ hb); (replace HWN := Lib.hid (HWN.out.below hb)); clear hb)
              go_roundg (gk - 1)
              case measure => have := HLE.out; have := HPH.out; have := HQ.out; have := HJ.out; have := hasT_iff.1 HWN.out.ha; have := hasT_iff.1 HWN.out.hb; omega
              case rel => exact ⟨q, B, A, m + 1, rfl, rfl, rfl, by simp, by have := HLE.out; have := HPH.out; have := HQ.out; have := HJ.out; have := hasT_iff.1 HWN.out.ha; have := hasT_iff.1 HWN.out.hb; omega, HWN.out⟩
          · have HNX := Lib.hid (show nxtW T A B = _ from if_neg hc)
            obtain ⟨j, hj⟩ : ∃ j : Nat, B = 256 + (j : Int) := ⟨(B - 256).toNat, by have := H2.out; omega⟩
            have HJ := Lib.hid hj
            have HX := Lib.hid (HW.out.cell HT.out HW.out.hb hj)
            have wj : IntKind.i64.wrap (B - 256) = (j : Int) := by rw [show B - 256 = (j : Int) by omega]; exact IntWalk.i64_in _ (by have := HX.out.1; have := HML.out; have := HM.out; omega)
            have j0 : (0 : Int) ≤ (j : Int) := by omega
            have j1 : (j : Int) < (M : Int) := by have := HX.out.1; have := HM.out; omega
            have x256 : ¬ B < 256 := by omega
            have wb : IntKind.i64.wrap (B + 1) = B + 1 := IntWalk.i64_in _ (by have := hasT_iff.1 HW.out.hb; have := HSM.out; have := HN.out; omega)
            obtain ⟨g, o, hA2, hcc⟩ := HX.out.2
            injection hA2 with hA2 _ _
            subst hA2
            have HCC := Lib.hid hcc
            clear hcc
            obtain ⟨p1, p2, p3, p4⟩ := par_has HT.out HW.out.hb (by omega)
            have HPH := Lib.hid (And.intro p3 p4)
            obtain ⟨q, hq⟩ : ∃ q, (parT T B).1 = q := ⟨_, rfl⟩
            have HQ := Lib.hid hq
            rw [hq] at HNX
            have cc : ∀ V, Below W.heap.size W V → V.cell? ⟨g, o + j * 2, none⟩ = some (.int .i64 q) := fun V hV => by have := HCC.out.1; rw [hq] at this; exact below_cell hV (Nat.le_refl _) this
            have HC := Lib.hid cc
            clear cc hq p1 p2 p3 p4 hj HX
            have HWN := Lib.hid (HW.out.next HT.out HBK.out H2.out HNX.out)
            have b2 : ¬ B < 256 := by omega
            have hab : ¬ B < A := by omega
            by_cases a2 : A < 256
            · go_wp2_with (go_at_call 62; refine HP.out.mono ?_; rintro e W1 ⟨rfl, hb⟩; (replace HW := Lib.hid (HW.out.below hb)); (replace n0 := blk_cell HW.out.box 0); (replace n1 := blk_cell HW.out.box 1); (simp only [List.getElem?_toArray, List.getElem?_cons_zero, List.getElem?_cons_succ] at n0 n1); (have c9 := HC.out _ hb); (replace HWN := Lib.hid (HWN.out.below hb)); clear hb)
              go_roundg (gk - 1)
              case measure => have := HLE.out; have := HPH.out; have := HQ.out; have := HJ.out; have := hasT_iff.1 HWN.out.ha; have := hasT_iff.1 HWN.out.hb; omega
              case rel => exact ⟨A, q, B + 1, m + 1, rfl, rfl, rfl, by simp, by have := HLE.out; have := HPH.out; have := HQ.out; have := HJ.out; have := hasT_iff.1 HWN.out.ha; have := hasT_iff.1 HWN.out.hb; omega, HWN.out⟩
            · go_wp2_with (go_at_call 62; refine HP.out.mono ?_; rintro e W1 ⟨rfl, hb⟩; (replace HW := Lib.hid (HW.out.below hb)); (replace n0 := blk_cell HW.out.box 0); (replace n1 := blk_cell HW.out.box 1); (simp only [List.getElem?_toArray, List.getElem?_cons_zero, List.getElem?_cons_succ] at n0 n1); (have c9 := HC.out _ hb); (replace HWN := Lib.hid (HWN.out.below hb)); clear hb)
              go_roundg (gk - 1)
              case measure => have := HLE.out; have := HPH.out; have := HQ.out; have := HJ.out; have := hasT_iff.1 HWN.out.ha; have := hasT_iff.1 HWN.out.hb; omega
              case rel => exact ⟨A, q, B + 1, m + 1, rfl, rfl, rfl, by simp, by have := HLE.out; have := HPH.out; have := HQ.out; have := HJ.out; have := hasT_iff.1 HWN.out.ha; have := hasT_iff.1 HWN.out.hb; omega, HWN.out⟩
end
end Go.Proofs.YtbppaiejpgdbiaaGreat

/- Layer 14 (spine): the law's pick. -/
namespace Go.Proofs.YtbppaiejpgdbiaaGreat
open Go.RowKit Go.Maps Go.WideMaps
set_option maxRecDepth 100000
set_option linter.unusedVariables false
set_option linter.unusedSimpArgs false
def pickT (T : List Ent) (n : Nat) : Int := if n % ((mrgsT T).length + 4) < 4 then 97 + ((n % ((mrgsT T).length + 4) : Nat) : Int) else 252 + ((n % ((mrgsT T).length + 4) : Nat) : Int)
theorem pick_has {T : List Ent} (hT : OkT T) (n : Nat) : hasT T (pickT T n) = true := by
  have h1 := okT_256 hT
  have h2 := @mrgs_len T
  have h3 := Nat.mod_lt n (y := (mrgsT T).length + 4) (by omega)
  unfold pickT
  rw [hasT_iff]
  split <;> omega
section
variable {w : World} {base : Nat} {T : List Ent} {vb vm : Value}
theorem pick_any (h : RefIs w base T vb vm) (hT : OkT T) (n : Nat) (hn : n < 65536) :
    Calls Tryz.prog 31 #[.agg #[vb, vm], .int .u16 (n : Int)] w fun e w' => e = .returned (.int .i64 (pickT T n)) ∧ Below w.heap.size w w' := by
  obtain ⟨A1, c1, rfl⟩ := own_slice h.row
  obtain ⟨A2, c2, hvm⟩ := own_slice h.mrg
  subst hvm
  have HB := Lib.hid ((Below.refl w.heap.size w).alloc (Nat.le_refl _) (.cells #[.slice A1 T.length c1, .slice A2 (mrgsT T).length c2] 34))
  have n1 := blk_cell (blk_new w (.cells #[.slice A1 T.length c1, .slice A2 (mrgsT T).length c2] 34)) 1
  simp only [List.getElem?_toArray, List.getElem?_cons_zero, List.getElem?_cons_succ] at n1
  have hsm := hT.small
  have hml : (mrgsT T).length ≤ 1000 := by rw [mrgs_len]; omega
  unfold pickT
  generalize (mrgsT T).length = M at *
  have hlt := Nat.mod_lt n (y := M + 4) (by omega)
  obtain ⟨k, hk⟩ : ∃ k, n % (M + 4) = k := ⟨_, rfl⟩
  rw [hk] at hlt ⊢
  have e1 : (n : Int) % ((M : Int) + 4) = (k : Int) := by rw [← hk]; simp
  have HLT := Lib.hid hlt
  have HML := Lib.hid hml
  clear h hT hsm hk hml hlt
  have w1 : IntKind.i64.wrap (n : Int) = (n : Int) := IntWalk.i64_in _ (by omega)
  have w2 : IntKind.i64.wrap ((M : Int) + 4) = (M : Int) + 4 := IntWalk.i64_in _ (by have := HML.out; omega)
  have w3 : IntKind.i64.wrap (k : Int) = (k : Int) := IntWalk.i64_in _ (by have := HML.out; have := HLT.out; omega)
  have m0 : ¬ ((M : Int) + 4 = 0) := by omega
  have w4 : IntKind.i64.wrap (97 + (k : Int)) = 97 + (k : Int) := IntWalk.i64_in _ (by have := HML.out; have := HLT.out; omega)
  have w5 : IntKind.i64.wrap (252 + (k : Int)) = 252 + (k : Int) := IntWalk.i64_in _ (by have := HML.out; have := HLT.out; omega)
  by_cases h4 : k < 4
  · have h4' : (k : Int) < 4 := by omega
    rw [if_pos h4]
    go_enter Tryz.func31, Tryz.ntmps31
    go_wp2_with fail
    go_ret
    exact ⟨rfl, HB.out⟩
  · have h4' : ¬ (k : Int) < 4 := by omega
    rw [if_neg h4]
    go_enter Tryz.func31, Tryz.ntmps31
    go_wp2_with fail
    go_ret
    exact ⟨rfl, HB.out⟩
end
end Go.Proofs.YtbppaiejpgdbiaaGreat

/- Tables of both kinds, side by side: a table, the document's, and the variable that holds it. -/
namespace Go.Proofs.YtbppaiejpgdbiaaGreat
open Go.RowKit Go.Maps Go.WideMaps
set_option maxRecDepth 100000
set_option linter.unusedVariables false
set_option linter.unusedSimpArgs false
structure BothW (w W : World) (b rb : Nat) (T : List Ent) (tb : Nat) (sv : Value) (mb mp : Nat) (A1 : Option Addr) (c1 : Nat) (A2 : Option Addr) (c2 g3 : Nat) : Prop where
  tab : TabIs W b tb T sv mb mp
  ref : RefIs W rb T (.slice A1 T.length c1) (.slice A2 (mrgsT T).length c2)
  blk : W.heap[g3]? = some (.cells #[.slice A1 T.length c1, .slice A2 (mrgsT T).length c2] 34)
  bl : Below w.heap.size w W
theorem BothW.step {w W V : World} {b rb : Nat} {T : List Ent} {tb : Nat} {sv : Value} {mb mp : Nat} {A1 : Option Addr} {c1 : Nat} {A2 : Option Addr} {c2 g3 : Nat} (h : BothW w W b rb T tb sv mb mp A1 c1 A2 c2 g3) (hb : Below W.heap.size W V) : BothW w V b rb T tb sv mb mp A1 c1 A2 c2 g3 :=
  ⟨h.tab.below hb (Nat.le_refl _), h.ref.below hb (Nat.le_refl _), blk_below hb (blk_lt h.blk) h.blk, h.bl.trans (hb.mono h.bl.size)⟩
theorem BothW.cell0 {w W : World} {b rb : Nat} {T : List Ent} {tb : Nat} {sv : Value} {mb mp : Nat} {A1 : Option Addr} {c1 : Nat} {A2 : Option Addr} {c2 g3 : Nat} (h : BothW w W b rb T tb sv mb mp A1 c1 A2 c2 g3) : W.cell? ⟨g3, 0, none⟩ = some (.slice A1 T.length c1) := by have := blk_cell h.blk 0; simpa using this
theorem BothW.cell1 {w W : World} {b rb : Nat} {T : List Ent} {tb : Nat} {sv : Value} {mb mp : Nat} {A1 : Option Addr} {c1 : Nat} {A2 : Option Addr} {c2 g3 : Nat} (h : BothW w W b rb T tb sv mb mp A1 c1 A2 c2 g3) : W.cell? ⟨g3, 1, none⟩ = some (.slice A2 (mrgsT T).length c2) := by have := blk_cell h.blk 1; simpa using this
end Go.Proofs.YtbppaiejpgdbiaaGreat

/- Layer 14 (spine): SpineWalks. -/
namespace Go.Proofs.YtbppaiejpgdbiaaGreat
open Go.RowKit Go.Maps Go.WideMaps
set_option maxRecDepth 100000
set_option linter.unusedVariables false
set_option linter.unusedSimpArgs false
set_option maxHeartbeats 8000000 in
theorem swalks_small (l : List Nat) (A : Option Addr) (c x y : Nat) (limit far : Int) (w : World) (hl : Sl1 w A (fun x : Nat => .int .u16 (x : Int)) l) (hsm : ∀ x ∈ l, x < 65536) (hlen : l.length ≤ 60) (hx : x < 65536) (hy : y < 65536) :
    Calls Tryz.prog 8 #[.slice A l.length c, .int .u16 (x : Int), .int .u16 (y : Int), .int .i64 limit, .int .i64 far] w (RetTrue w) := by
  have HL := Lib.hid hl
  have h1 : ¬ (60 : Int) < (l.length : Int) := by omega
  have HXY := Lib.hid (And.intro hx hy)
  clear hl hx hy
  go_enter Tryz.func8, Tryz.ntmps8
  go_wp2_with fail
  refine (awake14_any _).mono ?_
  rintro e w1 ⟨rfl, hb1⟩
  have HB1 := Lib.hid hb1
  replace HL := Lib.hid (HL.out.below hb1 (Nat.le_refl _))
  clear hb1
  go_wp2_with fail
  refine (grow_any l A c w1 HL.out hsm (by omega)).mono ?_
  rintro e w2 ⟨hb2, A1, n1, c1, A2, n2, c2, rfl, href⟩
  obtain ⟨T, hT⟩ : ∃ T, growT l (min (l.length / 2) 30) = T := ⟨_, rfl⟩
  have hadds := addsT_grow l (min (l.length / 2) 30)
  rw [hT] at href hadds
  have hn2 : n2 = (mrgsT T).length := by obtain ⟨_, _, e⟩ := own_slice href.mrg; injection e
  have hn1 : n1 = T.length := by obtain ⟨_, _, e⟩ := own_slice href.row; injection e
  subst hn2
  subst hn1
  have h256 := okT_256 hadds.1
  have HADDS := Lib.hid hadds
  have hba := (Below.refl w2.heap.size w2).alloc (Nat.le_refl _) (.cells #[.slice A1 T.length c1, .slice A2 (mrgsT T).length c2] 34)
  have HN := Lib.hid (blk_new w2 (.cells #[.slice A1 T.length c1, .slice A2 (mrgsT T).length c2] 34))
  have hsm2 := hadds.1.small
  have hm3 : (mrgsT T).length < 9000000000000000000 := by rw [mrgs_len]; omega
  have HM := Lib.hid ((own_sl (enc := encM) (fun _ => rfl) href.mrg (by decide)).below hba (Nat.le_refl _))
  have HREF := Lib.hid (href.below hba (Nat.le_refl _))
  have hb12 := HB1.out.trans (hb2.mono HB1.out.size)
  have HB2 := Lib.hid (hb12.trans (hba.mono hb12.size))
  clear hT href hadds hba hb12 hb2
  go_upto_region 4 with fail
  generalize w2.alloc (.cells #[.slice A1 T.length c1, .slice A2 (mrgsT T).length c2] 34) = w3 at *
  generalize w2.heap.size = g3 at *
  have m1 := blk_cell HN.out 1
  simp only [List.getElem?_toArray, List.getElem?_cons_zero, List.getElem?_cons_succ] at m1
  go_wp2_with fail
  refine (new_ok HADDS.out.2 A2 c2 w3 HM.out hm3).mono ?_
  rintro e w4 ⟨tb, sv, mb, mp, rfl, hok, ht, hb⟩
  have HP : Hid (BothW w w4 w3.heap.size w1.heap.size T tb sv mb mp A1 c1 A2 c2 g3) := Lib.hid ⟨ht, HREF.out.below hb (Nat.le_refl _), blk_below hb (blk_lt HN.out) HN.out, HB2.out.trans (hb.mono HB2.out.size)⟩
  have HOK := Lib.hid hok
  clear hok ht hb m1 HREF HM HN HB2
  have c0 := HP.out.cell0
  have c1' := HP.out.cell1
  go_wp2_with fail
  refine wp_region_D (Ds := []) (S := fun V => V.cell? ⟨g3, 0, none⟩ = some (.slice A1 T.length c1) ∧ V.cell? ⟨g3, 1, none⟩ = some (.slice A2 (mrgsT T).length c2)) (by kernel_rfl) (by exact And.intro c0 c1') (fun hHeld => ?_)
  (replace HP := Lib.hid (HP.out.step (Below.refl _ _).drew)); clear c0 c1'; generalize w4.drew = w4 at *
  refine wpAnyD_takeP (i := 1) (d := 41) (v := ?_) rfl rfl (by kernel_rfl) (by kernel_rfl) (by kernel_rfl) (fun _ _ _ h => h) (Or.inl ⟨by rfl, ?_⟩) ?_
  rotate_left
  · (intro w' _; go_simp; (try with_reducible rfl))
  simp only [List.setIfInBounds_toArray, List.set_cons_zero, List.set_cons_succ]
  refine wpAnyD_takeP (i := 4) (d := 44) (v := ?_) rfl rfl (by kernel_rfl) (by kernel_rfl) (by kernel_rfl) (fun _ _ _ h => h) (Or.inl ⟨by rfl, ?_⟩) ?_
  rotate_left
  · (intro w' _; go_simp; (try with_reducible rfl))
  simp only [List.setIfInBounds_toArray, List.set_cons_zero, List.set_cons_succ]
  refine wpAnyD_takeD (i := 0) (d := 40) (v := ?_) rfl rfl (by kernel_rfl) (by kernel_rfl) (by kernel_rfl) (by kernel_rfl) (fun _ _ _ h => h) (Or.inl ⟨by rfl, ?_⟩) hHeld ?_
  rotate_left
  · (intro w' hSw; (try dsimp only at hSw); go_simp; (try with_reducible rfl))
  simp only [List.setIfInBounds_toArray, List.set_cons_zero, List.set_cons_succ]
  refine wpAnyD_takeD (i := 3) (d := 43) (v := ?_) rfl rfl (by kernel_rfl) (by kernel_rfl) (by kernel_rfl) (by kernel_rfl) (fun _ _ _ h => h) (Or.inl ⟨by rfl, ?_⟩) hHeld ?_
  rotate_left
  · (intro w' hSw; (try dsimp only at hSw); go_simp; (try with_reducible rfl))
  simp only [List.setIfInBounds_toArray, List.set_cons_zero, List.set_cons_succ]
  refine wpAnyD_one (i := 2) (by kernel_rfl) rfl (by rfl) (fun K hK => ?_)
  go_simp; (refine (pick_any HP.out.ref HOK.out _ (by first | exact HXY.out.1 | exact HXY.out.2)).mono ?_); (rintro e w5 ⟨rfl, hb⟩); (replace HP := Lib.hid (HP.out.step hb)); (have h := And.intro HP.out.cell0 HP.out.cell1); clear hb
  refine hK.out _ _ h (fun hHeld => ?_)
  clear hK K
  try simp only [Act.put, List.setIfInBounds_toArray, List.set_cons_zero, List.set_cons_succ]
  refine wpAnyD_one (i := 5) (by kernel_rfl) rfl (by rfl) (fun K hK => ?_)
  go_simp; (refine (pick_any HP.out.ref HOK.out _ (by first | exact HXY.out.1 | exact HXY.out.2)).mono ?_); (rintro e w6 ⟨rfl, hb⟩); (replace HP := Lib.hid (HP.out.step hb)); (have h := And.intro HP.out.cell0 HP.out.cell1); clear hb
  refine hK.out _ _ h (fun hHeld => ?_)
  clear hK K
  try simp only [Act.put, List.setIfInBounds_toArray, List.set_cons_zero, List.set_cons_succ]
  refine wpAnyD_takeP (i := 6) (d := 15) (v := ?_) rfl rfl (by kernel_rfl) (by kernel_rfl) (by kernel_rfl) (fun _ _ _ h => h) (Or.inl ⟨by rfl, ?_⟩) ?_
  rotate_left
  · (intro w' _; go_simp; (try with_reducible rfl))
  simp only [List.setIfInBounds_toArray, List.set_cons_zero, List.set_cons_succ]
  refine wpAnyD_takeP (i := 7) (d := 16) (v := ?_) rfl rfl (by kernel_rfl) (by kernel_rfl) (by kernel_rfl) (fun _ _ _ h => h) (Or.inl ⟨by rfl, ?_⟩) ?_
  rotate_left
  · (intro w' _; go_simp; (try with_reducible rfl))
  simp only [List.setIfInBounds_toArray, List.set_cons_zero, List.set_cons_succ]
  refine wpAnyD_done (by kernel_rfl) ?_ _
  have ha := pick_has HOK.out x
  have hb := pick_has HOK.out y
  generalize pickT T x = a at *
  generalize pickT T y = b at *
  have HA := Lib.hid ha
  have HB := Lib.hid hb
  clear ha hb h hHeld
  obtain ⟨q, n1, hq⟩ : ∃ q n, wlkT T a b limit = (q, n) := ⟨_, _, rfl⟩
  obtain ⟨q2, n, hn⟩ : ∃ q n, wlkT T a b 1000000 = (q, n) := ⟨_, _, rfl⟩
  have R1 : Hid (∀ V, BothW w V w3.heap.size w1.heap.size T tb sv mb mp A1 c1 A2 c2 g3 → Calls Tryz.prog 32 #[.agg #[.slice A1 T.length c1, .slice A2 (mrgsT T).length c2], .int .i64 a, .int .i64 b, .int .i64 limit] V fun e w' => e = .returned (.tuple #[.bool q, .int .i64 (n1 : Nat)]) ∧ Below V.heap.size V w') := Lib.hid (fun V hV => by
    have := rwalk_any (lim := limit) hV.ref HOK.out HA.out HB.out
    rw [hq] at this
    exact this)
  have R2 : Hid (∀ V, BothW w V w3.heap.size w1.heap.size T tb sv mb mp A1 c1 A2 c2 g3 → Calls Tryz.prog 32 #[.agg #[.slice A1 T.length c1, .slice A2 (mrgsT T).length c2], .int .i64 a, .int .i64 b, .int .i64 1000000] V fun e w' => e = .returned (.tuple #[.bool q2, .int .i64 (n : Nat)]) ∧ Below V.heap.size V w') := Lib.hid (fun V hV => by
    have := rwalk_any (lim := 1000000) hV.ref HOK.out HA.out HB.out
    rw [hn] at this
    exact this)
  have HLEN : Hid (T.length ≤ 100000) := Lib.hid (by omega)
  have E1 : Hid ((hasT T a && hasT T b && (wlkT T a b limit).1) = q) := Lib.hid (by rw [HA.out, HB.out, hq]; rfl)
  have S1 : Hid (((if (hasT T a && hasT T b) = true then (wlkT T a b T.length).2 else 0 : Nat)) = n) := Lib.hid (by
    rw [HA.out, HB.out, if_pos (by decide), wlk_all (lim := T.length) (lim' := 1000000) (Int.le_refl _) (by omega), hn])
  have HWK : Hid (∀ V x y L, BothW w V w3.heap.size w1.heap.size T tb sv mb mp A1 c1 A2 c2 g3 → Calls Tryz.prog 33 #[.pointer (some ⟨tb, 0, none⟩), .int .i64 x, .int .i64 y, .int .i64 L] V fun e w' => e = .returned (.bool (hasT T x && hasT T y && (wlkT T x y L).1)) ∧ Below V.heap.size V w') := Lib.hid (fun V x y L hV => swalk_any hV.tab HOK.out HLEN.out)
  have HST : Hid (∀ V x y, BothW w V w3.heap.size w1.heap.size T tb sv mb mp A1 c1 A2 c2 g3 → Calls Tryz.prog 34 #[.pointer (some ⟨tb, 0, none⟩), .int .i64 x, .int .i64 y] V fun e w' => e = .returned (.int .i64 (if (hasT T x && hasT T y) = true then (wlkT T x y T.length).2 else 0 : Nat)) ∧ Below V.heap.size V w') := Lib.hid (fun V x y hV => ssteps_any hV.tab HOK.out HLEN.out)
  obtain ⟨f, hf⟩ : ∃ f, hasT T far = f := ⟨_, rfl⟩
  have HF := Lib.hid hf
  have E2 : Hid (f = false → (hasT T far && hasT T b && (wlkT T far b limit).1) = false) := Lib.hid (fun e => by rw [hf, e]; rfl)
  have S2 : Hid (f = false → ((if (hasT T a && hasT T far) = true then (wlkT T a far T.length).2 else 0 : Nat)) = 0) := Lib.hid (fun e => by rw [hf, e]; simp)
  have HSB : Hid (f = false → ∀ V, BothW w V w3.heap.size w1.heap.size T tb sv mb mp A1 c1 A2 c2 g3 → Calls Tryz.prog 22 #[.pointer (some ⟨tb, 0, none⟩), .int .i64 far] V fun e w' => e = .returned (.bool false) ∧ Below V.heap.size V w') := Lib.hid (fun e V hV => by
    have := salone_base V far hV.tab HLEN.out (by unfold bornT; rw [hf, e]; rfl)
    rw [hf, e] at this
    exact this)
  have HH : Hid (∀ V, BothW w V w3.heap.size w1.heap.size T tb sv mb mp A1 c1 A2 c2 g3 → Calls Tryz.prog 35 #[.agg #[.slice A1 T.length c1, .slice A2 (mrgsT T).length c2], .int .i64 far] V fun e w' => e = .returned (.bool f) ∧ Below V.heap.size V w') := Lib.hid (fun V hV => by
    have := rhas_any far hV.ref
    rw [hf] at this
    exact this)
  clear hq hn hf h256 hsm2 hm3 hlen hsm
  have c0 := HP.out.cell0
  have c1' := HP.out.cell1
  go_upto_region 9 with (go_at_call 32; refine (R1.out _ HP.out).mono ?_; rintro e W1 ⟨rfl, hb⟩; (replace HP := Lib.hid (HP.out.step hb)); (replace c0 := HP.out.cell0); (replace c1' := HP.out.cell1); clear hb)
  go_upto_region 10 with (go_at_call 32; refine (R2.out _ HP.out).mono ?_; rintro e W2 ⟨rfl, hb⟩; (replace HP := Lib.hid (HP.out.step hb)); (replace c0 := HP.out.cell0); (replace c1' := HP.out.cell1); clear hb)
  clear R1 R2
  cases q <;> cases f <;> (go_wp2_with (first
    | (go_at_call 33; refine (HWK.out _ _ _ _ HP.out).mono ?_; rintro e W3 ⟨he, hb⟩; (first | rw [E1.out] at he | rw [E2.out (by simp)] at he); subst he; (replace HP := Lib.hid (HP.out.step hb)); (replace c0 := HP.out.cell0); (replace c1' := HP.out.cell1); clear hb)
    | (go_at_call 34; refine (HST.out _ _ _ HP.out).mono ?_; rintro e W4 ⟨he, hb⟩; (first | rw [S1.out] at he | rw [S2.out (by simp)] at he); subst he; (replace HP := Lib.hid (HP.out.step hb)); (replace c0 := HP.out.cell0); (replace c1' := HP.out.cell1); clear hb)
    | (go_at_call 22; refine (HSB.out (by simp) _ HP.out).mono ?_; rintro e W5 ⟨rfl, hb⟩; (replace HP := Lib.hid (HP.out.step hb)); clear hb)
    | (go_at_call 35; refine (HH.out _ HP.out).mono ?_; rintro e W6 ⟨rfl, hb⟩; (replace HP := Lib.hid (HP.out.step hb)); (replace c0 := HP.out.cell0); (replace c1' := HP.out.cell1); clear hb)); (first | (go_ret; exact ⟨rfl, HP.out.bl⟩)))

theorem u16_nat {x : Int} (h : (Lit.int .u16 x).wf = true) : ∃ n : Nat, x = (n : Int) ∧ n < 65536 := by
  have e1 : IntKind.u16.min = 0 := by decide
  have e2 : IntKind.u16.max = 65535 := by decide
  simp only [Lit.wf, e1, e2, Bool.and_eq_true, decide_eq_true_eq] at h
  exact ⟨x.toNat, by omega, by omega⟩
theorem swalks_law (xs : List Int) (A : Option Addr) (c : Nat) (x1 x2 x3 x4 : Int) (w : World) (_ : xs.length ≤ c) (_ : c ≤ maxLen) (hw : ∀ y ∈ xs, (Lit.int .u16 y).wf = true) (hs : Sl1 w A (Value.int .u16) xs) (h1 : (Lit.int .u16 x1).wf = true) (h2 : (Lit.int .u16 x2).wf = true) (_ : (Lit.int .i64 x3).wf = true) (_ : (Lit.int .i64 x4).wf = true) :
    Calls Tryz.prog 8 #[.slice A xs.length c, .int .u16 x1, .int .u16 x2, .int .i64 x3, .int .i64 x4] w (RetTrue w) := by
  by_cases h : xs.length ≤ 60
  · obtain ⟨l, e, h3, h4⟩ := nats_of hw hs
    obtain ⟨n1, rfl, b1⟩ := u16_nat h1
    obtain ⟨n2, rfl, b2⟩ := u16_nat h2
    rw [← e]
    exact swalks_small l A c n1 n2 x3 x4 w h4 h3 (by omega) b1 b2
  · have h1 : (60 : Int) < (xs.length : Int) := by omega
    go_enter Tryz.func8, Tryz.ntmps8
    go_wp2_with fail
    refine (awake14_any _).mono ?_
    rintro e w1 ⟨rfl, hb1⟩
    go_wp2_with fail
    go_ret
    exact ⟨by simp, hb1⟩
end Go.Proofs.YtbppaiejpgdbiaaGreat

/- Layer 7 (grow): the document's Alone. -/
namespace Go.Proofs.YtbppaiejpgdbiaaGreat
open Go.RowKit Go.Maps Go.WideMaps
set_option maxRecDepth 100000
set_option linter.unusedVariables false
set_option linter.unusedSimpArgs false
/-- is a token what is made of its bytes -/
def alnB (T : List Ent) (id : Int) : Bool := decide (encT T T.length (bytesT T id) = [id])
theorem byts_at {T : List Ent} {k : Nat} (hk : k < T.length) : (bytsT T)[k]? = some (bytesT T (k : Int)) := by
  have hh : hasT T (k : Int) = true := hasT_iff.2 ⟨by omega, by omega⟩
  unfold bytesT bytsT
  rw [if_pos hh, entT_nat _ _ hk, List.getElem?_map, List.getElem?_eq_getElem hk]
  rfl
section
variable {w : World} {base : Nat} {T : List Ent} {vb vm : Value}
set_option maxHeartbeats 2000000 in
theorem r7alone_any (h : RefIs w base T vb vm) (hT : OkT T) (k : Nat) (hk : k < T.length) :
    Calls Tryz.prog 23 #[.agg #[vb, vm], .int .i64 (k : Int)] w fun e w' => e = .returned (.bool (alnB T (k : Int))) ∧ Below w.heap.size w w' := by
  obtain ⟨A1, c1, rfl⟩ := own_slice h.row
  obtain ⟨A2, c2, hvm⟩ := own_slice h.mrg
  subst hvm
  have hb0 := (Below.refl w.heap.size w).alloc (Nat.le_refl _) (.cells #[.slice A1 T.length c1, .slice A2 (mrgsT T).length c2] 34)
  have hn := blk_new w (.cells #[.slice A1 T.length c1, .slice A2 (mrgsT T).length c2] 34)
  have h1 := h.below hb0 (Nat.le_refl _)
  obtain ⟨g, o, hA, hc⟩ := (own_sl1 (enc := strV) h1.row).at k (by unfold bytsT; simpa using hk)
  have e0 : (bytsT T)[k]'(by unfold bytsT; simpa using hk) = bytesT T (k : Int) := by
    have := byts_at hk
    rw [List.getElem?_eq_some_iff] at this
    exact this.2
  rw [e0] at hc
  subst hA
  unfold strV at hc
  obtain ⟨z, hz⟩ : ∃ z, bs (bytesT T (k : Int)) = z := ⟨_, rfl⟩
  have HZ := Lib.hid (show z.data.toList = bytesT T (k : Int) by rw [← hz]; rfl)
  rw [hz] at hc
  have HR := Lib.hid h1
  have HB := Lib.hid hb0
  have n0 := blk_cell hn 0
  have n1 := blk_cell hn 1
  simp only [List.getElem?_toArray, List.getElem?_cons_zero, List.getElem?_cons_succ] at n0 n1
  have HT := Lib.hid hT
  have hk' : (k : Int) < (T.length : Int) := by omega
  have k0 : (0 : Int) ≤ (k : Int) := by omega
  clear h hb0 hn h1 e0 hz hT hk
  obtain ⟨E, hE⟩ : ∃ E, encT T T.length (bytesT T (k : Int)) = E := ⟨_, rfl⟩
  have HE := Lib.hid hE
  unfold alnB
  rw [hE]
  clear hE
  go_enter Tryz.func23, Tryz.ntmps23
  go_wp2_with fail
  obtain ⟨gb, hgb⟩ : ∃ b, w.heap.size = b := ⟨_, rfl⟩
  have HGB := Lib.hid hgb
  generalize w.alloc (.cells #[.slice (some ⟨g, o, none⟩) T.length c1, .slice A2 (mrgsT T).length c2] 34) = W at *
  rw [hgb] at n0 n1 ⊢
  clear hgb
  refine wp_region_D (Ds := []) (S := fun V => V.cell? ⟨gb, 0, none⟩ = some (.slice (some ⟨g, o, none⟩) T.length c1) ∧ V.cell? ⟨gb, 1, none⟩ = some (.slice A2 (mrgsT T).length c2) ∧ V.cell? ⟨g, o + k, none⟩ = some (.string z)) (by kernel_rfl) (by exact And.intro n0 (And.intro n1 hc)) (fun hHeld => ?_)
  (replace HB := Lib.hid HB.out.drew); (replace HR := Lib.hid (HR.out.below (B := W.heap.size) (Below.refl _ _).drew (Nat.le_refl _))); clear n0 n1 hc; generalize W.drew = W at *
  refine wpAnyD_takeP (i := 1) (d := 7) (v := ?_) rfl rfl (by kernel_rfl) (by kernel_rfl) (by kernel_rfl) (fun _ _ _ h => h) (Or.inl ⟨by rfl, ?_⟩) ?_
  rotate_left
  · (intro w' _; go_simp; (try with_reducible rfl))
  simp only [List.setIfInBounds_toArray, List.set_cons_zero, List.set_cons_succ]
  refine wpAnyD_takeP (i := 3) (d := 9) (v := ?_) rfl rfl (by kernel_rfl) (by kernel_rfl) (by kernel_rfl) (fun _ _ _ h => h) (Or.inl ⟨by rfl, ?_⟩) ?_
  rotate_left
  · (intro w' _; go_simp; (try with_reducible rfl))
  simp only [List.setIfInBounds_toArray, List.set_cons_zero, List.set_cons_succ]
  refine wpAnyD_takeD (i := 0) (d := 6) (v := ?_) rfl rfl (by kernel_rfl) (by kernel_rfl) (by kernel_rfl) (by kernel_rfl) (fun _ _ _ h => h) (Or.inl ⟨by rfl, ?_⟩) hHeld ?_
  rotate_left
  · (intro w' hSw; (try dsimp only at hSw); go_simp; (try with_reducible rfl))
  simp only [List.setIfInBounds_toArray, List.set_cons_zero, List.set_cons_succ]
  refine wpAnyD_takeD (i := 2) (d := 8) (v := ?_) rfl rfl (by kernel_rfl) (by kernel_rfl) (by kernel_rfl) (by kernel_rfl) (fun _ _ _ h => h) (Or.inl ⟨by rfl, ?_⟩) hHeld ?_
  rotate_left
  · (intro w' hSw; (try dsimp only at hSw); go_simp; (try with_reducible rfl))
  simp only [List.setIfInBounds_toArray, List.set_cons_zero, List.set_cons_succ]
  refine wpAnyD_takeP (i := 4) (d := 10) (v := ?_) rfl rfl (by kernel_rfl) (by kernel_rfl) (by kernel_rfl) (fun _ _ _ h => h) (Or.inl ⟨by rfl, ?_⟩) ?_
  rotate_left
  · (intro w' _; go_simp; (try with_reducible rfl))
  simp only [List.setIfInBounds_toArray, List.set_cons_zero, List.set_cons_succ]
  refine wpAnyD_takeD (i := 5) (d := 11) (v := ?_) rfl rfl (by kernel_rfl) (by kernel_rfl) (by kernel_rfl) (by kernel_rfl) (fun _ _ _ h => h) (Or.inl ⟨by rfl, ?_⟩) hHeld ?_
  rotate_left
  · (intro w' hSw; (try dsimp only at hSw); go_simp; (try with_reducible rfl))
  simp only [List.setIfInBounds_toArray, List.set_cons_zero, List.set_cons_succ]
  refine wpAnyD_one (i := 6) (by kernel_rfl) rfl (by rfl) (fun K hK => ?_)
  go_simp; refine (rall_any HR.out HT.out z (by rw [← dataLen, HZ.out]; have := bytesT_le HT.out (k : Int); omega)).mono ?_; rintro e W2 ⟨⟨v, rfl, hi⟩, hb⟩; have HI := Lib.hid hi; have h := And.intro (below_cell hb (Nat.le_refl _) hHeld.1) (And.intro (below_cell hb (Nat.le_refl _) hHeld.2.1) (below_cell hb (Nat.le_refl _) hHeld.2.2)); have HB2 := Lib.hid (HB.out.trans (hb.mono HB.out.size)); clear hi hb
  refine hK.out _ _ h (fun hHeld => ?_)
  clear hK K
  try simp only [Act.put, List.setIfInBounds_toArray, List.set_cons_zero, List.set_cons_succ]
  refine wpAnyD_takeP (i := 7) (d := 5) (v := ?_) rfl rfl (by kernel_rfl) (by kernel_rfl) (by kernel_rfl) (fun _ _ _ h => h) (Or.inl ⟨by rfl, ?_⟩) ?_
  rotate_left
  · (intro w' _; go_simp; (try with_reducible rfl))
  simp only [List.setIfInBounds_toArray, List.set_cons_zero, List.set_cons_succ]
  refine wpAnyD_done (by kernel_rfl) ?_ _
  rw [HZ.out, HE.out] at HI
  obtain ⟨A, c, rfl, hrow⟩ := HI.out
  have HROW := Lib.hid hrow
  clear hrow HI h hHeld
  by_cases hE1 : E.length = 1
  · obtain ⟨e0, rfl⟩ := List.length_eq_one_iff.1 hE1
    obtain ⟨b, o, hA, hc⟩ := (own_sl1 HROW.out).at 0 (by simp)
    subst hA
    simp only [List.getElem_cons_zero, Nat.add_zero] at hc
    simp only [List.length_singleton, Int.cast_ofNat_Int] at *
    clear hE1
    by_cases he : e0 = (k : Int)
    · subst he
      go_wp2_with fail
      go_ret
      exact ⟨by simp, HB2.out⟩
    · go_wp2_with fail
      go_ret
      exact ⟨by (simp; rfl), HB2.out⟩
  · have hE2 : ¬ ((E.length : Nat) : Int) = 1 := by omega
    have hne : decide (E = [(k : Int)]) = false := by
      rw [decide_eq_false_iff_not]
      intro e
      exact hE1 (by rw [e]; rfl)
    have HNE := Lib.hid hne
    clear hE1 hne
    go_wp2_with fail
    go_ret
    exact ⟨by simp [HNE.out], HB2.out⟩
end
end Go.Proofs.YtbppaiejpgdbiaaGreat

/- Layer 14 (spine): SpineAlone. -/
namespace Go.Proofs.YtbppaiejpgdbiaaGreat
open Go.RowKit Go.Maps Go.WideMaps
set_option maxRecDepth 100000
set_option linter.unusedVariables false
set_option linter.unusedSimpArgs false
theorem alT_alnB {T : List Ent} (hT : OkT T) {k n : Nat} (hk : k < T.length) (hn : k < n) : alT T n (k : Int) = alnB T (k : Int) := by
  have h1 := alT_iff hT n (k : Int) (by omega)
  have h2 : hasT T (k : Int) = true := hasT_iff.2 ⟨by omega, by omega⟩
  unfold alnB
  rw [Bool.eq_iff_iff, h1, decide_eq_true_eq]
  exact ⟨fun h => h.2, fun h => ⟨h2, h⟩⟩
set_option maxHeartbeats 8000000 in
theorem salone_small (l : List Nat) (A : Option Addr) (c : Nat) (w : World) (hl : Sl1 w A (fun x : Nat => .int .u16 (x : Int)) l) (hsm : ∀ x ∈ l, x < 65536) (hlen : l.length ≤ 60) :
    Calls Tryz.prog 5 #[.slice A l.length c] w (RetTrue w) := by
  have HL := Lib.hid hl
  have h1 : ¬ (60 : Int) < (l.length : Int) := by omega
  clear hl
  go_enter Tryz.func5, Tryz.ntmps5
  go_wp2_with fail
  refine (awake14_any _).mono ?_
  rintro e w1 ⟨rfl, hb1⟩
  have HB1 := Lib.hid hb1
  replace HL := Lib.hid (HL.out.below hb1 (Nat.le_refl _))
  clear hb1
  go_wp2_with fail
  refine (grow_any l A c w1 HL.out hsm (by omega)).mono ?_
  rintro e w2 ⟨hb2, A1, n1, c1, A2, n2, c2, rfl, href⟩
  obtain ⟨T, hT⟩ : ∃ T, growT l (min (l.length / 2) 30) = T := ⟨_, rfl⟩
  have hadds := addsT_grow l (min (l.length / 2) 30)
  rw [hT] at href hadds
  have hn2 : n2 = (mrgsT T).length := by obtain ⟨_, _, e⟩ := own_slice href.mrg; injection e
  have hn1 : n1 = T.length := by obtain ⟨_, _, e⟩ := own_slice href.row; injection e
  subst hn2
  subst hn1
  have h256 := okT_256 hadds.1
  have HADDS := Lib.hid hadds
  have hba := (Below.refl w2.heap.size w2).alloc (Nat.le_refl _) (.cells #[.slice A1 T.length c1, .slice A2 (mrgsT T).length c2] 34)
  have HN := Lib.hid (blk_new w2 (.cells #[.slice A1 T.length c1, .slice A2 (mrgsT T).length c2] 34))
  have hsm2 := hadds.1.small
  have hm3 : (mrgsT T).length < 9000000000000000000 := by rw [mrgs_len]; omega
  have HM := Lib.hid ((own_sl (enc := encM) (fun _ => rfl) href.mrg (by decide)).below hba (Nat.le_refl _))
  have HREF := Lib.hid (href.below hba (Nat.le_refl _))
  have hb12 := HB1.out.trans (hb2.mono HB1.out.size)
  have HB2 := Lib.hid (hb12.trans (hba.mono hb12.size))
  clear hT href hadds hba hb12 hb2
  go_upto_region 4 with fail
  generalize w2.alloc (.cells #[.slice A1 T.length c1, .slice A2 (mrgsT T).length c2] 34) = w3 at *
  generalize w2.heap.size = g3 at *
  have m1 := blk_cell HN.out 1
  simp only [List.getElem?_toArray, List.getElem?_cons_zero, List.getElem?_cons_succ] at m1
  go_wp2_with fail
  refine (new_ok HADDS.out.2 A2 c2 w3 HM.out hm3).mono ?_
  rintro e w4 ⟨tb, sv, mb, mp, rfl, hok, ht, hb⟩
  have HP : Hid (BothW w w4 w3.heap.size w1.heap.size T tb sv mb mp A1 c1 A2 c2 g3) := Lib.hid ⟨ht, HREF.out.below hb (Nat.le_refl _), blk_below hb (blk_lt HN.out) HN.out, HB2.out.trans (hb.mono HB2.out.size)⟩
  have HOK := Lib.hid hok
  clear hok ht hb m1 HREF HM HN HB2
  have HLEN : Hid (T.length ≤ 100000) := Lib.hid (by omega)
  have HTL : Hid (250 ≤ T.length) := Lib.hid (by omega)
  have HSM := Lib.hid hsm2
  clear h256 hsm2 hm3 hlen hsm
  go_upto_region 7 with fail
  go_wp2_with fail
  go_loopg [7] (T.length - 250) (fun n i W => ∃ k : Nat, 250 ≤ k ∧ k + n = T.length ∧ i = .int .i64 (k : Int) ∧ BothW w W w3.heap.size w1.heap.size T tb sv mb mp A1 c1 A2 c2 g3)
  case atStart => exact ⟨250, Nat.le_refl _, by have := HTL.out; omega, rfl, HP.out⟩
  case round =>
    obtain ⟨k, hk1, hk, rfl, hp⟩ := hrel
    clear HP
    rename World => W
    have HP := Lib.hid hp
    clear hp
    have c0 := HP.out.cell0
    have c1' := HP.out.cell1
    by_cases hlt : k < T.length
    · have hlt' : (k : Int) < (T.length : Int) := by omega
      have ws : IntKind.i64.wrap ((k : Int) + 1) = (k : Int) + 1 := IntWalk.i64_in _ (by have := HSM.out; omega)
      have HK1 := Lib.hid hk1
      have HLT := Lib.hid hlt
      obtain ⟨q, hq⟩ : ∃ q, alnB T (k : Int) = q := ⟨_, rfl⟩
      have HQ := Lib.hid hq
      have HQ2 := Lib.hid ((alT_alnB HOK.out hlt (Nat.lt_succ_self k)).trans hq)
      clear hq
      cases q <;> (
        go_upto_region 10 with fail
        refine wp_region_D (Ds := []) (S := fun V => V.cell? ⟨g3, 0, none⟩ = some (.slice A1 T.length c1) ∧ V.cell? ⟨g3, 1, none⟩ = some (.slice A2 (mrgsT T).length c2)) (by kernel_rfl) (by exact And.intro c0 c1') (fun hHeld => ?_)
        (replace HP := Lib.hid (HP.out.step (Below.refl _ _).drew)); clear c0 c1'; generalize W.drew = W at *
        refine wpAnyD_takeP (i := 0) (d := 34) (v := ?_) rfl rfl (by kernel_rfl) (by kernel_rfl) (by kernel_rfl) (fun _ _ _ h => h) (Or.inl ⟨by rfl, ?_⟩) ?_
        rotate_left
        · (intro w' _; go_simp; (try with_reducible rfl))
        simp only [List.setIfInBounds_toArray, List.set_cons_zero, List.set_cons_succ]
        refine wpAnyD_takeP (i := 1) (d := 35) (v := ?_) rfl rfl (by kernel_rfl) (by kernel_rfl) (by kernel_rfl) (fun _ _ _ h => h) (Or.inl ⟨by rfl, ?_⟩) ?_
        rotate_left
        · (intro w' _; go_simp; (try with_reducible rfl))
        simp only [List.setIfInBounds_toArray, List.set_cons_zero, List.set_cons_succ]
        refine wpAnyD_takeP (i := 4) (d := 38) (v := ?_) rfl rfl (by kernel_rfl) (by kernel_rfl) (by kernel_rfl) (fun _ _ _ h => h) (Or.inl ⟨by rfl, ?_⟩) ?_
        rotate_left
        · (intro w' _; go_simp; (try with_reducible rfl))
        simp only [List.setIfInBounds_toArray, List.set_cons_zero, List.set_cons_succ]
        refine wpAnyD_takeD (i := 3) (d := 37) (v := ?_) rfl rfl (by kernel_rfl) (by kernel_rfl) (by kernel_rfl) (by kernel_rfl) (fun _ _ _ h => h) (Or.inl ⟨by rfl, ?_⟩) hHeld ?_
        rotate_left
        · (intro w' hSw; (try dsimp only at hSw); go_simp; (try with_reducible rfl))
        simp only [List.setIfInBounds_toArray, List.set_cons_zero, List.set_cons_succ]
        refine wpAnyD_one (i := 2) (by kernel_rfl) rfl (by rfl) (fun K hK => ?_)
        go_simp; (refine (salone_any HOK.out HLEN.out (k + 1) _ (k : Int) (by omega) HP.out.tab).mono ?_); (rintro e w5 ⟨he, hb⟩); rw [HQ2.out] at he; subst he; (replace HP := Lib.hid (HP.out.step hb)); (have h := And.intro HP.out.cell0 HP.out.cell1); clear hb; go_simp
        refine hK.out _ _ h (fun hHeld => ?_)
        clear hK K
        try simp only [Act.put, List.setIfInBounds_toArray, List.set_cons_zero, List.set_cons_succ]
        refine wpAnyD_one (i := 5) (by kernel_rfl) rfl (by rfl) (fun K hK => ?_)
        go_simp; (refine (r7alone_any HP.out.ref HOK.out k HLT.out).mono ?_); (rintro e w6 ⟨he, hb⟩); rw [HQ.out] at he; subst he; (replace HP := Lib.hid (HP.out.step hb)); (have h := And.intro HP.out.cell0 HP.out.cell1); clear hb; go_simp
        refine hK.out _ _ h (fun hHeld => ?_)
        clear hK K
        try simp only [Act.put, List.setIfInBounds_toArray, List.set_cons_zero, List.set_cons_succ]
        refine wpAnyD_takeP (i := 6) (d := 40) (v := ?_) rfl rfl (by kernel_rfl) (by kernel_rfl) (by kernel_rfl) (fun _ _ _ h => h) (Or.inl ⟨by rfl, ?_⟩) ?_
        rotate_left
        · (intro w' _; go_simp; (try with_reducible rfl))
        simp only [List.setIfInBounds_toArray, List.set_cons_zero, List.set_cons_succ]
        refine wpAnyD_done (by kernel_rfl) ?_ _
        clear h hHeld
        go_wp2_with fail
        go_roundg (gk - 1)
        case measure => omega
        case rel => exact ⟨k + 1, by omega, by omega, by simp, HP.out⟩
        )
    · have hke : k = T.length := by omega
      subst hke
      have hlt' : ¬ ((T.length : Nat) : Int) < (T.length : Int) := by omega
      go_wp2_with fail
      go_ret
      exact ⟨rfl, HP.out.bl⟩
theorem salone_law (xs : List Int) (A : Option Addr) (c : Nat) (w : World) (_ : xs.length ≤ c) (_ : c ≤ maxLen) (hw : ∀ y ∈ xs, (Lit.int .u16 y).wf = true) (hs : Sl1 w A (Value.int .u16) xs) :
    Calls Tryz.prog 5 #[.slice A xs.length c] w (RetTrue w) := by
  by_cases h : xs.length ≤ 60
  · obtain ⟨l, e, h3, h4⟩ := nats_of hw hs
    rw [← e]
    exact salone_small l A c w h4 h3 (by omega)
  · have h1 : (60 : Int) < (xs.length : Int) := by omega
    go_enter Tryz.func5, Tryz.ntmps5
    go_wp2_with fail
    refine (awake14_any _).mono ?_
    rintro e w1 ⟨rfl, hb1⟩
    go_wp2_with fail
    go_ret
    exact ⟨by simp, hb1⟩
end Go.Proofs.YtbppaiejpgdbiaaGreat

