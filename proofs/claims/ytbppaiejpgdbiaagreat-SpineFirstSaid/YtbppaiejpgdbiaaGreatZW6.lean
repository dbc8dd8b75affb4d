/- Texts of several layers, one behind the other: Spine4, Spine6, Beside0, Beside1, VocNew0, First0, CaseZ, Awake14, SpineLawV, SpineLawF. -/
import Derived.Test.YtbppaiejpgdbiaaGreatZW5
import Derived.WalkKit
import Derived.KernelRfl
import Derived.Lib.Hide
import Derived.Deep.QuietTactic
import Derived.BigQuiet
import Derived.OwnWalk
import Derived.Lib.Strings
import Derived.Deep.DeepCutAuto
import Derived.Deep.RegionHeld3
import Derived.StillTailTactics
import Derived.Test.YtbppaiejpgdbiaaGreatProg
import Derived.Deep.Slices
import Derived.Deep.Fields
import Derived.ChangeSame
import Derived.SliceStrings
import Derived.OpenShut
import Derived.Maps.OwnSet
import Derived.Maps.OwnOps
import Derived.DeepKeys4
import Derived.WideKeyEntry
import Derived.Maps.AppendAt
import Derived.Laws.ResultCell
import Derived.Laws.IdiomStrings
import Derived.Laws.AppendOwnNone
import Derived.Lib.AppendStr
import Derived.Laws.LoneSync
import Derived.Tactics
import Derived.Tactics2
import Derived.Defers
import Derived.Laws.Pointers
import Derived.RegionTactic
import Derived.RegionCalls
import Derived.ChangeAlike
import Derived.Test.YtbppaiejpgdbiaaGreatRows
import Derived.ProofKit
import Derived.ShutString
import Derived.ChangeOld
import Derived.Below
import Derived.Lib.SmallJoins
set_option maxRecDepth 100000
set_option linter.unusedVariables false
set_option linter.unusedSimpArgs false
namespace Go.Proofs.YtbppaiejpgdbiaaGreat
open Go.RowKit Go.Maps Go.WideMaps
section
variable {w W V : World} {tbase tb : Nat} {T : List Ent} {sv : Value} {mb mp : Nat} {a b lim : Int}
set_option maxHeartbeats 4000000 in
theorem swalk_any (h : TabIs w tbase tb T sv mb mp) (hT : OkT T) (hl : T.length ≤ 100000) :
    Calls Tryz.prog 33 #[.pointer (some ⟨tb, 0, none⟩), .int .i64 a, .int .i64 b, .int .i64 lim] w fun e w' => e = .returned (.bool (hasT T a && hasT T b && (wlkT T a b lim).1)) ∧ Below w.heap.size w w' := by
  have HT := Lib.hid h
  have HS := Lib.hid (shas_any (a := a) (b := b) h hl)
  have HBG := Lib.hid (sbegin_any (a := a) (b := b) (lim := lim) h)
  obtain ⟨k, hk⟩ : ∃ k, (hasT T a && hasT T b) = k := ⟨_, rfl⟩
  rw [hk] at HS ⊢
  cases k with
  | false =>
    clear h hl hk
    go_enter Tryz.func33, Tryz.ntmps33
    go_wp2_with ((refine HS.out.mono ?_); (rintro e V1 ⟨rfl, rfl⟩))
    go_ret
    exact ⟨rfl, Below.refl _ _⟩
  | true =>
    rw [Bool.and_eq_true] at hk
    have HK := Lib.hid hk
    have HOK := Lib.hid hT
    have HL := Lib.hid hl
    clear h hl hk hT
    go_enter Tryz.func33, Tryz.ntmps33
    go_wp2_with (first | ((refine HS.out.mono ?_); (rintro e V1 ⟨rfl, rfl⟩)) | ((refine HBG.out.mono ?_); (rintro e V2 ⟨⟨nb, rfl, hw⟩, hb⟩); (have HW := Lib.hid hw); (have HB := Lib.hid hb); (clear hw hb)) | ((refine (free_any HW.out HOK.out HL.out HK.out.1 HK.out.2 (by decide)).mono ?_); (rintro e V3 ⟨rfl, hw, hb⟩); (have HB2 := Lib.hid (HB.out.trans hb)); (clear hw hb)))
    go_ret
    exact ⟨rfl, HB2.out⟩
end
section
variable {w : World} {base vb : Nat} {s : SpecP} {T : List Ent} {A1 A2 A3 A4 A5 : Option Addr} {c1 c2 c3 c4 c5 tbase tb bk kbase mk : Nat} {sv : Value} {mb mp : Nat} {sv2 : Value} {mi mt : Nat} {l : Value} {dn st se us : Int}
theorem special_any (h : VocIs w base vb s T A1 A2 A3 A4 A5 c1 c2 c3 c4 c5 tbase tb bk kbase mk sv mb mp sv2 mi mt l dn st se us) (id : Int) (hw : (Lit.int .i64 id).wf = true) (hM : s.xs.length ≤ 1000) :
    Calls Tryz.prog 96 #[.pointer (some ⟨vb, 0, none⟩), .int .i64 id] w fun e w' => e = .returned (.bool (fndI s.xs id).isSome) ∧ w' = w := by
  have h1 := Lib.hid (vmarks_any h)
  have h2 := Lib.hid (mark_any h.mrk id hw hM)
  clear h hw hM
  go_enter Tryz.func96, Tryz.ntmps96
  go_wp2_with (first | (go_at_call 68; (refine h1.out.mono ?_); (rintro e V1 ⟨rfl, rfl⟩)) | (go_at_call 93; (refine h2.out.mono ?_); (rintro e V1 ⟨rfl, rfl⟩)))
  all_goals (go_ret; exact ⟨rfl, rfl⟩)
end
def VocP.besO (p : VocP) (a b : Int) : Bool := betB p.cut (bytesT p.T a) (bytesT p.T b) || (hasT p.T a && hasT p.T b && (wlkT p.T a b 9223372036854775807).1)
def VocP.bes (p : VocP) (a b : Int) : Bool := (fndI p.s.xs a).isSome || (fndI p.s.xs b).isSome || p.besO a b
section
variable {w w' : World} {base : Nat} {p : VocP} {g : Option Nat} {l : Value} {dn st se us : Int}
set_option maxHeartbeats 2000000 in
theorem beside_q (h : VocQ w base p l dn st se us) (hT : OkT p.T) (a b : Int) (ha : (Lit.int .i64 a).wf = true) (hb : (Lit.int .i64 b).wf = true) (hM : p.s.xs.length ≤ 1000) :
    Calls Tryz.prog 52 #[.pointer (some ⟨p.vb, 0, none⟩), .int .i64 a, .int .i64 b] w fun e w' => e = .returned (.bool (p.bes a b)) ∧ Below w.heap.size w w' := by
  have HS : Hid (∀ x, (x = a ∨ x = b) → Calls Tryz.prog 96 #[.pointer (some ⟨p.vb, 0, none⟩), .int .i64 x] w fun e w' => e = .returned (.bool (fndI p.s.xs x).isSome) ∧ w' = w) := Lib.hid (by
    rintro x (rfl | rfl)
    · exact special_any h _ ha hM
    · exact special_any h _ hb hM)
  have HTB := Lib.hid (vtable_any h)
  have HBO := Lib.hid (vbounds_any h)
  have HB : Hid (∀ x, Calls Tryz.prog 97 #[.pointer (some ⟨p.tb, 0, none⟩), .int .i64 x] w fun e w' => e = .returned (.tuple #[.string (bs (bytesT p.T x)), .bool (hasT p.T x)]) ∧ w' = w) := Lib.hid (fun x => bytes_tab x h.tab)
  have HBT := Lib.hid (between_any (some ⟨p.bk, 0, none⟩) p.cut (bs (bytesT p.T a)) (bs (bytesT p.T b)) w (.inr ⟨p.bk, Cof p.s.cs, Jof p.s.js, rfl, h.bnd, rfl⟩) (by rw [bs_size]; have := bytesT_le hT a; omega))
  have HT : Hid (∀ m, VocQ (w.drewN m) base p l dn st se us) := Lib.hid (fun m => h.below (B := w.heap.size) (below_drewN (Below.refl _ _) m) (Nat.le_refl _))
  have HW := Lib.hid (fun m => swalk_any (a := a) (b := b) (lim := 9223372036854775807) (h.tab.drewN m) hT (by have := hT.small; omega))
  have ebs : ∀ l : List UInt8, (bs l).data.toList = l := fun l => rfl
  rw [ebs, ebs] at HBT
  unfold VocP.bes VocP.besO
  obtain ⟨q1, h1⟩ : ∃ q, (fndI p.s.xs a).isSome = q := ⟨_, rfl⟩
  obtain ⟨q2, h2⟩ : ∃ q, (fndI p.s.xs b).isSome = q := ⟨_, rfl⟩
  have HQ1 := Lib.hid h1
  have HQ2 := Lib.hid h2
  rw [h1, h2]
  generalize betB p.cut (bytesT p.T a) (bytesT p.T b) = q3 at *
  generalize (hasT p.T a && hasT p.T b && (wlkT p.T a b 9223372036854775807).1) = q4 at *
  clear h hT ha hb hM h1 h2 ebs
  cases q1 with
  | true =>
    go_enter Tryz.func52, Tryz.ntmps52
    go_wp2_with (go_at_call 96; refine (HS.out _ (.inl rfl)).mono ?_; rintro e W1 ⟨he, rfl⟩; rw [HQ1.out] at he; subst he)
    go_ret
    exact ⟨by simp, Below.refl _ _⟩
  | false =>
    cases q2 with
    | true =>
      go_enter Tryz.func52, Tryz.ntmps52
      go_wp2_with (go_at_call 96; refine (HS.out _ (by first | exact .inl rfl | exact .inr rfl)).mono ?_; rintro e W1 ⟨he, rfl⟩; (first | rw [HQ1.out] at he | rw [HQ2.out] at he); subst he)
      go_ret
      exact ⟨by simp, Below.refl _ _⟩
    | false =>
      have arm : True := trivial
      cases q3 with
      | true =>
        go_enter Tryz.func52, Tryz.ntmps52
        go_wp2_with (first
          | (go_at_call 96; refine (HS.out _ (by first | exact .inl rfl | exact .inr rfl)).mono ?_; rintro e W1 ⟨he, rfl⟩; (first | rw [HQ1.out] at he | rw [HQ2.out] at he); subst he)
          | (go_at_call 65; refine HTB.out.mono ?_; rintro e W1 ⟨rfl, rfl⟩)
          | (go_at_call 98; refine HBO.out.mono ?_; rintro e W1 ⟨rfl, rfl⟩)
          | (go_at_call 97; refine (HB.out _).mono ?_; rintro e W1 ⟨rfl, rfl⟩)
          | (go_at_call 99; refine HBT.out.mono ?_; rintro e W1 ⟨rfl, m, rfl⟩))
        go_ret
        exact ⟨by simp, below_drewN (Below.refl _ _) _⟩
      | false =>
        go_enter Tryz.func52, Tryz.ntmps52
        go_wp2_with (first
          | (go_at_call 96; refine (HS.out _ (by first | exact .inl rfl | exact .inr rfl)).mono ?_; rintro e W1 ⟨he, rfl⟩; (first | rw [HQ1.out] at he | rw [HQ2.out] at he); subst he)
          | (go_at_call 65; first | (refine HTB.out.mono ?_; rintro e W1 ⟨rfl, rfl⟩) | (refine (vtable_any (HT.out _)).mono ?_; rintro e W1 ⟨rfl, rfl⟩))
          | (go_at_call 98; refine HBO.out.mono ?_; rintro e W1 ⟨rfl, rfl⟩)
          | (go_at_call 97; refine (HB.out _).mono ?_; rintro e W1 ⟨rfl, rfl⟩)
          | (go_at_call 99; refine HBT.out.mono ?_; rintro e W1 ⟨rfl, m, rfl⟩)
          | (go_at_call 33; refine (HW.out _).mono ?_; rintro e W2 ⟨rfl, hb⟩; have HBW := Lib.hid hb; clear hb))
        go_ret
        exact ⟨by simp, (below_drewN (Below.refl _ _) _).trans HBW.out⟩
end
section
variable {w w' W W1 : World} {base : Nat} {p : VocP} {g g1 : Option Nat}
theorem AskV.trans (hk : Keep (fun x => x = p.vb) w W) (hl : g1 = g ∨ ∃ x, g1 = some x ∧ w.heap.size ≤ x) (h2 : AskV W W1 base p g1) : AskV w W1 base p g := by
  obtain ⟨g2, hv, hk2, hl2⟩ := h2
  refine ⟨g2, hv, hk.trans hk2 (fun x hx => .inl hx), ?_⟩
  rcases hl2 with rfl | ⟨x, rfl, hx⟩
  · exact hl
  · exact .inr ⟨x, rfl, Nat.le_trans hk.size hx⟩
theorem AskV.of_below (h : VocAt w base p g) (hb : Below w.heap.size w W) : AskV w W base p g :=
  ⟨g, h.below hb (Nat.le_refl _), Keep.of_below hb, .inl rfl⟩
theorem VocAt.bes_any (h : VocAt w base p g) (hT : OkT p.T) (a b : Int) (ha : (Lit.int .i64 a).wf = true) (hb : (Lit.int .i64 b).wf = true) (hM : p.s.xs.length ≤ 1000) :
    Calls Tryz.prog 52 #[.pointer (some ⟨p.vb, 0, none⟩), .int .i64 a, .int .i64 b] w fun e w' => e = .returned (.bool (p.bes a b)) ∧ Below w.heap.size w w' := by
  obtain ⟨l, dn, st, se, us, h1, _⟩ := h
  exact beside_q h1 hT a b ha hb hM
set_option maxHeartbeats 1000000 in
theorem svalid_any (h : VocAt w base p g) (hT : OkT p.T) (a b : Int) (ha : (Lit.int .i64 a).wf = true) (hb : (Lit.int .i64 b).wf = true) (hM : p.s.xs.length ≤ 1000) :
    Calls Tryz.prog 19 #[.pointer (some ⟨p.vb, 0, none⟩), .int .i64 a, .int .i64 b] w fun e w' => e = .returned (.bool (p.aln a && p.aln b && p.bes a b)) ∧ AskV w w' base p g := by
  have HA := Lib.hid (valone_any h hT a ha hM)
  have HB : Hid (∀ V g, VocAt V base p g → Calls Tryz.prog 51 #[.pointer (some ⟨p.vb, 0, none⟩), .int .i64 b] V fun e w' => e = .returned (.bool (p.aln b)) ∧ AskV V w' base p g) := Lib.hid (fun V g hV => valone_any hV hT b hb hM)
  have HC : Hid (∀ V g, VocAt V base p g → Calls Tryz.prog 52 #[.pointer (some ⟨p.vb, 0, none⟩), .int .i64 a, .int .i64 b] V fun e w' => e = .returned (.bool (p.bes a b)) ∧ Below V.heap.size V w') := Lib.hid (fun V g hV => hV.bes_any hT a b ha hb hM)
  clear h hT ha hb hM
  obtain ⟨q1, h1⟩ : ∃ q, p.aln a = q := ⟨_, rfl⟩
  obtain ⟨q2, h2⟩ : ∃ q, p.aln b = q := ⟨_, rfl⟩
  rw [h1] at HA ⊢
  rw [h2] at HB ⊢
  clear h1 h2
  generalize p.bes a b = q3 at *
  cases q1 with
  | false =>
    go_enter Tryz.func19, Tryz.ntmps19
    go_wp2_with (go_at_call 51; refine HA.out.mono ?_; rintro e W1 ⟨rfl, hA⟩; have HR := Lib.hid hA; clear hA)
    go_ret
    exact ⟨by simp, HR.out⟩
  | true =>
    cases q2 with
    | false =>
      go_enter Tryz.func19, Tryz.ntmps19
      go_wp2_with (go_at_call 51; first
        | (refine HA.out.mono ?_; rintro e W1 ⟨rfl, g1, hv, hk, hl⟩; (have HV := Lib.hid hv); (have HK := Lib.hid hk); (have HL := Lib.hid hl); clear hv hk hl HA)
        | (refine (HB.out _ g1 HV.out).mono ?_; rintro e W2 ⟨rfl, hA⟩; have HR := Lib.hid (AskV.trans HK.out HL.out hA); clear hA))
      go_ret
      exact ⟨by simp, HR.out⟩
    | true =>
      go_enter Tryz.func19, Tryz.ntmps19
      go_wp2_with (first
        | (go_at_call 51; first
          | (refine HA.out.mono ?_; rintro e W1 ⟨rfl, g1, hv, hk, hl⟩; (have HV := Lib.hid hv); (have HK := Lib.hid hk); (have HL := Lib.hid hl); clear hv hk hl HA)
          | (refine (HB.out _ g1 HV.out).mono ?_; rintro e W2 ⟨rfl, hA⟩; (have HR := Lib.hid (AskV.trans HK.out HL.out hA)); obtain ⟨g2, hv, _⟩ := hA; (have HV2 := Lib.hid hv); clear hv))
        | (go_at_call 52; refine (HC.out _ g2 HV2.out).mono ?_; rintro e W3 ⟨rfl, hb⟩; have HBE := Lib.hid hb; clear hb))
      go_ret
      obtain ⟨g3, hv3, hk3, hl3⟩ := HR.out
      exact ⟨by simp, AskV.trans hk3 hl3 (AskV.of_below hv3 HBE.out)⟩
end
def mrgS (l : List (Int × Int)) : SpecP := ⟨false, l, [], [], [], []⟩
theorem VocAt.base_le {w : World} {base : Nat} {p : VocP} {g : Option Nat} (h : VocAt w base p g) : base ≤ p.vb := by
  obtain ⟨l, dn, st, se, us, h1, _⟩ := h
  exact h1.lt.1
theorem AskV.below {w0 w W : World} {base : Nat} {p : VocP} {g : Option Nat} (h : AskV w W base p g) (hB : Below w0.heap.size w0 w) (hb : w0.heap.size ≤ p.vb) : Below w0.heap.size w0 W := by
  obtain ⟨g', hv, hk, hl⟩ := h
  exact hB.trans (hk.below hB.size (fun x hx => by omega))
theorem adds_okT : ∀ (l : List (Int × Int)) (T T' : List Ent), OkT T → addsT T l = some T' → OkT T'
  | [], T, T', h, e => by simp [addsT] at e; rw [← e]; exact h
  | m :: l, T, T', h, e => by
    rw [addsT] at e
    split at e
    · rename_i h0
      exact adds_okT l _ T' (okT_add h _ _ h0) e
    · simp at e
theorem vnew_m {l : List (Int × Int)} {T : List Ent} (hT : addsT baseT l = some T) (A : Option Addr) (c : Nat) (w : World) (hl : Sl w A encM 2 l) (hlen : l.length ≤ 744) (hr : l.all mrgR = true) :
    Calls Tryz.prog 15 #[specV false A l.length c none 0 0 none 0 0 none 0 0 none 0 0] w fun e w' => (∃ p, e = .returned (.tuple #[.pointer (some ⟨p.vb, 0, none⟩), .int .i64 0, .int .i64 0]) ∧ VocAt w' w.heap.size p none ∧ p.T = T ∧ p.s = mrgS l ∧ OkT T) ∧ Below w.heap.size w w' := by
  have hs : SpecAt w (mrgS l) A none none none none := ⟨hl, Sl1.nil _ _ _, Sl.nil _ _ _ _, Sl.nil _ _ _ _, Sl.nil _ _ _ _, by simp [mrgS]; omega⟩
  have hR : rightS (mrgS l) = true := by
    have h1 : headR (mrgS l) = true := rfl
    have h2 : (decide ((((mrgS l).ms.length : Nat) : Int) ≤ 744) && (mrgS l).ms.all mrgR) = true := by
      show (decide (((l.length : Nat) : Int) ≤ 744) && l.all mrgR) = true
      rw [hr]; simp; omega
    unfold rightS
    rw [h1, h2]
    rfl
  have hok : OkT T := adds_okT l baseT T okT_base hT
  have hL : ∀ V, Below w.heap.size w V → Calls Tryz.prog 87 #[specW (mrgS l) A none none none none c 0 0 0 0] V fun e w' => (∃ tb sv mb mp n, e = .returned (.tuple #[.pointer (some ⟨tb, 0, none⟩), .int .i64 n, .int .i64 0]) ∧ TabIs w' V.heap.size tb T sv mb mp) ∧ Below V.heap.size V w' := by
    intro V hV
    refine (load_false (R := fun x y z w' => (∃ tb sv mb mp n, x = .pointer (some ⟨tb, 0, none⟩) ∧ y = .int .i64 n ∧ z = .int .i64 0 ∧ TabIs w' V.heap.size tb T sv mb mp) ∧ Below V.heap.size V w') rfl (fun W hW => ?_)).mono ?_
    · refine (new_ok hT A c W (hl.below (hV.trans (hW.mono hV.size)) (Nat.le_refl _)) (by omega)).mono ?_
      rintro e w' ⟨tb, sv, mb, mp, rfl, _, ht, hb⟩
      exact ⟨_, _, _, rfl, ⟨tb, sv, mb, mp, _, rfl, rfl, rfl, ht.less hW.size⟩, hW.trans (hb.mono hW.size)⟩
    · rintro e w' ⟨x, y, z, rfl, ⟨tb, sv, mb, mp, n, rfl, rfl, rfl, ht⟩, hb⟩
      exact ⟨⟨tb, sv, mb, mp, n, rfl, ht⟩, hb⟩
  have hM : ∀ V, Below w.heap.size w V → Calls Tryz.prog 88 #[.slice none (mrgS l).xs.length 0] V fun e w' => (∃ mb sv mi mt n, e = .returned (.tuple #[.pointer (some ⟨mb, 0, none⟩), .int .i64 n, .int .i64 0]) ∧ MarkIs w' V.heap.size mb (mrgS l).xs sv mi mt) ∧ Below V.heap.size V w' := by
    intro V hV
    refine (mnew_nil V 0).mono ?_
    rintro e w' ⟨⟨mb, sv, mi, mt, rfl, hm⟩, hb⟩
    exact ⟨⟨mb, sv, mi, mt, 0, rfl, hm⟩, hb⟩
  refine (vnew_any (cM := c) (cT := 0) (cX := 0) (cC := 0) (cJ := 0) hs hR hL hM rfl (by simp [mrgS]; omega) rfl rfl).mono ?_
  rintro e w' ⟨⟨vb, A1, A2, A3, A4, A5, c1, c2, c3, c4, c5, tbase, tb, bk, kbase, mk, sv, mb, mp, sv2, mi, mt, rfl, hv⟩, hb⟩
  exact ⟨⟨⟨vb, mrgS l, T, A1, A2, A3, A4, A5, c1, c2, c3, c4, c5, tbase, tb, bk, kbase, mk, sv, mb, mp, sv2, mi, mt⟩, rfl, ⟨_, 0, 0, 0, 0, hv, .inl ⟨rfl, rfl, rfl, rfl⟩⟩, rfl, rfl, hok⟩, hb⟩
theorem VocP.aln_eq {p q : VocP} (h1 : p.T = q.T) (h2 : p.s = q.s) (x : Int) : p.aln x = q.aln x := by unfold VocP.aln; rw [h1, h2]
theorem VocP.bes_eq {p q : VocP} (h1 : p.T = q.T) (h2 : p.s = q.s) (x y : Int) : p.bes x y = q.bes x y := by unfold VocP.bes VocP.besO VocP.cut; rw [h1, h2]
def VocP.ok (p : VocP) (ids : List Int) (i : Nat) : Bool := p.aln (ids.getD i 0) && (decide (i = 0) || p.bes (ids.getD (i - 1) 0) (ids.getD i 0))
def VocP.fst (p : VocP) (ids : List Int) : Option Nat := (List.range ids.length).find? (fun i => !p.ok ids i)
def fstE : Option Nat → Ending
  | none => .returned (.tuple #[.int .i64 0, .bool false])
  | some k => .returned (.tuple #[.int .i64 (k : Nat), .bool true])
theorem VocP.fst_none {p : VocP} {ids : List Int} (h : ∀ j, j < ids.length → p.ok ids j = true) : p.fst ids = none := by
  unfold VocP.fst
  rw [List.find?_eq_none]
  intro x hx
  rw [List.mem_range] at hx
  simp [h x hx]
theorem VocP.fst_some {p : VocP} {ids : List Int} {k : Nat} (hk : k < ids.length) (h : ∀ j, j < k → p.ok ids j = true) (h2 : p.ok ids k = false) : p.fst ids = some k := by
  unfold VocP.fst
  rw [List.find?_range_eq_some]
  refine ⟨by simp [h2], by simpa using hk, fun j hj => by simp [h j hj]⟩
section
variable {w w' W W1 : World} {base : Nat} {p : VocP} {g g1 : Option Nat}
set_option maxHeartbeats 2000000 in
theorem first_any (h : VocAt w base p g) (hT : OkT p.T) (ids : List Int) (A : Option Addr) (c : Nat) (hA : Sl1 w A (Value.int .i64) ids) (hAb : ∀ a, A = some a → 0 < ids.length → a.block ≠ p.vb) (hlen : ids.length < 1000000000) (hwf : ∀ x ∈ ids, (Lit.int .i64 x).wf = true) (hM : p.s.xs.length ≤ 1000) :
    Calls Tryz.prog 24 #[.pointer (some ⟨p.vb, 0, none⟩), .slice A ids.length c] w fun e w' => e = fstE (p.fst ids) ∧ AskV w w' base p g := by
  have HAL : Hid (∀ V g x, VocAt V base p g → (Lit.int .i64 x).wf = true → Calls Tryz.prog 51 #[.pointer (some ⟨p.vb, 0, none⟩), .int .i64 x] V fun e w' => e = .returned (.bool (p.aln x)) ∧ AskV V w' base p g) := Lib.hid (fun V g x hV hx => valone_any hV hT x hx hM)
  have HBE : Hid (∀ V g x y, VocAt V base p g → (Lit.int .i64 x).wf = true → (Lit.int .i64 y).wf = true → Calls Tryz.prog 52 #[.pointer (some ⟨p.vb, 0, none⟩), .int .i64 x, .int .i64 y] V fun e w' => e = .returned (.bool (p.bes x y)) ∧ Below V.heap.size V w') := Lib.hid (fun V g x y hV hx hy => hV.bes_any hT x y hx hy hM)
  have HS : Hid (∀ V, Keep (fun x => x = p.vb) w V → Sl1 V A (Value.int .i64) ids) := Lib.hid (fun V hV => by
    by_cases h0 : 0 < ids.length
    · exact sl1_keep hA hV (fun a ha => hAb a ha h0)
    · have : ids = [] := List.eq_nil_of_length_eq_zero (by omega)
      subst this
      intro i x hx
      simp at hx)
  have HWF := Lib.hid hwf
  have HLEN := Lib.hid hlen
  have HASK : Hid (AskV w w base p g) := Lib.hid ⟨g, h, Keep.refl _ _, .inl rfl⟩
  clear h hT hA hAb hwf hM hlen
  go_enter Tryz.func24, Tryz.ntmps24
  go_wp2_with fail
  obtain ⟨N, hN⟩ : ∃ N, ids.length = N := ⟨_, rfl⟩
  have HN := Lib.hid hN
  rw [hN] at HLEN ⊢
  clear hN
  go_loopg [10] N (fun n i W => ∃ k : Nat, k + n = N ∧ i = .int .i64 (k : Int) ∧ (∀ j, j < k → p.ok ids j = true) ∧ AskV w W base p g)
  case atStart => exact ⟨0, by omega, rfl, fun j hj => by omega, HASK.out⟩
  case round =>
    obtain ⟨k, hk, rfl, hok, hask⟩ := hrel
    clear HASK
    have HOK := Lib.hid hok
    clear hok
    rename World => W
    obtain ⟨g1, hv, hkp, hl⟩ := hask
    have HV := Lib.hid hv
    have HK := Lib.hid hkp
    have HL := Lib.hid hl
    clear hv hkp hl
    by_cases hlt : k < N
    · have hlt' : (k : Int) < (N : Int) := by omega
      have q0 : (0 : Int) ≤ (k : Int) := by omega
      obtain ⟨b, o, hA, hc⟩ := (HS.out _ HK.out).at k (by rw [HN.out]; exact hlt)
      obtain ⟨x, hx⟩ : ∃ x, ids[k]'(by rw [HN.out]; exact hlt) = x := ⟨_, rfl⟩
      have HX : Hid (ids.getD k 0 = x) := Lib.hid (by rw [← hx, List.getD_eq_getElem?_getD, List.getElem?_eq_getElem (by rw [HN.out]; exact hlt)]; rfl)
      have HXW := Lib.hid (HWF.out x (by rw [← hx]; exact List.getElem_mem _))
      rw [hx] at hc
      subst hA
      clear hx
      obtain ⟨q, hq⟩ : ∃ q, p.aln x = q := ⟨_, rfl⟩
      have HQ := Lib.hid hq
      have HA1 := Lib.hid (HAL.out W g1 x HV.out HXW.out)
      rw [hq] at HA1
      clear hq
      cases q with
      | false =>
        go_wp2_with (go_at_call 51; refine HA1.out.mono ?_; rintro e W1 ⟨rfl, hA⟩; have HR := Lib.hid (AskV.trans HK.out HL.out hA); clear hA)
        go_ret2
        refine ⟨?_, HR.out⟩
        rw [VocP.fst_some (k := k) (by rw [HN.out]; exact hlt) HOK.out (by unfold VocP.ok; rw [HX.out, HQ.out]; rfl)]
        rfl
      | true =>
        by_cases hk0 : k = 0
        · subst hk0
          simp only [Nat.add_zero] at hc
          go_wp2_with (go_at_call 51; refine HA1.out.mono ?_; rintro e W1 ⟨rfl, hA⟩; have HR := Lib.hid (AskV.trans HK.out HL.out hA); clear hA)
          go_roundg (gk - 1)
          case measure => omega
          case rel => exact ⟨1, by omega, by simp, fun j hj => by
            have : j = 0 := by omega
            subst this
            unfold VocP.ok
            rw [HX.out, HQ.out]; rfl, HR.out⟩
        · obtain ⟨m, hm⟩ : ∃ m, m + 1 = k := ⟨k - 1, by omega⟩
          have HMK := Lib.hid hm
          obtain ⟨b2, o2, hA2, hc2⟩ := (HS.out _ HK.out).at m (by rw [HN.out]; omega)
          injection hA2 with hA2
          injection hA2 with hA2 hA3
          subst hA2
          subst hA3
          obtain ⟨y, hy⟩ : ∃ y, ids[m]'(by rw [HN.out]; omega) = y := ⟨_, rfl⟩
          have HY : Hid (ids.getD m 0 = y) := Lib.hid (by rw [← hy, List.getD_eq_getElem?_getD, List.getElem?_eq_getElem (by rw [HN.out]; omega)]; rfl)
          have HYW := Lib.hid (HWF.out y (by rw [← hy]; exact List.getElem_mem _))
          rw [hy] at hc2
          clear hy
          obtain ⟨q, hq⟩ : ∃ q, p.bes y x = q := ⟨_, rfl⟩
          have HQ2 := Lib.hid hq
          have HB1 : Hid (∀ V g, VocAt V base p g → Calls Tryz.prog 52 #[.pointer (some ⟨p.vb, 0, none⟩), .int .i64 y, .int .i64 x] V fun e w' => e = .returned (.bool q) ∧ Below V.heap.size V w') := Lib.hid (fun V g hV => by have := HBE.out V g y x hV HYW.out HXW.out; rw [hq] at this; exact this)
          clear hq
          have HC2 : Hid (∀ V, Keep (fun x => x = p.vb) w V → V.cell? ⟨b, o + m, none⟩ = some (.int .i64 y)) := Lib.hid (fun V hV => by
            obtain ⟨b3, o3, e3, c3⟩ := (HS.out V hV).at m (by rw [HN.out]; omega)
            injection e3 with e3
            injection e3 with e3 e4
            subst e3
            subst e4
            have e5 : ids[m]'(by rw [HN.out]; omega) = y := by rw [← HY.out, List.getD_eq_getElem?_getD, List.getElem?_eq_getElem (by rw [HN.out]; omega)]; rfl
            rw [e5] at c3
            exact c3)
          have p0 : (0 : Int) < (k : Int) := by omega
          have p1 : IntKind.i64.wrap ((k : Int) - 1) = (m : Int) := by rw [show (k : Int) - 1 = (m : Int) by omega]; exact IntWalk.i64_in _ (by have := HLEN.out; omega)
          have p2 : (0 : Int) ≤ (m : Int) := by omega
          have p3 : (m : Int) < (N : Int) := by omega
          clear hc2 hm hk0
          cases q with
          | false =>
            go_wp2_with (first | (go_at_call 51; refine HA1.out.mono ?_; rintro e W1 ⟨rfl, g2, hv2, hk2, hl2⟩; (have HR := Lib.hid (AskV.trans HK.out HL.out ⟨g2, hv2, hk2, hl2⟩)); (have HV2 := Lib.hid hv2); (have cc := HC2.out W1 (HK.out.trans hk2 (fun x hx => .inl hx))); clear hv2 hk2 hl2) | (go_at_call 52; refine (HB1.out _ g2 HV2.out).mono ?_; rintro e W2 ⟨rfl, hb⟩; have HBB := Lib.hid hb; clear hb))
            go_ret2
            obtain ⟨g3, hv3, hk3, hl3⟩ := HR.out
            refine ⟨?_, AskV.trans hk3 hl3 (AskV.of_below hv3 HBB.out)⟩
            have em := HMK.out
            rw [VocP.fst_some (k := k) (by rw [HN.out]; exact hlt) HOK.out (by unfold VocP.ok; rw [HX.out, HQ.out, ← em, Nat.add_sub_cancel, HY.out, HQ2.out]; simp)]
            rfl
          | true =>
            have ws : IntKind.i64.wrap ((k : Int) + 1) = (k : Int) + 1 := IntWalk.i64_in _ (by have := HLEN.out; omega)
            go_wp2_with (first | (go_at_call 51; refine HA1.out.mono ?_; rintro e W1 ⟨rfl, g2, hv2, hk2, hl2⟩; (have HR := Lib.hid (AskV.trans HK.out HL.out ⟨g2, hv2, hk2, hl2⟩)); (have HV2 := Lib.hid hv2); (have cc := HC2.out W1 (HK.out.trans hk2 (fun x hx => .inl hx))); clear hv2 hk2 hl2) | (go_at_call 52; refine (HB1.out _ g2 HV2.out).mono ?_; rintro e W2 ⟨rfl, hb⟩; have HBB := Lib.hid hb; clear hb))
            have HR2 := Lib.hid (by
              obtain ⟨g3, hv3, hk3, hl3⟩ := HR.out
              exact AskV.trans hk3 hl3 (AskV.of_below hv3 HBB.out) : AskV w _ base p g)
            go_roundg (gk - 1)
            case measure => omega
            case rel => exact ⟨k + 1, by omega, by simp, fun j hj => by
              by_cases e : j = k
              · subst e
                have em := HMK.out
                unfold VocP.ok
                rw [HX.out, HQ.out, ← em, Nat.add_sub_cancel, HY.out, HQ2.out]; simp
              · exact HOK.out j (by omega), HR2.out⟩
    · have hke : k = N := by omega
      subst hke
      have hlt' : ¬ ((k : Nat) : Int) < (k : Int) := by omega
      go_wp2_with fail
      go_ret2
      refine ⟨?_, g1, HV.out, HK.out, HL.out⟩
      rw [VocP.fst_none (fun j hj => HOK.out j (by rw [HN.out] at hj; exact hj))]
      rfl
end
def clsZ (l : List Int) : Cls := ⟨l.getD 0 0, l.getD 1 0, l.getD 2 0⟩
def jnZ (l : List Int) : Jn := ⟨l.getD 0 0, l.getD 1 0⟩
theorem slZ {α β : Type} {w : World} {A : Option Addr} {enc : α → List Value} {enc' : β → List Value} {sz : Nat} {xs : List α} (f : α → β) (h : Sl w A enc sz xs) (he : ∀ x ∈ xs, enc' (f x) = enc x) : Sl w A enc' sz (xs.map f) := by
  intro i y hy
  rw [List.getElem?_map, Option.map_eq_some_iff] at hy
  obtain ⟨x, hx, rfl⟩ := hy
  rw [he x (List.mem_of_getElem? hx)]
  exact h i x hx
theorem enc_clsZ (l : List Int) (h : l.length = 3) : encCls (clsZ l) = encInts .i64 l := by
  match l, h with
  | [a, b, c], _ => rfl
theorem enc_jnZ (l : List Int) (h : l.length = 2) : encJn (jnZ l) = encInts .i64 l := by
  match l, h with
  | [a, b], _ => rfl
def CaseP.great (c : CaseP) : Bool := decide (60 < c.l.length) || decide (20 < c.cs.length) || decide (20 < c.js.length) || greatX c.xs
structure CaseIn (w : World) (c : CaseP) (AL AC AJ AX : Option Addr) (cL cC cJ cX : Nat) : Prop where
  here : CaseAt w c AL AC AJ AX cL cC cJ cX
  sm : ∀ x ∈ c.l, x < 65536
  xl : c.xs.length ≤ 9223372036854775807
def CaseP.val (c : CaseP) (AL AC AJ AX : Option Addr) (cL cC cJ cX : Nat) : Value := .agg #[.slice AL c.l.length cL, .slice AC c.cs.length cC, .slice AJ c.js.length cJ, .slice AX c.xs.length cX]
theorem CaseIn.ok {w : World} {c : CaseP} {AL AC AJ AX : Option Addr} {cL cC cJ cX : Nat} (h : CaseIn w c AL AC AJ AX cL cC cJ cX) (hg : c.great = false) : CaseOk c := by
  unfold CaseP.great greatX longX at hg
  simp only [Bool.or_eq_false_iff, decide_eq_false_iff_not, List.any_eq_false, decide_eq_true_eq] at hg
  obtain ⟨⟨⟨h1, h2⟩, h3⟩, h4, h5⟩ := hg
  exact ⟨h.sm, by omega, by omega, by omega, by omega, fun x hx => by have := h4 x hx; omega⟩
theorem case_in {w : World} {x0 : List Int} {A0 : Option Addr} {c0 : Nat} {x1 : List (List Int)} {A1 : Option Addr} {c1 : Nat} {x2 : List (List Int)} {A2 : Option Addr} {c2 : Nat} {x3 : List (Int × List UInt8)} {A3 : Option Addr} {c3 : Nat}
    (_ : x0.length ≤ c0) (_ : c0 ≤ maxLen) (w0 : ∀ y ∈ x0, (Lit.int .u16 y).wf = true) (s0 : Sl1 w A0 (Value.int .u16) x0)
    (l1 : x1.length ≤ c1) (_ : c1 ≤ maxLen) (w1 : ∀ y ∈ x1, y.length = 3 ∧ ∀ z ∈ y, (Lit.int .i64 z).wf = true) (s1 : Sl w A1 (encInts .i64) 3 x1)
    (l2 : x2.length ≤ c2) (_ : c2 ≤ maxLen) (w2 : ∀ y ∈ x2, y.length = 2 ∧ ∀ z ∈ y, (Lit.int .i64 z).wf = true) (s2 : Sl w A2 (encInts .i64) 2 x2)
    (l3 : x3.length ≤ c3) (m3 : c3 ≤ maxLen) (w3 : ∀ y ∈ x3, (Lit.int .i64 y.1).wf = true ∧ y.2.length ≤ maxLen) (s3 : Sl w A3 encIS 2 x3) :
    ∃ c : CaseP, CaseIn w c A0 A1 A2 A3 c0 c1 c2 c3 ∧ (.agg #[.slice A0 x0.length c0, .slice A1 x1.length c1, .slice A2 x2.length c2, .slice A3 x3.length c3] : Value) = c.val A0 A1 A2 A3 c0 c1 c2 c3 := by
  obtain ⟨l, e, h3, h4⟩ := nats_of w0 s0
  refine ⟨⟨l, x1.map clsZ, x2.map jnZ, x3⟩, ⟨⟨h4, slZ clsZ s1 (fun x hx => enc_clsZ x (w1 x hx).1), slZ jnZ s2 (fun x hx => enc_jnZ x (w2 x hx).1), s3, by simpa using l1, by simpa using l2⟩, h3, ?_⟩, ?_⟩
  · show x3.length ≤ _
    unfold maxLen at m3
    omega
  · unfold CaseP.val
    simp [e]
section
variable {w w' W W' : World} {base base' mb : Nat} {c : CaseP} {r : RVoc} {p : VocP} {g : Option Nat} {AL AC AJ AX : Option Addr} {cL cC cJ cX : Nat}
theorem CaseIn.below (h : CaseIn w c AL AC AJ AX cL cC cJ cX) {B : Nat} (hb : Below B w w') (hB : w.heap.size ≤ B) : CaseIn w' c AL AC AJ AX cL cC cJ cX := ⟨h.here.below hb hB, h.sm, h.xl⟩
theorem great_no (h : CaseIn w c AL AC AJ AX cL cC cJ cX) (hg : c.great = false) : Calls Tryz.prog 11 #[c.val AL AC AJ AX cL cC cJ cX] w fun e w' => e = .returned (.int .i64 0) ∧ Below w.heap.size w w' := by
  refine (great12_any h.here.xs h.xl).mono ?_
  rintro e w' ⟨rfl, hb⟩
  exact ⟨by rw [show (decide (60 < c.l.length) || decide (20 < c.cs.length) || decide (20 < c.js.length) || greatX c.xs) = false from hg]; rfl, hb⟩
theorem great_yes (h : CaseIn w c AL AC AJ AX cL cC cJ cX) (hg : c.great = true) : Calls Tryz.prog 11 #[c.val AL AC AJ AX cL cC cJ cX] w fun e w' => e = .returned (.int .i64 1) ∧ Below w.heap.size w w' := by
  refine (great12_any h.here.xs h.xl).mono ?_
  rintro e w' ⟨rfl, hb⟩
  exact ⟨by rw [show (decide (60 < c.l.length) || decide (20 < c.cs.length) || decide (20 < c.js.length) || greatX c.xs) = true from hg]; rfl, hb⟩
theorem VocAt.off {α : Type} (h : VocAt w base p g) {A : Option Addr} {enc : α → List Value} {sz : Nat} {xs : List α} (hs : Sl w A enc sz xs) (k : Keep (fun x => x = p.vb) w w')
    (he : ∀ x, (∃ a b, (enc x)[0]? = some (.int .i64 a) ∧ (enc x)[1]? = some (.int .i64 b)) ∨ ∃ s, (enc x)[1]? = some (.string s)) : Sl w' A enc sz xs := by
  obtain ⟨l, dn, st, se, us, hq, hl⟩ := h
  have hbk := hq.blk
  have hls : ∃ A n c, l = .slice A n c := by
    rcases hl with ⟨_, h2, _⟩ | ⟨_, _, _, h2, _⟩ <;> exact ⟨_, _, _, h2⟩
  obtain ⟨Al, nl, cl, rfl⟩ := hls
  intro i x hx
  obtain ⟨b, o, e, hc⟩ := hs i x hx
  have hb : b ≠ p.vb := by
    intro hbe
    subst hbe
    rcases he x with ⟨a1, a2, h1, h2⟩ | ⟨s, h2⟩
    · have c1 := hc 0 _ h1
      have c2 := hc 1 _ h2
      rw [blk_cell hbk] at c1 c2
      generalize o + i * sz = n at c1 c2
      rcases n with _ | _ | _ | _ | _ | _ | _ | _ | _ | _ | _ | _ | _ | _ | n <;> simp at c1 c2
    · have c2 := hc 1 _ h2
      rw [blk_cell hbk] at c2
      generalize o + i * sz = n at c2
      rcases n with _ | _ | _ | _ | _ | _ | _ | _ | _ | _ | _ | _ | _ | _ | n <;> simp at c2
  exact ⟨b, o, e, fun j v hv => k.keepCell (hc j v hv) hb⟩
theorem own_off {n sz : Nat} {e : TypeId} {v : Value} {xs : List Value} (h : VocAt w base p g) (ho : w.ownsRow base' e sz v n xs) (ht : e ≠ 161) : ∀ b, v.ownBlock = some b → b ≠ p.vb := by
  intro b hb hbe
  obtain ⟨l, dn, st, se, us, hq, _⟩ := h
  have hbk := hq.blk
  rcases ho.2 with ⟨h1, _⟩ | ⟨g, cap, cur, h1, h2, h3, _⟩
  · rw [h1] at hb; simp [Value.ownBlock] at hb
  · rw [h1] at hb
    simp only [Value.ownBlock, Option.some.injEq] at hb
    rw [hb, hbe, hbk] at h3
    injection h3 with h3
    injection h3 with _ h3 _
    exact ht h3.symm
theorem RVocIs.keepV (h : RVocIs w base c r) (hv : VocAt w base' p g) (k : Keep (fun x => x = p.vb) w w') : RVocIs w' base c r :=
  ⟨⟨own_keep h.ref.row k (fun b hb => own_off hv h.ref.row (by decide) b hb), own_keep h.ref.mrg k (fun b hb => own_off hv h.ref.mrg (by decide) b hb), h.ref.nil⟩,
   hv.off h.cs k (fun x => .inl ⟨_, _, rfl, rfl⟩), hv.off h.js k (fun x => .inl ⟨_, _, rfl, rfl⟩), hv.off h.xs k (fun x => .inr ⟨_, rfl⟩)⟩
structure LawV (w W : World) (c : CaseP) (p : VocP) (r : RVoc) (mb : Nat) : Prop where
  voc : ∃ g, VocAt W w.heap.size p g
  box : W.heap[mb]? = some (.cells #[.slice r.A1 c.T.length r.c1, .slice r.A2 (mrgsT c.T).length r.c2, .slice r.A3 (someC c.cs).length r.c3, .slice r.A4 (someJ c.js).length r.c4, .slice r.A5 c.X.length r.c5] 38)
  ref : RVocIs W w.heap.size c r
  blw : Below w.heap.size w W
theorem LawV.below (h : LawV w W c p r mb) (hb : Below W.heap.size W W') : LawV w W' c p r mb := by
  obtain ⟨g, hv⟩ := h.voc
  exact ⟨⟨g, hv.below hb (Nat.le_refl _)⟩, blk_below hb (blk_lt h.box) h.box, h.ref.below hb (Nat.le_refl _), h.blw.trans (hb.mono h.blw.size)⟩
theorem LawV.drew (h : LawV w W c p r mb) : LawV w W.drew c p r mb := h.below (Below.refl _ _).drew
theorem LawV.keep (h : LawV w W c p r mb) {b0 : Nat} {g g' : Option Nat} (hv : VocAt W b0 p g) (hv' : VocAt W' w.heap.size p g') (k : Keep (fun x => x = p.vb) W W') : LawV w W' c p r mb := by
  obtain ⟨g2, hv2⟩ := h.voc
  have hvb : w.heap.size ≤ p.vb := by
    obtain ⟨l, dn, st, se, us, hq, _⟩ := hv2
    exact hq.lt.1
  have hne : mb ≠ p.vb := by
    intro e
    obtain ⟨l, dn, st, se, us, hq, _⟩ := hv2
    have h1 := h.box
    have h2 := hq.blk
    rw [e, h2] at h1
    injection h1 with h1
    injection h1 with _ h1 _
    exact absurd h1 (by decide)
  exact ⟨⟨g', hv'⟩, k.blk h.box hne, h.ref.keepV hv k, h.blw.trans (k.below h.blw.size (fun x hx => by subst hx; exact hvb))⟩
theorem LawV.ask (h : LawV w W c p r mb) {g : Option Nat} (hv : VocAt W w.heap.size p g) (ha : AskV W W' w.heap.size p g) : LawV w W' c p r mb := by
  obtain ⟨g1, hv1, hk, _⟩ := ha
  exact h.keep hv hv1 hk
theorem LawV.n0 (h : LawV w W c p r mb) : W.cell? ⟨mb, 0, none⟩ = some (.slice r.A1 c.T.length r.c1) := by have := blk_cell h.box 0; simpa using this
theorem LawV.n1 (h : LawV w W c p r mb) : W.cell? ⟨mb, 1, none⟩ = some (.slice r.A2 (mrgsT c.T).length r.c2) := by have := blk_cell h.box 1; simpa using this
theorem LawV.n2 (h : LawV w W c p r mb) : W.cell? ⟨mb, 2, none⟩ = some (.slice r.A3 (someC c.cs).length r.c3) := by have := blk_cell h.box 2; simpa using this
theorem LawV.n3 (h : LawV w W c p r mb) : W.cell? ⟨mb, 3, none⟩ = some (.slice r.A4 (someJ c.js).length r.c4) := by have := blk_cell h.box 3; simpa using this
theorem LawV.n4 (h : LawV w W c p r mb) : W.cell? ⟨mb, 4, none⟩ = some (.slice r.A5 c.X.length r.c5) := by have := blk_cell h.box 4; simpa using this
theorem LawV.made (hb : Below w.heap.size w W) {g : Option Nat} (hv : VocAt W w.heap.size p g) (hr : RVocIs W w.heap.size c r) :
    LawV w (W.alloc (.cells #[.slice r.A1 c.T.length r.c1, .slice r.A2 (mrgsT c.T).length r.c2, .slice r.A3 (someC c.cs).length r.c3, .slice r.A4 (someJ c.js).length r.c4, .slice r.A5 c.X.length r.c5] 38)) c p r W.heap.size := by
  have hB := (Below.refl W.heap.size W).alloc (Nat.le_refl _) (.cells #[.slice r.A1 c.T.length r.c1, .slice r.A2 (mrgsT c.T).length r.c2, .slice r.A3 (someC c.cs).length r.c3, .slice r.A4 (someJ c.js).length r.c4, .slice r.A5 c.X.length r.c5] 38)
  exact ⟨⟨g, hv.below hB (Nat.le_refl _)⟩, blk_new _ _, hr.below hB (Nat.le_refl _), hb.trans (hB.mono hb.size)⟩
end
def aw14 : List (Int × Int) := [(97, 98), (98, 99)]
def awT14a : List Ent := baseT ++ [([97, 98], 97, 98)]
def awT14 : List Ent := awT14a ++ [([98, 99], 98, 99)]
theorem aw14_1 : addT baseT 97 98 = (256, 0, awT14a) := by kernel_rfl
theorem aw14_2 : addT awT14a 98 99 = (257, 0, awT14) := by kernel_rfl
theorem aw14_adds : addsT baseT aw14 = some awT14 := by simp only [aw14, addsT, aw14_1, aw14_2, if_true]
def awp14 : VocP := ⟨0, mrgS aw14, awT14, none, none, none, none, none, 0, 0, 0, 0, 0, 0, 0, 0, 0, 0, .bool false, 0, 0, .bool false, 0, 0⟩
theorem aw14_v1 : (awp14.aln 97 && awp14.aln 257 && awp14.bes 97 257) = false := by kernel_rfl
theorem aw14_v2 : (awp14.aln 256 && awp14.aln 99 && awp14.bes 256 99) = true := by kernel_rfl
theorem aw14_v3 : (awp14.aln 256 && awp14.aln 257 && awp14.bes 256 257) = true := by kernel_rfl
set_option maxHeartbeats 2000000 in
theorem awake14_any (w : World) : Calls Tryz.prog 16 #[] w fun e w' => e = .returned (.bool true) ∧ Below w.heap.size w w' := by
  have HB0 := Lib.hid ((Below.refl w.heap.size w).alloc (Nat.le_refl _) (.cells #[.int .i64 97, .int .i64 98, .int .i64 98, .int .i64 99] 55))
  have HSL := Lib.hid (sl_mrg (l := aw14) (blk_new w (.cells #[.int .i64 97, .int .i64 98, .int .i64 98, .int .i64 99] 55)))
  have HN : Hid (∀ V, Sl V (some ⟨w.heap.size, 0, none⟩) encM 2 aw14 → Calls Tryz.prog 15 #[.agg #[.bool false, .slice (some ⟨w.heap.size, 0, none⟩) 2 2, .slice none 0 0, .slice none 0 0, .slice none 0 0, .slice none 0 0]] V fun e w' => (∃ p, e = .returned (.tuple #[.pointer (some ⟨p.vb, 0, none⟩), .int .i64 0, .int .i64 0]) ∧ VocAt w' V.heap.size p none ∧ p.T = awT14 ∧ p.s = mrgS aw14 ∧ OkT awT14) ∧ Below V.heap.size V w') := Lib.hid (fun V hV => vnew_m aw14_adds _ 2 V hV (by decide) (by decide))
  go_enter Tryz.func16, Tryz.ntmps16
  go_upto_region 2 with (go_at_call 15; refine (HN.out _ HSL.out).mono ?_; rintro e W ⟨⟨p, rfl, hv, hT, hs, hok⟩, hb⟩; (have HV := Lib.hid hv); (have HT := Lib.hid hT); (have HS := Lib.hid hs); (have HOK := Lib.hid hok); (have HB := Lib.hid (HB0.out.trans (hb.mono HB0.out.size))); (have HVB := Lib.hid (Nat.le_trans HB0.out.size hv.base_le)); clear hv hT hs hok hb)
  have E1 : Hid ((p.aln 97 && p.aln 257 && p.bes 97 257) = false) := Lib.hid (by rw [VocP.aln_eq (q := awp14) HT.out HS.out, VocP.aln_eq (q := awp14) HT.out HS.out, VocP.bes_eq (q := awp14) HT.out HS.out]; exact aw14_v1)
  have E2 : Hid ((p.aln 256 && p.aln 99 && p.bes 256 99) = true) := Lib.hid (by rw [VocP.aln_eq (q := awp14) HT.out HS.out, VocP.aln_eq (q := awp14) HT.out HS.out, VocP.bes_eq (q := awp14) HT.out HS.out]; exact aw14_v2)
  have E3 : Hid ((p.aln 256 && p.aln 257 && p.bes 256 257) = true) := Lib.hid (by rw [VocP.aln_eq (q := awp14) HT.out HS.out, VocP.aln_eq (q := awp14) HT.out HS.out, VocP.bes_eq (q := awp14) HT.out HS.out]; exact aw14_v3)
  have HM : Hid (p.s.xs.length ≤ 1000) := Lib.hid (by rw [HS.out]; decide)
  have HOP : Hid (OkT p.T) := Lib.hid (by rw [HT.out]; exact HOK.out)
  have HVX : Hid (∃ g, VocAt W (w.alloc (.cells #[.int .i64 97, .int .i64 98, .int .i64 98, .int .i64 99] 55)).heap.size p g) := Lib.hid ⟨_, HV.out⟩
  clear HV HT HS HOK HSL HN HB0
  obtain ⟨gb, hgb⟩ : ∃ b, (w.alloc (.cells #[.int .i64 97, .int .i64 98, .int .i64 98, .int .i64 99] 55)).heap.size = b := ⟨_, rfl⟩
  rw [hgb] at HVX
  clear hgb
  have HVA : Hid (∀ V a b, (∃ g, VocAt V gb p g) → (Lit.int .i64 a).wf = true → (Lit.int .i64 b).wf = true → Calls Tryz.prog 19 #[.pointer (some ⟨p.vb, 0, none⟩), .int .i64 a, .int .i64 b] V fun e w' => e = .returned (.bool (p.aln a && p.aln b && p.bes a b)) ∧ (∃ g, VocAt w' gb p g) ∧ (Below w.heap.size w V → Below w.heap.size w w')) := Lib.hid (fun V a b ⟨g, hV⟩ ha hb => by
    refine (svalid_any hV HOP.out a b ha hb HM.out).mono ?_
    rintro e w' ⟨rfl, hA⟩
    exact ⟨rfl, ⟨_, hA.choose_spec.1⟩, fun hB => hA.below hB HVB.out⟩)
  go_wp2_with (go_at_call 19; refine (HVA.out _ _ _ HVX.out (by rfl) (by rfl)).mono ?_; rintro e V ⟨he, hx, hb⟩; (first | rw [E1.out] at he | rw [E2.out] at he | rw [E3.out] at he); subst he; (replace HVX := Lib.hid hx); (replace HB := Lib.hid (hb HB.out)); clear hx hb)
  go_ret
  exact ⟨rfl, HB.out⟩
theorem law_alone (p : VocP) (c : CaseP) (hT : p.T = c.T) (hs : p.s = c.spec) (x : Int) : p.aln x = okB c.T (Cof (someC c.cs)) (Jof (someJ c.js)) c.X none x := by
  unfold VocP.aln okB
  rw [hT, hs]
  simp [CaseP.spec, CaseP.X]
theorem law_pair (p : VocP) (c : CaseP) (hT : p.T = c.T) (hs : p.s = c.spec) (x y : Int) : (p.aln x && p.bes y x) = okB c.T (Cof (someC c.cs)) (Jof (someJ c.js)) c.X (some y) x := by
  unfold VocP.aln VocP.bes VocP.besO VocP.cut okB
  rw [hT, hs]
  rfl
theorem law_ok (p : VocP) (c : CaseP) (hT : p.T = c.T) (hs : p.s = c.spec) (ids : List Int) (i : Nat) (hi : i < ids.length) : p.ok ids i = okB c.T (Cof (someC c.cs)) (Jof (someJ c.js)) c.X (ids.take i).getLast? (ids.getD i 0) := by
  rw [take_last ids i hi]
  unfold VocP.ok
  by_cases h : i = 0
  · rw [if_pos h, ← law_alone p c hT hs]
    simp [h]
  · rw [if_neg h, ← law_pair p c hT hs]
    simp [h]
theorem find_congr {p q : Nat → Bool} {n : Nat} (h : ∀ i, i < n → (∀ j, j < i → p j = false) → p i = q i) : (List.range n).find? p = (List.range n).find? q := by
  cases hp : (List.range n).find? p with
  | none =>
    rw [List.find?_eq_none] at hp
    symm
    rw [List.find?_eq_none]
    intro x hx
    have hp2 : ∀ j, j < n → p j = false := fun j hj => by have := hp j (List.mem_range.2 hj); simpa using this
    rw [← h x (List.mem_range.1 hx) (fun j hj => hp2 j (by have := List.mem_range.1 hx; omega))]
    exact hp x hx
  | some k =>
    rw [List.find?_range_eq_some] at hp
    obtain ⟨h1, h2, h3⟩ := hp
    have hk : k < n := by simpa using h2
    have h4 : ∀ j, j < k → p j = false := fun j hj => by have := h3 j hj; simpa using this
    symm
    rw [List.find?_range_eq_some]
    refine ⟨by rw [← h k hk h4]; exact h1, h2, fun j hj => ?_⟩
    rw [← h j (by omega) (fun i hi => h4 i (by omega)), h4 j hj]
    rfl
theorem law_first (p : VocP) (c : CaseP) (hT : p.T = c.T) (hs : p.s = c.spec) (ids : List Int) : p.fst ids = fstV c.T c.cut c.X ids := by
  unfold VocP.fst fstV
  refine find_congr (fun i hi h => ?_)
  have h2 : ∀ j, j < i → okB c.T (Cof (someC c.cs)) (Jof (someJ c.js)) c.X (ids.take j).getLast? (ids.getD j 0) = true := fun j hj => by
    rw [← law_ok p c hT hs ids j (by omega)]
    simpa using h j hj
  have h3 := (sc_all (C := Cof (someC c.cs)) (J := Jof (someJ c.js)) c.ok ids i hi h2).2
  unfold CaseP.cut
  rw [h3, law_ok p c hT hs ids i hi]
section
variable {w : World} {c : CaseP} {AL AC AJ AX : Option Addr} {cL cC cJ cX : Nat}
set_option maxHeartbeats 8000000 in
theorem sfst_small (h : CaseIn w c AL AC AJ AX cL cC cJ cX) (hg : c.great = false) (ids : List Int) (A : Option Addr) (d : Nat) (hA : Sl1 w A (Value.int .i64) ids) (hcap : ids.length ≤ d) (hwf : ∀ x ∈ ids, (Lit.int .i64 x).wf = true) (hlen : ids.length ≤ 60) :
    Calls Tryz.prog 6 #[c.val AL AC AJ AX cL cC cJ cX, .slice A ids.length d] w (RetTrue w) := by
  have HC := Lib.hid h
  have HOK := Lib.hid (h.ok hg)
  have HWF := Lib.hid hwf
  have HSL : Hid (∀ V, Below w.heap.size w V → Sl1 V A (Value.int .i64) ids) := Lib.hid (fun V hV => hA.below hV (Nat.le_refl _))
  have HSL0 := Lib.hid hA
  have HLEN := Lib.hid hlen
  have HCAP := Lib.hid hcap
  have h12 : ¬ (ids.length : Int) > 60 := by omega
  have HB0 := Lib.hid ((Below.refl w.heap.size w).alloc (Nat.le_refl _) (.cells #[.slice AL c.l.length cL, .slice AC c.cs.length cC, .slice AJ c.js.length cJ, .slice AX c.xs.length cX] 27))
  have HN0 := Lib.hid (blk_new w (.cells #[.slice AL c.l.length cL, .slice AC c.cs.length cC, .slice AJ c.js.length cJ, .slice AX c.xs.length cX] 27))
  have HGR : Hid (∀ V, Below w.heap.size w V → Calls Tryz.prog 11 #[.agg #[.slice AL c.l.length cL, .slice AC c.cs.length cC, .slice AJ c.js.length cJ, .slice AX c.xs.length cX]] V fun e w' => e = .returned (.int .i64 0) ∧ Below V.heap.size V w') := Lib.hid (fun V hV => great_no (h.below hV (Nat.le_refl _)) hg)
  have HOF : Hid (∀ V, Below w.heap.size w V → Calls Tryz.prog 13 #[.agg #[.slice AL c.l.length cL, .slice AC c.cs.length cC, .slice AJ c.js.length cJ, .slice AX c.xs.length cX]] V fun e w' => (∃ p r, e = .returned (.tuple #[.pointer (some ⟨p.vb, 0, none⟩), r.val c]) ∧ VocAt w' V.heap.size p none ∧ p.T = c.T ∧ p.s = c.spec ∧ RVocIs w' V.heap.size c r) ∧ Below V.heap.size V w') := Lib.hid (fun V hV => of12_any (h.here.below hV (Nat.le_refl _)) (h.ok hg))
  unfold CaseP.val
  clear h hg hA hwf hcap
  go_enter Tryz.func6, Tryz.ntmps6
  go_upto_region 1 with fail
  obtain ⟨cb, hcb⟩ : ∃ b, w.heap.size = b := ⟨_, rfl⟩
  have HCB := Lib.hid hcb
  rw [hcb] at HN0 ⊢
  clear hcb
  generalize w.alloc (.cells #[.slice AL c.l.length cL, .slice AC c.cs.length cC, .slice AJ c.js.length cJ, .slice AX c.xs.length cX] 27) = w1 at *
  have s0 := blk_cell HN0.out 0
  have s1 := blk_cell HN0.out 1
  have s2 := blk_cell HN0.out 2
  have s3 := blk_cell HN0.out 3
  simp only [List.getElem?_toArray, List.getElem?_cons_zero, List.getElem?_cons_succ] at s0 s1 s2 s3
  go_upto_region 3 with (first
    | (go_at_call 11; refine (HGR.out _ HB0.out).mono ?_; rintro e w2 ⟨rfl, hb⟩; (have HB1 := Lib.hid (HB0.out.trans (hb.mono HB0.out.size))); (have HN1 := Lib.hid (blk_below hb (blk_lt HN0.out) HN0.out)); clear hb s0 s1 s2 s3)
    | (go_at_call 16; refine (awake14_any _).mono ?_; rintro e w3 ⟨rfl, hb⟩; (have HB2 := Lib.hid (HB1.out.trans (hb.mono HB1.out.size))); (have HN2 := Lib.hid (blk_below hb (blk_lt HN1.out) HN1.out)); clear hb))
  have s0 := blk_cell HN2.out 0
  have s1 := blk_cell HN2.out 1
  have s2 := blk_cell HN2.out 2
  have s3 := blk_cell HN2.out 3
  simp only [List.getElem?_toArray, List.getElem?_cons_zero, List.getElem?_cons_succ] at s0 s1 s2 s3
  go_upto_region 6 with (go_at_call 13; refine (HOF.out _ HB2.out).mono ?_; rintro e w4 ⟨⟨p, r, rfl, hv, hpT, hps, hr⟩, hb⟩; (have HPT := Lib.hid hpT); (have HPS := Lib.hid hps); (have HL : Hid (LawV w (w4.alloc (.cells #[.slice r.A1 c.T.length r.c1, .slice r.A2 (mrgsT c.T).length r.c2, .slice r.A3 (someC c.cs).length r.c3, .slice r.A4 (someJ c.js).length r.c4, .slice r.A5 (someX c.xs (min c.xs.length 6)).length r.c5] 38)) c p r w4.heap.size) := Lib.hid (LawV.made (w := w) (W := w4) (HB2.out.trans (hb.mono HB2.out.size)) (hv.less HB2.out.size) (hr.less HB2.out.size))); (unfold RVoc.val); clear hv hpT hps hr hb s0 s1 s2 s3)
  obtain ⟨mb, hmb⟩ : ∃ b, w4.heap.size = b := ⟨_, rfl⟩
  rw [hmb] at HL ⊢
  clear hmb
  generalize w4.alloc (.cells #[.slice r.A1 c.T.length r.c1, .slice r.A2 (mrgsT c.T).length r.c2, .slice r.A3 (someC c.cs).length r.c3, .slice r.A4 (someJ c.js).length r.c4, .slice r.A5 (someX c.xs (min c.xs.length 6)).length r.c5] 38) = w5 at *
  have HL : Hid (LawV w w5 c p r mb) := HL
  clear HC HOK HGR HOF HB0 HN0 HB1 HN1 HB2 HN2
  have HTP : Hid (OkT p.T) := Lib.hid (by rw [HPT.out]; exact c.ok)
  have HXP : Hid (p.s.xs.length ≤ 1000) := Lib.hid (by rw [HPS.out]; have := c.X_len; show c.X.length ≤ 1000; omega)
  have HRF : Hid (∀ V, LawV w V c p r mb → Calls Tryz.prog 25 #[.agg #[.slice r.A1 c.T.length r.c1, .slice r.A2 (mrgsT c.T).length r.c2, .slice r.A3 (someC c.cs).length r.c3, .slice r.A4 (someJ c.js).length r.c4, .slice r.A5 c.X.length r.c5], .slice A ids.length d] V fun e w' => e = .returned (.int .i64 (fstI (fstV c.T c.cut c.X ids))) ∧ Below V.heap.size V w') := Lib.hid (fun V hV => rfirst_any hV.ref ids A d (HSL.out V hV.blw) (by have := HLEN.out; omega) HCAP.out)
  have HFI : Hid (∀ V, LawV w V c p r mb → Calls Tryz.prog 24 #[.pointer (some ⟨p.vb, 0, none⟩), .slice A ids.length d] V fun e w' => e = fstE (fstV c.T c.cut c.X ids) ∧ LawV w w' c p r mb) := Lib.hid (fun V hV => by
    obtain ⟨g, hv⟩ := hV.voc
    have hvb : w.heap.size ≤ p.vb := by
      obtain ⟨l, dn, st, se, us, hq, _⟩ := hv
      exact hq.lt.1
    refine (first_any hv HTP.out ids A d (HSL.out V hV.blw) (fun a ha h0 e => ?_) (by have := HLEN.out; omega) HWF.out HXP.out).mono ?_
    · obtain ⟨b1, o1, hA1, e1⟩ := HSL0.out.at 0 h0
      rw [ha] at hA1
      injection hA1 with hA1
      subst hA1
      have := World.block_lt_of_cell? w _ e1
      simp only at e this
      omega
    · rintro e w' ⟨rfl, hA⟩
      exact ⟨by rw [law_first p c HPT.out HPS.out], hV.ask hv hA⟩)
  have HO0 : Hid (∀ k, fstV c.T c.cut c.X ids = some k → (k : Int) < 1000) := Lib.hid (fun k hk => by
    unfold fstV at hk
    rw [List.find?_range_eq_some] at hk
    have := hk.2.1
    simp at this
    have := HLEN.out
    omega)
  generalize fstV c.T c.cut c.X ids = o at *
  cases o with
  | none =>
    unfold fstE fstI at *
    go_wp2_with (first
      | (go_at_call 24; refine (HFI.out _ HL.out).mono ?_; rintro e W7 ⟨rfl, hl⟩; (replace HL := Lib.hid hl); clear hl; (have s0 := HL.out.n0); (have s1 := HL.out.n1); (have s2 := HL.out.n2); (have s3 := HL.out.n3); (have s4 := HL.out.n4))
      | (go_at_call 25; refine (HRF.out _ HL.out).mono ?_; rintro e W8 ⟨rfl, hb⟩; (replace HL := Lib.hid (HL.out.below hb)); clear hb))
    go_ret
    exact ⟨rfl, HL.out.blw⟩
  | some k =>
    unfold fstE fstI at *
    have k0 : (0 : Int) ≤ (k : Int) := by omega
    go_wp2_with (first
      | (go_at_call 24; refine (HFI.out _ HL.out).mono ?_; rintro e W7 ⟨rfl, hl⟩; (replace HL := Lib.hid hl); clear hl; (have s0 := HL.out.n0); (have s1 := HL.out.n1); (have s2 := HL.out.n2); (have s3 := HL.out.n3); (have s4 := HL.out.n4))
      | (go_at_call 25; refine (HRF.out _ HL.out).mono ?_; rintro e W8 ⟨rfl, hb⟩; (replace HL := Lib.hid (HL.out.below hb)); clear hb))
    go_ret
    exact ⟨by simp, HL.out.blw⟩
theorem sfst_big (h : CaseIn w c AL AC AJ AX cL cC cJ cX) (N : Nat) (A : Option Addr) (d : Nat) (hg : c.great = true ∨ c.great = false ∧ 60 < N) :
    Calls Tryz.prog 6 #[c.val AL AC AJ AX cL cC cJ cX, .slice A N d] w (RetTrue w) := by
  have HB0 := Lib.hid ((Below.refl w.heap.size w).alloc (Nat.le_refl _) (.cells #[.slice AL c.l.length cL, .slice AC c.cs.length cC, .slice AJ c.js.length cJ, .slice AX c.xs.length cX] 27))
  have HN0 := Lib.hid (blk_new w (.cells #[.slice AL c.l.length cL, .slice AC c.cs.length cC, .slice AJ c.js.length cJ, .slice AX c.xs.length cX] 27))
  have HGN : Hid (∀ V, Below w.heap.size w V → c.great = false → Calls Tryz.prog 11 #[.agg #[.slice AL c.l.length cL, .slice AC c.cs.length cC, .slice AJ c.js.length cJ, .slice AX c.xs.length cX]] V fun e w' => e = .returned (.int .i64 0) ∧ Below V.heap.size V w') := Lib.hid (fun V hV => great_no (h.below hV (Nat.le_refl _)))
  have HGY : Hid (∀ V, Below w.heap.size w V → c.great = true → Calls Tryz.prog 11 #[.agg #[.slice AL c.l.length cL, .slice AC c.cs.length cC, .slice AJ c.js.length cJ, .slice AX c.xs.length cX]] V fun e w' => e = .returned (.int .i64 1) ∧ Below V.heap.size V w') := Lib.hid (fun V hV => great_yes (h.below hV (Nat.le_refl _)))
  unfold CaseP.val
  clear h
  go_enter Tryz.func6, Tryz.ntmps6
  go_upto_region 1 with fail
  obtain ⟨cb, hcb⟩ : ∃ b, w.heap.size = b := ⟨_, rfl⟩
  rw [hcb] at HN0 ⊢
  clear hcb
  generalize w.alloc (.cells #[.slice AL c.l.length cL, .slice AC c.cs.length cC, .slice AJ c.js.length cJ, .slice AX c.xs.length cX] 27) = w1 at *
  have s0 := blk_cell HN0.out 0
  have s1 := blk_cell HN0.out 1
  have s2 := blk_cell HN0.out 2
  have s3 := blk_cell HN0.out 3
  simp only [List.getElem?_toArray, List.getElem?_cons_zero, List.getElem?_cons_succ] at s0 s1 s2 s3
  rcases hg with hg | ⟨hg, hn⟩
  · have HG := Lib.hid (HGY.out _ HB0.out hg)
    clear hg HGN HGY
    go_wp2_with (first
      | (go_at_call 11; refine HG.out.mono ?_; rintro e w2 ⟨rfl, hb⟩; (have HB1 := Lib.hid (HB0.out.trans (hb.mono HB0.out.size))); clear hb s0 s1 s2 s3)
      | (go_at_call 16; refine (awake14_any _).mono ?_; rintro e w3 ⟨rfl, hb⟩; (have HB2 := Lib.hid (HB1.out.trans (hb.mono HB1.out.size))); clear hb))
    go_ret
    exact ⟨rfl, HB2.out⟩
  · have HG := Lib.hid (HGN.out _ HB0.out hg)
    have hn' : (60 : Int) < (N : Int) := by omega
    clear hg HGN HGY hn
    go_wp2_with (first
      | (go_at_call 11; refine HG.out.mono ?_; rintro e w2 ⟨rfl, hb⟩; (have HB1 := Lib.hid (HB0.out.trans (hb.mono HB0.out.size))); clear hb s0 s1 s2 s3)
      | (go_at_call 16; refine (awake14_any _).mono ?_; rintro e w3 ⟨rfl, hb⟩; (have HB2 := Lib.hid (HB1.out.trans (hb.mono HB1.out.size))); clear hb))
    go_ret
    exact ⟨rfl, HB2.out⟩
theorem sfst_law (x0 : List Int) (A0 : Option Addr) (c0 : Nat) (x1 : List (List Int)) (A1 : Option Addr) (c1 : Nat) (x2 : List (List Int)) (A2 : Option Addr) (c2 : Nat) (x3 : List (Int × List UInt8)) (A3 : Option Addr) (c3 : Nat) (xs : List Int) (A : Option Addr) (d : Nat) (w : World)
    (l0 : x0.length ≤ c0) (m0 : c0 ≤ maxLen) (w0 : ∀ y ∈ x0, (Lit.int .u16 y).wf = true) (s0 : Sl1 w A0 (Value.int .u16) x0)
    (l1 : x1.length ≤ c1) (m1 : c1 ≤ maxLen) (w1 : ∀ y ∈ x1, y.length = 3 ∧ ∀ z ∈ y, (Lit.int .i64 z).wf = true) (s1 : Sl w A1 (encInts .i64) 3 x1)
    (l2 : x2.length ≤ c2) (m2 : c2 ≤ maxLen) (w2 : ∀ y ∈ x2, y.length = 2 ∧ ∀ z ∈ y, (Lit.int .i64 z).wf = true) (s2 : Sl w A2 (encInts .i64) 2 x2)
    (l3 : x3.length ≤ c3) (m3 : c3 ≤ maxLen) (w3 : ∀ y ∈ x3, (Lit.int .i64 y.1).wf = true ∧ y.2.length ≤ maxLen) (s3 : Sl w A3 encIS 2 x3)
    (lx : xs.length ≤ d) (_ : d ≤ maxLen) (wx : ∀ y ∈ xs, (Lit.int .i64 y).wf = true) (sx : Sl1 w A (Value.int .i64) xs) :
    Calls Tryz.prog 6 #[.agg #[.slice A0 x0.length c0, .slice A1 x1.length c1, .slice A2 x2.length c2, .slice A3 x3.length c3], .slice A xs.length d] w (RetTrue w) := by
  obtain ⟨c, hc, e⟩ := case_in l0 m0 w0 s0 l1 m1 w1 s1 l2 m2 w2 s2 l3 m3 w3 s3
  rw [e]
  cases hg : c.great with
  | true => exact sfst_big hc xs.length A d (.inl hg)
  | false =>
    by_cases hn : xs.length ≤ 60
    · exact sfst_small hc hg xs A d sx lx wx hn
    · exact sfst_big hc xs.length A d (.inr ⟨hg, by omega⟩)
end
end Go.Proofs.YtbppaiejpgdbiaaGreat
