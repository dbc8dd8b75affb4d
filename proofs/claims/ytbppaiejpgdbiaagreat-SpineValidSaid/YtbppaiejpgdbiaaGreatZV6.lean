/- Texts of several layers, one behind the other: VocNew0, First0, CaseZ, Awake14, SpineLawV. -/
import Derived.Test.YtbppaiejpgdbiaaGreatZV5
import Derived.WalkKit
import Derived.KernelRfl
import Derived.Lib.Hide
import Derived.Deep.QuietTactic
import Derived.BigQuiet
import Derived.OwnWalk
import Derived.Lib.Strings
import Derived.Deep.DeepCutAuto
import Derived.Deep.RegionHeld3
import Derived.StillTailTactics
import Derived.Test.YtbppaiejpgdbiaaGreatProg
import Derived.Deep.Slices
import Derived.Deep.Fields
import Derived.ChangeSame
import Derived.SliceStrings
import Derived.OpenShut
import Derived.Maps.OwnSet
import Derived.Maps.OwnOps
import Derived.DeepKeys4
import Derived.WideKeyEntry
import Derived.Maps.AppendAt
import Derived.Laws.ResultCell
import Derived.Laws.IdiomStrings
import Derived.Laws.AppendOwnNone
import Derived.Lib.AppendStr
import Derived.Laws.LoneSync
import Derived.Tactics
import Derived.Tactics2
import Derived.Defers
import Derived.Laws.Pointers
import Derived.RegionTactic
import Derived.RegionCalls
import Derived.ChangeAlike
import Derived.Test.YtbppaiejpgdbiaaGreatRows
import Derived.ProofKit
import Derived.ShutString
import Derived.ChangeOld
import Derived.Below
import Derived.Lib.SmallJoins
set_option maxRecDepth 100000
set_option linter.unusedVariables false
set_option linter.unusedSimpArgs false
namespace Go.Proofs.YtbppaiejpgdbiaaGreat
open Go.RowKit Go.Maps Go.WideMaps
def mrgS (l : List (Int × Int)) : SpecP := ⟨false, l, [], [], [], []⟩
theorem VocAt.base_le {w : World} {base : Nat} {p : VocP} {g : Option Nat} (h : VocAt w base p g) : base ≤ p.vb := by
  obtain ⟨l, dn, st, se, us, h1, _⟩ := h
  exact h1.lt.1
theorem AskV.below {w0 w W : World} {base : Nat} {p : VocP} {g : Option Nat} (h : AskV w W base p g) (hB : Below w0.heap.size w0 w) (hb : w0.heap.size ≤ p.vb) : Below w0.heap.size w0 W := by
  obtain ⟨g', hv, hk, hl⟩ := h
  exact hB.trans (hk.below hB.size (fun x hx => by omega))
theorem adds_okT : ∀ (l : List (Int × Int)) (T T' : List Ent), OkT T → addsT T l = some T' → OkT T'
  | [], T, T', h, e => by simp [addsT] at e; rw [← e]; exact h
  | m :: l, T, T', h, e => by
    rw [addsT] at e
    split at e
    · rename_i h0
      exact adds_okT l _ T' (okT_add h _ _ h0) e
    · simp at e
theorem vnew_m {l : List (Int × Int)} {T : List Ent} (hT : addsT baseT l = some T) (A : Option Addr) (c : Nat) (w : World) (hl : Sl w A encM 2 l) (hlen : l.length ≤ 744) (hr : l.all mrgR = true) :
    Calls Tryz.prog 15 #[specV false A l.length c none 0 0 none 0 0 none 0 0 none 0 0] w fun e w' => (∃ p, e = .returned (.tuple #[.pointer (some ⟨p.vb, 0, none⟩), .int .i64 0, .int .i64 0]) ∧ VocAt w' w.heap.size p none ∧ p.T = T ∧ p.s = mrgS l ∧ OkT T) ∧ Below w.heap.size w w' := by
  have hs : SpecAt w (mrgS l) A none none none none := ⟨hl, Sl1.nil _ _ _, Sl.nil _ _ _ _, Sl.nil _ _ _ _, Sl.nil _ _ _ _, by simp [mrgS]; omega⟩
  have hR : rightS (mrgS l) = true := by
    have h1 : headR (mrgS l) = true := rfl
    have h2 : (decide ((((mrgS l).ms.length : Nat) : Int) ≤ 744) && (mrgS l).ms.all mrgR) = true := by
      show (decide (((l.length : Nat) : Int) ≤ 744) && l.all mrgR) = true
      rw [hr]; simp; omega
    unfold rightS
    rw [h1, h2]
    rfl
  have hok : OkT T := adds_okT l baseT T okT_base hT
  have hL : ∀ V, Below w.heap.size w V → Calls Tryz.prog 87 #[specW (mrgS l) A none none none none c 0 0 0 0] V fun e w' => (∃ tb sv mb mp n, e = .returned (.tuple #[.pointer (some ⟨tb, 0, none⟩), .int .i64 n, .int .i64 0]) ∧ TabIs w' V.heap.size tb T sv mb mp) ∧ Below V.heap.size V w' := by
    intro V hV
    refine (load_false (R := fun x y z w' => (∃ tb sv mb mp n, x = .pointer (some ⟨tb, 0, none⟩) ∧ y = .int .i64 n ∧ z = .int .i64 0 ∧ TabIs w' V.heap.size tb T sv mb mp) ∧ Below V.heap.size V w') rfl (fun W hW => ?_)).mono ?_
    · refine (new_ok hT A c W (hl.below (hV.trans (hW.mono hV.size)) (Nat.le_refl _)) (by omega)).mono ?_
      rintro e w' ⟨tb, sv, mb, mp, rfl, _, ht, hb⟩
      exact ⟨_, _, _, rfl, ⟨tb, sv, mb, mp, _, rfl, rfl, rfl, ht.less hW.size⟩, hW.trans (hb.mono hW.size)⟩
    · rintro e w' ⟨x, y, z, rfl, ⟨tb, sv, mb, mp, n, rfl, rfl, rfl, ht⟩, hb⟩
      exact ⟨⟨tb, sv, mb, mp, n, rfl, ht⟩, hb⟩
  have hM : ∀ V, Below w.heap.size w V → Calls Tryz.prog 88 #[.slice none (mrgS l).xs.length 0] V fun e w' => (∃ mb sv mi mt n, e = .returned (.tuple #[.pointer (some ⟨mb, 0, none⟩), .int .i64 n, .int .i64 0]) ∧ MarkIs w' V.heap.size mb (mrgS l).xs sv mi mt) ∧ Below V.heap.size V w' := by
    intro V hV
    refine (mnew_nil V 0).mono ?_
    rintro e w' ⟨⟨mb, sv, mi, mt, rfl, hm⟩, hb⟩
    exact ⟨⟨mb, sv, mi, mt, 0, rfl, hm⟩, hb⟩
  refine (vnew_any (cM := c) (cT := 0) (cX := 0) (cC := 0) (cJ := 0) hs hR hL hM rfl (by simp [mrgS]; omega) rfl rfl).mono ?_
  rintro e w' ⟨⟨vb, A1, A2, A3, A4, A5, c1, c2, c3, c4, c5, tbase, tb, bk, kbase, mk, sv, mb, mp, sv2, mi, mt, rfl, hv⟩, hb⟩
  exact ⟨⟨⟨vb, mrgS l, T, A1, A2, A3, A4, A5, c1, c2, c3, c4, c5, tbase, tb, bk, kbase, mk, sv, mb, mp, sv2, mi, mt⟩, rfl, ⟨_, 0, 0, 0, 0, hv, .inl ⟨rfl, rfl, rfl, rfl⟩⟩, rfl, rfl, hok⟩, hb⟩
theorem VocP.aln_eq {p q : VocP} (h1 : p.T = q.T) (h2 : p.s = q.s) (x : Int) : p.aln x = q.aln x := by unfold VocP.aln; rw [h1, h2]
theorem VocP.bes_eq {p q : VocP} (h1 : p.T = q.T) (h2 : p.s = q.s) (x y : Int) : p.bes x y = q.bes x y := by unfold VocP.bes VocP.besO VocP.cut; rw [h1, h2]
def VocP.ok (p : VocP) (ids : List Int) (i : Nat) : Bool := p.aln (ids.getD i 0) && (decide (i = 0) || p.bes (ids.getD (i - 1) 0) (ids.getD i 0))
def VocP.fst (p : VocP) (ids : List Int) : Option Nat := (List.range ids.length).find? (fun i => !p.ok ids i)
def clsZ (l : List Int) : Cls := ⟨l.getD 0 0, l.getD 1 0, l.getD 2 0⟩
def jnZ (l : List Int) : Jn := ⟨l.getD 0 0, l.getD 1 0⟩
theorem slZ {α β : Type} {w : World} {A : Option Addr} {enc : α → List Value} {enc' : β → List Value} {sz : Nat} {xs : List α} (f : α → β) (h : Sl w A enc sz xs) (he : ∀ x ∈ xs, enc' (f x) = enc x) : Sl w A enc' sz (xs.map f) := by
  intro i y hy
  rw [List.getElem?_map, Option.map_eq_some_iff] at hy
  obtain ⟨x, hx, rfl⟩ := hy
  rw [he x (List.mem_of_getElem? hx)]
  exact h i x hx
theorem enc_clsZ (l : List Int) (h : l.length = 3) : encCls (clsZ l) = encInts .i64 l := by
  match l, h with
  | [a, b, c], _ => rfl
theorem enc_jnZ (l : List Int) (h : l.length = 2) : encJn (jnZ l) = encInts .i64 l := by
  match l, h with
  | [a, b], _ => rfl
def CaseP.great (c : CaseP) : Bool := decide (60 < c.l.length) || decide (20 < c.cs.length) || decide (20 < c.js.length) || greatX c.xs
structure CaseIn (w : World) (c : CaseP) (AL AC AJ AX : Option Addr) (cL cC cJ cX : Nat) : Prop where
  here : CaseAt w c AL AC AJ AX cL cC cJ cX
  sm : ∀ x ∈ c.l, x < 65536
  xl : c.xs.length ≤ 9223372036854775807
def CaseP.val (c : CaseP) (AL AC AJ AX : Option Addr) (cL cC cJ cX : Nat) : Value := .agg #[.slice AL c.l.length cL, .slice AC c.cs.length cC, .slice AJ c.js.length cJ, .slice AX c.xs.length cX]
theorem CaseIn.ok {w : World} {c : CaseP} {AL AC AJ AX : Option Addr} {cL cC cJ cX : Nat} (h : CaseIn w c AL AC AJ AX cL cC cJ cX) (hg : c.great = false) : CaseOk c := by
  unfold CaseP.great greatX longX at hg
  simp only [Bool.or_eq_false_iff, decide_eq_false_iff_not, List.any_eq_false, decide_eq_true_eq] at hg
  obtain ⟨⟨⟨h1, h2⟩, h3⟩, h4, h5⟩ := hg
  exact ⟨h.sm, by omega, by omega, by omega, by omega, fun x hx => by have := h4 x hx; omega⟩
theorem case_in {w : World} {x0 : List Int} {A0 : Option Addr} {c0 : Nat} {x1 : List (List Int)} {A1 : Option Addr} {c1 : Nat} {x2 : List (List Int)} {A2 : Option Addr} {c2 : Nat} {x3 : List (Int × List UInt8)} {A3 : Option Addr} {c3 : Nat}
    (_ : x0.length ≤ c0) (_ : c0 ≤ maxLen) (w0 : ∀ y ∈ x0, (Lit.int .u16 y).wf = true) (s0 : Sl1 w A0 (Value.int .u16) x0)
    (l1 : x1.length ≤ c1) (_ : c1 ≤ maxLen) (w1 : ∀ y ∈ x1, y.length = 3 ∧ ∀ z ∈ y, (Lit.int .i64 z).wf = true) (s1 : Sl w A1 (encInts .i64) 3 x1)
    (l2 : x2.length ≤ c2) (_ : c2 ≤ maxLen) (w2 : ∀ y ∈ x2, y.length = 2 ∧ ∀ z ∈ y, (Lit.int .i64 z).wf = true) (s2 : Sl w A2 (encInts .i64) 2 x2)
    (l3 : x3.length ≤ c3) (m3 : c3 ≤ maxLen) (w3 : ∀ y ∈ x3, (Lit.int .i64 y.1).wf = true ∧ y.2.length ≤ maxLen) (s3 : Sl w A3 encIS 2 x3) :
    ∃ c : CaseP, CaseIn w c A0 A1 A2 A3 c0 c1 c2 c3 ∧ (.agg #[.slice A0 x0.length c0, .slice A1 x1.length c1, .slice A2 x2.length c2, .slice A3 x3.length c3] : Value) = c.val A0 A1 A2 A3 c0 c1 c2 c3 := by
  obtain ⟨l, e, h3, h4⟩ := nats_of w0 s0
  refine ⟨⟨l, x1.map clsZ, x2.map jnZ, x3⟩, ⟨⟨h4, slZ clsZ s1 (fun x hx => enc_clsZ x (w1 x hx).1), slZ jnZ s2 (fun x hx => enc_jnZ x (w2 x hx).1), s3, by simpa using l1, by simpa using l2⟩, h3, ?_⟩, ?_⟩
  · show x3.length ≤ _
    unfold maxLen at m3
    omega
  · unfold CaseP.val
    simp [e]
section
variable {w w' W W' : World} {base base' mb : Nat} {c : CaseP} {r : RVoc} {p : VocP} {g : Option Nat} {AL AC AJ AX : Option Addr} {cL cC cJ cX : Nat}
theorem CaseIn.below (h : CaseIn w c AL AC AJ AX cL cC cJ cX) {B : Nat} (hb : Below B w w') (hB : w.heap.size ≤ B) : CaseIn w' c AL AC AJ AX cL cC cJ cX := ⟨h.here.below hb hB, h.sm, h.xl⟩
theorem great_no (h : CaseIn w c AL AC AJ AX cL cC cJ cX) (hg : c.great = false) : Calls Tryz.prog 11 #[c.val AL AC AJ AX cL cC cJ cX] w fun e w' => e = .returned (.int .i64 0) ∧ Below w.heap.size w w' := by
  refine (great12_any h.here.xs h.xl).mono ?_
  rintro e w' ⟨rfl, hb⟩
  exact ⟨by rw [show (decide (60 < c.l.length) || decide (20 < c.cs.length) || decide (20 < c.js.length) || greatX c.xs) = false from hg]; rfl, hb⟩
theorem great_yes (h : CaseIn w c AL AC AJ AX cL cC cJ cX) (hg : c.great = true) : Calls Tryz.prog 11 #[c.val AL AC AJ AX cL cC cJ cX] w fun e w' => e = .returned (.int .i64 1) ∧ Below w.heap.size w w' := by
  refine (great12_any h.here.xs h.xl).mono ?_
  rintro e w' ⟨rfl, hb⟩
  exact ⟨by rw [show (decide (60 < c.l.length) || decide (20 < c.cs.length) || decide (20 < c.js.length) || greatX c.xs) = true from hg]; rfl, hb⟩
theorem VocAt.off {α : Type} (h : VocAt w base p g) {A : Option Addr} {enc : α → List Value} {sz : Nat} {xs : List α} (hs : Sl w A enc sz xs) (k : Keep (fun x => x = p.vb) w w')
    (he : ∀ x, (∃ a b, (enc x)[0]? = some (.int .i64 a) ∧ (enc x)[1]? = some (.int .i64 b)) ∨ ∃ s, (enc x)[1]? = some (.string s)) : Sl w' A enc sz xs := by
  obtain ⟨l, dn, st, se, us, hq, hl⟩ := h
  have hbk := hq.blk
  have hls : ∃ A n c, l = .slice A n c := by
    rcases hl with ⟨_, h2, _⟩ | ⟨_, _, _, h2, _⟩ <;> exact ⟨_, _, _, h2⟩
  obtain ⟨Al, nl, cl, rfl⟩ := hls
  intro i x hx
  obtain ⟨b, o, e, hc⟩ := hs i x hx
  have hb : b ≠ p.vb := by
    intro hbe
    subst hbe
    rcases he x with ⟨a1, a2, h1, h2⟩ | ⟨s, h2⟩
    · have c1 := hc 0 _ h1
      have c2 := hc 1 _ h2
      rw [blk_cell hbk] at c1 c2
      generalize o + i * sz = n at c1 c2
      rcases n with _ | _ | _ | _ | _ | _ | _ | _ | _ | _ | _ | _ | _ | _ | n <;> simp at c1 c2
    · have c2 := hc 1 _ h2
      rw [blk_cell hbk] at c2
      generalize o + i * sz = n at c2
      rcases n with _ | _ | _ | _ | _ | _ | _ | _ | _ | _ | _ | _ | _ | _ | n <;> simp at c2
  exact ⟨b, o, e, fun j v hv => k.keepCell (hc j v hv) hb⟩
theorem own_off {n sz : Nat} {e : TypeId} {v : Value} {xs : List Value} (h : VocAt w base p g) (ho : w.ownsRow base' e sz v n xs) (ht : e ≠ 161) : ∀ b, v.ownBlock = some b → b ≠ p.vb := by
  intro b hb hbe
  obtain ⟨l, dn, st, se, us, hq, _⟩ := h
  have hbk := hq.blk
  rcases ho.2 with ⟨h1, _⟩ | ⟨g, cap, cur, h1, h2, h3, _⟩
  · rw [h1] at hb; simp [Value.ownBlock] at hb
  · rw [h1] at hb
    simp only [Value.ownBlock, Option.some.injEq] at hb
    rw [hb, hbe, hbk] at h3
    injection h3 with h3
    injection h3 with _ h3 _
    exact ht h3.symm
theorem RVocIs.keepV (h : RVocIs w base c r) (hv : VocAt w base' p g) (k : Keep (fun x => x = p.vb) w w') : RVocIs w' base c r :=
  ⟨⟨own_keep h.ref.row k (fun b hb => own_off hv h.ref.row (by decide) b hb), own_keep h.ref.mrg k (fun b hb => own_off hv h.ref.mrg (by decide) b hb), h.ref.nil⟩,
   hv.off h.cs k (fun x => .inl ⟨_, _, rfl, rfl⟩), hv.off h.js k (fun x => .inl ⟨_, _, rfl, rfl⟩), hv.off h.xs k (fun x => .inr ⟨_, rfl⟩)⟩
structure LawV (w W : World) (c : CaseP) (p : VocP) (r : RVoc) (mb : Nat) : Prop where
  voc : ∃ g, VocAt W w.heap.size p g
  box : W.heap[mb]? = some (.cells #[.slice r.A1 c.T.length r.c1, .slice r.A2 (mrgsT c.T).length r.c2, .slice r.A3 (someC c.cs).length r.c3, .slice r.A4 (someJ c.js).length r.c4, .slice r.A5 c.X.length r.c5] 38)
  ref : RVocIs W w.heap.size c r
  blw : Below w.heap.size w W
theorem LawV.below (h : LawV w W c p r mb) (hb : Below W.heap.size W W') : LawV w W' c p r mb := by
  obtain ⟨g, hv⟩ := h.voc
  exact ⟨⟨g, hv.below hb (Nat.le_refl _)⟩, blk_below hb (blk_lt h.box) h.box, h.ref.below hb (Nat.le_refl _), h.blw.trans (hb.mono h.blw.size)⟩
theorem LawV.drew (h : LawV w W c p r mb) : LawV w W.drew c p r mb := h.below (Below.refl _ _).drew
theorem LawV.keep (h : LawV w W c p r mb) {b0 : Nat} {g g' : Option Nat} (hv : VocAt W b0 p g) (hv' : VocAt W' w.heap.size p g') (k : Keep (fun x => x = p.vb) W W') : LawV w W' c p r mb := by
  obtain ⟨g2, hv2⟩ := h.voc
  have hvb : w.heap.size ≤ p.vb := by
    obtain ⟨l, dn, st, se, us, hq, _⟩ := hv2
    exact hq.lt.1
  have hne : mb ≠ p.vb := by
    intro e
    obtain ⟨l, dn, st, se, us, hq, _⟩ := hv2
    have h1 := h.box
    have h2 := hq.blk
    rw [e, h2] at h1
    injection h1 with h1
    injection h1 with _ h1 _
    exact absurd h1 (by decide)
  exact ⟨⟨g', hv'⟩, k.blk h.box hne, h.ref.keepV hv k, h.blw.trans (k.below h.blw.size (fun x hx => by subst hx; exact hvb))⟩
theorem LawV.ask (h : LawV w W c p r mb) {g : Option Nat} (hv : VocAt W w.heap.size p g) (ha : AskV W W' w.heap.size p g) : LawV w W' c p r mb := by
  obtain ⟨g1, hv1, hk, _⟩ := ha
  exact h.keep hv hv1 hk
theorem LawV.n0 (h : LawV w W c p r mb) : W.cell? ⟨mb, 0, none⟩ = some (.slice r.A1 c.T.length r.c1) := by have := blk_cell h.box 0; simpa using this
theorem LawV.n1 (h : LawV w W c p r mb) : W.cell? ⟨mb, 1, none⟩ = some (.slice r.A2 (mrgsT c.T).length r.c2) := by have := blk_cell h.box 1; simpa using this
theorem LawV.n2 (h : LawV w W c p r mb) : W.cell? ⟨mb, 2, none⟩ = some (.slice r.A3 (someC c.cs).length r.c3) := by have := blk_cell h.box 2; simpa using this
theorem LawV.n3 (h : LawV w W c p r mb) : W.cell? ⟨mb, 3, none⟩ = some (.slice r.A4 (someJ c.js).length r.c4) := by have := blk_cell h.box 3; simpa using this
theorem LawV.n4 (h : LawV w W c p r mb) : W.cell? ⟨mb, 4, none⟩ = some (.slice r.A5 c.X.length r.c5) := by have := blk_cell h.box 4; simpa using this
theorem LawV.made (hb : Below w.heap.size w W) {g : Option Nat} (hv : VocAt W w.heap.size p g) (hr : RVocIs W w.heap.size c r) :
    LawV w (W.alloc (.cells #[.slice r.A1 c.T.length r.c1, .slice r.A2 (mrgsT c.T).length r.c2, .slice r.A3 (someC c.cs).length r.c3, .slice r.A4 (someJ c.js).length r.c4, .slice r.A5 c.X.length r.c5] 38)) c p r W.heap.size := by
  have hB := (Below.refl W.heap.size W).alloc (Nat.le_refl _) (.cells #[.slice r.A1 c.T.length r.c1, .slice r.A2 (mrgsT c.T).length r.c2, .slice r.A3 (someC c.cs).length r.c3, .slice r.A4 (someJ c.js).length r.c4, .slice r.A5 c.X.length r.c5] 38)
  exact ⟨⟨g, hv.below hB (Nat.le_refl _)⟩, blk_new _ _, hr.below hB (Nat.le_refl _), hb.trans (hB.mono hb.size)⟩
end
def aw14 : List (Int × Int) := [(97, 98), (98, 99)]
def awT14a : List Ent := baseT ++ [([97, 98], 97, 98)]
def awT14 : List Ent := awT14a ++ [([98, 99], 98, 99)]
theorem aw14_1 : addT baseT 97 98 = (256, 0, awT14a) := by kernel_rfl
theorem aw14_2 : addT awT14a 98 99 = (257, 0, awT14) := by kernel_rfl
theorem aw14_adds : addsT baseT aw14 = some awT14 := by simp only [aw14, addsT, aw14_1, aw14_2, if_true]
def awp14 : VocP := ⟨0, mrgS aw14, awT14, none, none, none, none, none, 0, 0, 0, 0, 0, 0, 0, 0, 0, 0, .bool false, 0, 0, .bool false, 0, 0⟩
theorem aw14_v1 : (awp14.aln 97 && awp14.aln 257 && awp14.bes 97 257) = false := by kernel_rfl
theorem aw14_v2 : (awp14.aln 256 && awp14.aln 99 && awp14.bes 256 99) = true := by kernel_rfl
theorem aw14_v3 : (awp14.aln 256 && awp14.aln 257 && awp14.bes 256 257) = true := by kernel_rfl
set_option maxHeartbeats 2000000 in
theorem awake14_any (w : World) : Calls Tryz.prog 16 #[] w fun e w' => e = .returned (.bool true) ∧ Below w.heap.size w w' := by
  have HB0 := Lib.hid ((Below.refl w.heap.size w).alloc (Nat.le_refl _) (.cells #[.int .i64 97, .int .i64 98, .int .i64 98, .int .i64 99] 55))
  have HSL := Lib.hid (sl_mrg (l := aw14) (blk_new w (.cells #[.int .i64 97, .int .i64 98, .int .i64 98, .int .i64 99] 55)))
  have HN : Hid (∀ V, Sl V (some ⟨w.heap.size, 0, none⟩) encM 2 aw14 → Calls Tryz.prog 15 #[.agg #[.bool false, .slice (some ⟨w.heap.size, 0, none⟩) 2 2, .slice none 0 0, .slice none 0 0, .slice none 0 0, .slice none 0 0]] V fun e w' => (∃ p, e = .returned (.tuple #[.pointer (some ⟨p.vb, 0, none⟩), .int .i64 0, .int .i64 0]) ∧ VocAt w' V.heap.size p none ∧ p.T = awT14 ∧ p.s = mrgS aw14 ∧ OkT awT14) ∧ Below V.heap.size V w') := Lib.hid (fun V hV => vnew_m aw14_adds _ 2 V hV (by decide) (by decide))
  go_enter Tryz.func16, Tryz.ntmps16
  go_upto_region 2 with (go_at_call 15; refine (HN.out _ HSL.out).mono ?_; rintro e W ⟨⟨p, rfl, hv, hT, hs, hok⟩, hb⟩; (have HV := Lib.hid hv); (have HT := Lib.hid hT); (have HS := Lib.hid hs); (have HOK := Lib.hid hok); (have HB := Lib.hid (HB0.out.trans (hb.mono HB0.out.size))); (have HVB := Lib.hid (Nat.le_trans HB0.out.size hv.base_le)); clear hv hT hs hok hb)
  have E1 : Hid ((p.aln 97 && p.aln 257 && p.bes 97 257) = false) := Lib.hid (by rw [VocP.aln_eq (q := awp14) HT.out HS.out, VocP.aln_eq (q := awp14) HT.out HS.out, VocP.bes_eq (q := awp14) HT.out HS.out]; exact aw14_v1)
  have E2 : Hid ((p.aln 256 && p.aln 99 && p.bes 256 99) = true) := Lib.hid (by rw [VocP.aln_eq (q := awp14) HT.out HS.out, VocP.aln_eq (q := awp14) HT.out HS.out, VocP.bes_eq (q := awp14) HT.out HS.out]; exact aw14_v2)
  have E3 : Hid ((p.aln 256 && p.aln 257 && p.bes 256 257) = true) := Lib.hid (by rw [VocP.aln_eq (q := awp14) HT.out HS.out, VocP.aln_eq (q := awp14) HT.out HS.out, VocP.bes_eq (q := awp14) HT.out HS.out]; exact aw14_v3)
  have HM : Hid (p.s.xs.length ≤ 1000) := Lib.hid (by rw [HS.out]; decide)
  have HOP : Hid (OkT p.T) := Lib.hid (by rw [HT.out]; exact HOK.out)
  have HVX : Hid (∃ g, VocAt W (w.alloc (.cells #[.int .i64 97, .int .i64 98, .int .i64 98, .int .i64 99] 55)).heap.size p g) := Lib.hid ⟨_, HV.out⟩
  clear HV HT HS HOK HSL HN HB0
  obtain ⟨gb, hgb⟩ : ∃ b, (w.alloc (.cells #[.int .i64 97, .int .i64 98, .int .i64 98, .int .i64 99] 55)).heap.size = b := ⟨_, rfl⟩
  rw [hgb] at HVX
  clear hgb
  have HVA : Hid (∀ V a b, (∃ g, VocAt V gb p g) → (Lit.int .i64 a).wf = true → (Lit.int .i64 b).wf = true → Calls Tryz.prog 19 #[.pointer (some ⟨p.vb, 0, none⟩), .int .i64 a, .int .i64 b] V fun e w' => e = .returned (.bool (p.aln a && p.aln b && p.bes a b)) ∧ (∃ g, VocAt w' gb p g) ∧ (Below w.heap.size w V → Below w.heap.size w w')) := Lib.hid (fun V a b ⟨g, hV⟩ ha hb => by
    refine (svalid_any hV HOP.out a b ha hb HM.out).mono ?_
    rintro e w' ⟨rfl, hA⟩
    exact ⟨rfl, ⟨_, hA.choose_spec.1⟩, fun hB => hA.below hB HVB.out⟩)
  go_wp2_with (go_at_call 19; refine (HVA.out _ _ _ HVX.out (by rfl) (by rfl)).mono ?_; rintro e V ⟨he, hx, hb⟩; (first | rw [E1.out] at he | rw [E2.out] at he | rw [E3.out] at he); subst he; (replace HVX := Lib.hid hx); (replace HB := Lib.hid (hb HB.out)); clear hx hb)
  go_ret
  exact ⟨rfl, HB.out⟩
theorem law_alone (p : VocP) (c : CaseP) (hT : p.T = c.T) (hs : p.s = c.spec) (x : Int) : p.aln x = okB c.T (Cof (someC c.cs)) (Jof (someJ c.js)) c.X none x := by
  unfold VocP.aln okB
  rw [hT, hs]
  simp [CaseP.spec, CaseP.X]
theorem law_pair (p : VocP) (c : CaseP) (hT : p.T = c.T) (hs : p.s = c.spec) (x y : Int) : (p.aln x && p.bes y x) = okB c.T (Cof (someC c.cs)) (Jof (someJ c.js)) c.X (some y) x := by
  unfold VocP.aln VocP.bes VocP.besO VocP.cut okB
  rw [hT, hs]
  rfl
theorem law_valid (p : VocP) (c : CaseP) (hT : p.T = c.T) (hs : p.s = c.spec) (a b : Int) :
    (p.aln a && p.aln b && p.bes a b) = (((fndI c.X a).isSome || hasT c.T a) && ((fndI c.X b).isSome || hasT c.T b) && canV c.T c.cut c.X [a, b]) := by
  cases h1 : ((fndI c.X a).isSome || hasT c.T a) with
  | false =>
    have : p.aln a = false := by
      rw [law_alone p c hT hs]
      simp only [Bool.or_eq_false_iff] at h1
      unfold okB
      rw [h1.1, h1.2]
      rfl
    rw [this]
    rfl
  | true =>
    cases h2 : ((fndI c.X b).isSome || hasT c.T b) with
    | false =>
      have : p.aln b = false := by
        rw [law_alone p c hT hs]
        simp only [Bool.or_eq_false_iff] at h2
        unfold okB
        rw [h2.1, h2.2]
        rfl
      rw [this]
      simp
    | true =>
      have h3 := can_two (C := Cof (someC c.cs)) (J := Jof (someJ c.js)) c.ok h1 h2
      unfold CaseP.cut
      rw [h3, ← law_alone p c hT hs, ← law_pair p c hT hs, Bool.and_assoc]
      simp
section
variable {w : World} {c : CaseP} {AL AC AJ AX : Option Addr} {cL cC cJ cX : Nat}
set_option maxHeartbeats 8000000 in
theorem sval_small (h : CaseIn w c AL AC AJ AX cL cC cJ cX) (hg : c.great = false) (ids : List Int) (A : Option Addr) (d : Nat) (hA : Sl1 w A (Value.int .i64) ids) (hwf : ∀ x ∈ ids, (Lit.int .i64 x).wf = true) (hlen : ids.length ≤ 12) :
    Calls Tryz.prog 4 #[c.val AL AC AJ AX cL cC cJ cX, .slice A ids.length d] w (RetTrue w) := by
  have HC := Lib.hid h
  have HOK := Lib.hid (h.ok hg)
  have HWF := Lib.hid hwf
  have HSL : Hid (∀ V, Below w.heap.size w V → Sl1 V A (Value.int .i64) ids) := Lib.hid (fun V hV => hA.below hV (Nat.le_refl _))
  have HLEN := Lib.hid hlen
  have h12 : ¬ (ids.length : Int) > 12 := by omega
  have HB0 := Lib.hid ((Below.refl w.heap.size w).alloc (Nat.le_refl _) (.cells #[.slice AL c.l.length cL, .slice AC c.cs.length cC, .slice AJ c.js.length cJ, .slice AX c.xs.length cX] 27))
  have HN0 := Lib.hid (blk_new w (.cells #[.slice AL c.l.length cL, .slice AC c.cs.length cC, .slice AJ c.js.length cJ, .slice AX c.xs.length cX] 27))
  have HGR : Hid (∀ V, Below w.heap.size w V → Calls Tryz.prog 11 #[.agg #[.slice AL c.l.length cL, .slice AC c.cs.length cC, .slice AJ c.js.length cJ, .slice AX c.xs.length cX]] V fun e w' => e = .returned (.int .i64 0) ∧ Below V.heap.size V w') := Lib.hid (fun V hV => great_no (h.below hV (Nat.le_refl _)) hg)
  have HOF : Hid (∀ V, Below w.heap.size w V → Calls Tryz.prog 13 #[.agg #[.slice AL c.l.length cL, .slice AC c.cs.length cC, .slice AJ c.js.length cJ, .slice AX c.xs.length cX]] V fun e w' => (∃ p r, e = .returned (.tuple #[.pointer (some ⟨p.vb, 0, none⟩), r.val c]) ∧ VocAt w' V.heap.size p none ∧ p.T = c.T ∧ p.s = c.spec ∧ RVocIs w' V.heap.size c r) ∧ Below V.heap.size V w') := Lib.hid (fun V hV => of12_any (h.here.below hV (Nat.le_refl _)) (h.ok hg))
  unfold CaseP.val
  clear h hg hA hwf
  go_enter Tryz.func4, Tryz.ntmps4
  go_upto_region 1 with fail
  obtain ⟨cb, hcb⟩ : ∃ b, w.heap.size = b := ⟨_, rfl⟩
  have HCB := Lib.hid hcb
  rw [hcb] at HN0 ⊢
  clear hcb
  generalize w.alloc (.cells #[.slice AL c.l.length cL, .slice AC c.cs.length cC, .slice AJ c.js.length cJ, .slice AX c.xs.length cX] 27) = w1 at *
  have s0 := blk_cell HN0.out 0
  have s1 := blk_cell HN0.out 1
  have s2 := blk_cell HN0.out 2
  have s3 := blk_cell HN0.out 3
  simp only [List.getElem?_toArray, List.getElem?_cons_zero, List.getElem?_cons_succ] at s0 s1 s2 s3
  go_upto_region 3 with (first
    | (go_at_call 11; refine (HGR.out _ HB0.out).mono ?_; rintro e w2 ⟨rfl, hb⟩; (have HB1 := Lib.hid (HB0.out.trans (hb.mono HB0.out.size))); (have HN1 := Lib.hid (blk_below hb (blk_lt HN0.out) HN0.out)); clear hb s0 s1 s2 s3)
    | (go_at_call 16; refine (awake14_any _).mono ?_; rintro e w3 ⟨rfl, hb⟩; (have HB2 := Lib.hid (HB1.out.trans (hb.mono HB1.out.size))); (have HN2 := Lib.hid (blk_below hb (blk_lt HN1.out) HN1.out)); clear hb))
  have s0 := blk_cell HN2.out 0
  have s1 := blk_cell HN2.out 1
  have s2 := blk_cell HN2.out 2
  have s3 := blk_cell HN2.out 3
  simp only [List.getElem?_toArray, List.getElem?_cons_zero, List.getElem?_cons_succ] at s0 s1 s2 s3
  go_upto_region 6 with (go_at_call 13; refine (HOF.out _ HB2.out).mono ?_; rintro e w4 ⟨⟨p, r, rfl, hv, hpT, hps, hr⟩, hb⟩; (have HPT := Lib.hid hpT); (have HPS := Lib.hid hps); (have HL : Hid (LawV w (w4.alloc (.cells #[.slice r.A1 c.T.length r.c1, .slice r.A2 (mrgsT c.T).length r.c2, .slice r.A3 (someC c.cs).length r.c3, .slice r.A4 (someJ c.js).length r.c4, .slice r.A5 (someX c.xs (min c.xs.length 6)).length r.c5] 38)) c p r w4.heap.size) := Lib.hid (LawV.made (w := w) (W := w4) (HB2.out.trans (hb.mono HB2.out.size)) (hv.less HB2.out.size) (hr.less HB2.out.size))); (unfold RVoc.val); clear hv hpT hps hr hb s0 s1 s2 s3)
  obtain ⟨mb, hmb⟩ : ∃ b, w4.heap.size = b := ⟨_, rfl⟩
  rw [hmb] at HL ⊢
  clear hmb
  generalize w4.alloc (.cells #[.slice r.A1 c.T.length r.c1, .slice r.A2 (mrgsT c.T).length r.c2, .slice r.A3 (someC c.cs).length r.c3, .slice r.A4 (someJ c.js).length r.c4, .slice r.A5 (someX c.xs (min c.xs.length 6)).length r.c5] 38) = w5 at *
  have HL : Hid (LawV w w5 c p r mb) := HL
  clear HC HOK HGR HOF HB0 HN0 HB1 HN1 HB2 HN2
  have HTP : Hid (OkT p.T) := Lib.hid (by rw [HPT.out]; exact c.ok)
  have HXP : Hid (p.s.xs.length ≤ 1000) := Lib.hid (by rw [HPS.out]; have := c.X_len; show c.X.length ≤ 1000; omega)
  have HHA : Hid (∀ V x, LawV w V c p r mb → Calls Tryz.prog 17 #[.agg #[.slice r.A1 c.T.length r.c1, .slice r.A2 (mrgsT c.T).length r.c2, .slice r.A3 (someC c.cs).length r.c3, .slice r.A4 (someJ c.js).length r.c4, .slice r.A5 c.X.length r.c5], .int .i64 x] V fun e w' => e = .returned (.bool ((fndI c.X x).isSome || hasT c.T x)) ∧ Below V.heap.size V w') := Lib.hid (fun V x hV => rhas10_any hV.ref x)
  have HCA : Hid (∀ V x y B, LawV w V c p r mb → V.heap[B]? = some (Obj.cells #[.int .i64 x, .int .i64 y] 3) → ((fndI c.X x).isSome || hasT c.T x) = true → ((fndI c.X y).isSome || hasT c.T y) = true → Calls Tryz.prog 18 #[.agg #[.slice r.A1 c.T.length r.c1, .slice r.A2 (mrgsT c.T).length r.c2, .slice r.A3 (someC c.cs).length r.c3, .slice r.A4 (someJ c.js).length r.c4, .slice r.A5 c.X.length r.c5], .slice (some ⟨B, 0, none⟩) 2 2] V fun e w' => e = .returned (.bool (canV c.T c.cut c.X [x, y])) ∧ Below V.heap.size V w') := Lib.hid (fun V x y B hV hB hx hy => rcanon_any hV.ref [x, y] _ 2 (sl_int (l := [x, y]) (by simpa using hB)) (by simp) (by
    intro z hz
    simp at hz
    rcases hz with rfl | rfl
    · exact hx
    · exact hy))
  have HVA : Hid (∀ V x y, LawV w V c p r mb → (Lit.int .i64 x).wf = true → (Lit.int .i64 y).wf = true → Calls Tryz.prog 19 #[.pointer (some ⟨p.vb, 0, none⟩), .int .i64 x, .int .i64 y] V fun e w' => e = .returned (.bool (((fndI c.X x).isSome || hasT c.T x) && ((fndI c.X y).isSome || hasT c.T y) && canV c.T c.cut c.X [x, y])) ∧ LawV w w' c p r mb) := Lib.hid (fun V x y hV hx hy => by
    obtain ⟨g, hv⟩ := hV.voc
    refine (svalid_any hv HTP.out x y hx hy HXP.out).mono ?_
    rintro e w' ⟨rfl, hA⟩
    exact ⟨by rw [law_valid p c HPT.out HPS.out], hV.ask hv hA⟩)
  go_wp2_with fail
  obtain ⟨N, hN⟩ : ∃ N, ids.length = N := ⟨_, rfl⟩
  have HN := Lib.hid hN
  rw [hN] at HLEN ⊢
  clear hN hlen h12
  go_loopg [7] N (fun n i W => ∃ (k : Nat), k + n = N ∧ i = .int .i64 (k : Int) ∧ LawV w W c p r mb)
  case atStart => exact ⟨0, by omega, rfl, HL.out⟩
  case round =>
    obtain ⟨k, hk, rfl, hl⟩ := hrel
    obtain ⟨G0, hG0⟩ : ∃ G, G = gk := ⟨_, rfl⟩
    subst hG0
    clear HL
    rename World => W
    have HL := Lib.hid hl
    have HK := Lib.hid hk
    clear hl hk
    by_cases hlt : k < N
    · have p0 : (0 : Int) ≤ (k : Int) := by omega
      have p1 : (k : Int) < (N : Int) := by omega
      have w2' : IntKind.i64.wrap ((k : Int) + 1) = (k : Int) + 1 := IntWalk.i64_in _ (by have := HLEN.out; omega)
      go_wp2_with fail
      go_loopg [8] N (fun n i W => ∃ (j : Nat), j + n = N ∧ i = .int .i64 (j : Int) ∧ LawV w W c p r mb)
      case atStart => exact ⟨0, by omega, rfl, HL.out⟩
      case round =>
        obtain ⟨j, hj, rfl, hl⟩ := hrel
        clear HL
        rename World => W
        have HL := Lib.hid hl
        have HJ := Lib.hid hj
        clear hl hj
        by_cases hlt2 : j < N
        · have q0 : (0 : Int) ≤ (j : Int) := by omega
          have q1 : (j : Int) < (N : Int) := by omega
          have w3' : IntKind.i64.wrap ((j : Int) + 1) = (j : Int) + 1 := IntWalk.i64_in _ (by have := HLEN.out; omega)
          have hk2 : k < ids.length := by rw [HN.out]; exact hlt
          have hj2 : j < ids.length := by rw [HN.out]; exact hlt2
          obtain ⟨b1, o1, hA1, e1⟩ := (HSL.out W HL.out.blw).at k hk2
          obtain ⟨b2, o2, hA2, e2⟩ := (HSL.out W HL.out.blw).at j hj2
          obtain ⟨x, hx⟩ : ∃ x, ids[k] = x := ⟨_, rfl⟩
          obtain ⟨y, hy⟩ : ∃ y, ids[j] = y := ⟨_, rfl⟩
          have HWX := Lib.hid (HWF.out x (by rw [← hx]; exact List.getElem_mem _))
          have HWY := Lib.hid (HWF.out y (by rw [← hy]; exact List.getElem_mem _))
          replace e1 : W.cell? ⟨b1, o1 + k, none⟩ = some (.int .i64 x) := by rw [← hx]; exact e1
          replace e2 : W.cell? ⟨b2, o2 + j, none⟩ = some (.int .i64 y) := by rw [← hy]; exact e2
          rw [hA1] at hA2
          injection hA2 with hA2
          injection hA2 with hA2 hA3
          subst hA2
          subst hA3
          subst hA1
          clear hx hy hk2 hj2
          go_upto_region 12 with fail
          refine wp_region_held_drew (S := fun V => V.cell? ⟨b1, o1 + k, none⟩ = some (.int .i64 x) ∧ V.cell? ⟨b1, o1 + j, none⟩ = some (.int .i64 y)) (by kernel_rfl) (by exact And.intro e1 e2) (fun hHeld => ?_)
          refine tkH 0 44 ?_ rfl hHeld (.inl ⟨by rfl, ?_⟩) ?_; rotate_left; focus (intro w' hSw; (try dsimp only at hSw); go_simp; (try with_reducible rfl))
          try simp only [sIB, sC0, sCS]
          refine tkH 1 45 ?_ rfl hHeld (.inl ⟨by rfl, ?_⟩) ?_; rotate_left; focus (intro w' hSw; (try dsimp only at hSw); go_simp; (try with_reducible rfl))
          try simp only [sIB, sC0, sCS]
          refine tkH 2 46 ?_ rfl hHeld (.inl ⟨by rfl, ?_⟩) ?_; rotate_left; focus (intro w' hSw; (try dsimp only at hSw); go_simp; (try with_reducible rfl))
          try simp only [sIB, sC0, sCS]
          refine tkH 3 47 ?_ rfl hHeld (.inl ⟨by rfl, ?_⟩) ?_; rotate_left; focus (intro w' hSw; (try dsimp only at hSw); go_simp; (try with_reducible rfl))
          try simp only [sIB, sC0, sCS]
          refine tkH 4 48 ?_ rfl hHeld (.inl ⟨by rfl, ?_⟩) ?_; rotate_left; focus (intro w' hSw; (try dsimp only at hSw); go_simp; (try with_reducible rfl))
          try simp only [sIB, sC0, sCS]
          refine tkH 5 49 ?_ rfl hHeld (.inl ⟨by rfl, ?_⟩) ?_; rotate_left; focus (intro w' hSw; (try dsimp only at hSw); go_simp; (try with_reducible rfl))
          try simp only [sIB, sC0, sCS]
          refine tkH 6 50 ?_ rfl hHeld (.inl ⟨by rfl, ?_⟩) ?_; rotate_left; focus (intro w' hSw; (try dsimp only at hSw); go_simp; (try with_reducible rfl))
          try simp only [sIB, sC0, sCS]
          refine tkH 7 51 ?_ rfl hHeld (.inl ⟨by rfl, ?_⟩) ?_; rotate_left; focus (intro w' hSw; (try dsimp only at hSw); go_simp; (try with_reducible rfl))
          try simp only [sIB, sC0, sCS]
          refine tkH 8 9 ?_ rfl hHeld (.inl ⟨by rfl, ?_⟩) ?_; rotate_left; focus (intro w' hSw; (try dsimp only at hSw); go_simp; (try with_reducible rfl))
          try simp only [sIB, sC0, sCS]
          refine tkH 9 10 ?_ rfl hHeld (.inl ⟨by rfl, ?_⟩) ?_; rotate_left; focus (intro w' hSw; (try dsimp only at hSw); go_simp; (try with_reducible rfl))
          try simp only [sIB, sC0, sCS]
          refine wpAnyH_done (by kernel_rfl) ?_ _
          (replace HL := Lib.hid HL.out.drew)
          clear hHeld e1 e2
          generalize W.drew = W6 at *
          have s0 := HL.out.n0
          have s1 := HL.out.n1
          have s2 := HL.out.n2
          have s3 := HL.out.n3
          have s4 := HL.out.n4
          have HX6 := Lib.hid (HHA.out W6 x HL.out)
          have HY6 : Hid (∀ V, LawV w V c p r mb → _) := Lib.hid (fun V hV => HHA.out V y hV)
          have HC6 : Hid (∀ V B, LawV w V c p r mb → V.heap[B]? = some (Obj.cells #[.int .i64 x, .int .i64 y] 3) → ((fndI c.X x).isSome || hasT c.T x) = true → ((fndI c.X y).isSome || hasT c.T y) = true → _) := Lib.hid (fun V B hV hB hx hy => HCA.out V x y B hV hB hx hy)
          have HV6 : Hid (∀ V, LawV w V c p r mb → _) := Lib.hid (fun V hV => HVA.out V x y hV HWX.out HWY.out)
          obtain ⟨t1, ht1⟩ : ∃ t, ((fndI c.X x).isSome || hasT c.T x) = t := ⟨_, rfl⟩
          obtain ⟨t2, ht2⟩ : ∃ t, ((fndI c.X y).isSome || hasT c.T y) = t := ⟨_, rfl⟩
          obtain ⟨t3, ht3⟩ : ∃ t, canV c.T c.cut c.X [x, y] = t := ⟨_, rfl⟩
          simp only [ht1, ht2, ht3] at HX6 HY6 HC6 HV6
          clear ht1 ht2 ht3
          cases t1
          · go_wp2_with (first
              | (go_at_call 17; first
                | (refine HX6.out.mono ?_; rintro e W7 ⟨rfl, hb⟩; (replace HL := Lib.hid (HL.out.below hb)); (replace s0 := HL.out.n0); (replace s1 := HL.out.n1); (replace s2 := HL.out.n2); (replace s3 := HL.out.n3); (replace s4 := HL.out.n4); clear hb HX6)
                | (refine (HY6.out _ HL.out).mono ?_; rintro e W8 ⟨rfl, hb⟩; (replace HL := Lib.hid (HL.out.below hb)); (replace s0 := HL.out.n0); (replace s1 := HL.out.n1); (replace s2 := HL.out.n2); (replace s3 := HL.out.n3); (replace s4 := HL.out.n4); clear hb))
              | (go_at_call 18; refine (HC6.out _ _ (HL.out.below ((Below.refl _ _).alloc (Nat.le_refl _) _)) (blk_new _ _) (by trivial) (by trivial)).mono ?_; rintro e W9 ⟨rfl, hb⟩; (replace HL := Lib.hid ((HL.out.below ((Below.refl _ _).alloc (Nat.le_refl _) _)).below hb)); clear hb)
              | (go_at_call 19; refine (HV6.out _ HL.out).mono ?_; rintro e W10 ⟨rfl, hl⟩; (replace HL := Lib.hid hl); clear hl))
            go_roundg (gk - 1)
            case measure => have := HJ.out; omega
            case rel => exact ⟨j + 1, by have := HJ.out; omega, by simp, HL.out⟩
          · cases t2
            · go_wp2_with (first
                | (go_at_call 17; first
                  | (refine HX6.out.mono ?_; rintro e W7 ⟨rfl, hb⟩; (replace HL := Lib.hid (HL.out.below hb)); (replace s0 := HL.out.n0); (replace s1 := HL.out.n1); (replace s2 := HL.out.n2); (replace s3 := HL.out.n3); (replace s4 := HL.out.n4); clear hb HX6)
                  | (refine (HY6.out _ HL.out).mono ?_; rintro e W8 ⟨rfl, hb⟩; (replace HL := Lib.hid (HL.out.below hb)); (replace s0 := HL.out.n0); (replace s1 := HL.out.n1); (replace s2 := HL.out.n2); (replace s3 := HL.out.n3); (replace s4 := HL.out.n4); clear hb))
                | (go_at_call 18; refine (HC6.out _ _ (HL.out.below ((Below.refl _ _).alloc (Nat.le_refl _) _)) (blk_new _ _) (by trivial) (by trivial)).mono ?_; rintro e W9 ⟨rfl, hb⟩; (replace HL := Lib.hid ((HL.out.below ((Below.refl _ _).alloc (Nat.le_refl _) _)).below hb)); clear hb)
                | (go_at_call 19; refine (HV6.out _ HL.out).mono ?_; rintro e W10 ⟨rfl, hl⟩; (replace HL := Lib.hid hl); clear hl))
              go_roundg (gk - 1)
              case measure => have := HJ.out; omega
              case rel => exact ⟨j + 1, by have := HJ.out; omega, by simp, HL.out⟩
            · cases t3
              · go_wp2_with (first
                  | (go_at_call 17; first
                    | (refine HX6.out.mono ?_; rintro e W7 ⟨rfl, hb⟩; (replace HL := Lib.hid (HL.out.below hb)); (replace s0 := HL.out.n0); (replace s1 := HL.out.n1); (replace s2 := HL.out.n2); (replace s3 := HL.out.n3); (replace s4 := HL.out.n4); clear hb HX6)
                    | (refine (HY6.out _ HL.out).mono ?_; rintro e W8 ⟨rfl, hb⟩; (replace HL := Lib.hid (HL.out.below hb)); (replace s0 := HL.out.n0); (replace s1 := HL.out.n1); (replace s2 := HL.out.n2); (replace s3 := HL.out.n3); (replace s4 := HL.out.n4); clear hb))
                  | (go_at_call 18; refine (HC6.out _ _ (HL.out.below ((Below.refl _ _).alloc (Nat.le_refl _) _)) (blk_new _ _) (by trivial) (by trivial)).mono ?_; rintro e W9 ⟨rfl, hb⟩; (replace HL := Lib.hid ((HL.out.below ((Below.refl _ _).alloc (Nat.le_refl _) _)).below hb)); clear hb)
                  | (go_at_call 19; refine (HV6.out _ HL.out).mono ?_; rintro e W10 ⟨rfl, hl⟩; (replace HL := Lib.hid hl); clear hl))
                go_roundg (gk - 1)
                case measure => have := HJ.out; omega
                case rel => exact ⟨j + 1, by have := HJ.out; omega, by simp, HL.out⟩
              · go_wp2_with (first
                  | (go_at_call 17; first
                    | (refine HX6.out.mono ?_; rintro e W7 ⟨rfl, hb⟩; (replace HL := Lib.hid (HL.out.below hb)); (replace s0 := HL.out.n0); (replace s1 := HL.out.n1); (replace s2 := HL.out.n2); (replace s3 := HL.out.n3); (replace s4 := HL.out.n4); clear hb HX6)
                    | (refine (HY6.out _ HL.out).mono ?_; rintro e W8 ⟨rfl, hb⟩; (replace HL := Lib.hid (HL.out.below hb)); (replace s0 := HL.out.n0); (replace s1 := HL.out.n1); (replace s2 := HL.out.n2); (replace s3 := HL.out.n3); (replace s4 := HL.out.n4); clear hb))
                  | (go_at_call 18; refine (HC6.out _ _ (HL.out.below ((Below.refl _ _).alloc (Nat.le_refl _) _)) (blk_new _ _) (by trivial) (by trivial)).mono ?_; rintro e W9 ⟨rfl, hb⟩; (replace HL := Lib.hid ((HL.out.below ((Below.refl _ _).alloc (Nat.le_refl _) _)).below hb)); clear hb)
                  | (go_at_call 19; refine (HV6.out _ HL.out).mono ?_; rintro e W10 ⟨rfl, hl⟩; (replace HL := Lib.hid hl); clear hl))
                go_roundg (gk - 1)
                case measure => have := HJ.out; omega
                case rel => exact ⟨j + 1, by have := HJ.out; omega, by simp, HL.out⟩
        · have hlt3 : ¬ ((j : Nat) : Int) < (N : Int) := by omega
          go_wp2_with fail
          go_roundg (G0 - 1)
          case measure => have := HK.out; omega
          case rel => exact ⟨k + 1, by have := HK.out; omega, by simp, HL.out⟩
    · have hlt3 : ¬ ((k : Nat) : Int) < (N : Int) := by omega
      go_wp2_with fail
      go_ret
      exact ⟨rfl, HL.out.blw⟩
theorem sval_big (h : CaseIn w c AL AC AJ AX cL cC cJ cX) (N : Nat) (A : Option Addr) (d : Nat) (hg : c.great = true ∨ c.great = false ∧ 12 < N) :
    Calls Tryz.prog 4 #[c.val AL AC AJ AX cL cC cJ cX, .slice A N d] w (RetTrue w) := by
  have HB0 := Lib.hid ((Below.refl w.heap.size w).alloc (Nat.le_refl _) (.cells #[.slice AL c.l.length cL, .slice AC c.cs.length cC, .slice AJ c.js.length cJ, .slice AX c.xs.length cX] 27))
  have HN0 := Lib.hid (blk_new w (.cells #[.slice AL c.l.length cL, .slice AC c.cs.length cC, .slice AJ c.js.length cJ, .slice AX c.xs.length cX] 27))
  have HGN : Hid (∀ V, Below w.heap.size w V → c.great = false → Calls Tryz.prog 11 #[.agg #[.slice AL c.l.length cL, .slice AC c.cs.length cC, .slice AJ c.js.length cJ, .slice AX c.xs.length cX]] V fun e w' => e = .returned (.int .i64 0) ∧ Below V.heap.size V w') := Lib.hid (fun V hV => great_no (h.below hV (Nat.le_refl _)))
  have HGY : Hid (∀ V, Below w.heap.size w V → c.great = true → Calls Tryz.prog 11 #[.agg #[.slice AL c.l.length cL, .slice AC c.cs.length cC, .slice AJ c.js.length cJ, .slice AX c.xs.length cX]] V fun e w' => e = .returned (.int .i64 1) ∧ Below V.heap.size V w') := Lib.hid (fun V hV => great_yes (h.below hV (Nat.le_refl _)))
  unfold CaseP.val
  clear h
  go_enter Tryz.func4, Tryz.ntmps4
  go_upto_region 1 with fail
  obtain ⟨cb, hcb⟩ : ∃ b, w.heap.size = b := ⟨_, rfl⟩
  rw [hcb] at HN0 ⊢
  clear hcb
  generalize w.alloc (.cells #[.slice AL c.l.length cL, .slice AC c.cs.length cC, .slice AJ c.js.length cJ, .slice AX c.xs.length cX] 27) = w1 at *
  have s0 := blk_cell HN0.out 0
  have s1 := blk_cell HN0.out 1
  have s2 := blk_cell HN0.out 2
  have s3 := blk_cell HN0.out 3
  simp only [List.getElem?_toArray, List.getElem?_cons_zero, List.getElem?_cons_succ] at s0 s1 s2 s3
  rcases hg with hg | ⟨hg, hn⟩
  · have HG := Lib.hid (HGY.out _ HB0.out hg)
    clear hg HGN HGY
    go_wp2_with (first
      | (go_at_call 11; refine HG.out.mono ?_; rintro e w2 ⟨rfl, hb⟩; (have HB1 := Lib.hid (HB0.out.trans (hb.mono HB0.out.size))); clear hb s0 s1 s2 s3)
      | (go_at_call 16; refine (awake14_any _).mono ?_; rintro e w3 ⟨rfl, hb⟩; (have HB2 := Lib.hid (HB1.out.trans (hb.mono HB1.out.size))); clear hb))
    go_ret
    exact ⟨rfl, HB2.out⟩
  · have HG := Lib.hid (HGN.out _ HB0.out hg)
    have hn' : (12 : Int) < (N : Int) := by omega
    clear hg HGN HGY hn
    go_wp2_with (first
      | (go_at_call 11; refine HG.out.mono ?_; rintro e w2 ⟨rfl, hb⟩; (have HB1 := Lib.hid (HB0.out.trans (hb.mono HB0.out.size))); clear hb s0 s1 s2 s3)
      | (go_at_call 16; refine (awake14_any _).mono ?_; rintro e w3 ⟨rfl, hb⟩; (have HB2 := Lib.hid (HB1.out.trans (hb.mono HB1.out.size))); clear hb))
    go_ret
    exact ⟨rfl, HB2.out⟩
theorem sval_law (x0 : List Int) (A0 : Option Addr) (c0 : Nat) (x1 : List (List Int)) (A1 : Option Addr) (c1 : Nat) (x2 : List (List Int)) (A2 : Option Addr) (c2 : Nat) (x3 : List (Int × List UInt8)) (A3 : Option Addr) (c3 : Nat) (xs : List Int) (A : Option Addr) (d : Nat) (w : World)
    (l0 : x0.length ≤ c0) (m0 : c0 ≤ maxLen) (w0 : ∀ y ∈ x0, (Lit.int .u16 y).wf = true) (s0 : Sl1 w A0 (Value.int .u16) x0)
    (l1 : x1.length ≤ c1) (m1 : c1 ≤ maxLen) (w1 : ∀ y ∈ x1, y.length = 3 ∧ ∀ z ∈ y, (Lit.int .i64 z).wf = true) (s1 : Sl w A1 (encInts .i64) 3 x1)
    (l2 : x2.length ≤ c2) (m2 : c2 ≤ maxLen) (w2 : ∀ y ∈ x2, y.length = 2 ∧ ∀ z ∈ y, (Lit.int .i64 z).wf = true) (s2 : Sl w A2 (encInts .i64) 2 x2)
    (l3 : x3.length ≤ c3) (m3 : c3 ≤ maxLen) (w3 : ∀ y ∈ x3, (Lit.int .i64 y.1).wf = true ∧ y.2.length ≤ maxLen) (s3 : Sl w A3 encIS 2 x3)
    (_ : xs.length ≤ d) (_ : d ≤ maxLen) (wx : ∀ y ∈ xs, (Lit.int .i64 y).wf = true) (sx : Sl1 w A (Value.int .i64) xs) :
    Calls Tryz.prog 4 #[.agg #[.slice A0 x0.length c0, .slice A1 x1.length c1, .slice A2 x2.length c2, .slice A3 x3.length c3], .slice A xs.length d] w (RetTrue w) := by
  obtain ⟨c, hc, e⟩ := case_in l0 m0 w0 s0 l1 m1 w1 s1 l2 m2 w2 s2 l3 m3 w3 s3
  rw [e]
  cases hg : c.great with
  | true => exact sval_big hc xs.length A d (.inl hg)
  | false =>
    by_cases hn : xs.length ≤ 12
    · exact sval_small hc hg xs A d sx wx hn
    · exact sval_big hc xs.length A d (.inr ⟨hg, by omega⟩)
end
end Go.Proofs.YtbppaiejpgdbiaaGreat
