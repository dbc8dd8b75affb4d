/- Texts of several layers, one behind the other: MarkC, CaseA, CaseB, CaseC, KeepS, Nat0, Nat1, Nat2, Nat3, Nat4, Nat5, Nat7, Nat8, Nat9, NatA, Count3, Count4, Once0, Once1, Once3, Count5, Count6, VocNewM, NatC, NatD, Count7, CaseD, CaseE, RVoc0, CaseY, Count8, Count9, Lat2. -/
import Derived.Test.YtkkcekgbnloegaaGreatZZH3
import Derived.WalkKit
import Derived.KernelRfl
import Derived.Lib.Hide
import Derived.Deep.QuietTactic
import Derived.BigQuiet
import Derived.OwnWalk
import Derived.Lib.Strings
import Derived.Deep.DeepCutAuto
import Derived.Deep.RegionHeld3
import Derived.StillTailTactics
import Derived.Maps.OwnSet
import Derived.Maps.OwnOps
import Derived.DeepKeys4
import Derived.WideKeyEntry
import Derived.Maps.AppendAt
import Derived.Test.YtkkcekgbnloegaaGreatProg
import Derived.Laws.ResultCell
import Derived.Laws.AppendOwnNone
import Derived.Laws.IdiomStrings
import Derived.Lib.AppendStr
import Derived.Deep.Slices
import Derived.Deep.Fields
import Derived.ChangeSame
import Derived.SliceStrings
import Derived.OpenShut
import Derived.Laws.LoneSync
import Derived.Laws.OwnMore
import Derived.Laws.MakeOwn
import Derived.Laws.Bits64b
import Derived.Laws.BitsAllLaws
import Derived.Tactics
import Derived.Tactics2
import Derived.Defers
import Derived.Laws.Pointers
import Derived.RegionTactic
import Derived.RegionCalls
import Derived.ChangeAlike
import Derived.Test.YtkkcekgbnloegaaGreatRows
import Derived.ProofKit
import Derived.ShutString
import Derived.ChangeOld
import Derived.Below
import Derived.Lib.SmallJoins
set_option maxRecDepth 100000
set_option linter.unusedVariables false
set_option linter.unusedSimpArgs false
namespace Go.Proofs.YtkkcekgbnloegaaGreat
open Go.RowKit Go.Maps Go.WideMaps
theorem fresh_fndI {M : List Spl} {x : Spl} (h : freshX M x = true) : fndI M x.1 = none := by
  unfold fndI
  rw [List.findIdx?_eq_none_iff]
  intro y hy
  unfold freshX at h
  rw [List.all_eq_true] at h
  have := h y hy
  simp only [Bool.and_eq_true, decide_eq_true_eq] at this
  simpa using this.1
theorem fresh_fndX {M : List Spl} {x : Spl} (h : freshX M x = true) : fndX M x.2 = none := by
  unfold fndX
  rw [List.findIdx?_eq_none_iff]
  intro y hy
  unfold freshX at h
  rw [List.all_eq_true] at h
  have := h y hy
  simp only [Bool.and_eq_true, decide_eq_true_eq] at this
  simpa using this.2
set_option maxHeartbeats 2000000 in
theorem mnew_any (xs : List Spl) (A : Option Addr) (c : Nat) (w : World) (h : Sl w A encIS 2 xs) (hok : okX xs = true) : Calls Tryz.prog 128 #[.slice A xs.length c] w fun e w' => (∃ mb sv mi mt n, e = .returned (.tuple #[.pointer (some ⟨mb, 0, none⟩), .int .i64 n, .int .i64 0]) ∧ MarkIs w' w.heap.size mb xs sv mi mt) ∧ Below w.heap.size w w' := by
  have HSL := Lib.hid h
  have HOK := Lib.hid ((okX_iff xs).1 hok)
  clear h hok
  have hmm := @run_makeMap Tryz.prog
  have HM : Hid (MarkIs (((w.alloc (.map #[] 0)).alloc (.map #[] 0)).alloc (.cells (markA (.slice none 0 0) w.heap.size (w.heap.size + 1) (firstB []) (mostM [])) 260)) w.heap.size (w.heap.size + 1 + 1) [] (.slice none 0 0) w.heap.size (w.heap.size + 1)) := Lib.hid (by
    refine ⟨?_, own_nil _ _ _ _, ?_, ?_, by omega, by omega, by omega, by omega⟩
    · have := blk_new ((w.alloc (.map #[] 0)).alloc (.map #[] 0)) (.cells (markA (.slice none 0 0) w.heap.size (w.heap.size + 1) (firstB []) (mostM [])) 260)
      simpa [size_alloc] using this
    · refine ((MapOf.made w Tryz.prog 3 3 (Value.int .i64)).keep (F := fun _ => False) ((Keep.refl _ _).alloc _ |>.alloc _) (fun h => h)).congr (fun a => rfl)
    · have := MapOf.made (w.alloc (.map #[] 0)) Tryz.prog 9 3 strV
      rw [size_alloc] at this
      exact (this.keep (F := fun _ => False) ((Keep.refl _ _).alloc _) (fun h => h)).congr (fun a => rfl))
  have HB := Lib.hid ((((Below.refl w.heap.size w).alloc (Nat.le_refl _) (.map #[] 0)).alloc (by simp) (.map #[] 0)).alloc (by simp; omega) (.cells (markA (.slice none 0 0) w.heap.size (w.heap.size + 1) (firstB []) (mostM [])) 260))
  go_enter Tryz.func128, Tryz.ntmps128
  go_upto_region 2 with fail
  rw [zero_mark]
  clear hmm
  obtain ⟨mb, hmb⟩ : ∃ mb, w.heap.size + 1 + 1 = mb := ⟨_, rfl⟩
  rw [hmb] at HM ⊢
  clear hmb
  go_wp2_with fail
  obtain ⟨N, hN⟩ : ∃ N, xs.length = N := ⟨_, rfl⟩
  have HN := Lib.hid hN
  have HN32 : Hid (N ≤ 32) := Lib.hid (by rw [← hN]; exact HOK.out.1)
  rw [hN]
  clear hN
  go_loopg [15] N (fun n i W => ∃ k : Nat, k + n = N ∧ i = .int .i64 (k : Int) ∧ (∃ sv, MarkIs W w.heap.size mb (xs.take k) sv w.heap.size (w.heap.size + 1)) ∧ Below w.heap.size w W)
  case atStart => exact ⟨0, by omega, rfl, ⟨_, HM.out⟩, HB.out⟩
  case round =>
    obtain ⟨k, hk, rfl, ⟨sv, hm⟩, hb⟩ := hrel
    clear HM HB
    rename World => W
    have HM := Lib.hid hm
    have HB := Lib.hid hb
    clear hm hb
    by_cases hlt : k < N
    · have hlt' : (k : Int) < (N : Int) := by omega
      have q0 : (0 : Int) ≤ (k : Int) := by omega
      have hk2 : k < xs.length := by rw [HN.out]; exact hlt
      have HK2 := Lib.hid hk2
      have ws : IntKind.i64.wrap ((k : Int) + 1) = (k : Int) + 1 := IntWalk.i64_in _ (by have := HN32.out; omega)
      obtain ⟨b, o, hA, hc⟩ := (HSL.out.below HB.out (Nat.le_refl _)).at k hk2
      subst hA
      obtain ⟨hr, hf⟩ := HOK.out.2 k hk2
      obtain ⟨x, hx⟩ : ∃ x, xs[k] = x := ⟨_, rfl⟩
      have hr2 : rightX x = true := by rw [← hx]; exact hr
      have hf2 : freshX (xs.take k) x = true := by rw [← hx]; exact hf
      have e0 : W.cell? ⟨b, o + k * 2, none⟩ = some (.int .i64 x.1) := by rw [← hx]; exact hc 0 _ rfl
      have e1 : W.cell? ⟨b, o + k * 2 + 1, none⟩ = some (strV x.2) := by rw [← hx]; exact hc 1 _ rfl
      have HTK : Hid (xs.take (k + 1) = xs.take k ++ [x]) := Lib.hid (by rw [List.take_add_one, List.getElem?_eq_getElem hk2, ← hx]; rfl)
      have HTL : Hid ((xs.take k).length < 32) := Lib.hid (by rw [List.length_take]; have := HOK.out.1; omega)
      have HR2 := Lib.hid hr2
      have HF2 := Lib.hid hf2
      clear hc hr hf hx hr2 hf2
      generalize xs.take k = M at *
      unfold strV at e1
      obtain ⟨z, hv1⟩ : ∃ z, bs x.2 = z := ⟨_, rfl⟩
      have HV1 := Lib.hid hv1
      rw [hv1] at e1
      clear hv1
      have HBA := Lib.hid ((Below.refl W.heap.size W).alloc (Nat.le_refl _) (.cells #[.int .i64 x.1, .string z] 170))
      have HMA : Hid (∀ V, Below W.heap.size W V → MarkIs V w.heap.size mb M sv w.heap.size (w.heap.size + 1)) := Lib.hid (fun V hV => HM.out.below hV (Nat.le_refl _))
      have hn := blk_new W (.cells #[.int .i64 x.1, .string z] 170)
      have n0 := blk_cell hn 0
      have n1 := blk_cell hn 1
      simp only [List.getElem?_toArray, List.getElem?_cons_zero, List.getElem?_cons_succ] at n0 n1
      clear hn
      go_upto_region 5 with fail
      generalize W.alloc (.cells #[.int .i64 x.1, .string z] 170) = W2 at *
      have HAD := madd_ok (HMA.out _ HBA.out) x HR2.out HTL.out (fresh_fndI HF2.out) (fresh_fndX HF2.out)
      unfold strV at HAD
      rw [HV1.out] at HAD
      have HAD2 := Lib.hid HAD
      clear HAD
      go_wp2_with (go_at_call 155; refine HAD2.out.mono ?_; rintro e W3 ⟨rfl, sv3, hm3, hk3⟩; (have HM3 := Lib.hid hm3); (have HB3 := Lib.hid ((HB.out.trans (HBA.out.mono HB.out.size)).trans (hk3.below (Nat.le_trans HB.out.size HBA.out.size) (fun x hx => hx)))); clear hm3 hk3)
      go_roundg (gk - 1)
      case measure => omega
      case rel => exact ⟨k + 1, by omega, by simp, ⟨sv3, by rw [HTK.out]; exact HM3.out⟩, HB3.out⟩
    · have hke : k = N := by omega
      have HM2 : Hid (MarkIs W w.heap.size mb xs sv w.heap.size (w.heap.size + 1)) := Lib.hid (by
        have := HM.out
        rw [List.take_of_length_le (by rw [HN.out]; omega)] at this
        exact this)
      subst hke
      have hlt' : ¬ ((k : Nat) : Int) < (k : Int) := by omega
      go_wp2_with fail
      go_ret3
      exact ⟨⟨mb, ⟨_, rfl⟩, _, _, _, HM2.out⟩, HB.out⟩
theorem CaseP.adds (c : CaseP) : AddsT c.T := addsT_grow c.l (min (c.l.length / 2) 30)
theorem CaseP.ok (c : CaseP) : OkT c.T := c.adds.1
theorem mrgs_right {T : List Ent} (hT : OkT T) : (mrgsT T).all mrgR = true := by
  rw [List.all_eq_true]
  intro m hm
  obtain ⟨k, hk, rfl⟩ := List.getElem_of_mem hm
  obtain ⟨_, h1, h2, h3, h4⟩ := mrgs_ok hT (List.getElem?_eq_getElem hk)
  have hs := hT.small
  have : 256 + k < T.length := by rw [mrgs_len] at hk; omega
  unfold mrgR inR
  simp only [Bool.and_eq_true, decide_eq_true_eq]
  omega
theorem CaseP.right (c : CaseP) : rightS c.spec = true := by
  have hT := c.ok
  have hs := hT.small
  have l0 : (mrgsT c.T).length ≤ 744 := by rw [mrgs_len]; omega
  have l1 := someX_len c.xs (min c.xs.length 6)
  have l2 := someC_len c.cs
  have l3 := someJ_len c.js
  have h1 : headR c.spec = true := rfl
  have h2 : (decide (((c.spec.ms.length : Nat) : Int) ≤ 744) && c.spec.ms.all mrgR) = true := by
    show (decide ((((mrgsT c.T).length : Nat) : Int) ≤ 744) && (mrgsT c.T).all mrgR) = true
    rw [mrgs_right hT]; simp; omega
  have h3 : (decide (((c.spec.ts.length : Nat) : Int) ≤ 744) && c.spec.ts.all txtL) = true := rfl
  have h4 : (decide (((c.spec.xs.length : Nat) : Int) ≤ 32) && c.spec.xs.all splL) = true := by
    rw [Bool.and_eq_true, decide_eq_true_eq, List.all_eq_true]
    refine ⟨by show (((someX c.xs (min c.xs.length 6)).length : Nat) : Int) ≤ 32; omega, fun x hx => ?_⟩
    obtain ⟨k, hk, rfl⟩ := List.getElem_of_mem hx
    have := ((okX_iff _).1 (someX_ok c.xs (min c.xs.length 6))).2 k hk
    have h5 := this.1
    unfold rightX at h5
    simp only [Bool.and_eq_true, decide_eq_true_eq] at h5
    have hk' : k < (someX c.xs (min c.xs.length 6)).length := hk
    show splR ((someX c.xs (min c.xs.length 6))[k].1, bs (someX c.xs (min c.xs.length 6))[k].2) = true
    unfold splR inR
    simp only [Bool.and_eq_true, decide_eq_true_eq, bs_size]
    omega
  have h5 : (decide (((c.spec.cs.length : Nat) : Int) ≤ 64) && c.spec.cs.all clsR) = true := by
    rw [Bool.and_eq_true, decide_eq_true_eq, List.all_eq_true]
    refine ⟨by show (((someC c.cs).length : Nat) : Int) ≤ 64; omega, fun x hx => ?_⟩
    have := List.all_eq_true.1 (someC_ok c.cs) x hx
    unfold spanB at this
    unfold clsR inR
    simp only [Bool.and_eq_true, decide_eq_true_eq] at this ⊢
    omega
  have h6 : (decide (((c.spec.js.length : Nat) : Int) ≤ 64) && c.spec.js.all jnR) = true := by
    rw [Bool.and_eq_true, decide_eq_true_eq, List.all_eq_true]
    refine ⟨by show (((someJ c.js).length : Nat) : Int) ≤ 64; omega, fun x hx => ?_⟩
    have := List.all_eq_true.1 (someJ_ok c.js) x hx
    unfold jnB clsB at this
    unfold jnR inR
    simp only [Bool.and_eq_true, decide_eq_true_eq] at this ⊢
    omega
  unfold rightS
  rw [h1, h2, h3, h4, h5, h6]
  rfl
section
variable {w : World} {A1 A3 A4 A5 : Option Addr} {c1 c3 c4 c5 : Nat}
theorem vnew_case (c : CaseP) (hs : SpecAt w c.spec A1 none A3 A4 A5) :
    Calls Tryz.prog 62 #[specW c.spec A1 none A3 A4 A5 c1 0 c3 c4 c5] w fun e w' => (∃ p, e = .returned (.tuple #[.pointer (some ⟨p.vb, 0, none⟩), .int .i64 0, .int .i64 0]) ∧ VocAt w' w.heap.size p none ∧ p.T = c.T ∧ p.s = c.spec) ∧ Below w.heap.size w w' := by
  have hT := c.ok
  have hsm := hT.small
  have l0 : (mrgsT c.T).length ≤ 744 := by rw [mrgs_len]; omega
  have hL : ∀ V, Below w.heap.size w V → Calls Tryz.prog 127 #[specW c.spec A1 none A3 A4 A5 c1 0 c3 c4 c5] V fun e w' => (∃ tb sv mb mp n, e = .returned (.tuple #[.pointer (some ⟨tb, 0, none⟩), .int .i64 n, .int .i64 0]) ∧ TabIs w' V.heap.size tb c.T sv mb mp) ∧ Below V.heap.size V w' := by
    intro V hV
    refine (load_false (R := fun x y z w' => (∃ tb sv mb mp n, x = .pointer (some ⟨tb, 0, none⟩) ∧ y = .int .i64 n ∧ z = .int .i64 0 ∧ TabIs w' V.heap.size tb c.T sv mb mp) ∧ Below V.heap.size V w') rfl (fun W hW => ?_)).mono ?_
    · refine (new_ok c.adds.2 A1 c1 W (hs.ms.below (hV.trans (hW.mono hV.size)) (Nat.le_refl _)) (by omega)).mono ?_
      rintro e w' ⟨tb, sv, mb, mp, rfl, _, ht, hb⟩
      exact ⟨_, _, _, rfl, ⟨tb, sv, mb, mp, _, rfl, rfl, rfl, ht.less hW.size⟩, hW.trans (hb.mono hW.size)⟩
    · rintro e w' ⟨x, y, z, rfl, ⟨tb, sv, mb, mp, n, rfl, rfl, rfl, ht⟩, hb⟩
      exact ⟨⟨tb, sv, mb, mp, n, rfl, ht⟩, hb⟩
  have hM : ∀ V, Below w.heap.size w V → Calls Tryz.prog 128 #[.slice A3 c.spec.xs.length c3] V fun e w' => (∃ mb sv mi mt n, e = .returned (.tuple #[.pointer (some ⟨mb, 0, none⟩), .int .i64 n, .int .i64 0]) ∧ MarkIs w' V.heap.size mb c.spec.xs sv mi mt) ∧ Below V.heap.size V w' := fun V hV =>
    mnew_any (someX c.xs (min c.xs.length 6)) A3 c3 V (hs.xs.below hV (Nat.le_refl _)) (someX_ok _ _)
  have hid : c.spec.xs.all (idB c.T) = true := by
    rw [List.all_eq_true]
    intro x hx
    have := someX_ids c.xs (min c.xs.length 6) x hx
    unfold idB
    simp
    omega
  have l1 := someX_len c.xs (min c.xs.length 6)
  have l2 := someC_len c.cs
  have l3 := someJ_len c.js
  refine (vnew_any (cM := c1) (cT := 0) (cX := c3) (cC := c4) (cJ := c5) hs c.right hL hM hid (by simp only [CaseP.spec, List.length_nil]; omega) (someC_ok _) (someJ_ok _)).mono ?_
  rintro e w' ⟨⟨vb, B1, B2, B3, B4, B5, d1, d2, d3, d4, d5, tbase, tb, bk, kbase, mk, sv, mb, mp, sv2, mi, mt, rfl, hv⟩, hb⟩
  exact ⟨⟨⟨vb, c.spec, c.T, B1, B2, B3, B4, B5, d1, d2, d3, d4, d5, tbase, tb, bk, kbase, mk, sv, mb, mp, sv2, mi, mt⟩, rfl, ⟨_, 0, 0, 0, 0, hv, .inl ⟨rfl, rfl, rfl, rfl⟩⟩, rfl, rfl⟩, hb⟩
end
theorem results_cell_tmp3 {fn : Func} {p u v x : Tmp} {ty : TypeId} (h : fn.results = #[.cell p ty, .tmp u, .tmp v, .tmp x]) (tmps : Array Value) (P : Program) (w : World) :
    (results fn tmps).run P w = ((asAddr (tmps.getD p undef)).run P w).andThen fun a w₁ => ((loadVar ty a).run P w₁).andThen fun y w₂ => .ok (.tuple #[y, tmps.getD u undef, tmps.getD v undef, tmps.getD x undef]) w₂ := by
  simp only [results, h]
  simp [Sem.run_bind, Result.andThen]
theorem load_voc {w : World} {r : Nat} {A1 A2 A3 A4 A5 : Option Addr} {n1 n2 n3 n4 n5 c1 c2 c3 c4 c5 : Nat} (h : w.heap[r]? = some (.cells #[.slice A1 n1 c1, .slice A2 n2 c2, .slice A3 n3 c3, .slice A4 n4 c4, .slice A5 n5 c5] 38)) :
    (loadVar 38 ⟨r, 0, none⟩).run Tryz.prog w = .ok (.agg #[.slice A1 n1 c1, .slice A2 n2 c2, .slice A3 n3 c3, .slice A4 n4 c4, .slice A5 n5 c5]) w := by
  have n0 := blk_cell h 0
  have n1 := blk_cell h 1
  have n2 := blk_cell h 2
  have n3 := blk_cell h 3
  have n4 := blk_cell h 4
  simp only [List.getElem?_toArray, List.getElem?_cons_zero, List.getElem?_cons_succ] at n0 n1 n2 n3 n4
  simp [go_sem, n0, n1, n2, n3, n4]
theorem ret_voc3 {fn : Func} {R : Ending → World → Prop} {tmps : Array Value} {w : World} {r : Nat} {A1 A2 A3 A4 A5 : Option Addr} {n1 n2 n3 n4 n5 c1 c2 c3 c4 c5 : Nat} {x y z : Value} {p q q' q2 : Tmp}
    (h : fn.results = #[.cell p 38, .tmp q, .tmp q', .tmp q2]) (hp : tmps.getD p undef = .pointer (some ⟨r, 0, none⟩)) (hq : tmps.getD q undef = x) (hq' : tmps.getD q' undef = y) (hq2 : tmps.getD q2 undef = z)
    (hl : w.heap[r]? = some (.cells #[.slice A1 n1 c1, .slice A2 n2 c2, .slice A3 n3 c3, .slice A4 n4 c4, .slice A5 n5 c5] 38))
    (hR : R (.returned (.tuple #[.agg #[.slice A1 n1 c1, .slice A2 n2 c2, .slice A3 n3 c3, .slice A4 n4 c4, .slice A5 n5 c5], x, y, z])) w) : bodyPost Tryz.prog fn R .ret ⟨tmps, []⟩ w := by
  refine bodyPost_ret (v := .tuple #[.agg #[.slice A1 n1 c1, .slice A2 n2 c2, .slice A3 n3 c3, .slice A4 n4 c4, .slice A5 n5 c5], x, y, z]) ?_ rfl hR
  rw [results_cell_tmp3 h, hp, hq, hq', hq2]
  simp [asAddr, load_voc hl, Result.andThen]
structure RVoc where
  (A1 A2 A3 A4 A5 : Option Addr) (c1 c2 c3 c4 c5 : Nat)
def RVoc.val (r : RVoc) (c : CaseP) : Value := .agg #[.slice r.A1 c.T.length r.c1, .slice r.A2 (mrgsT c.T).length r.c2, .slice r.A3 (someC c.cs).length r.c3, .slice r.A4 (someJ c.js).length r.c4, .slice r.A5 (someX c.xs (min c.xs.length 6)).length r.c5]
structure RVocIs (w : World) (base : Nat) (c : CaseP) (r : RVoc) : Prop where
  ref : RefIs w base c.T (.slice r.A1 c.T.length r.c1) (.slice r.A2 (mrgsT c.T).length r.c2)
  cs : Sl w r.A3 encCls 3 (someC c.cs)
  js : Sl w r.A4 encJn 2 (someJ c.js)
  xs : Sl w r.A5 encIS 2 (someX c.xs (min c.xs.length 6))
theorem RVocIs.below {w w' : World} {base B : Nat} {c : CaseP} {r : RVoc} (h : RVocIs w base c r) (hb : Below B w w') (hB : w.heap.size ≤ B) : RVocIs w' base c r :=
  ⟨h.ref.below hb hB, h.cs.below hb hB, h.js.below hb hB, h.xs.below hb hB⟩
theorem voc_done {w W : World} {base rb : Nat} {c : CaseP} {r : RVoc} (hb : Below w.heap.size w W) (hr : w.heap.size ≤ rb) (hlt : rb < base) (hn : W.heap[rb]? = some (.cells #[.slice none 0 0, .slice none 0 0, .slice none 0 0, .slice none 0 0, .slice none 0 0] 38))
    (href : RefIs W base c.T (.slice r.A1 c.T.length r.c1) (.slice r.A2 (mrgsT c.T).length r.c2)) (hcs : Sl w r.A3 encCls 3 (someC c.cs)) (hjs : Sl w r.A4 encJn 2 (someJ c.js)) (hxs : Sl w r.A5 encIS 2 (someX c.xs (min c.xs.length 6))) (v0 v1 v2 v3 v4 : Value) :
    (((((W.setCell ⟨rb, 0, none⟩ v0).setCell ⟨rb, 1, none⟩ v1).setCell ⟨rb, 2, none⟩ v2).setCell ⟨rb, 3, none⟩ v3).setCell ⟨rb, 4, none⟩ v4).heap[rb]? = some (.cells #[v0, v1, v2, v3, v4] 38) ∧
    RVocIs (((((W.setCell ⟨rb, 0, none⟩ v0).setCell ⟨rb, 1, none⟩ v1).setCell ⟨rb, 2, none⟩ v2).setCell ⟨rb, 3, none⟩ v3).setCell ⟨rb, 4, none⟩ v4) w.heap.size c r ∧
    Below w.heap.size w (((((W.setCell ⟨rb, 0, none⟩ v0).setCell ⟨rb, 1, none⟩ v1).setCell ⟨rb, 2, none⟩ v2).setCell ⟨rb, 3, none⟩ v3).setCell ⟨rb, 4, none⟩ v4) := by
  have b1 := blk_set (blk_set (blk_set (blk_set (blk_set hn 0 v0) 1 v1) 2 v2) 3 v3) 4 v4
  simp only [List.setIfInBounds_toArray, List.set_cons_zero, List.set_cons_succ] at b1
  have K := ((((Keep.refl (fun g => g = rb) W).setCell (p := ⟨rb, 0, none⟩) (Or.inl rfl) v0).setCell (p := ⟨rb, 1, none⟩) (Or.inl rfl) v1).setCell (p := ⟨rb, 2, none⟩) (Or.inl rfl) v2).setCell (p := ⟨rb, 3, none⟩) (Or.inl rfl) v3
  have K := K.setCell (p := ⟨rb, 4, none⟩) (Or.inl rfl) v4
  have hB := hb.trans (K.below hb.size (fun x hx => by omega))
  refine ⟨b1, ⟨(href.keep K (fun g hg => by omega)).less (by omega), hcs.below hB (Nat.le_refl _), hjs.below hB (Nat.le_refl _), hxs.below hB (Nat.le_refl _)⟩, hB⟩
section
variable {w : World} {A1 A3 A4 A5 : Option Addr} {c1 c3 c4 c5 : Nat}
theorem rload_case (c : CaseP) (AT AX AC AJ : Option Addr) (nT cT nX cX nC cC nJ cJ : Nat) (hs : Sl w A1 encM 2 (mrgsT c.T)) :
    Calls Tryz.prog 135 #[specV false A1 (mrgsT c.T).length c1 AT nT cT AX nX cX AC nC cC AJ nJ cJ] w fun e w' => (∃ B1 d1 B2 d2, e = .returned (.tuple #[.agg #[.slice B1 c.T.length d1, .slice B2 (mrgsT c.T).length d2], .int .i64 ((mrgsT c.T).length : Nat), .int .i64 0]) ∧ RefIs w' w.heap.size c.T (.slice B1 c.T.length d1) (.slice B2 (mrgsT c.T).length d2)) ∧ Below w.heap.size w w' := by
  have hsm := c.ok.small
  have hml : (mrgsT c.T).length < 9000000000000000000 := by rw [mrgs_len]; omega
  refine (rload_false (F := fun k T no => T = c.T ∧ no = 0 ∧ k = (mrgsT c.T).length) rfl (fun W hW => ?_)).mono ?_
  · refine (rnew_any (mrgsT c.T) A1 c1 W (hs.below hW (Nat.le_refl _)) hml).mono ?_
    rintro e w' ⟨hb, k, T, B1, n1, d1, B2, n2, d2, no, rfl, href, hok, ha, hk⟩
    refine ⟨hb, k, T, B1, n1, d1, B2, n2, d2, no, rfl, href, ?_⟩
    rcases hk with ⟨rfl, rfl⟩ | ⟨hk, h1, h2⟩
    · rw [List.take_length, c.adds.2] at ha
      injection ha with ha
      exact ⟨ha.symm, rfl, rfl⟩
    · exfalso
      have := adds_take (mrgsT c.T) baseT c.T k hk T c.adds.2 ha
      exact h2 (by rw [h1]; exact this)
  · rintro e w' ⟨hb, k, T, B1, n1, d1, B2, n2, d2, no, rfl, href, rfl, rfl, rfl⟩
    have hn2 : n2 = (mrgsT c.T).length := by obtain ⟨_, _, e⟩ := own_slice href.mrg; injection e
    have hn1 : n1 = c.T.length := by obtain ⟨_, _, e⟩ := own_slice href.row; injection e
    subst hn1
    subst hn2
    exact ⟨⟨B1, d1, B2, d2, rfl, href⟩, hb⟩
set_option maxHeartbeats 2000000 in
theorem rnew10_any (c : CaseP) (hs : SpecAt w c.spec A1 none A3 A4 A5) :
    Calls Tryz.prog 104 #[specW c.spec A1 none A3 A4 A5 c1 0 c3 c4 c5] w fun e w' => (∃ r, e = .returned (.tuple #[r.val c, .int .i64 0, .int .i64 0, .int .i64 0]) ∧ RVocIs w' w.heap.size c r ∧ r.A3 = A4 ∧ r.A4 = A5 ∧ r.A5 = A3) ∧ Below w.heap.size w w' := by
  have HL := Lib.hid (fun V (hV : Below w.heap.size w V) => rload_case (w := V) (A1 := A1) (c1 := c1) c none A3 A4 A5 0 0 (someX c.xs (min c.xs.length 6)).length c3 (someC c.cs).length c4 (someJ c.js).length c5 (hs.ms.below hV (Nat.le_refl _)))
  have HS := Lib.hid hs
  have HCK := Lib.hid (fun V (hV : Below w.heap.size w V) => rcheck_any (xs := someX c.xs (min c.xs.length 6)) (c := c3) (hs.xs.below hV (Nat.le_refl _)) (by have := someX_len c.xs (min c.xs.length 6); omega))
  have HOX := Lib.hid (someX_ok c.xs (min c.xs.length 6))
  have HXL := Lib.hid (someX_len c.xs (min c.xs.length 6))
  have HXI := Lib.hid (someX_ids c.xs (min c.xs.length 6))
  have HTS := Lib.hid c.ok.small
  clear hs
  unfold specW specV
  unfold specV at HL
  simp only [CaseP.spec, List.length_nil]
  obtain ⟨NX, hNX⟩ : ∃ n, someX c.xs (min c.xs.length 6) = n := ⟨_, rfl⟩
  have HNX := Lib.hid hNX
  rw [hNX] at HL HCK HOX HXL HXI ⊢
  clear hNX
  have b1 := (Below.refl w.heap.size w).alloc (Nat.le_refl _) (.cells #[.bool false, .slice A1 (mrgsT c.T).length c1, .slice none 0 0, .slice A3 NX.length c3, .slice A4 (someC c.cs).length c4, .slice A5 (someJ c.js).length c5] 115)
  have b2 := b1.alloc (by simp) (.cells #[.slice none 0 0, .slice none 0 0, .slice none 0 0, .slice none 0 0, .slice none 0 0] 38)
  have n1 := blk_alloc (blk_new w (.cells #[.bool false, .slice A1 (mrgsT c.T).length c1, .slice none 0 0, .slice A3 NX.length c3, .slice A4 (someC c.cs).length c4, .slice A5 (someJ c.js).length c5] 115)) (.cells #[.slice none 0 0, .slice none 0 0, .slice none 0 0, .slice none 0 0, .slice none 0 0] 38)
  have n2 := blk_new (w.alloc (.cells #[.bool false, .slice A1 (mrgsT c.T).length c1, .slice none 0 0, .slice A3 NX.length c3, .slice A4 (someC c.cs).length c4, .slice A5 (someJ c.js).length c5] 115)) (.cells #[.slice none 0 0, .slice none 0 0, .slice none 0 0, .slice none 0 0, .slice none 0 0] 38)
  rw [size_alloc] at n2
  obtain ⟨bs, hbs⟩ : ∃ b, w.heap.size = b := ⟨_, rfl⟩
  have HBS := Lib.hid (Nat.le_of_eq hbs)
  have HN1 : Hid (((w.alloc (.cells #[.bool false, .slice A1 (mrgsT c.T).length c1, .slice none 0 0, .slice A3 NX.length c3, .slice A4 (someC c.cs).length c4, .slice A5 (someJ c.js).length c5] 115)).alloc (.cells #[.slice none 0 0, .slice none 0 0, .slice none 0 0, .slice none 0 0, .slice none 0 0] 38)).heap[bs]? = some (.cells #[.bool false, .slice A1 (mrgsT c.T).length c1, .slice none 0 0, .slice A3 NX.length c3, .slice A4 (someC c.cs).length c4, .slice A5 (someJ c.js).length c5] 115)) := Lib.hid (by rw [← hbs]; exact n1)
  have HN2 : Hid (((w.alloc (.cells #[.bool false, .slice A1 (mrgsT c.T).length c1, .slice none 0 0, .slice A3 NX.length c3, .slice A4 (someC c.cs).length c4, .slice A5 (someJ c.js).length c5] 115)).alloc (.cells #[.slice none 0 0, .slice none 0 0, .slice none 0 0, .slice none 0 0, .slice none 0 0] 38)).heap[bs + 1]? = some (.cells #[.slice none 0 0, .slice none 0 0, .slice none 0 0, .slice none 0 0, .slice none 0 0] 38)) := Lib.hid (by rw [← hbs]; exact n2)
  have HB := Lib.hid b2
  clear b1 b2 n1 n2
  go_enter Tryz.func104, Tryz.ntmps104
  go_upto_region 1 with fail
  (try rw [hbs])
  clear hbs
  generalize (w.alloc (.cells #[.bool false, .slice A1 (mrgsT c.T).length c1, .slice none 0 0, .slice A3 NX.length c3, .slice A4 (someC c.cs).length c4, .slice A5 (someJ c.js).length c5] 115)).alloc (.cells #[.slice none 0 0, .slice none 0 0, .slice none 0 0, .slice none 0 0, .slice none 0 0] 38) = w1 at *
  have s0 := blk_cell HN1.out 0
  have s1 := blk_cell HN1.out 1
  have s2 := blk_cell HN1.out 2
  have s3 := blk_cell HN1.out 3
  have s4 := blk_cell HN1.out 4
  have s5 := blk_cell HN1.out 5
  simp only [List.getElem?_toArray, List.getElem?_cons_zero, List.getElem?_cons_succ] at s0 s1 s2 s3 s4 s5
  go_upto_region 2 with (go_at_call 135; refine (HL.out _ HB.out).mono ?_; rintro e w2 ⟨⟨B1, d1, B2, d2, rfl, href⟩, hb⟩; (have HREF := Lib.hid href); (have HB2 := Lib.hid hb); clear href hb s0 s1 s2 s3 s4 s5)
  have hb3 := (Below.refl w2.heap.size w2).alloc (Nat.le_refl _) (.cells #[.slice B1 c.T.length d1, .slice B2 (mrgsT c.T).length d2] 34)
  have HTV := Lib.hid (blk_new w2 (.cells #[.slice B1 c.T.length d1, .slice B2 (mrgsT c.T).length d2] 34))
  have HB3 := Lib.hid (HB2.out.trans (hb3.mono HB2.out.size))
  have HRF := Lib.hid (HREF.out.below hb3 (Nat.le_refl _))
  have HN13 := Lib.hid (blk_below HB3.out (blk_lt HN1.out) HN1.out)
  have HN23 := Lib.hid (blk_below HB3.out (blk_lt HN2.out) HN2.out)
  have HBW := Lib.hid (HB.out.trans (HB3.out.mono HB.out.size))
  have HTG := Lib.hid HB2.out.size
  clear hb3 HREF
  generalize w2.heap.size = tv at *
  generalize w2.alloc (.cells #[.slice B1 c.T.length d1, .slice B2 (mrgsT c.T).length d2] 34) = w3 at *
  have HCK3 := Lib.hid (HCK.out _ HBW.out)
  have HXS := Lib.hid (HS.out.below HBW.out (Nat.le_refl _))
  have s3 := blk_cell HN13.out 3
  simp only [List.getElem?_toArray, List.getElem?_cons_zero, List.getElem?_cons_succ] at s3
  go_upto_region 7 with (go_at_call 103; refine HCK3.out.mono ?_; rintro e w4 ⟨⟨n0, k0, rfl, hy1, hy2⟩, m, rfl⟩; obtain ⟨hk01, hk00⟩ := hy1 HOX.out; subst hk00; clear hy1 hy2 hk01 s3)
  go_wp2_with fail
  obtain ⟨N, hN⟩ : ∃ N, NX.length = N := ⟨_, rfl⟩
  have HNN := Lib.hid hN
  rw [hN] at HN13 HXL ⊢
  clear hN
  go_loopg [9] N (fun n i W => ∃ k : Nat, k + n = N ∧ i = .int .i64 (k : Int) ∧ ∃ m, W = w3.drewN m)
  case atStart => exact ⟨0, by omega, rfl, m, rfl⟩
  case round =>
    obtain ⟨k, hk, rfl, m2, hW⟩ := hrel
    subst hW
    have hn1 : (w3.drewN m2).heap[bs]? = _ := HN13.out
    have hn2 : (w3.drewN m2).heap[tv]? = _ := HTV.out
    have s3 := blk_cell hn1 3
    have t0 := blk_cell hn2 0
    simp only [List.getElem?_toArray, List.getElem?_cons_zero, List.getElem?_cons_succ] at s3 t0
    clear hn1 hn2
    by_cases hlt : k < N
    · have hlt' : (k : Int) < (N : Int) := by omega
      have q0 : (0 : Int) ≤ (k : Int) := by omega
      have ws : IntKind.i64.wrap ((k : Int) + 1) = (k : Int) + 1 := IntWalk.i64_in _ (by have := HXL.out; omega)
      have hk2 : k < NX.length := by rw [HNN.out]; exact hlt
      have hk3 : k < (someX c.xs (min c.xs.length 6)).length := by rw [HNX.out]; exact hk2
      obtain ⟨b, o, hA, hc⟩ := HXS.out.xs.at k hk3
      subst hA
      obtain ⟨x, hx⟩ : ∃ x, (someX c.xs (min c.xs.length 6))[k] = x := ⟨_, rfl⟩
      have e0 : (w3.drewN m2).cell? ⟨b, o + k * 2, none⟩ = some (.int .i64 x.1) := by rw [← hx]; exact hc 0 _ rfl
      have hge : ¬ x.1 < (c.T.length : Int) := by
        have h1 : x ∈ NX := by rw [← hx, ← HNX.out]; exact List.getElem_mem _
        have := HXI.out x h1
        have := HTS.out
        omega
      clear hc hx hk3
      go_upto_region 10 with fail
      refine wp_region_held_drew (S := fun V => V.cell? ⟨bs, 3, none⟩ = some (.slice (some ⟨b, o, none⟩) N c3) ∧ V.cell? ⟨tv, 0, none⟩ = some (.slice B1 c.T.length d1) ∧ V.cell? ⟨b, o + k * 2, none⟩ = some (.int .i64 x.1)) (by kernel_rfl) (by exact And.intro s3 (And.intro t0 e0)) (fun hHeld => ?_)
      refine tkH 0 39 ?_ rfl hHeld (.inl ⟨by rfl, ?_⟩) ?_; rotate_left; focus (intro w' hSw; (try dsimp only at hSw); go_simp; (try with_reducible rfl))
      try simp only [sIB, sC0, sCS]
      refine tkH 1 40 ?_ rfl hHeld (.inl ⟨by rfl, ?_⟩) ?_; rotate_left; focus (intro w' hSw; (try dsimp only at hSw); go_simp; (try with_reducible rfl))
      try simp only [sIB, sC0, sCS]
      refine tkH 2 41 ?_ rfl hHeld (.inl ⟨by rfl, ?_⟩) ?_; rotate_left; focus (intro w' hSw; (try dsimp only at hSw); go_simp; (try with_reducible rfl))
      try simp only [sIB, sC0, sCS]
      refine tkH 3 42 ?_ rfl hHeld (.inl ⟨by rfl, ?_⟩) ?_; rotate_left; focus (intro w' hSw; (try dsimp only at hSw); go_simp; (try with_reducible rfl))
      try simp only [sIB, sC0, sCS]
      refine tkH 4 43 ?_ rfl hHeld (.inl ⟨by rfl, ?_⟩) ?_; rotate_left; focus (intro w' hSw; (try dsimp only at hSw); go_simp; (try with_reducible rfl))
      try simp only [sIB, sC0, sCS]
      refine tkH 5 44 ?_ rfl hHeld (.inl ⟨by rfl, ?_⟩) ?_; rotate_left; focus (intro w' hSw; (try dsimp only at hSw); go_simp; (try with_reducible rfl))
      try simp only [sIB, sC0, sCS]
      refine tkH 6 45 ?_ rfl hHeld (.inl ⟨by rfl, ?_⟩) ?_; rotate_left; focus (intro w' hSw; (try dsimp only at hSw); go_simp; (try with_reducible rfl))
      try simp only [sIB, sC0, sCS]
      refine tkH 7 46 ?_ rfl hHeld (.inl ⟨by rfl, ?_⟩) ?_; rotate_left; focus (intro w' hSw; (try dsimp only at hSw); go_simp; (try with_reducible rfl))
      try simp only [sIB, sC0, sCS]
      refine tkH 8 47 ?_ rfl hHeld (.inl ⟨by rfl, ?_⟩) ?_; rotate_left; focus (intro w' hSw; (try dsimp only at hSw); go_simp; (try with_reducible rfl))
      try simp only [sIB, sC0, sCS]
      refine tkH 9 48 ?_ rfl hHeld (.inl ⟨by rfl, ?_⟩) ?_; rotate_left; focus (intro w' hSw; (try dsimp only at hSw); go_simp; (try with_reducible rfl))
      try simp only [sIB, sC0, sCS]
      refine wpAnyH_done (by kernel_rfl) ?_ _
      clear hHeld s3 t0 e0
      go_wp2_with fail
      go_roundg (gk - 1)
      case measure => omega
      case rel => exact ⟨k + 1, by omega, by simp, m2 + 1, rfl⟩
    · have hke : k = N := by omega
      subst hke
      have hlt' : ¬ ((k : Nat) : Int) < (k : Int) := by omega
      have hr1 : (w3.drewN m2).heap[bs + 1]? = _ := HN23.out
      have hn1 : (w3.drewN m2).heap[bs]? = _ := HN13.out
      have hn2 : (w3.drewN m2).heap[tv]? = _ := HTV.out
      have s4 := blk_cell hn1 4
      have s5 := blk_cell hn1 5
      have t1 := blk_cell hn2 1
      have g0 := blk_cell hr1 0
      have g1 := blk_cell hr1 1
      have g2 := blk_cell hr1 2
      have g3 := blk_cell hr1 3
      have g4 := blk_cell hr1 4
      have z0 := blk_froz hr1 0
      have z1 := blk_froz hr1 1
      have z2 := blk_froz hr1 2
      have z3 := blk_froz hr1 3
      have z4 := blk_froz hr1 4
      simp only [List.getElem?_toArray, List.getElem?_cons_zero, List.getElem?_cons_succ] at s4 s5 t1 g0 g1 g2 g3 g4
      clear hr1 hn1 hn2
      go_wp2_with fail
      have HD := voc_done (r := ⟨B1, B2, A4, A5, A3, d1, d2, c4, c5, c3⟩) (W := w3.drewN m2) (rb := bs + 1) (below_drewN HBW.out m2) (by have := HBS.out; omega) (blk_lt HN2.out) HN23.out (HRF.out.below (below_drewN (Below.refl w3.heap.size w3) m2) (Nat.le_refl _)) HS.out.cs HS.out.js HS.out.xs
        (.slice B1 c.T.length d1) (.slice B2 (mrgsT c.T).length d2) (.slice A4 (someC c.cs).length c4) (.slice A5 (someJ c.js).length c5) (.slice A3 k c3)
      refine ret_voc3 (r := bs + 1) rfl rfl rfl rfl rfl HD.1 ⟨⟨_, ?_, HD.2.1, rfl, rfl, rfl⟩, HD.2.2⟩
      rw [show k = (someX c.xs (min c.xs.length 6)).length from by rw [HNX.out, HNN.out]]
      rfl
end
section
variable {w : World} {A1 A3 A4 A5 : Option Addr} {c1 c3 c4 c5 : Nat}
theorem rof10_any (c : CaseP) (hs : SpecAt w c.spec A1 none A3 A4 A5) :
    Calls Tryz.prog 66 #[specW c.spec A1 none A3 A4 A5 c1 0 c3 c4 c5] w fun e w' => (∃ r, e = .returned (r.val c) ∧ RVocIs w' w.heap.size c r) ∧ Below w.heap.size w w' := by
  have HS := Lib.hid hs
  have HN := Lib.hid (fun V (hV : Below w.heap.size w V) => rnew10_any (w := V) (A1 := A1) (A3 := A3) (A4 := A4) (A5 := A5) (c1 := c1) (c3 := c3) (c4 := c4) (c5 := c5) c (hs.below hV (Nat.le_refl _)))
  clear hs
  unfold specW specV at HN ⊢
  simp only [CaseP.spec, List.length_nil] at HN ⊢
  have b2 := ((Below.refl w.heap.size w).alloc (Nat.le_refl _) (.cells #[.bool false, .slice A1 (mrgsT c.T).length c1, .slice none 0 0, .slice A3 (someX c.xs (min c.xs.length 6)).length c3, .slice A4 (someC c.cs).length c4, .slice A5 (someJ c.js).length c5] 115)).alloc (by simp) (.cells #[.slice none 0 0, .slice none 0 0, .slice none 0 0, .slice none 0 0, .slice none 0 0] 38)
  have n1 := blk_alloc (blk_new w (.cells #[.bool false, .slice A1 (mrgsT c.T).length c1, .slice none 0 0, .slice A3 (someX c.xs (min c.xs.length 6)).length c3, .slice A4 (someC c.cs).length c4, .slice A5 (someJ c.js).length c5] 115)) (.cells #[.slice none 0 0, .slice none 0 0, .slice none 0 0, .slice none 0 0, .slice none 0 0] 38)
  have n2 := blk_new (w.alloc (.cells #[.bool false, .slice A1 (mrgsT c.T).length c1, .slice none 0 0, .slice A3 (someX c.xs (min c.xs.length 6)).length c3, .slice A4 (someC c.cs).length c4, .slice A5 (someJ c.js).length c5] 115)) (.cells #[.slice none 0 0, .slice none 0 0, .slice none 0 0, .slice none 0 0, .slice none 0 0] 38)
  rw [size_alloc] at n2
  obtain ⟨bs, hbs⟩ : ∃ b, w.heap.size = b := ⟨_, rfl⟩
  have HBS := Lib.hid (Nat.le_of_eq hbs)
  have HN1 : Hid (((w.alloc (.cells #[.bool false, .slice A1 (mrgsT c.T).length c1, .slice none 0 0, .slice A3 (someX c.xs (min c.xs.length 6)).length c3, .slice A4 (someC c.cs).length c4, .slice A5 (someJ c.js).length c5] 115)).alloc (.cells #[.slice none 0 0, .slice none 0 0, .slice none 0 0, .slice none 0 0, .slice none 0 0] 38)).heap[bs]? = some (.cells #[.bool false, .slice A1 (mrgsT c.T).length c1, .slice none 0 0, .slice A3 (someX c.xs (min c.xs.length 6)).length c3, .slice A4 (someC c.cs).length c4, .slice A5 (someJ c.js).length c5] 115)) := Lib.hid (by rw [← hbs]; exact n1)
  have HN2 : Hid (((w.alloc (.cells #[.bool false, .slice A1 (mrgsT c.T).length c1, .slice none 0 0, .slice A3 (someX c.xs (min c.xs.length 6)).length c3, .slice A4 (someC c.cs).length c4, .slice A5 (someJ c.js).length c5] 115)).alloc (.cells #[.slice none 0 0, .slice none 0 0, .slice none 0 0, .slice none 0 0, .slice none 0 0] 38)).heap[bs + 1]? = some (.cells #[.slice none 0 0, .slice none 0 0, .slice none 0 0, .slice none 0 0, .slice none 0 0] 38)) := Lib.hid (by rw [← hbs]; exact n2)
  have HB := Lib.hid b2
  clear b2 n1 n2
  go_enter Tryz.func66, Tryz.ntmps66
  go_upto_region 1 with fail
  (try rw [hbs])
  clear hbs
  generalize (w.alloc (.cells #[.bool false, .slice A1 (mrgsT c.T).length c1, .slice none 0 0, .slice A3 (someX c.xs (min c.xs.length 6)).length c3, .slice A4 (someC c.cs).length c4, .slice A5 (someJ c.js).length c5] 115)).alloc (.cells #[.slice none 0 0, .slice none 0 0, .slice none 0 0, .slice none 0 0, .slice none 0 0] 38) = w1 at *
  have s0 := blk_cell HN1.out 0
  have s1 := blk_cell HN1.out 1
  have s2 := blk_cell HN1.out 2
  have s3 := blk_cell HN1.out 3
  have s4 := blk_cell HN1.out 4
  have s5 := blk_cell HN1.out 5
  simp only [List.getElem?_toArray, List.getElem?_cons_zero, List.getElem?_cons_succ] at s0 s1 s2 s3 s4 s5
  go_upto_region 2 with (go_at_call 104; refine (HN.out _ HB.out).mono ?_; rintro e w2 ⟨⟨r, rfl, hr, ha3, ha4, ha5⟩, hb⟩; (have HA3 := Lib.hid ha3); (have HA4 := Lib.hid ha4); (have HA5 := Lib.hid ha5); clear ha3 ha4 ha5; (unfold RVoc.val); (have HR := Lib.hid hr); (have HB2 := Lib.hid hb); clear hr hb s0 s1 s2 s3 s4 s5)
  have hb3 := (Below.refl w2.heap.size w2).alloc (Nat.le_refl _) (.cells #[.slice r.A1 c.T.length r.c1, .slice r.A2 (mrgsT c.T).length r.c2, .slice r.A3 (someC c.cs).length r.c3, .slice r.A4 (someJ c.js).length r.c4, .slice r.A5 (someX c.xs (min c.xs.length 6)).length r.c5] 38)
  have HTV := Lib.hid (blk_new w2 (.cells #[.slice r.A1 c.T.length r.c1, .slice r.A2 (mrgsT c.T).length r.c2, .slice r.A3 (someC c.cs).length r.c3, .slice r.A4 (someJ c.js).length r.c4, .slice r.A5 (someX c.xs (min c.xs.length 6)).length r.c5] 38))
  have HB3 := Lib.hid (HB2.out.trans (hb3.mono HB2.out.size))
  have HRF := Lib.hid (HR.out.below hb3 (Nat.le_refl _))
  have HN23 := Lib.hid (blk_below HB3.out (blk_lt HN2.out) HN2.out)
  have HBW := Lib.hid (HB.out.trans (HB3.out.mono HB.out.size))
  have HTG := Lib.hid HB2.out.size
  clear hb3 HR
  generalize w2.heap.size = tv at *
  generalize w2.alloc (.cells #[.slice r.A1 c.T.length r.c1, .slice r.A2 (mrgsT c.T).length r.c2, .slice r.A3 (someC c.cs).length r.c3, .slice r.A4 (someJ c.js).length r.c4, .slice r.A5 (someX c.xs (min c.xs.length 6)).length r.c5] 38) = w3 at *
  have t0 := blk_cell HTV.out 0
  have t1 := blk_cell HTV.out 1
  have t2 := blk_cell HTV.out 2
  have t3 := blk_cell HTV.out 3
  have t4 := blk_cell HTV.out 4
  have g0 := blk_cell HN23.out 0
  have g1 := blk_cell HN23.out 1
  have g2 := blk_cell HN23.out 2
  have g3 := blk_cell HN23.out 3
  have g4 := blk_cell HN23.out 4
  have z0 := blk_froz HN23.out 0
  have z1 := blk_froz HN23.out 1
  have z2 := blk_froz HN23.out 2
  have z3 := blk_froz HN23.out 3
  have z4 := blk_froz HN23.out 4
  simp only [List.getElem?_toArray, List.getElem?_cons_zero, List.getElem?_cons_succ] at t0 t1 t2 t3 t4 g0 g1 g2 g3 g4
  go_wp2_with fail
  have HD := voc_done (r := r) (W := w3) (rb := bs + 1) HBW.out (by have := HBS.out; omega) (blk_lt HN2.out) HN23.out HRF.out.ref (by rw [HA3.out]; exact HS.out.cs) (by rw [HA4.out]; exact HS.out.js) (by rw [HA5.out]; exact HS.out.xs)
    (.slice r.A1 c.T.length r.c1) (.slice r.A2 (mrgsT c.T).length r.c2) (.slice r.A3 (someC c.cs).length r.c3) (.slice r.A4 (someJ c.js).length r.c4) (.slice r.A5 (someX c.xs (min c.xs.length 6)).length r.c5)
  refine ret_cell1 (r := bs + 1) rfl rfl (load_voc HD.1) ?_
  exact ⟨⟨r, rfl, HD.2.1⟩, HD.2.2⟩
end
def AllSl (w : World) (g : Nat) : Prop := ∀ o v, w.cell? ⟨g, o, none⟩ = some v → ∃ A n c, v = .slice A n c
theorem Sl.keepS {α : Type} {w w' : World} {A : Option Addr} {enc : α → List Value} {sz g : Nat} {xs : List α} (h : Sl w A enc sz xs) (k : Keep (fun x => x = g) w w') (hg : AllSl w g) (he : ∀ (x : α) (j : Nat) (A : Option Addr) (n c : Nat), (enc x)[j]? ≠ some (Value.slice A n c)) : Sl w' A enc sz xs := by
  intro i x hx
  obtain ⟨b, o, e, hc⟩ := h i x hx
  refine ⟨b, o, e, fun j v hv => ?_⟩
  have h1 := hc j v hv
  have hb : b ≠ g := by
    intro hbg
    rw [hbg] at h1
    obtain ⟨A, n, c, rfl⟩ := hg _ _ h1
    exact he x j A n c hv
  have hlt : b < w.heap.size := by
    apply Classical.byContradiction
    intro hn
    have h0 : w.heap[b]? = none := by simp; omega
    simp [World.cell?, h0] at h1
  have hbk := k.block b hlt hb
  simp only [World.cell?] at h1 ⊢
  rw [hbk]
  exact h1
theorem encM_ns (x : Int × Int) (j : Nat) (A : Option Addr) (n c : Nat) : (encM x)[j]? ≠ some (.slice A n c) := by
  rcases j with _ | _ | j <;> simp [encM]
theorem encIS_ns (x : Int × List UInt8) (j : Nat) (A : Option Addr) (n c : Nat) : (encIS x)[j]? ≠ some (.slice A n c) := by
  rcases j with _ | _ | j <;> simp [encIS, strV]
theorem encCls_ns (x : Cls) (j : Nat) (A : Option Addr) (n c : Nat) : (encCls x)[j]? ≠ some (.slice A n c) := by
  rcases j with _ | _ | _ | j <;> simp [encCls]
theorem encJn_ns (x : Jn) (j : Nat) (A : Option Addr) (n c : Nat) : (encJn x)[j]? ≠ some (.slice A n c) := by
  rcases j with _ | _ | j <;> simp [encJn]
theorem RVocIs.keepS {w w' : World} {base g : Nat} {c : CaseP} {r : RVoc} (h : RVocIs w base c r) (k : Keep (fun x => x = g) w w') (hb : g < base) (hg : AllSl w g) : RVocIs w' base c r :=
  ⟨h.ref.keep k (fun x hx => by omega), Sl.keepS h.cs k hg encCls_ns, Sl.keepS h.js k hg encJn_ns, Sl.keepS h.xs k hg encIS_ns⟩
theorem Sl1.keepS {α : Type} {w w' : World} {A : Option Addr} {enc : α → Value} {g : Nat} {xs : List α} (h : Sl1 w A enc xs) (k : Keep (fun x => x = g) w w') (hg : AllSl w g) (he : ∀ (x : α) (A : Option Addr) (n c : Nat), enc x ≠ Value.slice A n c) : Sl1 w' A enc xs := by
  intro i x hx
  obtain ⟨b, o, e, h1⟩ := h i x hx
  refine ⟨b, o, e, ?_⟩
  have hb : b ≠ g := by
    intro hbg
    rw [hbg] at h1
    obtain ⟨A, n, c, h2⟩ := hg _ _ h1
    exact he x A n c h2
  have hlt : b < w.heap.size := by
    apply Classical.byContradiction
    intro hn
    have h0 : w.heap[b]? = none := by simp; omega
    simp [World.cell?, h0] at h1
  have hbk := k.block b hlt hb
  simp only [World.cell?] at h1 ⊢
  rw [hbk]
  exact h1
theorem SpecAt.keepS {w w' : World} {s : SpecP} {AM AT AX AC AJ : Option Addr} {g : Nat} (h : SpecAt w s AM AT AX AC AJ) (k : Keep (fun x => x = g) w w') (hg : AllSl w g) : SpecAt w' s AM AT AX AC AJ :=
  ⟨Sl.keepS h.ms k hg encM_ns, Sl1.keepS h.ts k hg (fun x A n c => by simp [strV]), Sl.keepS h.xs k hg encIS_ns, Sl.keepS h.cs k hg encCls_ns, Sl.keepS h.js k hg encJn_ns, h.len⟩
theorem keep_cut {V0 w w' : World} {g : Nat} (hb : Below V0.heap.size V0 w) (k : Keep (fun x => x = g) w w') : ∃ V' : World, V'.heap.size = V0.heap.size ∧ Keep (fun x => x = g) V0 V' ∧ Below V'.heap.size V' w' := by
  have h1 := hb.size
  have h2 := k.size
  have hs : (w'.heap.extract 0 V0.heap.size).size = V0.heap.size := by simp; omega
  have hx : ∀ i, i < V0.heap.size → (w'.heap.extract 0 V0.heap.size)[i]? = w'.heap[i]? := by
    intro i hi
    simp [Array.getElem?_extract, hi]
    intro _
    omega
  refine ⟨{ w' with heap := w'.heap.extract 0 V0.heap.size }, hs, ⟨k.os.trans hb.os, k.tape.trans hb.tape, k.output.trans hb.output, by simp only [hs]; exact Nat.le_refl _, fun i hi hf => ?_⟩, ⟨rfl, rfl, rfl, by simp only [hs]; omega, fun i hi => ?_⟩⟩
  · simp only [hx i hi]
    rw [k.block i (by omega) hf, hb.block i hi]
  · simp only [hs] at hi
    simp only [hx i hi]
theorem VocAt.keepS {w w' : World} {base g : Nat} {p : VocP} {a : Array Value} {fz : Nat × Nat} (h : VocAt w base p none) (k : Keep (fun x => x = g) w w') (hgb : g < base) (hg : AllSl w g) (hc : w.heap[g]? = some (.cells a 38 fz)) : VocAt w' base p none := by
  obtain ⟨l, dn, st, se, us, h1, h2⟩ := h
  refine ⟨l, dn, st, se, us, ?_, ?_⟩
  · obtain ⟨V0, a1, a2, a3, a4, a5, a6⟩ := h1.org
    obtain ⟨V', e1, e2, e3⟩ := keep_cut a6 k
    have hlt := h1.lt
    have hg0 : AllSl V0 g := fun o v hv => hg o v (below_cell a6 (Nat.le_refl _) hv)
    have hbk : p.bk ≠ g := by
      intro hbg
      have h3 := (VocQ.bnd h1).1
      rw [hbg, hc] at h3
      injection h3 with h3
      injection h3 with _ h3 _
      exact absurd h3 (by decide)
    refine ⟨k.blk h1.blk (by omega), ⟨V', by omega, a2.keepS e2 hg0, a3.keep e2 (fun x hx hf => ?_), ⟨e2.blk a4.1 hbk, a4.2⟩, ?_, e3⟩, h1.lt⟩
    · subst hf
      have hl := a3.lt
      rcases hx with hx | hx | hx | hx
      · omega
      · have := own_base a3.row _ hx
        omega
      · omega
      · omega
    · have hl := a5.lt
      exact ⟨e2.blk a5.blk (by omega), own_keep a5.row e2 (fun x hx hf => by have := own_base a5.row _ hx; omega), a5.ids.keep e2 (by omega), a5.txs.keep e2 (by omega), a5.ne, a5.lt⟩
  · rcases h2 with h2 | ⟨r, h3, _⟩
    · exact .inl h2
    · exact absurd h3 (by simp)
theorem VocAt.less {w : World} {b base : Nat} {p : VocP} {g : Option Nat} (h : VocAt w b p g) (hle : base ≤ b) : VocAt w base p g := by
  obtain ⟨l, dn, st, se, us, h1, h2⟩ := h
  have := h1.lt
  exact ⟨l, dn, st, se, us, ⟨h1.blk, h1.org, by omega⟩, h2⟩
theorem RVocIs.less {w : World} {b base : Nat} {c : CaseP} {r : RVoc} (h : RVocIs w b c r) (hle : base ≤ b) : RVocIs w base c r := ⟨h.ref.less hle, h.cs, h.js, h.xs⟩
theorem allSl_nil {w : World} {g : Nat} {t : TypeId} (h : w.heap[g]? = some (.cells #[.slice none 0 0, .slice none 0 0, .slice none 0 0, .slice none 0 0, .slice none 0 0] t)) : AllSl w g := by
  intro o v hv
  have h1 := blk_cell h o
  rw [hv] at h1
  rcases o with _ | _ | _ | _ | _ | o <;> simp at h1 <;> exact ⟨_, _, _, h1⟩
theorem results_tmp_vc {fn : Func} {p u : Tmp} {ty : TypeId} (h : fn.results = #[.tmp u, .cell p ty]) (tmps : Array Value) (P : Program) (w : World) :
    (results fn tmps).run P w = ((asAddr (tmps.getD p undef)).run P w).andThen fun a w₁ => ((loadVar ty a).run P w₁).andThen fun y w₂ => .ok (.tuple #[tmps.getD u undef, y]) w₂ := by
  simp only [results, h]
  simp [Sem.run_bind, Result.andThen]
theorem ret_voc1 {fn : Func} {R : Ending → World → Prop} {tmps : Array Value} {w : World} {r : Nat} {A1 A2 A3 A4 A5 : Option Addr} {n1 n2 n3 n4 n5 c1 c2 c3 c4 c5 : Nat} {x : Value} {p q : Tmp}
    (h : fn.results = #[.tmp q, .cell p 38]) (hp : tmps.getD p undef = .pointer (some ⟨r, 0, none⟩)) (hq : tmps.getD q undef = x)
    (hl : w.heap[r]? = some (.cells #[.slice A1 n1 c1, .slice A2 n2 c2, .slice A3 n3 c3, .slice A4 n4 c4, .slice A5 n5 c5] 38))
    (hR : R (.returned (.tuple #[x, .agg #[.slice A1 n1 c1, .slice A2 n2 c2, .slice A3 n3 c3, .slice A4 n4 c4, .slice A5 n5 c5]])) w) : bodyPost Tryz.prog fn R .ret ⟨tmps, []⟩ w := by
  refine bodyPost_ret (v := .tuple #[x, .agg #[.slice A1 n1 c1, .slice A2 n2 c2, .slice A3 n3 c3, .slice A4 n4 c4, .slice A5 n5 c5]]) ?_ rfl hR
  rw [results_tmp_vc h, hp, hq]
  simp [asAddr, load_voc hl, Result.andThen]
theorem of_done {W : World} {rb : Nat} {c : CaseP} {r : RVoc} {p : VocP} {b1 b2 : Nat} (h1 : rb < b1) (h2 : rb < b2) (hn : W.heap[rb]? = some (.cells #[.slice none 0 0, .slice none 0 0, .slice none 0 0, .slice none 0 0, .slice none 0 0] 38))
    (hv : VocAt W b1 p none) (hr : RVocIs W b2 c r) (v0 v1 v2 v3 v4 : Value) :
    (((((W.setCell ⟨rb, 0, none⟩ v0).setCell ⟨rb, 1, none⟩ v1).setCell ⟨rb, 2, none⟩ v2).setCell ⟨rb, 3, none⟩ v3).setCell ⟨rb, 4, none⟩ v4).heap[rb]? = some (.cells #[v0, v1, v2, v3, v4] 38) ∧
    VocAt (((((W.setCell ⟨rb, 0, none⟩ v0).setCell ⟨rb, 1, none⟩ v1).setCell ⟨rb, 2, none⟩ v2).setCell ⟨rb, 3, none⟩ v3).setCell ⟨rb, 4, none⟩ v4) b1 p none ∧
    RVocIs (((((W.setCell ⟨rb, 0, none⟩ v0).setCell ⟨rb, 1, none⟩ v1).setCell ⟨rb, 2, none⟩ v2).setCell ⟨rb, 3, none⟩ v3).setCell ⟨rb, 4, none⟩ v4) b2 c r ∧
    Keep (fun g => g = rb) W (((((W.setCell ⟨rb, 0, none⟩ v0).setCell ⟨rb, 1, none⟩ v1).setCell ⟨rb, 2, none⟩ v2).setCell ⟨rb, 3, none⟩ v3).setCell ⟨rb, 4, none⟩ v4) := by
  have b1 := blk_set (blk_set (blk_set (blk_set (blk_set hn 0 v0) 1 v1) 2 v2) 3 v3) 4 v4
  simp only [List.setIfInBounds_toArray, List.set_cons_zero, List.set_cons_succ] at b1
  have K := ((((Keep.refl (fun g => g = rb) W).setCell (p := ⟨rb, 0, none⟩) (Or.inl rfl) v0).setCell (p := ⟨rb, 1, none⟩) (Or.inl rfl) v1).setCell (p := ⟨rb, 2, none⟩) (Or.inl rfl) v2).setCell (p := ⟨rb, 3, none⟩) (Or.inl rfl) v3
  have K := K.setCell (p := ⟨rb, 4, none⟩) (Or.inl rfl) v4
  exact ⟨b1, hv.keepS K h1 (allSl_nil hn) hn, hr.keepS K h2 (allSl_nil hn), K⟩
def dg (b n : Nat) : List Nat := if h : 1 < b ∧ 0 < n then n % b :: dg b (n / b) else []
termination_by n
decreasing_by exact Nat.div_lt_self h.2 h.1
def vl (b : Nat) : List Nat → Nat
  | [] => 0
  | x :: l => x + b * vl b l
def atL (l : List Nat) (i : Nat) : Nat := l[i]?.getD 0
theorem dg_zero (b : Nat) : dg b 0 = [] := by rw [dg]; simp
theorem dg_pos {b n : Nat} (hb : 1 < b) (h : 0 < n) : dg b n = n % b :: dg b (n / b) := by rw [dg, dif_pos ⟨hb, h⟩]
theorem vl_dg {b : Nat} (hb : 1 < b) (n : Nat) : vl b (dg b n) = n := by
  induction n using Nat.strongRecOn with
  | ind n ih =>
    rcases Nat.eq_zero_or_pos n with rfl | h
    · rw [dg_zero]; rfl
    · rw [dg_pos hb h, vl, ih _ (Nat.div_lt_self h hb)]
      exact Nat.mod_add_div n b
theorem dg_lt {b : Nat} (hb : 1 < b) (n : Nat) : ∀ x ∈ dg b n, x < b := by
  induction n using Nat.strongRecOn with
  | ind n ih =>
    rcases Nat.eq_zero_or_pos n with rfl | h
    · rw [dg_zero]; intro x hx; simp at hx
    · rw [dg_pos hb h]
      intro x hx
      rcases List.mem_cons.1 hx with rfl | hx
      · exact Nat.mod_lt _ (by omega)
      · exact ih _ (Nat.div_lt_self h hb) x hx
theorem atL_lt {b : Nat} {l : List Nat} (hb : 0 < b) (h : ∀ x ∈ l, x < b) (i : Nat) : atL l i < b := by
  unfold atL
  rcases Nat.lt_or_ge i l.length with hi | hi
  · rw [List.getElem?_eq_getElem hi]; exact h _ (List.getElem_mem _)
  · rw [List.getElem?_eq_none hi]; exact hb
theorem atL_get {l : List Nat} {i : Nat} (h : i < l.length) : atL l i = l[i] := by unfold atL; rw [List.getElem?_eq_getElem h]; rfl
theorem atL_ge {l : List Nat} {i : Nat} (h : l.length ≤ i) : atL l i = 0 := by unfold atL; rw [List.getElem?_eq_none h]; rfl
theorem atL_succ (x : Nat) (l : List Nat) (i : Nat) : atL (x :: l) (i + 1) = atL l i := rfl
theorem vl_zero {b : Nat} {l : List Nat} (h : ∀ i, atL l i = 0) : vl b l = 0 := by
  induction l with
  | nil => rfl
  | cons x l ih =>
    have h0 : x = 0 := h 0
    rw [vl, h0, ih (fun i => h (i + 1))]; simp
theorem vl_take_succ (b : Nat) (l : List Nat) (i : Nat) : vl b (l.take (i + 1)) = vl b (l.take i) + b ^ i * atL l i := by
  induction l generalizing i with
  | nil => simp [vl, atL]
  | cons x l ih =>
    cases i with
    | zero => simp [vl, atL]
    | succ i =>
      rw [List.take_succ_cons, List.take_succ_cons, vl, vl, ih, atL_succ, Nat.mul_add, ← Nat.add_assoc, Nat.pow_succ]
      congr 1
      rw [← Nat.mul_assoc, Nat.mul_comm (b ^ i) b]
theorem vl_take_drop (b : Nat) (l : List Nat) (i : Nat) (h : i ≤ l.length) : vl b l = vl b (l.take i) + b ^ i * vl b (l.drop i) := by
  induction l generalizing i with
  | nil => simp at h; subst h; simp [vl]
  | cons x l ih =>
    cases i with
    | zero => simp [vl]
    | succ i =>
      rw [List.take_succ_cons, List.drop_succ_cons, vl, vl, ih i (by simpa using h), Nat.mul_add, ← Nat.add_assoc, Nat.pow_succ]
      congr 1
      rw [← Nat.mul_assoc, Nat.mul_comm (b ^ i) b]
theorem vl_drop (b : Nat) (l : List Nat) (i : Nat) (h : i < l.length) : vl b (l.drop i) = atL l i + b * vl b (l.drop (i + 1)) := by
  rw [List.drop_eq_getElem_cons h, vl, atL_get h]
theorem vl_lt {b : Nat} {l : List Nat} (hb : 0 < b) (h : ∀ x ∈ l, x < b) : vl b l < b ^ l.length := by
  induction l with
  | nil => simp [vl]
  | cons x l ih =>
    have h1 := ih (fun y hy => h y (List.mem_cons_of_mem _ hy))
    have h2 := h x (List.mem_cons_self ..)
    rw [vl, List.length_cons, Nat.pow_succ]
    have h3 : b * (vl b l + 1) ≤ b * b ^ l.length := Nat.mul_le_mul_left _ h1
    rw [Nat.mul_add, Nat.mul_one] at h3
    rw [Nat.mul_comm (b ^ l.length) b]
    omega
theorem vl_append (b : Nat) (l r : List Nat) : vl b (l ++ r) = vl b l + b ^ l.length * vl b r := by
  have := vl_take_drop b (l ++ r) l.length (by simp)
  simpa using this
theorem vl_snoc (b : Nat) (l : List Nat) (x : Nat) : vl b (l ++ [x]) = vl b l + b ^ l.length * x := by
  rw [vl_append]; simp [vl]
theorem trim_dg {b : Nat} (hb : 1 < b) (l : List Nat) (h : ∀ x ∈ l, x < b) (n : Nat) (hn : n ≤ l.length) (h0 : ∀ i, n ≤ i → atL l i = 0) (h1 : n = 0 ∨ atL l (n - 1) ≠ 0) : dg b (vl b l) = l.take n := by
  induction l generalizing n with
  | nil => simp at hn; subst hn; simp [vl, dg_zero]
  | cons x l ih =>
    cases n with
    | zero => rw [vl_zero (fun i => h0 i (Nat.zero_le _)), dg_zero]; simp
    | succ m =>
      have hx := h x (List.mem_cons_self ..)
      have hl := fun y hy => h y (List.mem_cons_of_mem _ hy)
      have hm : m = 0 ∨ atL l (m - 1) ≠ 0 := by
        rcases Nat.eq_zero_or_pos m with h2 | h2
        · exact Or.inl h2
        · right
          rcases h1 with h1 | h1
          · omega
          · rw [show m + 1 - 1 = (m - 1) + 1 by omega, atL_succ] at h1; exact h1
      have e := ih hl m (by simpa using hn) (fun i hi => by have := h0 (i + 1) (by omega); rwa [atL_succ] at this) hm
      have hpos : 0 < x + b * vl b l := by
        rcases Nat.eq_zero_or_pos m with h2 | h2
        · subst h2
          rcases h1 with h1 | h1
          · omega
          · have : x ≠ 0 := h1
            omega
        · have : vl b l ≠ 0 := by
            intro hv
            rw [hv, dg_zero] at e
            have := congrArg List.length e
            rw [List.length_take] at this
            have : m ≤ l.length := by simpa using hn
            simp at *
            omega
          have : 0 < b * vl b l := Nat.mul_pos (by omega) (Nat.pos_of_ne_zero this)
          omega
      rw [vl, dg_pos hb hpos, Nat.add_mul_mod_self_left, Nat.mod_eq_of_lt hx, Nat.add_mul_div_left _ _ (by omega), Nat.div_eq_of_lt hx, Nat.zero_add, e, List.take_succ_cons]
theorem dg_last {b : Nat} (hb : 1 < b) (n : Nat) : dg b n = [] ∨ atL (dg b n) ((dg b n).length - 1) ≠ 0 := by
  induction n using Nat.strongRecOn with
  | ind n ih =>
    rcases Nat.eq_zero_or_pos n with rfl | h
    · left; exact dg_zero b
    · right
      rw [dg_pos hb h]
      rcases ih _ (Nat.div_lt_self h hb) with e | e
      · rw [e]
        have h0 : n / b = 0 := by have := vl_dg hb (n / b); rw [e] at this; exact this.symm
        have : n < b := by rcases Nat.div_eq_zero_iff.1 h0 with h | h <;> omega
        simp [atL, Nat.mod_eq_of_lt this]; omega
      · cases hd : dg b (n / b) with
        | nil => rw [hd] at e; exact absurd rfl e
        | cons y l =>
          rw [hd] at e
          simpa [atL] using e
theorem dg_ne_nil {b n : Nat} (hb : 1 < b) (h : 0 < n) : dg b n ≠ [] := by rw [dg_pos hb h]; simp
theorem dg_len_zero {b n : Nat} (hb : 1 < b) : (dg b n).length = 0 ↔ n = 0 := by
  constructor
  · intro h
    have := vl_dg hb n
    rw [List.eq_nil_of_length_eq_zero h] at this
    exact this.symm
  · rintro rfl; rw [dg_zero]; rfl
theorem pow_le_of_dg {b n : Nat} (hb : 1 < b) (h : 0 < n) : b ^ ((dg b n).length - 1) ≤ n := by
  have hl : 0 < (dg b n).length := List.length_pos_iff.2 (dg_ne_nil hb h)
  rcases dg_last hb n with e | e
  · exact absurd e (dg_ne_nil hb h)
  · have := vl_take_succ b (dg b n) ((dg b n).length - 1)
    rw [show (dg b n).length - 1 + 1 = (dg b n).length by omega, List.take_length, vl_dg hb] at this
    have h2 : b ^ ((dg b n).length - 1) * 1 ≤ b ^ ((dg b n).length - 1) * atL (dg b n) ((dg b n).length - 1) := Nat.mul_le_mul_left _ (Nat.pos_of_ne_zero e)
    omega
theorem lt_pow_dg {b : Nat} (hb : 1 < b) (n : Nat) : n < b ^ (dg b n).length := by
  have := vl_lt (by omega) (dg_lt hb n)
  rwa [vl_dg hb] at this
theorem dg_len_lt {b m n : Nat} (hb : 1 < b) (h : (dg b m).length < (dg b n).length) : m < n := by
  have h1 := lt_pow_dg hb m
  have hn : 0 < n := by
    rcases Nat.eq_zero_or_pos n with rfl | h2
    · rw [dg_zero] at h; simp at h
    · exact h2
  have h2 := pow_le_of_dg hb hn
  have h3 : b ^ (dg b m).length ≤ b ^ ((dg b n).length - 1) := Nat.pow_le_pow_right (by omega) (by omega)
  omega
theorem dg_len_le {b n k : Nat} (hb : 1 < b) (h : n < b ^ k) : (dg b n).length ≤ k := by
  rcases Nat.eq_zero_or_pos n with rfl | hn
  · rw [dg_zero]; exact Nat.zero_le _
  · have h2 := pow_le_of_dg hb hn
    have h3 : b ^ ((dg b n).length - 1) < b ^ k := by omega
    have := (Nat.pow_lt_pow_iff_right hb).1 h3
    omega
theorem vl_lt_at {b : Nat} {l r : List Nat} {i : Nat} (hb : 1 < b) (hl : ∀ x ∈ l, x < b) (hr : ∀ x ∈ r, x < b) (h1 : i < l.length) (h2 : i < r.length) (he : vl b (l.drop (i + 1)) = vl b (r.drop (i + 1))) (hi : atL l i < atL r i) : vl b l < vl b r := by
  rw [vl_take_drop b l i (by omega), vl_take_drop b r i (by omega), vl_drop b l i h1, vl_drop b r i h2, he]
  have h3 : vl b (l.take i) < b ^ i := by
    have := vl_lt (b := b) (l := l.take i) (by omega) (fun x hx => hl x (List.mem_of_mem_take hx))
    rwa [List.length_take, Nat.min_eq_left (by omega)] at this
  have h4 : b ^ i * (atL l i + 1) ≤ b ^ i * atL r i := Nat.mul_le_mul_left _ hi
  rw [Nat.mul_add, Nat.mul_one] at h4
  rw [Nat.mul_add, Nat.mul_add]
  omega
abbrev B32 : Nat := 4294967296
def u32V (x : Nat) : Value := .int .u32 (x : Int)
def NatIs (w : World) (v : Value) (n : Nat) : Prop := ∃ A c, v = .agg #[.slice A (dg B32 n).length c] ∧ Sl1 w A u32V (dg B32 n) ∧ (dg B32 n).length ≤ c
theorem NatIs.below {w w' : World} {v : Value} {n : Nat} (h : NatIs w v n) {B : Nat} (hb : Below B w w') (hB : w.heap.size ≤ B) : NatIs w' v n := by
  obtain ⟨A, c, rfl, h1, h2⟩ := h
  exact ⟨A, c, rfl, h1.below hb hB, h2⟩
theorem info_u32 : (Tryz.prog.info? 129).map (fun i => (i.zero, i.size, i.bytes)) = some (some (.int .u32 0), 1, 4) := by kernel_rfl
theorem load_nat {w : World} {r : Nat} {v : Value} {t : TypeId} (h : w.heap[r]? = some (.cells #[v] t)) : (loadVar 59 ⟨r, 0, none⟩).run Tryz.prog w = .ok (.agg #[v]) w := by
  have n0 := blk_cell h 0
  simp only [List.getElem?_toArray, List.getElem?_cons_zero] at n0
  simp [go_sem, n0]
theorem Sl1.take {α : Type} {w : World} {A : Option Addr} {enc : α → Value} {xs : List α} (h : Sl1 w A enc xs) (k : Nat) : Sl1 w A enc (xs.take k) := by
  intro i x hx
  rw [List.getElem?_take] at hx
  split at hx
  · exact h i x hx
  · cases hx
theorem trim_at (l : List Nat) (A : Option Addr) (c : Nat) (w : World) (h : Sl1 w A u32V l) (hc : l.length ≤ c) (hb : ∀ x ∈ l, x < B32) (hlen : l.length < 1000000000) :
    Calls Tryz.prog 90 #[.slice A l.length c] w fun e w' => ∃ v, e = .returned v ∧ NatIs w' v (vl B32 l) ∧ Below w.heap.size w w' ∧ ∃ n c', v = .agg #[.slice A n c'] := by
  have HL := Lib.hid h
  have HB := Lib.hid hb
  clear h hb
  go_enter Tryz.func90, Tryz.ntmps90
  go_wp2_with fail
  have HBEL := Lib.hid ((Below.refl w.heap.size w).alloc (Nat.le_refl _) (.cells #[.slice none 0 0] 59))
  have HN := Lib.hid (blk_new w (.cells #[.slice none 0 0] 59))
  generalize hW : w.alloc (.cells #[.slice none 0 0] 59) = W0 at *
  obtain ⟨r, hr⟩ : ∃ r, w.heap.size = r := ⟨_, rfl⟩
  rw [hr]
  have HR := Lib.hid hr
  clear hW hr
  have f0 : W0.cell? ⟨r, 0, none⟩ = some (.slice none 0 0) := by have := blk_cell HN.out 0; rw [HR.out] at this; simpa using this
  have f1 : W0.frozen? ⟨r, 0, none⟩ = false := by have := blk_froz HN.out 0; rwa [HR.out] at this
  go_loopg [3] l.length (fun m v W => ∃ k : Nat, k = m ∧ v = .int .i64 (k : Int) ∧ k ≤ l.length ∧ (∀ i, k ≤ i → atL l i = 0) ∧ W = W0)
  case atStart => exact ⟨l.length, rfl, rfl, Nat.le_refl _, fun i hi => atL_ge hi, rfl⟩
  case round =>
    obtain ⟨k, rfl, rfl, hk, hz, rfl⟩ := hrel
    rename World => W1
    have HZ := Lib.hid hz
    clear hz
    have HNX : Hid (∀ v, (W1.setCell ⟨r, 0, none⟩ v).heap[r]? = some (.cells #[v] 59)) := Lib.hid (fun v => by have := blk_set HN.out 0 v; rw [HR.out] at this; simpa using this)
    have HBX : Hid (∀ v, Below w.heap.size w (W1.setCell ⟨r, 0, none⟩ v)) := Lib.hid (fun v => HBEL.out.setCell (p := ⟨r, 0, none⟩) (by rw [HR.out]; exact Nat.le_refl _) v)
    rcases Nat.eq_zero_or_pos k with rfl | hk0
    · have hE : (dg B32 (vl B32 l)) = [] := by rw [trim_dg (by decide) l HB.out 0 (Nat.zero_le _) HZ.out (Or.inl rfl)]; rfl
      have HE := Lib.hid hE
      clear hE
      have hcc : (0 : Int) ≤ (c : Int) := by omega
      go_wp2_with fail
      refine ret_cell1 rfl rfl (load_nat (HNX.out _)) ?_
      refine ⟨_, rfl, ⟨A, 0, by rw [HE.out]; rfl, by rw [HE.out]; exact Sl1.nil _ _ _, by rw [HE.out]; exact Nat.le_refl _⟩, HBX.out _, _, _, rfl⟩
    · obtain ⟨j, rfl⟩ : ∃ j, k = j + 1 := ⟨k - 1, by omega⟩
      obtain ⟨b, o, rfl, hcell⟩ := HL.out.at j (by omega)
      have j0 : (0 : Int) ≤ (j : Int) := by omega
      have j1 : (j : Int) < (l.length : Int) := by omega
      have wk : IntKind.i64.wrap ((j : Int) + 1 - 1) = (j : Int) := by rw [IntWalk.i64_in _ (by omega)]; omega
      have hcell' : W1.cell? ⟨b, o + j, none⟩ = some (.int .u32 (l[j] : Int)) := below_cell HBEL.out (Nat.le_refl _) hcell
      have HAJ := Lib.hid (atL_get (l := l) (i := j) (by omega))
      clear hcell
      generalize l[j] = x at *
      by_cases hx : x = 0
      · subst hx
        go_wp2_with fail
        go_roundg j
        case measure => omega
        case rel => exact ⟨j, rfl, rfl, by omega, fun i hi => by
          rcases Nat.eq_or_lt_of_le hi with e | e
          · rw [← e]; exact HAJ.out
          · exact HZ.out i (by omega), rfl⟩
      · have hx' : ¬ (x : Int) = 0 := by omega
        have HE : Hid (dg B32 (vl B32 l) = l.take (j + 1)) := Lib.hid (trim_dg (by decide) l HB.out (j + 1) hk HZ.out (Or.inr (by rw [Nat.add_sub_cancel, HAJ.out]; exact hx)))
        have hkc : ((j : Int) + 1) ≤ (c : Int) := by omega
        go_wp2_with fail
        refine ret_cell1 rfl rfl (load_nat (HNX.out _)) ?_
        have hln : (l.take (j + 1)).length = j + 1 := by rw [List.length_take, Nat.min_eq_left hk]
        refine ⟨_, rfl, ⟨some ⟨b, o, none⟩, j + 1, by rw [HE.out, hln], by rw [HE.out]; exact (HL.out.below (HBX.out _) (Nat.le_refl _)).take _, by rw [HE.out, hln]; exact Nat.le_refl _⟩, HBX.out _, _, _, rfl⟩
theorem trim_any (l : List Nat) (A : Option Addr) (c : Nat) (w : World) (h : Sl1 w A u32V l) (hc : l.length ≤ c) (hb : ∀ x ∈ l, x < B32) (hlen : l.length < 1000000000) :
    Calls Tryz.prog 90 #[.slice A l.length c] w fun e w' => ∃ v, e = .returned v ∧ NatIs w' v (vl B32 l) ∧ Below w.heap.size w w' := by
  refine (trim_at l A c w h hc hb hlen).mono ?_
  rintro e w1 ⟨v, h1, h2, h3, _⟩
  exact ⟨v, h1, h2, h3⟩
theorem own_len {w : World} {base n c : Nat} {e : TypeId} {size : Nat} {A : Option Addr} {xs : List Value} (h : w.ownsRow base e size (.slice A n c) n xs) : n ≤ c := by
  rcases h.2 with ⟨h1, h2⟩ | ⟨g', cap', cur, h1, hb, hg, hc1, hc2, hc3, ht⟩
  · omega
  · cases h1; exact hc1
theorem sl1_ne {V : World} {r : Nat} {A : Option Addr} {l : List Nat} {s : Value} {t : TypeId} (h : V.heap[r]? = some (.cells #[s] t)) (hs : ∀ x : Nat, s ≠ u32V x) (hl : Sl1 V A u32V l) (hne : l ≠ []) : ∀ a, A = some a → a.block ≠ r := by
  intro a ha e
  obtain ⟨x, l', rfl⟩ := List.exists_cons_of_ne_nil hne
  obtain ⟨b, o, hA, hc⟩ := hl 0 x rfl
  rw [hA] at ha
  cases ha
  simp only at e
  subst e
  rw [blk_cell h, Nat.add_zero] at hc
  rcases o with _ | o
  · simp at hc; exact hs _ hc
  · simp at hc
theorem sl1_put {V : World} {r : Nat} {A : Option Addr} {l : List Nat} {s : Value} {t : TypeId} (h : V.heap[r]? = some (.cells #[s] t)) (hs : ∀ x : Nat, s ≠ u32V x) (hl : Sl1 V A u32V l) (u : Value) : Sl1 (V.setCell ⟨r, 0, none⟩ u) A u32V l := by
  by_cases hne : l = []
  · subst hne; exact Sl1.nil _ _ _
  · exact sl1_keep hl (Keep.setCell (F := fun g => g = r) (p := ⟨r, 0, none⟩) (Keep.refl _ _) (Or.inl rfl) u) (sl1_ne h hs hl hne)
theorem NatIs.put {V : World} {r : Nat} {v : Value} {n : Nat} {s : Value} {t : TypeId} (hl : NatIs V v n) (h : V.heap[r]? = some (.cells #[s] t)) (hs : ∀ x : Nat, s ≠ u32V x) (u : Value) : NatIs (V.setCell ⟨r, 0, none⟩ u) v n := by
  obtain ⟨A, c, rfl, h1, h2⟩ := hl
  exact ⟨A, c, rfl, sl1_put h hs h1 u, h2⟩
theorem sl_ne_u32 (A : Option Addr) (n c : Nat) : ∀ x : Nat, Value.slice A n c ≠ u32V x := by intro x; unfold u32V; simp
theorem cell_facts {V : World} {r : Nat} {s : Value} {t : TypeId} (h : V.heap[r]? = some (.cells #[s] t)) : V.cell? ⟨r, 0, none⟩ = some s ∧ V.frozen? ⟨r, 0, none⟩ = false := by
  refine ⟨?_, blk_froz h 0⟩
  have := blk_cell h 0
  simpa using this
theorem cell_put {V : World} {r : Nat} {s : Value} {t : TypeId} (h : V.heap[r]? = some (.cells #[s] t)) (u : Value) : (V.setCell ⟨r, 0, none⟩ u).heap[r]? = some (.cells #[u] t) := by
  simpa using blk_set h 0 u
theorem zero_any (v : Value) (n : Nat) (w : World) (h : NatIs w v n) :
    Calls Tryz.prog 27 #[v] w fun e w' => e = .returned (.bool (decide (n = 0))) ∧ Below w.heap.size w w' := by
  obtain ⟨A, c, rfl, h1, h2⟩ := h
  have hz : decide (n = 0) = decide ((dg B32 n).length = 0) := decide_eq_decide.2 (dg_len_zero (by decide)).symm
  rw [hz]
  clear hz h1 h2
  generalize (dg B32 n).length = k
  have hb0 := (Below.refl w.heap.size w).alloc (Nat.le_refl _) (.cells #[.slice A k c] 59)
  obtain ⟨f0, f1⟩ := cell_facts (blk_new w (.cells #[.slice A k c] 59))
  have HB := Lib.hid hb0
  clear hb0
  by_cases hk : k = 0
  · subst hk
    go_enter Tryz.func27, Tryz.ntmps27
    go_wp2_with fail
    go_ret
    exact ⟨rfl, HB.out⟩
  · have hk' : ¬ (k : Int) = 0 := by omega
    go_enter Tryz.func27, Tryz.ntmps27
    go_wp2_with fail
    go_ret
    exact ⟨by simp [hk], HB.out⟩
theorem at_any (l : List Nat) (A : Option Addr) (c : Nat) (i : Nat) (w : World) (h : Sl1 w A u32V l) (hi : i < 9000000000000000000) :
    Calls Tryz.prog 72 #[.agg #[.slice A l.length c], .int .i64 (i : Int)] w fun e w' => e = .returned (.int .u32 ((atL l i : Nat) : Int)) ∧ Below w.heap.size w w' := by
  have hb0 := (Below.refl w.heap.size w).alloc (Nat.le_refl _) (.cells #[.slice A l.length c] 59)
  obtain ⟨f0, f1⟩ := cell_facts (blk_new w (.cells #[.slice A l.length c] 59))
  have HB := Lib.hid hb0
  by_cases hlt : i < l.length
  · obtain ⟨b, o, rfl, hc⟩ := h.at i hlt
    have hc' := below_cell hb0 (Nat.le_refl _) hc
    rw [atL_get hlt]
    unfold u32V at *
    generalize l[i] = x at *
    have i0 : (0 : Int) ≤ (i : Int) := by omega
    have i1 : (i : Int) < (l.length : Int) := by omega
    clear hb0 h hc
    go_enter Tryz.func72, Tryz.ntmps72
    go_wp2_with fail
    go_ret
    exact ⟨rfl, HB.out⟩
  · have i1 : ¬ (i : Int) < (l.length : Int) := by omega
    have i2 : (l.length : Int) ≤ (i : Int) := by omega
    rw [atL_ge (by omega)]
    unfold u32V at *
    clear hb0 h
    go_enter Tryz.func72, Tryz.ntmps72
    go_wp2_with fail
    go_ret
    exact ⟨rfl, HB.out⟩
theorem int_any (n : Nat) (w : World) (hn : n < B32 * B32) :
    Calls Tryz.prog 53 #[.int .u64 (n : Int)] w fun e w' => ∃ v, e = .returned v ∧ NatIs w' v n ∧ Below w.heap.size w w' := by
  have hb0 := (Below.refl w.heap.size w).alloc (Nat.le_refl _) (.cells #[.slice none 0 0] 59)
  have HB0 := Lib.hid hb0
  have HR := Lib.hid (blk_new w (.cells #[.slice none 0 0] 59))
  have HS : Hid (w.heap.size < (w.alloc (.cells #[.slice none 0 0] 59)).heap.size) := Lib.hid (by simp)
  clear hb0
  go_enter Tryz.func53, Tryz.ntmps53
  go_wp2_with fail
  have e0 : (n : Int) % 4294967296 = ((n % B32 : Nat) : Int) := by simp [B32]
  have e1 : (n : Int) / 4294967296 % 4294967296 = ((n / B32 : Nat) : Int) := by
    have hn' : n < 18446744073709551616 := hn
    show _ = ((n / 4294967296 : Nat) : Int)
    omega
  rw [e0, e1]
  have ev : n % B32 + B32 * (n / B32 + B32 * 0) = n := by rw [Nat.mul_zero, Nat.add_zero]; exact Nat.mod_add_div n B32
  have hx0 : n % B32 < B32 := Nat.mod_lt _ (by decide)
  have hx1 : n / B32 < B32 := Nat.div_lt_of_lt_mul hn
  generalize n % B32 = x0 at *
  generalize n / B32 = x1 at *
  clear e0 e1
  have hsz : w.heap.size + 1 = (w.alloc (.cells #[.slice none 0 0] 59)).heap.size := by simp
  rw [hsz]
  have HSZ := Lib.hid hsz
  clear hsz
  generalize w.alloc (.cells #[.slice none 0 0] 59) = W0 at *
  have b1 := (Below.refl W0.heap.size W0).alloc (Nat.le_refl _) (.cells #[.int .u32 (x0 : Int), .int .u32 (x1 : Int)] 129)
  have h1 : Sl1 (W0.alloc (.cells #[.int .u32 (x0 : Int), .int .u32 (x1 : Int)] 129)) (some ⟨W0.heap.size, 0, none⟩) u32V [x0, x1] := by
    intro i x hx
    have hcell := blk_cell (blk_new W0 (.cells #[.int .u32 (x0 : Int), .int .u32 (x1 : Int)] 129)) i
    refine ⟨_, _, rfl, ?_⟩
    rw [Nat.zero_add, hcell]
    rcases i with _ | _ | i <;> simp at hx <;> subst hx <;> rfl
  have B1 := Lib.hid b1
  have hsz1 : W0.heap.size ≤ (W0.alloc (.cells #[.int .u32 (x0 : Int), .int .u32 (x1 : Int)] 129)).heap.size := b1.size
  clear b1
  generalize W0.alloc (.cells #[.int .u32 (x0 : Int), .int .u32 (x1 : Int)] 129) = W1 at *
  refine (trim_any [x0, x1] _ 2 W1 h1 (Nat.le_refl _) (by intro x hx; simp at hx; rcases hx with rfl | rfl <;> assumption) (by simp)).mono ?_
  rintro e w2 ⟨v, rfl, h2, b2⟩
  have ev' : vl B32 [x0, x1] = n := ev
  rw [ev'] at h2
  obtain ⟨A2, c2, rfl, h2, h3⟩ := h2
  have hR := blk_below B1.out HS.out HR.out
  have hR2 := blk_below b2 (Nat.lt_of_lt_of_le HS.out B1.out.size) hR
  obtain ⟨f0, f1⟩ := cell_facts hR2
  have HP := Lib.hid (cell_put hR2 (.slice A2 (dg B32 n).length c2))
  have HN := Lib.hid (NatIs.put ⟨A2, c2, rfl, h2, h3⟩ hR2 (sl_ne_u32 _ _ _) (.slice A2 (dg B32 n).length c2))
  have HB := Lib.hid (((HB0.out.trans (B1.out.mono HB0.out.size)).trans (b2.mono (Nat.le_trans HB0.out.size B1.out.size))).setCell (p := ⟨w.heap.size, 0, none⟩) (Nat.le_refl _) (.slice A2 (dg B32 n).length c2))
  clear h2 h3 b2 hR hR2 ev ev' hx0 hx1 hsz1
  go_wp2_with fail
  refine ret_cell1 rfl rfl (load_nat HP.out) ?_
  exact ⟨_, rfl, HN.out, HB.out⟩
theorem plus_step {B k s c x c' : Nat} {va vb a b vo : Nat} (hs : s = a + b + c) (hx : x = s % B) (hc : c' = s / B) (h : vo + B ^ k * c = va + vb) : vo + B ^ k * x + B ^ (k + 1) * c' = (va + B ^ k * a) + (vb + B ^ k * b) := by
  have e : x + B * c' = s := by subst hx; subst hc; exact Nat.mod_add_div s B
  have e2 : B ^ k * x + B ^ (k + 1) * c' = B ^ k * (x + B * c') := by rw [Nat.mul_add, Nat.pow_succ, Nat.mul_assoc]
  rw [Nat.add_assoc, e2, e, hs, Nat.mul_add, Nat.mul_add]
  omega
theorem three_cells (w : World) (a b c : Obj) :
    (((w.alloc a).alloc b).alloc c).heap[w.heap.size]? = some a ∧ (((w.alloc a).alloc b).alloc c).heap[w.heap.size + 1]? = some b ∧ (((w.alloc a).alloc b).alloc c).heap[w.heap.size + 2]? = some c ∧ Below w.heap.size w (((w.alloc a).alloc b).alloc c) ∧ (((w.alloc a).alloc b).alloc c).heap.size = w.heap.size + 3 := by
  refine ⟨blk_alloc (blk_alloc (blk_new w a) b) c, ?_, ?_, (((Below.refl _ _).alloc (Nat.le_refl _) _).alloc (by simp) _).alloc (by simp; omega) _, by simp⟩
  · have := blk_alloc (blk_new (w.alloc a) b) c
    rwa [size_alloc] at this
  · have := blk_new ((w.alloc a).alloc b) c
    rwa [size_alloc, size_alloc] at this
theorem make_u32 (n : Nat) (w : World) (hn : n ≤ 1000000) : ∃ w', (Instr.makeSlice 57 (.int .i64 0) (.int .i64 (n : Int))).run Tryz.prog w = .ok (.slice (some ⟨w.heap.size, 0, none⟩) 0 n) w' ∧
    w'.ownsRow w.heap.size 129 1 (.slice (some ⟨w.heap.size, 0, none⟩) 0 n) 0 [] ∧ Below w.heap.size w w' := by
  obtain ⟨i, hi, hz0, hz1, hz2⟩ := info_parts info_u32
  obtain ⟨w', h1, h2, h3⟩ := run_makeSlice_owned (P := Tryz.prog) w w.heap.size 57 129 i (.int .u32 0) 1 Tryz.underlying57 hi hz0 hz1 .i64 .i64 n (by omega) (by rw [hz2]; omega) (by unfold maxLen; omega) (Nat.le_refl _)
  exact ⟨w', h1, h2, (Keep.of_grown (F := fun _ => False) h3 (fun k hk => by cases hk)).below (Nat.le_refl _) (fun x hx => hx.elim)⟩
structure PlusIs (W0 W : World) (l1 l2 out : List Nat) (A : Option Addr) (c k cy : Nat) : Prop where
  row : W.ownsRow W0.heap.size 129 1 (.slice A k c) k (out.map u32V)
  below : Below W0.heap.size W0 W
  len : out.length = k
  lt : ∀ x ∈ out, x < B32
  cy1 : cy ≤ 1
  val : vl B32 out + B32 ^ k * cy = vl B32 (l1.take k) + vl B32 (l2.take k)
set_option maxHeartbeats 8000000 in
theorem plus_any (v1 v2 : Value) (n1 n2 : Nat) (w : World) (h1 : NatIs w v1 n1) (h2 : NatIs w v2 n2) (hl1 : (dg B32 n1).length ≤ 100000) (hl2 : (dg B32 n2).length ≤ 100000) :
    Calls Tryz.prog 77 #[v1, v2] w fun e w' => ∃ v, e = .returned v ∧ NatIs w' v (n1 + n2) ∧ Below w.heap.size w w' := by
  obtain ⟨A1, c1, rfl, s1, k1⟩ := h1
  obtain ⟨A2, c2, rfl, s2, k2⟩ := h2
  have h3 := three_cells w (.cells #[.slice A1 (dg B32 n1).length c1] 59) (.cells #[.slice A2 (dg B32 n2).length c2] 59) (.cells #[.slice none 0 0] 59)
  have H3 := Lib.hid h3
  have hd1 := dg_lt (b := B32) (by decide) n1
  have hd2 := dg_lt (b := B32) (by decide) n2
  have hv1 := vl_dg (b := B32) (by decide) n1
  have hv2 := vl_dg (b := B32) (by decide) n2
  have HD := Lib.hid (And.intro hd1 hd2)
  have HV := Lib.hid (And.intro hv1 hv2)
  have HS1 := Lib.hid (s1.below h3.2.2.2.1 (Nat.le_refl _))
  have HS2 := Lib.hid (s2.below h3.2.2.2.1 (Nat.le_refl _))
  clear hd1 hd2 hv1 hv2 s1 s2 k1 k2 h3
  generalize dg B32 n1 = l1 at *
  generalize dg B32 n2 = l2 at *
  obtain ⟨N, hN⟩ : ∃ N, (if l1.length < l2.length then l2.length else l1.length) = N := ⟨_, rfl⟩
  have hmx : (if l1.length < l2.length then (l2.length : Int) else (l1.length : Int)) = (N : Int) := by rw [← hN]; split <;> rfl
  have HN : Hid (l1.length ≤ N ∧ l2.length ≤ N ∧ N ≤ 100000) := Lib.hid (by rw [← hN]; split <;> omega)
  clear hN
  obtain ⟨W1, hmk, hown, hbel⟩ := make_u32 (N + 1) (((w.alloc (.cells #[.slice A1 l1.length c1] 59)).alloc (.cells #[.slice A2 l2.length c2] 59)).alloc (.cells #[.slice none 0 0] 59)) (by have := HN.out; omega)
  rw [show ((N + 1 : Nat) : Int) = (N : Int) + 1 by omega] at hmk
  have HO := Lib.hid hown
  have HB := Lib.hid hbel
  clear hown hbel
  obtain ⟨f0, _⟩ := cell_facts H3.out.1
  obtain ⟨g0, _⟩ := cell_facts H3.out.2.1
  have wN : IntKind.i64.wrap ((N : Int) + 1) = (N : Int) + 1 := IntWalk.i64_in _ (by have := HN.out; omega)
  go_enter Tryz.func77, Tryz.ntmps77
  go_upto_region 1 with fail
  generalize ((w.alloc (.cells #[.slice A1 l1.length c1] 59)).alloc (.cells #[.slice A2 l2.length c2] 59)).alloc (.cells #[.slice none 0 0] 59) = W0 at *
  generalize hr : w.heap.size = r at *
  have HR := Lib.hid hr
  clear hr
  go_wp2_with fail
  have HI : Hid (PlusIs W0 W1 l1 l2 [] (some ⟨W0.heap.size, 0, none⟩) (N + 1) 0 0) := Lib.hid ⟨HO.out, HB.out, rfl, by simp, by omega, by simp [vl]⟩
  clear HO HB hmk hmx wN
  have F0 := Lib.hid (show ∀ V, Below W0.heap.size W0 V → V.cell? ⟨r, 0, none⟩ = some (.slice A1 l1.length c1) ∧ V.cell? ⟨r + 1, 0, none⟩ = some (.slice A2 l2.length c2) from fun V hV => ⟨below_cell hV (Nat.le_refl _) f0, below_cell hV (Nat.le_refl _) g0⟩)
  clear f0 g0
  go_loopg [6, 7, 21] N (fun n v6 v7 v21 W => ∃ (k : Nat) (out : List Nat) (cy : Nat) (A : Option Addr) (c : Nat), k + n = N ∧ v21 = .int .i64 (k : Int) ∧ v6 = .slice A k c ∧ v7 = .int .u64 (cy : Int) ∧ PlusIs W0 W l1 l2 out A c k cy)
  case atStart => exact ⟨0, [], 0, _, _, by omega, rfl, rfl, rfl, HI.out⟩
  case round =>
    obtain ⟨k, out, cy, A, c, hk, rfl, rfl, rfl, hW⟩ := hrel
    rename World => W
    clear HI
    have HW := Lib.hid hW
    clear hW
    by_cases hlt : k < N
    · have hlt' : (k : Int) < (N : Int) := by omega
      have HBD := Lib.hid HW.out.below.drew
      have hx : atL l1 k < 4294967296 := atL_lt (by decide) HD.out.1 k
      have hy : atL l2 k < 4294967296 := atL_lt (by decide) HD.out.2 k
      have hcy := HW.out.cy1
      obtain ⟨x, hxe⟩ : ∃ x, atL l1 k = x := ⟨_, rfl⟩
      obtain ⟨y, hye⟩ : ∃ y, atL l2 k = y := ⟨_, rfl⟩
      have HX := Lib.hid hxe
      have HY := Lib.hid hye
      rw [hxe] at hx
      rw [hye] at hy
      have hK9 : k < 9000000000000000000 := by have := HN.out; omega
      have HR1 : Hid (∀ V, Below W0.heap.size W0 V → Calls Tryz.prog 72 #[.agg #[.slice A1 l1.length c1], .int .i64 (k : Int)] V fun e w' => e = .returned (.int .u32 (x : Int)) ∧ Below V.heap.size V w') := Lib.hid (fun V hV => by rw [← hxe]; exact at_any l1 A1 c1 k V (HS1.out.below hV (Nat.le_refl _)) hK9)
      have HR2 : Hid (∀ V, Below W0.heap.size W0 V → Calls Tryz.prog 72 #[.agg #[.slice A2 l2.length c2], .int .i64 (k : Int)] V fun e w' => e = .returned (.int .u32 (y : Int)) ∧ Below V.heap.size V w') := Lib.hid (fun V hV => by rw [← hye]; exact at_any l2 A2 c2 k V (HS2.out.below hV (Nat.le_refl _)) hK9)
      clear hxe hye
      have wx : IntKind.u64.wrap (x : Int) = (x : Int) := IntWalk.u64_in _ (by omega)
      have wy : IntKind.u64.wrap (y : Int) = (y : Int) := IntWalk.u64_in _ (by omega)
      have ws : IntKind.u64.wrap ((x : Int) + (y : Int)) = (x : Int) + (y : Int) := IntWalk.u64_in _ (by omega)
      have wt : IntKind.u64.wrap ((x : Int) + (y : Int) + (cy : Int)) = ((x + y + cy : Nat) : Int) := by rw [IntWalk.u64_in _ (by omega)]; omega
      go_wp2_with fail
      refine wp_region_held_drew (S := fun V => V.cell? ⟨r, 0, none⟩ = some (.slice A1 l1.length c1) ∧ V.cell? ⟨r + 1, 0, none⟩ = some (.slice A2 l2.length c2)) (by kernel_rfl) (by exact F0.out _ HBD.out) (fun hHeld => ?_)
      refine tkH 0 24 ?_ rfl hHeld (.inl ⟨by rfl, ?_⟩) ?_; rotate_left; focus (intro w' hSw; (try dsimp only at hSw); go_simp; (try with_reducible rfl))
      try simp only [sIB, sC0, sCS]
      refine tkH 1 25 ?_ rfl hHeld (.inl ⟨by rfl, ?_⟩) ?_; rotate_left; focus (intro w' hSw; (try dsimp only at hSw); go_simp; (try with_reducible rfl))
      try simp only [sIB, sC0, sCS]
      refine tkH 4 28 ?_ rfl hHeld (.inl ⟨by rfl, ?_⟩) ?_; rotate_left; focus (intro w' hSw; (try dsimp only at hSw); go_simp; (try with_reducible rfl))
      try simp only [sIB, sC0, sCS]
      refine tkH 5 29 ?_ rfl hHeld (.inl ⟨by rfl, ?_⟩) ?_; rotate_left; focus (intro w' hSw; (try dsimp only at hSw); go_simp; (try with_reducible rfl))
      try simp only [sIB, sC0, sCS]
      refine tkH 9 33 ?_ rfl hHeld (.inl ⟨by rfl, ?_⟩) ?_; rotate_left; focus (intro w' hSw; (try dsimp only at hSw); go_simp; (try with_reducible rfl))
      try simp only [sIB, sC0, sCS]
      refine wpAnyH_ready (rs := [2]) (by kernel_rfl) (by simp) ?_
      refine AllReadyH.cons rfl (fun K hK => ?_) AllReadyH.nil
      (try go_simp)
      refine (HR1.out _ HBD.out).mono ?_; rintro e w7 ⟨rfl, hb7⟩; have HB7 := Lib.hid (HBD.out.trans (hb7.mono HBD.out.size)); have HR7 := Lib.hid (own_below (own_drew HW.out.row) hb7 (Nat.le_refl _)); have h := F0.out _ HB7.out; clear hb7
      go_wp2_with fail
      refine hK.out _ _ h (fun hHeld => ?_)
      clear hK K
      try simp only [Act.put, sIB, sC0, sCS]
      refine tkH 3 27 ?_ rfl hHeld (.inl ⟨by rfl, ?_⟩) ?_; rotate_left; focus (intro w' hSw; (try dsimp only at hSw); go_simp; (try with_reducible rfl))
      try simp only [sIB, sC0, sCS]
      refine wpAnyH_ready (rs := [6]) (by kernel_rfl) (by simp) ?_
      refine AllReadyH.cons rfl (fun K hK => ?_) AllReadyH.nil
      (try go_simp)
      refine (HR2.out _ HB7.out).mono ?_; rintro e w8 ⟨rfl, hb8⟩; have HB8 := Lib.hid (HB7.out.trans (hb8.mono HB7.out.size)); have HR8 := Lib.hid (own_below HR7.out hb8 (Nat.le_refl _)); have h := F0.out _ HB8.out; clear hb8
      go_wp2_with fail
      refine hK.out _ _ h (fun hHeld => ?_)
      clear hK K
      try simp only [Act.put, sIB, sC0, sCS]
      refine tkH 7 31 ?_ rfl hHeld (.inl ⟨by rfl, ?_⟩) ?_; rotate_left; focus (intro w' hSw; (try dsimp only at hSw); go_simp; (try with_reducible rfl))
      try simp only [sIB, sC0, sCS]
      refine tkH 8 32 ?_ rfl hHeld (.inl ⟨by rfl, ?_⟩) ?_; rotate_left; focus (intro w' hSw; (try dsimp only at hSw); go_simp; (try with_reducible rfl))
      try simp only [sIB, sC0, sCS]
      refine tkH 10 34 ?_ rfl hHeld (.inl ⟨by rfl, ?_⟩) ?_; rotate_left; focus (intro w' hSw; (try dsimp only at hSw); go_simp; (try with_reducible rfl))
      try simp only [sIB, sC0, sCS]
      refine tkH 11 9 ?_ rfl hHeld (.inl ⟨by rfl, ?_⟩) ?_; rotate_left; focus (intro w' hSw; (try dsimp only at hSw); go_simp; (try with_reducible rfl))
      try simp only [sIB, sC0, sCS]
      refine wpAnyH_done (by kernel_rfl) ?_ _
      go_upto_region 8 with fail
      clear wt ws wx wy
      obtain ⟨s, hs⟩ : ∃ s, x + y + cy = s := ⟨_, rfl⟩
      rw [show ((x : Int) + (y : Int) + (cy : Int)) = (s : Int) by omega]
      obtain ⟨xm, hxme⟩ : ∃ xm, s % 4294967296 = xm := ⟨_, rfl⟩
      obtain ⟨cq, hcqe⟩ : ∃ cq, s / 4294967296 = cq := ⟨_, rfl⟩
      have e0 : (s : Int) % 4294967296 = (xm : Int) := by omega
      have e1 : (s : Int) / 4294967296 = (cq : Int) := by omega
      have hcy' : cq ≤ 1 := by omega
      have hxm : xm < 4294967296 := by omega
      have HXQ := Lib.hid (And.intro hxme hcqe)
      clear hxme hcqe
      have HSS := Lib.hid hs
      clear hs
      have HSZ := Lib.hid HB8.out.size
      have HN' := HN.out
      go_wp2_with (at_builtin; refine app_one (W0.heap.size) 57 129 (.int .u32 0) 1 4 [_] 1 _ _ rfl rfl Tryz.underlying57 info_u32 rfl (by decide) _ _ _ rfl rfl rfl (by intro u hu; simp at hu; subst hu; rfl) HR8.out (by omega) (by omega) HSZ.out ?_)
      intro v' w9 hown hg9
      have hk9 : Keep (fun g => (Value.slice A k c).ownBlock = some g) w8 w9 := Keep.of_grown hg9 (fun g hg => hg)
      obtain ⟨A9, c9, rfl⟩ := own_slice hown
      have HN9 : Hid (PlusIs W0 w9 l1 l2 (out ++ [xm]) A9 c9 (k + 1) cq) := Lib.hid (by
        refine ⟨by rw [List.map_append]; exact hown, HB8.out.trans (hk9.below HB8.out.size (own_base HR8.out)), by rw [List.length_append, HW.out.len]; rfl, ?_, hcy', ?_⟩
        · intro z hz
          rcases List.mem_append.1 hz with hz | hz
          · exact HW.out.lt z hz
          · simp at hz; subst hz; exact hxm
        · rw [vl_snoc, HW.out.len, vl_take_succ, vl_take_succ, HX.out, HY.out]
          exact plus_step (B := B32) HSS.out.symm HXQ.out.1.symm HXQ.out.2.symm HW.out.val)
      clear hown hg9 hk9
      have wk : IntKind.i64.wrap ((k : Int) + 1) = (k : Int) + 1 := IntWalk.i64_in _ (by omega)
      go_wp2_with fail
      go_roundg (gk - 1)
      case measure => omega
      case rel => exact ⟨k + 1, _, _, A9, c9, by omega, by simp, rfl, rfl, HN9.out⟩
    · have hke : k = N := by omega
      subst hke
      have hlt' : ¬ (k : Int) < (k : Int) := by omega
      have hcy1 := HW.out.cy1
      have e2 : (cy : Int) % 4294967296 = (cy : Int) := by omega
      have HN' := HN.out
      have HSZ := Lib.hid HW.out.below.size
      have HRW := Lib.hid HW.out.row
      have hv : vl B32 (out ++ [cy]) = n1 + n2 := by
        rw [vl_snoc, HW.out.len, HW.out.val, List.take_of_length_le HN'.1, List.take_of_length_le HN'.2.1, HV.out.1, HV.out.2]
      have HVV := Lib.hid hv
      clear hv
      go_wp2_with (at_builtin; refine app_one (W0.heap.size) 57 129 (.int .u32 0) 1 4 [_] 1 _ _ rfl rfl Tryz.underlying57 info_u32 rfl (by decide) _ _ _ rfl rfl rfl (by intro u hu; simp at hu; subst hu; rfl) HRW.out (by omega) (by omega) HSZ.out ?_)
      intro v' w9 hown hg9
      have hk9 : Keep (fun g => (Value.slice A k c).ownBlock = some g) W w9 := Keep.of_grown hg9 (fun g hg => hg)
      obtain ⟨A9, c9, rfl⟩ := own_slice hown
      have hb9 := HW.out.below.trans (hk9.below HW.out.below.size (own_base HRW.out))
      have hlen9 : k + 1 = (out ++ [cy]).length := by rw [List.length_append, HW.out.len]; rfl
      have HOW : Hid (Sl1 w9 A9 u32V (out ++ [cy])) := Lib.hid (by
        refine own_sl1 (base := W0.heap.size) (e := 129) (c := c9) (n := k + 1) ?_
        rw [List.map_append]; exact hown)
      have HCP := Lib.hid (own_len hown)
      have HB9 := Lib.hid hb9
      clear hown hg9 hk9 hb9
      have HTR : Hid (Calls Tryz.prog 90 #[.slice A9 (out ++ [cy]).length c9] w9 fun e w' => ∃ v, e = .returned v ∧ NatIs w' v (vl B32 (out ++ [cy])) ∧ Below w9.heap.size w9 w') := Lib.hid (by
        refine trim_any (out ++ [cy]) A9 c9 _ HOW.out (by rw [← hlen9]; exact HCP.out) ?_ (by rw [← hlen9]; omega)
        intro z hz
        rcases List.mem_append.1 hz with hz | hz
        · exact HW.out.lt z hz
        · simp at hz; subst hz; show z < 4294967296; omega)
      rw [← hlen9] at HTR
      clear hlen9
      go_wp2_with fail
      refine (HTR.out).mono ?_
      rintro e w2 ⟨v, rfl, h2, b2⟩
      rw [HVV.out] at h2
      obtain ⟨A2', c2', rfl, h2, h3⟩ := h2
      have hR2 := blk_below (HB9.out.trans (b2.mono HB9.out.size)) (blk_lt H3.out.2.2.1) H3.out.2.2.1
      obtain ⟨f0, f1⟩ := cell_facts hR2
      have HP := Lib.hid (cell_put hR2 (.slice A2' (dg B32 (n1 + n2)).length c2'))
      have HQ := Lib.hid (NatIs.put ⟨A2', c2', rfl, h2, h3⟩ hR2 (sl_ne_u32 _ _ _) (.slice A2' (dg B32 (n1 + n2)).length c2'))
      have HB := Lib.hid ((H3.out.2.2.2.1.trans ((HB9.out.trans (b2.mono HB9.out.size)).mono (by rw [H3.out.2.2.2.2]; omega))).setCell (p := ⟨r + 2, 0, none⟩) (by show r ≤ r + 2; omega) (.slice A2' (dg B32 (n1 + n2)).length c2'))
      clear h2 h3 b2 hR2 e2
      go_wp2_with fail
      refine ret_cell1 rfl rfl (load_nat HP.out) ?_
      exact ⟨_, rfl, HQ.out, by rw [HR.out]; exact HB.out⟩
def cmpN (a b : Nat) : Int := if a < b then -1 else if b < a then 1 else 0
theorem nan_int (a : Int) (w : World) : Calls Tryz.prog 111 #[.int .i64 a] w fun e w' => e = .returned (.bool false) ∧ w' = w := by
  go_enter Tryz.func111, Tryz.ntmps111
  go_wp2_with fail
  go_ret
  exact ⟨by simp, rfl⟩
theorem nan_u32 (a : Int) (w : World) : Calls Tryz.prog 112 #[.int .u32 a] w fun e w' => e = .returned (.bool false) ∧ w' = w := by
  go_enter Tryz.func112, Tryz.ntmps112
  go_wp2_with fail
  go_ret
  exact ⟨by simp, rfl⟩
theorem cmp_int (a b : Nat) (w : World) : Calls Tryz.prog 78 #[.int .i64 (a : Int), .int .i64 (b : Int)] w fun e w' => e = .returned (.int .i64 (cmpN a b)) ∧ w' = w := by
  go_enter Tryz.func78, Tryz.ntmps78
  go_wp2_with fail
  refine (nan_int _ _).mono ?_
  rintro e w1 ⟨rfl, rfl⟩
  go_wp2_with fail
  refine (nan_int _ _).mono ?_
  rintro e w2 ⟨rfl, rfl⟩
  by_cases h1 : a < b
  · have h1' : (a : Int) < (b : Int) := by omega
    have HC : Hid (cmpN a b = -1) := Lib.hid (by unfold cmpN; rw [if_pos h1])
    go_wp2_with fail
    go_ret
    exact ⟨by rw [HC.out]; rfl, rfl⟩
  · have h1' : ¬ (a : Int) < (b : Int) := by omega
    by_cases h2 : b < a
    · have h2' : (b : Int) < (a : Int) := by omega
      have HC : Hid (cmpN a b = 1) := Lib.hid (by unfold cmpN; rw [if_neg h1, if_pos h2])
      go_wp2_with fail
      go_ret
      exact ⟨by rw [HC.out]; rfl, rfl⟩
    · have h2' : ¬ (b : Int) < (a : Int) := by omega
      have HC : Hid (cmpN a b = 0) := Lib.hid (by unfold cmpN; rw [if_neg h1, if_neg h2])
      go_wp2_with fail
      go_ret
      exact ⟨by rw [HC.out]; rfl, rfl⟩
theorem cmp_u32 (a b : Nat) (w : World) : Calls Tryz.prog 79 #[.int .u32 (a : Int), .int .u32 (b : Int)] w fun e w' => e = .returned (.int .i64 (cmpN a b)) ∧ w' = w := by
  go_enter Tryz.func79, Tryz.ntmps79
  go_wp2_with fail
  refine (nan_u32 _ _).mono ?_
  rintro e w1 ⟨rfl, rfl⟩
  go_wp2_with fail
  refine (nan_u32 _ _).mono ?_
  rintro e w2 ⟨rfl, rfl⟩
  by_cases h1 : a < b
  · have h1' : (a : Int) < (b : Int) := by omega
    have HC : Hid (cmpN a b = -1) := Lib.hid (by unfold cmpN; rw [if_pos h1])
    go_wp2_with fail
    go_ret
    exact ⟨by rw [HC.out]; rfl, rfl⟩
  · have h1' : ¬ (a : Int) < (b : Int) := by omega
    by_cases h2 : b < a
    · have h2' : (b : Int) < (a : Int) := by omega
      have HC : Hid (cmpN a b = 1) := Lib.hid (by unfold cmpN; rw [if_neg h1, if_pos h2])
      go_wp2_with fail
      go_ret
      exact ⟨by rw [HC.out]; rfl, rfl⟩
    · have h2' : ¬ (b : Int) < (a : Int) := by omega
      have HC : Hid (cmpN a b = 0) := Lib.hid (by unfold cmpN; rw [if_neg h1, if_neg h2])
      go_wp2_with fail
      go_ret
      exact ⟨by rw [HC.out]; rfl, rfl⟩
theorem two_cells (w : World) (a b : Obj) :
    ((w.alloc a).alloc b).heap[w.heap.size]? = some a ∧ ((w.alloc a).alloc b).heap[w.heap.size + 1]? = some b ∧ Below w.heap.size w ((w.alloc a).alloc b) ∧ ((w.alloc a).alloc b).heap.size = w.heap.size + 2 := by
  refine ⟨blk_alloc (blk_new w a) b, ?_, ((Below.refl _ _).alloc (Nat.le_refl _) _).alloc (by simp) _, by simp⟩
  have := blk_new (w.alloc a) b
  rwa [size_alloc] at this
set_option maxHeartbeats 4000000 in
theorem compare_any (v1 v2 : Value) (n1 n2 : Nat) (w : World) (h1 : NatIs w v1 n1) (h2 : NatIs w v2 n2) (hl1 : (dg B32 n1).length ≤ 100000) (hl2 : (dg B32 n2).length ≤ 100000) :
    Calls Tryz.prog 35 #[v1, v2] w fun e w' => e = .returned (.int .i64 (cmpN n1 n2)) ∧ Below w.heap.size w w' := by
  obtain ⟨A1, c1, rfl, s1, k1⟩ := h1
  obtain ⟨A2, c2, rfl, s2, k2⟩ := h2
  have h3 := two_cells w (.cells #[.slice A1 (dg B32 n1).length c1] 59) (.cells #[.slice A2 (dg B32 n2).length c2] 59)
  have H3 := Lib.hid h3
  have HD1 := Lib.hid (dg_lt (b := B32) (by decide) n1)
  have HD2 := Lib.hid (dg_lt (b := B32) (by decide) n2)
  have HV1 := Lib.hid (vl_dg (b := B32) (by decide) n1)
  have HV2 := Lib.hid (vl_dg (b := B32) (by decide) n2)
  have HS1 := Lib.hid (s1.below h3.2.2.1 (Nat.le_refl _))
  have HS2 := Lib.hid (s2.below h3.2.2.1 (Nat.le_refl _))
  have HLT1 := Lib.hid (fun h => dg_len_lt (b := B32) (m := n1) (n := n2) (by decide) h)
  have HLT2 := Lib.hid (fun h => dg_len_lt (b := B32) (m := n2) (n := n1) (by decide) h)
  clear s1 s2 k1 k2 h3
  generalize dg B32 n1 = l1 at *
  generalize dg B32 n2 = l2 at *
  obtain ⟨f0, _⟩ := cell_facts H3.out.1
  obtain ⟨g0, _⟩ := cell_facts H3.out.2.1
  go_enter Tryz.func35, Tryz.ntmps35
  go_upto_region 1 with fail
  generalize (w.alloc (.cells #[.slice A1 l1.length c1] 59)).alloc (.cells #[.slice A2 l2.length c2] 59) = W0 at *
  generalize hr : w.heap.size = r at *
  have HR := Lib.hid hr
  clear hr
  have HBW := Lib.hid H3.out.2.2.1
  have HRS : Hid (r ≤ W0.heap.size) := Lib.hid (by have := H3.out.2.2.2; omega)
  have F0 := Lib.hid (show ∀ V, Below W0.heap.size W0 V → V.cell? ⟨r, 0, none⟩ = some (.slice A1 l1.length c1) ∧ V.cell? ⟨r + 1, 0, none⟩ = some (.slice A2 l2.length c2) from fun V hV => ⟨below_cell hV (Nat.le_refl _) f0, below_cell hV (Nat.le_refl _) g0⟩)
  go_wp2_with fail
  refine (cmp_int l1.length l2.length _).mono ?_
  rintro e w1 ⟨rfl, rfl⟩
  rename World => W0
  rcases Nat.lt_trichotomy l1.length l2.length with hlen | hlen | hlen
  · have hc : cmpN l1.length l2.length = -1 := by unfold cmpN; rw [if_pos hlen]
    rw [hc]
    have hn := HLT1.out hlen
    have hc2 : cmpN n1 n2 = -1 := by unfold cmpN; rw [if_pos hn]
    have HC := Lib.hid hc2
    clear hc hc2
    go_wp2_with fail
    go_ret
    exact ⟨by rw [HC.out]; rfl, by rw [HR.out]; exact HBW.out⟩
  · have hc : cmpN l1.length l2.length = 0 := by unfold cmpN; rw [if_neg (by omega), if_neg (by omega)]
    rw [hc]
    clear hc
    have HLN := Lib.hid hlen
    have hl : (l2.length : Int) = (l1.length : Int) := by omega
    clear hlen
    have wl : IntKind.i64.wrap ((l1.length : Int) - 1) = (l1.length : Int) - 1 := IntWalk.i64_in _ (by omega)
    have HI := Lib.hid (Below.refl W0.heap.size W0)
    go_wp2_with fail
    clear wl f0 g0 hl
    go_loopg [6] l1.length (fun m v W => ∃ (j : Nat) (i : Int), j = m ∧ v = .int .i64 i ∧ i = (j : Int) - 1 ∧ j ≤ l1.length ∧ vl B32 (l1.drop j) = vl B32 (l2.drop j) ∧ Below W0.heap.size W0 W)
    case atStart => exact ⟨l1.length, _, rfl, rfl, rfl, Nat.le_refl _, by rw [List.drop_length, HLN.out, List.drop_length], HI.out⟩
    case round =>
      obtain ⟨j, i, rfl, rfl, hi, hj, hv, hB⟩ := hrel
      rename World => W
      have HV := Lib.hid hv
      have HB := Lib.hid hB
      clear hv hB
      rcases Nat.eq_zero_or_pos j with rfl | hj0
      · obtain rfl : i = -1 := by omega
        clear hi
        have hc2 : cmpN n1 n2 = 0 := by
          have e := HV.out
          rw [List.drop_zero, List.drop_zero, HV1.out, HV2.out] at e
          unfold cmpN; rw [if_neg (by omega), if_neg (by omega)]
        have HC := Lib.hid hc2
        clear hc2
        go_wp2_with fail
        go_ret
        exact ⟨by rw [HC.out]; rfl, by rw [HR.out]; exact HBW.out.trans (HB.out.mono HRS.out)⟩
      · obtain ⟨q, rfl⟩ : ∃ q, j = q + 1 := ⟨j - 1, by omega⟩
        obtain rfl : i = (q : Int) := by omega
        clear hi
        have q0 : (0 : Int) ≤ (q : Int) := by omega
        have q1 : (q : Int) < (l1.length : Int) := by omega
        have hq1 : q < l1.length := by omega
        have q2 : (q : Int) < (l2.length : Int) := by have := HLN.out; omega
        have hq2 : q < l2.length := by have := HLN.out; omega
        obtain ⟨b1, o1, rfl, hcc1⟩ := HS1.out.at q hq1
        obtain ⟨b2, o2, rfl, hcc2⟩ := HS2.out.at q hq2
        have hx := atL_get hq1
        have hy := atL_get hq2
        have hlt := vl_lt_at (b := B32) (l := l1) (r := l2) (i := q) (by decide) HD1.out HD2.out hq1 hq2 HV.out
        have hgt := vl_lt_at (b := B32) (l := l2) (r := l1) (i := q) (by decide) HD2.out HD1.out hq2 hq1 HV.out.symm
        have heq : atL l1 q = atL l2 q → vl B32 (l1.drop q) = vl B32 (l2.drop q) := by
          intro e
          rw [vl_drop _ _ _ hq1, vl_drop _ _ _ hq2, HV.out, e]
        rw [hx, hy] at hlt hgt heq
        rw [HV1.out, HV2.out] at hlt hgt
        generalize l1[q] = x at *
        generalize l2[q] = y at *
        have HLT := Lib.hid hlt
        have HGT := Lib.hid hgt
        have HEQ := Lib.hid heq
        have HBD := Lib.hid HB.out.drew
        have F1 := Lib.hid (show ∀ V, Below W0.heap.size W0 V → V.cell? ⟨r, 0, none⟩ = some (.slice (some ⟨b1, o1, none⟩) l1.length c1) ∧ V.cell? ⟨r + 1, 0, none⟩ = some (.slice (some ⟨b2, o2, none⟩) l2.length c2) ∧ V.cell? ⟨b1, o1 + q, none⟩ = some (.int .u32 (x : Int)) ∧ V.cell? ⟨b2, o2 + q, none⟩ = some (.int .u32 (y : Int)) from fun V hV => ⟨(F0.out V hV).1, (F0.out V hV).2, below_cell hV (Nat.le_refl _) hcc1, below_cell hV (Nat.le_refl _) hcc2⟩)
        clear hx hy hlt hgt heq hcc1 hcc2
        go_wp2_with fail
        refine wp_region_held_drew (S := fun V => V.cell? ⟨r, 0, none⟩ = some (.slice (some ⟨b1, o1, none⟩) l1.length c1) ∧ V.cell? ⟨r + 1, 0, none⟩ = some (.slice (some ⟨b2, o2, none⟩) l2.length c2) ∧ V.cell? ⟨b1, o1 + q, none⟩ = some (.int .u32 (x : Int)) ∧ V.cell? ⟨b2, o2 + q, none⟩ = some (.int .u32 (y : Int))) (by kernel_rfl) (by exact F1.out _ HBD.out) (fun hHeld => ?_)
        refine tkH 0 26 ?_ rfl hHeld (.inl ⟨by rfl, ?_⟩) ?_; rotate_left; focus (intro w' hSw; (try dsimp only at hSw); go_simp; (try with_reducible rfl))
        try simp only [sIB, sC0, sCS]
        refine tkH 1 27 ?_ rfl hHeld (.inl ⟨by rfl, ?_⟩) ?_; rotate_left; focus (intro w' hSw; (try dsimp only at hSw); go_simp; (try with_reducible rfl))
        try simp only [sIB, sC0, sCS]
        refine tkH 2 28 ?_ rfl hHeld (.inl ⟨by rfl, ?_⟩) ?_; rotate_left; focus (intro w' hSw; (try dsimp only at hSw); go_simp; (try with_reducible rfl))
        try simp only [sIB, sC0, sCS]
        refine tkH 3 29 ?_ rfl hHeld (.inl ⟨by rfl, ?_⟩) ?_; rotate_left; focus (intro w' hSw; (try dsimp only at hSw); go_simp; (try with_reducible rfl))
        try simp only [sIB, sC0, sCS]
        refine tkH 4 30 ?_ rfl hHeld (.inl ⟨by rfl, ?_⟩) ?_; rotate_left; focus (intro w' hSw; (try dsimp only at hSw); go_simp; (try with_reducible rfl))
        try simp only [sIB, sC0, sCS]
        refine tkH 5 31 ?_ rfl hHeld (.inl ⟨by rfl, ?_⟩) ?_; rotate_left; focus (intro w' hSw; (try dsimp only at hSw); go_simp; (try with_reducible rfl))
        try simp only [sIB, sC0, sCS]
        refine tkH 6 32 ?_ rfl hHeld (.inl ⟨by rfl, ?_⟩) ?_; rotate_left; focus (intro w' hSw; (try dsimp only at hSw); go_simp; (try with_reducible rfl))
        try simp only [sIB, sC0, sCS]
        refine tkH 7 33 ?_ rfl hHeld (.inl ⟨by rfl, ?_⟩) ?_; rotate_left; focus (intro w' hSw; (try dsimp only at hSw); go_simp; (try with_reducible rfl))
        try simp only [sIB, sC0, sCS]
        refine tkH 8 34 ?_ rfl hHeld (.inl ⟨by rfl, ?_⟩) ?_; rotate_left; focus (intro w' hSw; (try dsimp only at hSw); go_simp; (try with_reducible rfl))
        try simp only [sIB, sC0, sCS]
        refine tkH 9 35 ?_ rfl hHeld (.inl ⟨by rfl, ?_⟩) ?_; rotate_left; focus (intro w' hSw; (try dsimp only at hSw); go_simp; (try with_reducible rfl))
        try simp only [sIB, sC0, sCS]
        refine wpAnyH_ready (rs := [10]) (by kernel_rfl) (by simp) ?_
        refine AllReadyH.cons rfl (fun K hK => ?_) AllReadyH.nil
        (try go_simp)
        refine (cmp_u32 x y _).mono ?_; rintro e w7 ⟨rfl, hw7⟩; subst hw7; have h := F1.out _ HBD.out
        go_wp2_with fail
        refine hK.out _ _ h (fun hHeld => ?_)
        clear hK K
        try simp only [Act.put, sIB, sC0, sCS]
        refine tkH 11 7 ?_ rfl hHeld (.inl ⟨by rfl, ?_⟩) ?_; rotate_left; focus (intro w' hSw; (try dsimp only at hSw); go_simp; (try with_reducible rfl))
        try simp only [sIB, sC0, sCS]
        refine wpAnyH_done (by kernel_rfl) ?_ _
        rcases Nat.lt_trichotomy x y with hxy | hxy | hxy
        · have hc : cmpN x y = -1 := by unfold cmpN; rw [if_pos hxy]
          rw [hc]
          have hn := HLT.out hxy
          have hc2 : cmpN n1 n2 = -1 := by unfold cmpN; rw [if_pos hn]
          have HC := Lib.hid hc2
          clear hc hc2
          go_wp2_with fail
          go_ret
          exact ⟨by rw [HC.out]; rfl, by rw [HR.out]; exact HBW.out.trans (HBD.out.mono HRS.out)⟩
        · have hc : cmpN x y = 0 := by unfold cmpN; rw [if_neg (by omega), if_neg (by omega)]
          rw [hc]
          clear hc
          have HE := Lib.hid (HEQ.out hxy)
          clear hxy
          have wq : IntKind.i64.wrap ((q : Int) - 1) = (q : Int) - 1 := IntWalk.i64_in _ (by omega)
          go_wp2_with fail
          go_roundg q
          case measure => omega
          case rel => exact ⟨q, _, rfl, rfl, rfl, by omega, HE.out, HBD.out⟩
        · have hc : cmpN x y = 1 := by unfold cmpN; rw [if_neg (by omega), if_pos hxy]
          rw [hc]
          have hn := HGT.out hxy
          have hc2 : cmpN n1 n2 = 1 := by unfold cmpN; rw [if_neg (by omega), if_pos hn]
          have HC := Lib.hid hc2
          clear hc hc2
          go_wp2_with fail
          go_ret
          exact ⟨by rw [HC.out]; rfl, by rw [HR.out]; exact HBW.out.trans (HBD.out.mono HRS.out)⟩
  · have hc : cmpN l1.length l2.length = 1 := by unfold cmpN; rw [if_neg (by omega), if_pos hlen]
    rw [hc]
    have hn := HLT2.out hlen
    have hc2 : cmpN n1 n2 = 1 := by unfold cmpN; rw [if_neg (by omega), if_pos hn]
    have HC := Lib.hid hc2
    clear hc hc2
    go_wp2_with fail
    go_ret
    exact ⟨by rw [HC.out]; rfl, by rw [HR.out]; exact HBW.out⟩
theorem ret_cells_bool {P : Program} {fn : Func} {R : Ending → World → Prop} {tmps : Array Value} {w : World} {r : Nat} {p u : Tmp} {ty : TypeId} {v x : Value}
    (h : fn.results = #[.cell p ty, .tmp u]) (hp : tmps.getD p undef = .pointer (some ⟨r, 0, none⟩)) (hu : tmps.getD u undef = x)
    (hl : (loadVar ty ⟨r, 0, none⟩).run P w = .ok v w) (hR : R (.returned (.tuple #[v, x])) w) : bodyPost P fn R .ret ⟨tmps, []⟩ w := ret_cell_tmp1 h hp hu hl hR
theorem made_u32z (n : Nat) : (madeCells (Value.int .u32 0).cells (n * 1)).toList = (List.replicate n 0).map u32V := by
  apply List.ext_getElem
  · simp [madeCells]
  · intro i h1 h2
    simp [madeCells, Value.cells, Nat.mod_one, u32V]
theorem make_zeros (n : Nat) (w : World) (hn : n ≤ 1000000) : ∃ w', (Instr.makeSlice 57 (.int .i64 (n : Int)) (.int .i64 (n : Int))).run Tryz.prog w = .ok (.slice (some ⟨w.heap.size, 0, none⟩) n n) w' ∧
    w'.ownsRow w.heap.size 129 1 (.slice (some ⟨w.heap.size, 0, none⟩) n n) n ((List.replicate n 0).map u32V) ∧ Below w.heap.size w w' := by
  obtain ⟨i, hi, hz0, hz1, hz2⟩ := info_parts info_u32
  obtain ⟨w', h1, h2, h3⟩ := run_makeSlice_full (P := Tryz.prog) w w.heap.size 57 129 i (.int .u32 0) 1 Tryz.underlying57 hi hz0 hz1 .i64 .i64 n (by omega) (by rw [hz2]; omega) (by unfold maxLen; omega) (Nat.le_refl _)
  rw [made_u32z] at h2
  exact ⟨w', h1, h2, (Keep.of_grown (F := fun _ => False) h3 (fun k hk => by cases hk)).below (Nat.le_refl _) (fun x hx => hx.elim)⟩
theorem div_step {B m x rest r2 xm rest' vd vq : Nat} (hr2 : r2 = rest * B + x) (hx : xm = r2 / m) (hr : rest' = r2 % m) (h : vd = m * vq + rest) : x + B * vd = m * (xm + B * vq) + rest' := by
  have e : m * xm + rest' = r2 := by subst hx; subst hr; exact Nat.div_add_mod r2 m
  rw [h, Nat.mul_add, Nat.mul_add, Nat.mul_left_comm m B vq, Nat.mul_comm B rest]
  generalize B * (m * vq) = a1 at *
  generalize m * xm = a2 at *
  generalize rest * B = a3 at *
  omega
theorem div_lt {m x rest r2 : Nat} (hm : 0 < m) (hm2 : m < 4294967296) (hx : x < 4294967296) (hrest : rest < m) (hr2 : r2 = rest * 4294967296 + x) : r2 < 18446744073709551616 ∧ r2 / m < 4294967296 ∧ r2 % m < m := by
  refine ⟨by omega, ?_, Nat.mod_lt _ hm⟩
  apply Nat.div_lt_of_lt_mul
  have : (rest + 1) * 4294967296 ≤ m * 4294967296 := Nat.mul_le_mul_right _ hrest
  omega
theorem or_u64 (a x : Nat) (ha : a < 4294967296) (hx : x < 4294967296) : bits .or .u64 ((a : Int) * 4294967296) (x : Int) = ((a * 4294967296 + x : Nat) : Int) := by
  have h := bits_or_u64_nat (a * 4294967296) x (by omega) (by omega)
  rw [show ((a : Int) * 4294967296) = ((a * 4294967296 : Nat) : Int) by simp, h]
  have h2 := Nat.two_pow_add_eq_or_of_lt (i := 32) (b := x) hx a
  rw [show (2 ^ 32 : Nat) = 4294967296 by decide] at h2
  rw [Nat.mul_comm a, h2]
theorem vl_set {b : Nat} {l : List Nat} {i : Nat} (x : Nat) (hi : i < l.length) : vl b ((l.set i x).drop i) = x + b * vl b (l.drop (i + 1)) := by
  rw [vl_drop _ _ _ (by rw [List.length_set]; exact hi)]
  congr 1
  · rw [atL_get (by rw [List.length_set]; exact hi)]; simp
  · congr 2
    rw [List.drop_set, if_pos (by omega)]
theorem own_at {w : World} {base n c g : Nat} {e : TypeId} {size : Nat} {xs : List Value} (h : w.ownsRow base e size (.slice (some ⟨g, 0, none⟩) n c) n xs) (j : Nat) (u : Value) (hj : xs[j]? = some u) : w.cell? ⟨g, j, none⟩ = some u ∧ w.frozen? ⟨g, j, none⟩ = false := by
  have h' := h
  rcases h.2 with ⟨h1, _⟩ | ⟨g', cap', cur, h1, hb, hg, hc1, hc2, hc3, ht⟩
  · cases h1
  · cases h1
    refine ⟨?_, blk_froz hg j⟩
    have := h'.cells (g := g) rfl j u hj
    have hadd : ∀ k, (⟨g, 0, none⟩ : Addr).add k = ⟨g, k, none⟩ := by intro k; unfold Addr.add; split <;> simp_all
    rwa [hadd] at this
structure DivIs (W0 W : World) (l1 : List Nat) (m : Nat) (g : Nat) (out : List Nat) (j rest : Nat) : Prop where
  row : W.ownsRow W0.heap.size 129 1 (.slice (some ⟨g, 0, none⟩) l1.length l1.length) l1.length (out.map u32V)
  below : Below W0.heap.size W0 W
  len : out.length = l1.length
  lt : ∀ x ∈ out, x < B32
  rlt : rest < m
  val : vl B32 (l1.drop j) = m * vl B32 (out.drop j) + rest
set_option maxHeartbeats 8000000 in
theorem divide_any (v1 : Value) (n1 m : Nat) (w : World) (h1 : NatIs w v1 n1) (hm0 : 0 < m) (hm : m < 4294967296) (hl1 : (dg B32 n1).length ≤ 100000) :
    Calls Tryz.prog 83 #[v1, .int .u32 (m : Int)] w fun e w' => ∃ v, e = .returned (.tuple #[v, .int .u32 ((n1 % m : Nat) : Int)]) ∧ NatIs w' v (n1 / m) ∧ Below w.heap.size w w' ∧ ∀ A n c, v = .agg #[.slice A n c] → ∀ a, A = some a → w.heap.size ≤ a.block := by
  obtain ⟨A1, c1, rfl, s1, k1⟩ := h1
  have h3 := two_cells w (.cells #[.slice A1 (dg B32 n1).length c1] 59) (.cells #[.slice none 0 0] 59)
  have H3 := Lib.hid h3
  have HD := Lib.hid (dg_lt (b := B32) (by decide) n1)
  have HV := Lib.hid (vl_dg (b := B32) (by decide) n1)
  have HS1 := Lib.hid (s1.below h3.2.2.1 (Nat.le_refl _))
  clear s1 k1 h3
  generalize dg B32 n1 = l1 at *
  obtain ⟨f0, _⟩ := cell_facts H3.out.1
  have hm1 : ¬ (m : Int) = 0 := by omega
  have wm : IntKind.u64.wrap (m : Int) = (m : Int) := IntWalk.u64_in _ (by omega)
  go_enter Tryz.func83, Tryz.ntmps83
  go_upto_region 1 with fail
  generalize (w.alloc (.cells #[.slice A1 l1.length c1] 59)).alloc (.cells #[.slice none 0 0] 59) = W0 at *
  generalize hr : w.heap.size = r at *
  have HR := Lib.hid hr
  clear hr
  have HRS : Hid (r ≤ W0.heap.size) := Lib.hid (by rw [H3.out.2.2.2]; omega)
  obtain ⟨W1, hmk, hown, hbel⟩ := make_zeros l1.length W0 (by omega)
  have HI : Hid (DivIs W0 W1 l1 m W0.heap.size (List.replicate l1.length 0) l1.length 0) := Lib.hid ⟨hown, hbel, by simp, by intro x hx; have := List.eq_of_mem_replicate hx; subst this; decide, hm0, by rw [List.drop_length, List.drop_eq_nil_of_le (by simp)]; simp [vl]⟩
  have f0' := below_cell hbel (Nat.le_refl _) f0
  have F0 := Lib.hid (show ∀ V, Below W0.heap.size W0 V → V.cell? ⟨r, 0, none⟩ = some (.slice A1 l1.length c1) from fun V hV => below_cell hV (Nat.le_refl _) f0)
  clear hown hbel
  have wl : IntKind.i64.wrap ((l1.length : Int) - 1) = (l1.length : Int) - 1 := IntWalk.i64_in _ (by omega)
  go_wp2_with fail
  clear hmk f0 f0' wl
  go_loopg [7, 8] l1.length (fun n v7 v8 W => ∃ (j : Nat) (i : Int) (out : List Nat) (rest : Nat), j = n ∧ v8 = .int .i64 i ∧ i = (j : Int) - 1 ∧ j ≤ l1.length ∧ v7 = .int .u64 (rest : Int) ∧ DivIs W0 W l1 m W0.heap.size out j rest)
  case atStart => exact ⟨l1.length, _, _, 0, rfl, rfl, rfl, Nat.le_refl _, rfl, HI.out⟩
  case round =>
    obtain ⟨j, i, out, rest, rfl, rfl, hi, hj, rfl, hW⟩ := hrel
    rename World => W
    clear HI
    have HW := Lib.hid hW
    clear hW
    rcases Nat.eq_zero_or_pos j with rfl | hj0
    · obtain rfl : i = -1 := by omega
      clear hi
      have hval := HW.out.val
      rw [List.drop_zero, List.drop_zero, HV.out] at hval
      have hq : vl B32 out = n1 / m := by
        rw [hval, Nat.mul_comm, Nat.add_comm, Nat.add_mul_div_right _ _ hm0, Nat.div_eq_of_lt HW.out.rlt, Nat.zero_add]
      have hrr : rest = n1 % m := by
        rw [hval, Nat.mul_comm, Nat.add_comm, Nat.add_mul_mod_self_right, Nat.mod_eq_of_lt HW.out.rlt]
      have hrl : rest < 4294967296 := by have := HW.out.rlt; omega
      have e2 : (rest : Int) % 4294967296 = (rest : Int) := by omega
      have HRR := Lib.hid hrr
      have HQQ := Lib.hid hq
      have hlen9 : l1.length = out.length := HW.out.len.symm
      have HTR : Hid (Calls Tryz.prog 90 #[.slice (some ⟨W0.heap.size, 0, none⟩) out.length l1.length] W fun e w' => ∃ v, e = .returned v ∧ NatIs w' v (vl B32 out) ∧ Below W.heap.size W w' ∧ ∃ n c', v = .agg #[.slice (some ⟨W0.heap.size, 0, none⟩) n c']) := Lib.hid (by
        refine trim_at out _ _ _ ?_ (by rw [← hlen9]; exact Nat.le_refl _) HW.out.lt (by rw [← hlen9]; omega)
        exact own_sl1 (base := W0.heap.size) (e := 129) (n := l1.length) HW.out.row)
      rw [← hlen9] at HTR
      clear hlen9 hval hrr hq
      go_wp2_with fail
      refine (HTR.out).mono ?_
      rintro e w2 ⟨v, rfl, h2, b2, hfr⟩
      rw [HQQ.out] at h2
      obtain ⟨A2', c2', rfl, h2, h3⟩ := h2
      have HFR : Hid (A2' = some ⟨W0.heap.size, 0, none⟩) := Lib.hid (by obtain ⟨_, _, e⟩ := hfr; simp at e; exact e.1)
      clear hfr
      have hR2 := blk_below (HW.out.below.trans (b2.mono HW.out.below.size)) (blk_lt H3.out.2.1) H3.out.2.1
      obtain ⟨f0, f1⟩ := cell_facts hR2
      have HP := Lib.hid (cell_put hR2 (.slice A2' (dg B32 (n1 / m)).length c2'))
      have HQ := Lib.hid (NatIs.put ⟨A2', c2', rfl, h2, h3⟩ hR2 (sl_ne_u32 _ _ _) (.slice A2' (dg B32 (n1 / m)).length c2'))
      have HB := Lib.hid ((H3.out.2.2.1.trans ((HW.out.below.trans (b2.mono HW.out.below.size)).mono HRS.out)).setCell (p := ⟨r + 1, 0, none⟩) (by show r ≤ r + 1; omega) (.slice A2' (dg B32 (n1 / m)).length c2'))
      clear h2 h3 b2 hR2
      go_wp2_with fail
      refine ret_cells_bool (x := .int .u32 (rest : Int)) rfl rfl rfl (load_nat HP.out) ?_
      refine ⟨_, by rw [HRR.out], HQ.out, by rw [HR.out]; exact HB.out, ?_⟩
      intro A n c e a ha
      simp only [Value.agg.injEq, List.cons.injEq, Array.mk.injEq, and_true, Value.slice.injEq] at e
      rw [← e.1, HFR.out] at ha
      cases ha
      rw [HR.out]; exact HRS.out
    · obtain ⟨q, rfl⟩ : ∃ q, j = q + 1 := ⟨j - 1, by omega⟩
      obtain rfl : i = (q : Int) := by omega
      clear hi
      have q0 : (0 : Int) ≤ (q : Int) := by omega
      have q1 : (q : Int) < (l1.length : Int) := by omega
      have hq1 : q < l1.length := by omega
      obtain ⟨b1, o1, rfl, hcc1⟩ := HS1.out.at q hq1
      have hcc := below_cell HW.out.below (Nat.le_refl _) hcc1
      have ff := F0.out _ HW.out.below
      have hxe := atL_get hq1
      have hx : l1[q] < 4294967296 := HD.out _ (List.getElem_mem _)
      generalize l1[q] = x at *
      unfold u32V at hcc
      have HX := Lib.hid hxe
      have hrest := HW.out.rlt
      obtain ⟨r2, hr2⟩ : ∃ r2, rest * 4294967296 + x = r2 := ⟨_, rfl⟩
      obtain ⟨d1, d2, d3⟩ := div_lt hm0 hm hx hrest hr2.symm
      have wo := or_u64 rest x (by omega) hx
      rw [hr2] at wo
      obtain ⟨xm, hxm⟩ : ∃ xm, r2 / m = xm := ⟨_, rfl⟩
      obtain ⟨rs, hrs⟩ : ∃ rs, r2 % m = rs := ⟨_, rfl⟩
      rw [hxm] at d2
      rw [hrs] at d3
      have wx : IntKind.u64.wrap (x : Int) = (x : Int) := IntWalk.u64_in _ (by omega)
      have wsh : IntKind.u64.wrap ((rest : Int) * 4294967296) = (rest : Int) * 4294967296 := IntWalk.u64_in _ (by omega)
      have wdv : IntKind.u64.wrap ((r2 : Int) / (m : Int)) = (xm : Int) := by rw [IntWalk.up_div rfl rfl, hxm]; exact IntWalk.u64_in _ (by omega)
      have wrm : (r2 : Int).tmod (m : Int) = (rs : Int) := by rw [IntWalk.up_tmod rfl rfl, hrs]
      have exm : (xm : Int) % 4294967296 = (xm : Int) := by omega
      have HRS2 := Lib.hid (And.intro hr2 (And.intro hxm hrs))
      clear hr2 hxm hrs hxe hcc1
      obtain ⟨hcq0, hcq1⟩ := own_at HW.out.row q (u32V (out[q]'(by rw [HW.out.len]; exact hq1))) (by simp [HW.out.len, hq1])
      unfold u32V at hcq0
      have wk : IntKind.i64.wrap ((q : Int) - 1) = (q : Int) - 1 := IntWalk.i64_in _ (by omega)
      have HNX : Hid (DivIs W0 (W.setCell ⟨W0.heap.size, q, none⟩ (.int .u32 (xm : Int))) l1 m W0.heap.size (out.set q xm) q rs) := Lib.hid (by
        refine ⟨?_, HW.out.below.setCell (p := ⟨W0.heap.size, q, none⟩) (Nat.le_refl _) _, by rw [List.length_set]; exact HW.out.len, ?_, d3, ?_⟩
        · rw [List.map_set]; exact own_set HW.out.row q _
        · intro z hz
          rcases List.mem_or_eq_of_mem_set hz with hz | hz
          · exact HW.out.lt z hz
          · subst hz; exact d2
        · rw [vl_drop _ _ _ hq1, vl_set xm (by rw [HW.out.len]; exact hq1), HX.out]
          exact div_step HRS2.out.1.symm HRS2.out.2.1.symm HRS2.out.2.2.symm HW.out.val)
      go_wp2_with fail
      go_roundg q
      case measure => omega
      case rel => exact ⟨q, _, _, rs, rfl, rfl, rfl, by omega, rfl, HNX.out⟩
theorem dg_len_mono {b m n : Nat} (hb : 1 < b) (h : m ≤ n) : (dg b m).length ≤ (dg b n).length := by
  rcases Nat.lt_or_ge (dg b n).length (dg b m).length with h2 | h2
  · have := dg_len_lt hb h2; omega
  · exact h2
structure ByIs (w W : World) (r : Nat) (a : Value) (s : Value) (acc : Nat) : Prop where
  below : Below w.heap.size w W
  c0 : W.heap[r]? = some (.cells #[a] 59)
  c2 : W.heap[r + 2]? = some (.cells #[.slice none 0 0] 59)
  c3 : W.heap[r + 3]? = some (.cells #[s] 59)
  sl : ∀ x : Nat, s ≠ u32V x
  nat : NatIs W (.agg #[s]) acc
theorem ByIs.step {w W V : World} {r : Nat} {a s : Value} {acc : Nat} (h : ByIs w W r a s acc) (hr : w.heap.size = r) (hb : Below W.heap.size W V) : ByIs w V r a s acc :=
  ⟨h.below.trans (hb.mono h.below.size), blk_below hb (blk_lt h.c0) h.c0, blk_below hb (blk_lt h.c2) h.c2, blk_below hb (blk_lt h.c3) h.c3, h.sl, h.nat.below hb (Nat.le_refl _)⟩
def NatsIs (w : World) (A : Option Addr) (ns : List Nat) : Prop := ∀ i n, ns[i]? = some n → ∃ b o s, A = some ⟨b, o, none⟩ ∧ w.cell? ⟨b, o + i, none⟩ = some s ∧ NatIs w (.agg #[s]) n
theorem NatsIs.below {w w' : World} {A : Option Addr} {ns : List Nat} (h : NatsIs w A ns) {B : Nat} (hb : Below B w w') (hB : w.heap.size ≤ B) : NatsIs w' A ns := by
  intro i n hn
  obtain ⟨b, o, s, e, hc, hn⟩ := h i n hn
  exact ⟨b, o, s, e, below_cell hb hB hc, hn.below hb hB⟩
def sumL (l : List Nat) : Nat := l.foldr (· + ·) 0
theorem sumL_snoc (l : List Nat) (x : Nat) : sumL (l ++ [x]) = sumL l + x := by
  induction l with
  | nil => simp [sumL]
  | cons y l ih => simp only [sumL, List.cons_append, List.foldr_cons] at ih ⊢; rw [ih]; omega
structure AddIs (w W : World) (r : Nat) (s : Value) (acc : Nat) : Prop where
  below : Below w.heap.size w W
  c0 : W.heap[r]? = some (.cells #[s] 59)
  c1 : W.heap[r + 1]? = some (.cells #[.slice none 0 0] 59)
  sl : ∀ x : Nat, s ≠ u32V x
  nat : NatIs W (.agg #[s]) acc
theorem AddIs.step {w W V : World} {r : Nat} {s : Value} {acc : Nat} (h : AddIs w W r s acc) (hb : Below W.heap.size W V) : AddIs w V r s acc :=
  ⟨h.below.trans (hb.mono h.below.size), blk_below hb (blk_lt h.c0) h.c0, blk_below hb (blk_lt h.c1) h.c1, h.sl, h.nat.below hb (Nat.le_refl _)⟩
set_option maxHeartbeats 8000000 in
theorem add_any (v1 : Value) (n1 : Nat) (ns : List Nat) (A : Option Addr) (c : Nat) (w : World) (h1 : NatIs w v1 n1) (h2 : NatsIs w A ns) (hlen : ns.length ≤ 100000)
    (hs1 : ∀ k, k ≤ ns.length → (dg B32 (n1 + sumL (ns.take k))).length ≤ 100000) (hs2 : ∀ n ∈ ns, (dg B32 n).length ≤ 100000) :
    Calls Tryz.prog 34 #[v1, .slice A ns.length c] w fun e w' => ∃ v, e = .returned v ∧ NatIs w' v (n1 + sumL ns) ∧ Below w.heap.size w w' := by
  obtain ⟨A1, c1, rfl, s1, k1⟩ := h1
  have h3 := two_cells w (.cells #[.slice A1 (dg B32 n1).length c1] 59) (.cells #[.slice none 0 0] 59)
  have HNS := Lib.hid h2
  have HI : Hid (AddIs w ((w.alloc (.cells #[.slice A1 (dg B32 n1).length c1] 59)).alloc (.cells #[.slice none 0 0] 59)) w.heap.size (.slice A1 (dg B32 n1).length c1) n1) :=
    Lib.hid ⟨h3.2.2.1, h3.1, h3.2.1, sl_ne_u32 _ _ _, NatIs.below ⟨A1, c1, rfl, s1, k1⟩ h3.2.2.1 (Nat.le_refl _)⟩
  have HS1 := Lib.hid hs1
  have HS2 := Lib.hid hs2
  clear s1 k1 h3 h2 hs1 hs2
  go_enter Tryz.func34, Tryz.ntmps34
  go_upto_region 1 with fail
  generalize (w.alloc (.cells #[.slice A1 (dg B32 n1).length c1] 59)).alloc (.cells #[.slice none 0 0] 59) = W0 at *
  generalize Value.slice A1 (dg B32 n1).length c1 = s0 at *
  generalize hr : w.heap.size = r at HI ⊢
  have HR := Lib.hid hr
  clear hr
  go_wp2_with fail
  go_loopg [9] ns.length (fun n v9 W => ∃ (k : Nat) (s : Value), k + n = ns.length ∧ v9 = .int .i64 (k : Int) ∧ AddIs w W r s (n1 + sumL (ns.take k)))
  case atStart => exact ⟨0, s0, by omega, rfl, by simpa [sumL] using HI.out⟩
  case round =>
    obtain ⟨k, s, hk, rfl, hW⟩ := hrel
    rename World => W
    clear HI
    have HW := Lib.hid hW
    clear hW
    by_cases hlt : k < ns.length
    · have hlt' : (k : Int) < (ns.length : Int) := by omega
      have k0 : (0 : Int) ≤ (k : Int) := by omega
      obtain ⟨b1, o1, sx, rfl, hcx, hnx⟩ := HNS.out k ns[k] (by simp [hlt])
      obtain ⟨Ax, cx, hsx, hx1, hx2⟩ := id hnx
      simp only [Value.agg.injEq, List.cons.injEq, Array.mk.injEq, and_true] at hsx
      obtain ⟨lx, hlx⟩ : ∃ lx, (dg B32 ns[k]).length = lx := ⟨_, rfl⟩
      rw [hlx] at hsx
      subst hsx
      clear hx1 hx2 hlx
      have hcx' := below_cell HW.out.below (Nat.le_refl _) hcx
      obtain ⟨acc, hacc⟩ : ∃ acc, n1 + sumL (ns.take k) = acc := ⟨_, rfl⟩
      have hnext : n1 + sumL (ns.take (k + 1)) = acc + ns[k] := by rw [take_snoc hlt, sumL_snoc, ← hacc]; omega
      have HL3 := Lib.hid (HS1.out k (by omega))
      have HL4 := Lib.hid (HS1.out (k + 1) (by omega))
      rw [hacc] at HL3 HW
      rw [hnext] at HL4
      have HL1 := Lib.hid (HS2.out ns[k] (List.getElem_mem _))
      have HNEXT := Lib.hid hnext
      have hbW := (Below.refl W.heap.size W).alloc (Nat.le_refl _) (.cells #[.slice Ax lx cx] 59)
      have HW1 := Lib.hid (HW.out.step hbW)
      have HC5 := Lib.hid (blk_new W (.cells #[.slice Ax lx cx] 59))
      have HNX := Lib.hid (hnx.below (HW1.out.below) (Nat.le_refl _))
      obtain ⟨z0, z1⟩ := cell_facts (blk_new W (.cells #[.slice none 0 0] 59))
      obtain ⟨y0, y1⟩ := cell_facts HW1.out.c0
      obtain ⟨x0, x1⟩ := cell_facts HC5.out
      clear hcx hnx hacc hnext hbW
      generalize ns[k] = m at *
      go_wp2_with fail
      refine (plus_any (.agg #[s]) (.agg #[.slice Ax lx cx]) acc m _ HW1.out.nat HNX.out HL3.out HL1.out).mono ?_
      rintro e w6 ⟨v6, rfl, hn6, hb6⟩
      have HW6 := Lib.hid (HW1.out.step hb6)
      obtain ⟨A6, c6, rfl, hs6, hc6⟩ := hn6
      obtain ⟨p0, p1⟩ := cell_facts HW6.out.c0
      have HNX : Hid (AddIs w (w6.setCell ⟨r, 0, none⟩ (.slice A6 (dg B32 (acc + m)).length c6)) r (.slice A6 (dg B32 (acc + m)).length c6) (n1 + sumL (ns.take (k + 1)))) := Lib.hid (by
        have h := HW6.out
        refine ⟨h.below.setCell (p := ⟨r, 0, none⟩) (by rw [HR.out]; exact Nat.le_refl _) _, cell_put h.c0 _, blk_far (p := ⟨r, 0, none⟩) h.c1 (by show r + 1 ≠ r; omega) _, sl_ne_u32 _ _ _, ?_⟩
        rw [HNEXT.out]
        exact NatIs.put ⟨A6, c6, rfl, hs6, hc6⟩ h.c0 h.sl _)
      have wk : IntKind.i64.wrap ((k : Int) + 1) = (k : Int) + 1 := IntWalk.i64_in _ (by omega)
      clear hs6 hc6 hb6 z0 z1 y0 y1 x0 x1
      generalize (dg B32 (acc + m)).length = l6 at HNX ⊢
      go_wp2_with fail
      go_roundg (gk - 1)
      case measure => omega
      case rel => exact ⟨k + 1, _, by omega, by simp, HNX.out⟩
    · have hke : k = ns.length := by omega
      have hlt' : ¬ (k : Int) < (ns.length : Int) := by omega
      have HE : Hid (n1 + sumL (ns.take k) = n1 + sumL ns) := Lib.hid (by rw [hke, List.take_length])
      rw [HE.out] at HW
      clear hke
      obtain ⟨A, c, hs, h1, h2⟩ := HW.out.nat
      simp only [Value.agg.injEq, List.cons.injEq, Array.mk.injEq, and_true] at hs
      subst hs
      have HQ := Lib.hid (NatIs.put HW.out.nat HW.out.c1 (sl_ne_u32 _ _ _) (.slice A (dg B32 (n1 + sumL ns)).length c))
      have HP := Lib.hid (cell_put HW.out.c1 (.slice A (dg B32 (n1 + sumL ns)).length c))
      have HB := Lib.hid (HW.out.below.setCell (p := ⟨r + 1, 0, none⟩) (by rw [HR.out]; show r ≤ r + 1; omega) (.slice A (dg B32 (n1 + sumL ns)).length c))
      obtain ⟨z0, z1⟩ := cell_facts HW.out.c0
      obtain ⟨y0, y1⟩ := cell_facts HW.out.c1
      clear h1 h2
      go_wp2_with fail
      refine ret_cell1 rfl rfl (load_nat HP.out) ?_
      exact ⟨_, rfl, HQ.out, HB.out⟩
theorem sumA_rev (T : List Ent) (s : List UInt8) (l : List Int) : sumA T s l.reverse = sumA T s l := by
  induction l with
  | nil => rfl
  | cons a l ih =>
    rw [List.reverse_cons, sumA_app, ih, sumA_one]
    show _ = cntA T (s.drop (lenT T a)) + sumA T s l
    omega
theorem sum_pow {T : List Ent} (hT : OkT T) (s : List UInt8) (ih : ∀ k, 0 < k → k ≤ s.length → cntA T (s.drop k) ≤ 2 ^ (s.length - k)) : ∀ i, i ≤ s.length → sumA T s (begT T s i) + 2 ^ (s.length - i) ≤ 2 ^ s.length
  | 0, _ => by rw [begT_zero]; simp [sumA]
  | i + 1, h => by
    have h1 := sum_pow hT s ih i (by omega)
    rw [begT_succ, sumA_app]
    have h2 : 2 ^ (s.length - i) = 2 * 2 ^ (s.length - (i + 1)) := by
      rw [show s.length - i = (s.length - (i + 1)) + 1 by omega, Nat.pow_succ]; omega
    cases hf : findT T (s.take (i + 1)) with
    | none =>
      have e : sumA T s [] = 0 := rfl
      simp only [e]
      omega
    | some j =>
      have h3 : lenT T (j : Int) = i + 1 := by
        obtain ⟨_, _, h5, _, _⟩ := findT_len hT hf
        unfold lenT
        rw [h5, List.length_take]
        omega
      have h4 := ih (i + 1) (by omega) h
      simp only [sumA_one, h3]
      omega
theorem cnt_pow {T : List Ent} (hT : OkT T) : ∀ (n : Nat) (s : List UInt8), s.length ≤ n → cntA T s ≤ 2 ^ s.length
  | 0, s, h => by
    have : s = [] := List.eq_nil_of_length_eq_zero (by omega)
    subst this
    rw [cntA_nil]; simp
  | n + 1, s, h => by
    by_cases e : s = []
    · subst e; rw [cntA_nil]; simp
    · rw [cntA_rec hT e]
      unfold atA
      rw [sumA_rev]
      have := sum_pow hT s (fun k hk hkl => by
        have := cnt_pow hT n (s.drop k) (by rw [List.length_drop]; have := List.length_pos_iff.2 e; omega)
        rw [List.length_drop] at this
        exact this) s.length (Nat.le_refl _)
      exact Nat.le_trans (Nat.le_add_right _ _) this
theorem dg_pow {m n : Nat} (h : n ≤ 2 ^ m) : (dg B32 n).length ≤ m + 1 := by
  refine dg_len_le (by decide) ?_
  have h1 : 2 ^ m ≤ B32 ^ m := Nat.pow_le_pow_left (by decide) m
  have h2 : B32 ^ m < B32 ^ (m + 1) := Nat.pow_lt_pow_right (by decide) (by omega)
  omega
def cntJ (T : List Ent) (s : List UInt8) (j : Nat) : Nat := cntA T (s.drop j)
theorem cntJ_dg {T : List Ent} (hT : OkT T) (s : List UInt8) (j : Nat) : (dg B32 (cntJ T s j)).length ≤ s.length + 1 := by
  have h := cnt_pow hT (s.drop j).length (s.drop j) (Nat.le_refl _)
  have := dg_pow h
  rw [List.length_drop] at this
  unfold cntJ
  omega
theorem sumA_take (T : List Ent) (s : List UInt8) (l : List Int) (q : Nat) : sumA T s (l.take q) ≤ sumA T s l := by
  have h : sumA T s l = sumA T s (l.take q) + sumA T s (l.drop q) := by rw [← sumA_app, List.take_append_drop]
  omega
def fM (T : List Ent) (s : List UInt8) (m : Nat) : Nat → Nat := fun j => if m ≤ j then cntJ T s j else 0
def fQ (T : List Ent) (s : List UInt8) (i q : Nat) : Nat → Nat := fun j => if i < j then cntJ T s j else if j = i then sumA T (s.drop i) ((atP T s i).take q) else 0
theorem fQ_zero (T : List Ent) (s : List UInt8) (i j : Nat) : fM T s (i + 1) j = fQ T s i 0 j := by
  unfold fM fQ
  by_cases h : i < j
  · rw [if_pos (by omega), if_pos h]
  · rw [if_neg (by omega), if_neg h]
    split
    · simp [sumA]
    · rfl
theorem fQ_all {T : List Ent} (hT : OkT T) (s : List UInt8) (i : Nat) (hi : i < s.length) (j : Nat) : fQ T s i (atP T s i).length j = fM T s i j := by
  unfold fM fQ
  by_cases h : i < j
  · rw [if_pos h, if_pos (by omega)]
  · rw [if_neg h]
    by_cases e : j = i
    · subst e
      have hne : s.drop j ≠ [] := by
        intro e
        have h7 : (s.drop j).length = 0 := by rw [e]; rfl
        rw [List.length_drop] at h7
        omega
      rw [if_pos rfl, if_pos (Nat.le_refl _), List.take_length]
      unfold cntJ atP
      rw [cntA_rec hT hne]
    · rw [if_neg e, if_neg (by omega)]
theorem fQ_succ (T : List Ent) (s : List UInt8) (i q : Nat) (hq : q < (atP T s i).length) (j : Nat) : fQ T s i (q + 1) j = if j = i then fQ T s i q i + cntJ T s (i + lenT T ((atP T s i)[q])) else fQ T s i q j := by
  unfold fQ
  by_cases e : j = i
  · subst e
    rw [if_pos rfl, if_neg (Nat.lt_irrefl _), if_pos rfl, if_neg (Nat.lt_irrefl _), if_pos rfl, take_snoc hq, sumA_app, sumA_one]
    unfold cntJ
    rw [List.drop_drop]
  · simp [e]
theorem NatIs.keepS {w w' : World} {v : Value} {n g : Nat} (h : NatIs w v n) (k : Keep (fun x => x = g) w w') (hg : AllSl w g) : NatIs w' v n := by
  obtain ⟨A, c, rfl, h1, h2⟩ := h
  exact ⟨A, c, rfl, Sl1.keepS h1 k hg (fun x A n c => by simp [u32V]), h2⟩
theorem NatIs.zero (w : World) : NatIs w (.agg #[.slice none 0 0]) 0 := ⟨none, 0, by rw [dg_zero]; rfl, by rw [dg_zero]; exact Sl1.nil _ _ _, by rw [dg_zero]; exact Nat.le_refl _⟩
structure FrIs (w W : World) (g n : Nat) (f : Nat → Nat) (vs : List Value) : Prop where
  row : W.ownsRow w.heap.size 59 1 (.slice (some ⟨g, 0, none⟩) (n + 1) (n + 1)) (n + 1) vs
  nat : ∀ j, j ≤ n → ∃ A k c, vs[j]? = some (.slice A k c) ∧ NatIs W (.agg #[.slice A k c]) (f j)
section
variable {w W W' : World} {g n : Nat} {f : Nat → Nat} {vs : List Value}
theorem FrIs.below (h : FrIs w W g n f vs) (hb : Below W.heap.size W W') : FrIs w W' g n f vs :=
  ⟨own_below h.row hb (Nat.le_refl _), fun j hj => by
    obtain ⟨A, k, c, h1, h2⟩ := h.nat j hj
    exact ⟨A, k, c, h1, h2.below hb (Nat.le_refl _)⟩⟩
theorem FrIs.congr {f' : Nat → Nat} (h : FrIs w W g n f vs) (e : ∀ j, j ≤ n → f j = f' j) : FrIs w W g n f' vs :=
  ⟨h.row, fun j hj => by
    obtain ⟨A, k, c, h1, h2⟩ := h.nat j hj
    exact ⟨A, k, c, h1, by rw [← e j hj]; exact h2⟩⟩
theorem FrIs.at' (h : FrIs w W g n f vs) (j : Nat) (hj : j ≤ n) : ∃ A k c, W.cell? ⟨g, j, none⟩ = some (.slice A k c) ∧ W.frozen? ⟨g, j, none⟩ = false ∧ NatIs W (.agg #[.slice A k c]) (f j) := by
  obtain ⟨A, k, c, h1, h2⟩ := h.nat j hj
  obtain ⟨q1, q2⟩ := rown_at h.row j _ h1
  exact ⟨A, k, c, q1, q2, h2⟩
theorem FrIs.tag (h : FrIs w W g n f vs) : ∃ cs fz, W.heap[g]? = some (.cells cs 59 fz) := row_tag h.row rfl
theorem FrIs.allSl (h : FrIs w W g n f vs) : AllSl W g := by
  intro o v hv
  rcases h.row.2 with ⟨h1, _⟩ | ⟨g', cap, cur, h1, h2, h3, h4, h5, h6, h7⟩
  · cases h1
  · injection h1 with h1 e2 e3
    injection h1 with h1
    injection h1 with h1
    subst h1
    subst e3
    rw [blk_cell h3] at hv
    have hlt := (Array.getElem?_eq_some_iff.1 hv).1
    have h8 : vs[o]? = some v := by
      rw [← h7, List.getElem?_take, if_pos (by omega), Array.getElem?_toList]
      exact hv
    obtain ⟨A, k, c, q1, _⟩ := h.nat o (by omega)
    rw [h8] at q1
    injection q1 with q1
    exact ⟨A, k, c, q1⟩
theorem FrIs.put (h : FrIs w W g n f vs) {j m : Nat} (hj : j ≤ n) {A : Option Addr} {k c : Nat} (hv : NatIs W (.agg #[.slice A k c]) m) : FrIs w (W.setCell ⟨g, j, none⟩ (.slice A k c)) g n (fun x => if x = j then m else f x) (vs.set j (.slice A k c)) := by
  have hk : Keep (fun x => x = g) W (W.setCell ⟨g, j, none⟩ (.slice A k c)) := (Keep.refl (fun x => x = g) W).setCell (p := ⟨g, j, none⟩) (.inl rfl) _
  have hs := h.allSl
  refine ⟨own_set h.row j _, fun x hx => ?_⟩
  by_cases e : x = j
  · subst e
    have hl : x < vs.length := by have := h.row.1; omega
    exact ⟨A, k, c, by rw [List.getElem?_set, if_pos rfl, if_pos hl], by rw [if_pos rfl]; exact hv.keepS hk hs⟩
  · obtain ⟨A2, k2, c2, h1, h2⟩ := h.nat x hx
    exact ⟨A2, k2, c2, by rw [List.getElem?_set, if_neg (fun e2 => e e2.symm)]; exact h1, by rw [if_neg e]; exact h2.keepS hk hs⟩
end
theorem info_natC : (Tryz.prog.info? 59).map (fun i => (i.zero, i.size, i.bytes)) = some (some (.agg #[.slice none 0 0]), 1, 24) := by kernel_rfl
theorem made_nats (n : Nat) : (madeCells (Value.agg #[.slice none 0 0]).cells (n * 1)).toList = List.replicate n (.slice none 0 0) := by
  apply List.ext_getElem
  · simp [madeCells]
  · intro i h1 h2
    simp [madeCells, Value.cells, Nat.mod_one]
theorem make_nats (n : Nat) (w : World) (hn : n ≤ 100000) : ∃ w', (Instr.makeSlice 138 (.int .i64 ((n : Int) + 1)) (.int .i64 ((n : Int) + 1))).run Tryz.prog w = .ok (.slice (some ⟨w.heap.size, 0, none⟩) (n + 1) (n + 1)) w' ∧
    FrIs w w' w.heap.size n (fun _ => 0) (List.replicate (n + 1) (.slice none 0 0)) ∧ Below w.heap.size w w' := by
  obtain ⟨i, hi, hz0, hz1, hz2⟩ := info_parts info_natC
  obtain ⟨w', h1, h2, h3⟩ := run_makeSlice_full (P := Tryz.prog) w w.heap.size 138 59 i (.agg #[.slice none 0 0]) 1 Tryz.underlying138 hi hz0 hz1 .i64 .i64 (n + 1) (by omega) (by rw [hz2]; omega) (by unfold maxLen; omega) (Nat.le_refl _)
  rw [made_nats] at h2
  refine ⟨w', h1, ⟨h2, fun j hj => ⟨none, 0, 0, ?_, NatIs.zero w'⟩⟩, (Keep.of_grown (F := fun _ => False) h3 (fun k hk => by cases hk)).below (Nat.le_refl _) (fun x hx => hx.elim)⟩
  simp [List.getElem?_replicate]
  omega
theorem lgen_al {K : Act → World → Prop} {a : Act} {V : World} {o : Obj} (h : ∀ W', Below V.heap.size V W' → W'.heap[V.heap.size]? = some o → K a W') : K a (V.alloc o) :=
  h _ ((Below.refl _ _).alloc (Nat.le_refl _) o) (blk_new V o)
theorem lnats_one {V : World} {g : Nat} {s : Value} {n : Nat} {t : TypeId} (h : NatIs V (.agg #[s]) n) (hc : V.heap[g]? = some (.cells #[s] t)) : NatsIs V (some ⟨g, 0, none⟩) [n] := by
  intro i m hm
  rcases i with _ | i <;> simp at hm
  subst hm
  exact ⟨g, 0, s, rfl, by have := blk_cell hc 0; simpa using this, h⟩
theorem Sl1.cellO {α : Type} {W : World} {A : Option Addr} {enc : α → Value} {l : List α} (h : Sl1 W A enc l) {p : Addr} (hp : ∀ i x b o, l[i]? = some x → A = some ⟨b, o, none⟩ → (⟨b, o + i, none⟩ : Addr) ≠ p) (u : Value) : Sl1 (W.setCell p u) A enc l := by
  intro i x hx
  obtain ⟨b, o, e, hc⟩ := h i x hx
  exact ⟨b, o, e, (World.cell?_setCell_other _ p ⟨b, o + i, none⟩ u (hp i x b o hx e).symm).trans hc⟩
theorem NatIs.cellK {W : World} {v : Value} {n : Nat} (h : NatIs W v n) {p : Addr} {y : Value} (hp : W.cell? p = some y) (hy : ∀ x, y ≠ .int .u32 x) (u : Value) : NatIs (W.setCell p u) v n := by
  obtain ⟨A, c, rfl, h1, h2⟩ := h
  refine ⟨A, c, rfl, Sl1.cellO h1 (fun i x b o hx e e2 => ?_) u, h2⟩
  obtain ⟨b', o', e', hc⟩ := h1 i x hx
  rw [e] at e'
  injection e' with e'
  injection e' with e1 e3
  subst e1
  subst e3
  rw [e2, hp] at hc
  injection hc with hc
  exact hy _ hc
theorem NatIs.cell0 {W : World} {v : Value} {n b0 o0 : Nat} (h : NatIs W v n) {y : Value} (hp : W.cell? ⟨b0, o0, none⟩ = some (.int .u32 0)) (hq : W.cell? ⟨b0, o0 + 1, none⟩ = some y) (hy : ∀ x, y ≠ .int .u32 x) (u : Value) : NatIs (W.setCell ⟨b0, o0, none⟩ u) v n := by
  obtain ⟨A, c, rfl, h1, h2⟩ := h
  refine ⟨A, c, rfl, Sl1.cellO h1 (fun i x b o hx e e2 => ?_) u, h2⟩
  injection e2 with e4 e5
  obtain ⟨b', o', e', hc⟩ := h1 i x hx
  rw [e] at e'
  injection e' with e'
  injection e' with e1 e3
  subst e1
  subst e3
  subst e4
  rw [e5, hp] at hc
  injection hc with hc
  unfold u32V at hc
  injection hc with _ hc
  by_cases hl : i + 1 < (dg B32 n).length
  · obtain ⟨b2, o2, e6, hc2⟩ := h1 (i + 1) _ (List.getElem?_eq_getElem hl)
    rw [e] at e6
    injection e6 with e6
    injection e6 with e7 e8
    subst e7
    subst e8
    rw [← Nat.add_assoc, e5, hq] at hc2
    injection hc2 with hc2
    exact hy _ hc2
  · have hi := (List.getElem?_eq_some_iff.1 hx).1
    have hx0 : x = 0 := by omega
    rcases dg_last (b := B32) (by decide) n with e9 | e9
    · rw [e9] at hi; simp at hi
    · have hii : (dg B32 n).length - 1 = i := by omega
      rw [hii] at e9
      unfold atL at e9
      rw [hx, hx0] at e9
      exact e9 rfl
theorem FrIs.cellX {w W : World} {g n : Nat} {f : Nat → Nat} {vs : List Value} (h : FrIs w W g n f vs) {p : Addr} (hp : p.block ≠ g) (u : Value) (hn : ∀ v m, NatIs W v m → NatIs (W.setCell p u) v m) : FrIs w (W.setCell p u) g n f vs :=
  ⟨own_keep h.row ((Keep.refl (fun x => x = p.block) W).setCell (.inl rfl) u) (fun x hx e => by
    simp only [Value.ownBlock, Option.some.injEq] at hx
    exact hp (by omega)), fun j hj => by
    obtain ⟨A, k, c, h1, h2⟩ := h.nat j hj
    exact ⟨A, k, c, h1, hn _ _ h2⟩⟩
structure LFind (w W : World) (g n : Nat) (f : Nat → Nat) (vs : List Value) : Prop where
  fr : FrIs w W g n f vs
  blw : Below w.heap.size w W
  lo : w.heap.size ≤ g
section
variable {w W W' : World} {base lb tr g n : Nat} {p : VocP} {s : List UInt8} {A : Option Addr} {c : Nat} {dn st se : Int} {fv : Value} {vals : List Value} {f : Nat → Nat} {vs : List Value}
theorem LFind.below (h : LFind w W g n f vs) (hb : Below W.heap.size W W') : LFind w W' g n f vs := ⟨h.fr.below hb, h.blw.trans (hb.mono h.blw.size), h.lo⟩
theorem LFind.drew (h : LFind w W g n f vs) : LFind w W.drew g n f vs := h.below (Below.refl _ _).drew
theorem LFind.put (h : LFind w W g n f vs) {j m : Nat} (hj : j ≤ n) {A : Option Addr} {k c : Nat} (hv : NatIs W (.agg #[.slice A k c]) m) : LFind w (W.setCell ⟨g, j, none⟩ (.slice A k c)) g n (fun x => if x = j then m else f x) (vs.set j (.slice A k c)) :=
  ⟨h.fr.put hj hv, h.blw.setCell (p := ⟨g, j, none⟩) h.lo _, h.lo⟩
theorem LFind.congr {f' : Nat → Nat} (h : LFind w W g n f vs) (e : ∀ j, j ≤ n → f j = f' j) : LFind w W g n f' vs := ⟨h.fr.congr e, h.blw, h.lo⟩
theorem at_len {T : List Ent} (hT : OkT T) (s : List UInt8) {k q : Nat} (hk : k < s.length) (hq : q < (atP T s k).length) :
    0 < lenT T ((atP T s k)[q]) ∧ k + lenT T ((atP T s k)[q]) ≤ s.length ∧ k < k + lenT T ((atP T s k)[q]) ∧ fQ T s k q k + cntJ T s (k + lenT T ((atP T s k)[q])) ≤ cntJ T s k := by
  have h1 := atA_has hT (s := s.drop k) (x := (atP T s k)[q]) (List.getElem_mem hq)
  rw [List.length_drop] at h1
  refine ⟨h1.2.1, by omega, by omega, ?_⟩
  have hne : s.drop k ≠ [] := by
    intro e
    have h7 : (s.drop k).length = 0 := by rw [e]; rfl
    rw [List.length_drop] at h7
    omega
  have h2 := fQ_succ T s k q hq k
  rw [if_pos rfl] at h2
  rw [← h2]
  unfold fQ cntJ
  rw [if_neg (Nat.lt_irrefl _), if_pos rfl, cntA_rec hT hne]
  exact sumA_take T _ _ _
theorem ids_at (h : LatIs W base lb tr p.vb p.T s s.length A c dn st se fv vals) {k : Nat} (hk : k < s.length) {v : Value} (hv : vals[k]? = some v) : W.ownsRow base 3 1 v (atP p.T s k).length ((atP p.T s k).map (Value.int .i64)) := by
  obtain ⟨v2, h1, h2⟩ := h.ids k hk
  rw [hv] at h1
  injection h1 with h1
  subst h1
  exact h2
theorem lat_end (h : LatIs W base lb tr p.vb p.T s s.length A c dn st se fv vals) (hf : LFind w W g s.length f vs) (hlt : lb < w.heap.size) (hfv : ∀ x, fv ≠ .int .u32 x) (he : ∀ j, j ≤ s.length → f j = cntJ p.T s j) :
    W.cell? ⟨lb, 7, none⟩ = some fv ∧ W.frozen? ⟨lb, 7, none⟩ = false ∧ LatIs (W.setCell ⟨lb, 7, none⟩ (.slice (some ⟨g, 0, none⟩) (s.length + 1) (s.length + 1))) base lb tr p.vb p.T s s.length A c dn st se (.slice (some ⟨g, 0, none⟩) (s.length + 1) (s.length + 1)) vals ∧
    FrIs w (W.setCell ⟨lb, 7, none⟩ (.slice (some ⟨g, 0, none⟩) (s.length + 1) (s.length + 1))) g s.length (cntJ p.T s) vs ∧ Keep (fun x => x = lb) w (W.setCell ⟨lb, 7, none⟩ (.slice (some ⟨g, 0, none⟩) (s.length + 1) (s.length + 1))) := by
  have hk : Keep (fun x => x = lb) W (W.setCell ⟨lb, 7, none⟩ (.slice (some ⟨g, 0, none⟩) (s.length + 1) (s.length + 1))) := (Keep.refl (fun x => x = lb) W).setCell (p := ⟨lb, 7, none⟩) (.inl rfl) _
  have hb := blk_set h.blk 7 (.slice (some ⟨g, 0, none⟩) (s.length + 1) (s.length + 1))
  simp only [List.setIfInBounds_toArray, List.set_cons_zero, List.set_cons_succ] at hb
  have hfx := FrIs.cellX (p := ⟨lb, 7, none⟩) hf.fr (by have := hf.lo; show lb ≠ g; omega) (.slice (some ⟨g, 0, none⟩) (s.length + 1) (s.length + 1)) (fun v m hm => hm.cellK h.c7 hfv _)
  exact ⟨h.c7, h.z 7, h.put hk hb, hfx.congr he, (Keep.of_below hf.blw).trans hk (fun x hx => .inl hx)⟩
set_option maxHeartbeats 8000000 in
theorem lfind_any {b0 : Nat} {q : Option Nat} (h : LatIs w base lb tr p.vb p.T s s.length A c dn st se fv vals) (hv : VocAt w b0 p q) (hT : OkT p.T) (hs : s.length ≤ 4000) (hfv : ∀ x, fv ≠ .int .u32 x) :
    Calls Tryz.prog 74 #[.pointer (some ⟨lb, 0, none⟩)] w fun e w' => e = .returned (.tuple #[]) ∧ ∃ g vs, LatIs w' base lb tr p.vb p.T s s.length A c dn st se (.slice (some ⟨g, 0, none⟩) (s.length + 1) (s.length + 1)) vals ∧ FrIs w w' g s.length (cntJ p.T s) vs ∧ Keep (fun x => x = lb) w w' ∧ w.heap.size ≤ g := by
  have HLAT : Hid (∀ V, Below w.heap.size w V → LatIs V base lb tr p.vb p.T s s.length A c dn st se fv vals) := Lib.hid (fun V hV => h.below hV)
  have HSZ : Hid (∀ V id, Below w.heap.size w V → Calls Tryz.prog 31 #[.pointer (some ⟨lb, 0, none⟩), .int .i64 id] V fun e w' => e = .returned (.int .i64 (lenT p.T id : Nat)) ∧ w' = V) := Lib.hid (fun V id hV => lsize_any (h.below hV) (hv.below hV (Nat.le_refl _)) id)
  have HI : Hid (∀ V, Calls Tryz.prog 53 #[.int .u64 1] V fun e w' => ∃ v, e = .returned v ∧ NatIs w' v 1 ∧ Below V.heap.size V w') := Lib.hid (fun V => int_any 1 V (by decide))
  have HT := Lib.hid hT
  have HFV := Lib.hid hfv
  have HSL := Lib.hid hs
  have HDG : Hid (∀ j, (dg B32 (cntJ p.T s j)).length ≤ 100000) := Lib.hid (fun j => by have := cntJ_dg hT s j; omega)
  have HLB := Lib.hid h.lt
  have HDZ : Hid ((bs s).size = s.length) := Lib.hid (bs_size s)
  have c2 := h.c2
  obtain ⟨W1, hmk, hfr, hbl⟩ := make_nats s.length w (by omega)
  rw [← bs_size s] at hmk
  have HF : Hid (LFind w W1 w.heap.size s.length (fun _ => 0) (List.replicate (s.length + 1) (.slice none 0 0))) := Lib.hid ⟨hfr, hbl, Nat.le_refl _⟩
  clear h hv hT hs hfr hbl hfv
  obtain ⟨Z, hZ⟩ : ∃ Z, bs s = Z := ⟨_, rfl⟩
  have HZ := Lib.hid hZ
  rw [hZ] at HDZ c2 hmk
  clear hZ
  have wz : IntKind.i64.wrap ((Z.size : Int) + 1) = (Z.size : Int) + 1 := IntWalk.i64_in _ (by have := HDZ.out; have := HSL.out; omega)
  go_enter Tryz.func74, Tryz.ntmps74
  go_upto_region 1 with fail
  clear c2 hmk wz
  obtain ⟨g, hg⟩ : ∃ g, w.heap.size = g := ⟨_, rfl⟩
  have HG := Lib.hid hg
  have HGL : Hid (w.heap.size ≤ g) := Lib.hid (Nat.le_of_eq hg)
  rw [hg] at HF
  rw [hg]
  clear hg
  obtain ⟨vs0, hvs⟩ : ∃ v, List.replicate (s.length + 1) (Value.slice none 0 0) = v := ⟨_, rfl⟩
  rw [hvs] at HF
  clear hvs
  have c2 := (HLAT.out _ (by have := HF.out.blw; exact this)).c2
  rw [HZ.out] at c2
  obtain ⟨N1, hN1⟩ : ∃ n, Z.size + 1 = n := ⟨_, rfl⟩
  have HN1 := Lib.hid hN1
  rw [hN1]
  have q0 : (0 : Int) ≤ (Z.size : Int) := by omega
  have q1 : (Z.size : Int) < (N1 : Int) := by omega
  clear hN1
  obtain ⟨A0, k0, d0, e0, z0, n0⟩ := HF.out.fr.at' Z.size (by have := HDZ.out; omega)
  have HIL := Lib.hid HI.out
  refine wp_region_D (Ds := [8]) (S := fun V => V.cell? ⟨lb, 2, none⟩ = some (.string Z)) (by kernel_rfl) (by exact c2) (fun hHeld => ?_)
  (replace HF := Lib.hid HF.out.drew); clear c2 e0 z0 n0; generalize W1.drew = W2 at *
  refine tkP 0 13 ?_ rfl (.inl ⟨by rfl, ?_⟩) ?_; rotate_left; focus (intro w' _; go_simp; (try with_reducible rfl))
  try simp only [sIB, sC0, sCS]
  refine tkP 1 14 ?_ rfl (.inl ⟨by rfl, ?_⟩) ?_; rotate_left; focus (intro w' _; go_simp; (try with_reducible rfl))
  try simp only [sIB, sC0, sCS]
  refine tkP 2 15 ?_ rfl (.inl ⟨by rfl, ?_⟩) ?_; rotate_left; focus (intro w' _; go_simp; (try with_reducible rfl))
  try simp only [sIB, sC0, sCS]
  refine tkP 3 16 ?_ rfl (.inl ⟨by rfl, ?_⟩) ?_; rotate_left; focus (intro w' _; go_simp; (try with_reducible rfl))
  try simp only [sIB, sC0, sCS]
  refine tkD 4 17 ?_ rfl hHeld (.inl ⟨by rfl, ?_⟩) ?_; rotate_left; focus (intro w' hSw; (try dsimp only at hSw); go_simp; (try with_reducible rfl))
  try simp only [sIB, sC0, sCS]
  refine tkD 5 18 ?_ rfl hHeld (.inl ⟨by rfl, ?_⟩) ?_; rotate_left; focus (intro w' hSw; (try dsimp only at hSw); go_simp; (try with_reducible rfl))
  try simp only [sIB, sC0, sCS]
  refine wpAnyD_one (i := 6) (by kernel_rfl) rfl (by rfl) (fun K hK => ?_)
  go_simp; refine (HI.out _).mono ?_; rintro e W3 ⟨v, rfl, ⟨A3, c3, rfl, hn1, hn2⟩, hb⟩; have HF3 := Lib.hid (HF.out.below hb); have HN3 : Hid (NatIs W3 (.agg #[.slice A3 (dg B32 1).length c3]) 1) := Lib.hid ⟨A3, c3, rfl, hn1, hn2⟩; have h := below_cell hb (Nat.le_refl _) hHeld; clear hn1 hn2 hb; obtain ⟨n3, hn3⟩ : ∃ n, (dg B32 1).length = n := ⟨_, rfl⟩; rw [hn3] at HN3; rw [hn3]; clear hn3; go_simp
  refine hK.out _ _ h (fun hHeld => ?_)
  clear hK K
  try simp only [Act.put, sIB, sC0, sCS]
  refine tkP 7 20 ?_ rfl (.inl ⟨by rfl, ?_⟩) ?_; rotate_left; focus (intro w' _; go_simp; (try with_reducible rfl))
  try simp only [sIB, sC0, sCS]
  refine wpAnyD_last (D := 8) (by decide) (by kernel_rfl) rfl (by rfl) (fun K hK => ?_)
  obtain ⟨A4, k4, d4, e4, z4, _⟩ := HF3.out.fr.at' Z.size (by have := HDZ.out; omega); have HF4 := Lib.hid (HF3.out.put (j := Z.size) (by have := HDZ.out; omega) HN3.out); go_simp
  refine hK.out _ _ ?_
  clear hK K
  try simp only [Act.put, sIB, sC0, sCS]
  refine wpAnyD_done (by kernel_rfl) ?_ _
  clear h hHeld e4 z4 HN3 HF3 HF
  have HF : Hid (LFind w (W3.setCell ⟨g, Z.size, none⟩ (.slice A3 n3 c3)) g s.length (fM p.T s s.length) (vs0.set Z.size (.slice A3 n3 c3))) := Lib.hid (HF4.out.congr (fun j hj => by
    unfold fM cntJ
    by_cases e : j = Z.size
    · rw [if_pos e, if_pos (by rw [e, HDZ.out]; exact Nat.le_refl _)]
      have : s.drop j = [] := List.drop_eq_nil_iff.2 (by rw [e, HDZ.out]; exact Nat.le_refl _)
      rw [this, cntA_nil]
    · rw [if_neg e, if_neg (by have := HDZ.out; omega)]))
  clear HF4
  generalize W3.setCell ⟨g, Z.size, none⟩ (.slice A3 n3 c3) = W4 at *
  generalize vs0.set Z.size (.slice A3 n3 c3) = vs1 at *
  have c2 := (HLAT.out _ HF.out.blw).c2
  rw [HZ.out] at c2
  have ws1 : IntKind.i64.wrap ((Z.size : Int) - 1) = (Z.size : Int) - 1 := IntWalk.i64_in _ (by have := HDZ.out; have := HSL.out; omega)
  go_wp2_with fail
  clear c2 ws1
  go_loopg [3] Z.size (fun n i W => ∃ (x : Int) (vs : List Value), x = (n : Int) - 1 ∧ n ≤ Z.size ∧ i = .int .i64 x ∧ LFind w W g s.length (fM p.T s n) vs)
  case atStart => exact ⟨_, vs1, rfl, Nat.le_refl _, rfl, by rw [HDZ.out]; exact HF.out⟩
  case round =>
    obtain ⟨x, vs, hx, hle, rfl, hf⟩ := hrel
    clear HF
    rename World => W
    obtain ⟨m, hm⟩ : ∃ m, m = gk := ⟨_, rfl⟩
    subst hm
    have HF := Lib.hid hf
    have HLE := Lib.hid hle
    clear hf hle
    cases m with
    | zero =>
      have hx0 : x < 0 := by omega
      clear hx
      have HC := Lib.hid (lat_end (HLAT.out _ HF.out.blw) HF.out HLB.out HFV.out (fun j hj => by unfold fM; rw [if_pos (Nat.zero_le _)]))
      have c7 := HC.out.1
      have z7 := HC.out.2.1
      go_wp2_with fail
      go_end0
      have hN : s.length + 1 = N1 := by rw [← HDZ.out]; exact HN1.out
      have h9 := HC.out
      rw [hN] at h9 ⊢
      exact ⟨rfl, g, vs, h9.2.2.1, h9.2.2.2.1, h9.2.2.2.2, HGL.out⟩
    | succ k =>
      have hxk : x = (k : Int) := by omega
      subst hxk
      clear hx
      have hks : k < s.length := by have := HLE.out; have := HDZ.out; omega
      have HKS := Lib.hid hks
      have hlat := HLAT.out _ HF.out.blw
      have c3 := hlat.c3
      obtain ⟨vi, hv1, hv2⟩ := hlat.ids k hks
      obtain ⟨A2, c2, rfl⟩ := own_slice hv2
      obtain ⟨gr, capr, e1, _, _, hcr⟩ := own_open hlat.row (by omega)
      injection e1 with e1 e2 e3
      subst e1
      have d0 := (hcr k _ hv1).1
      have HIDS : Hid (∀ V, Below w.heap.size w V → Sl1 V A2 (Value.int .i64) (atP p.T s k)) := Lib.hid (fun V hV => own_sl1 (ids_at (HLAT.out V hV) hks hv1))
      have p0 : (0 : Int) ≤ (k : Int) := by omega
      have p1 : (k : Int) < (s.length : Int) := by omega
      have ws3 : IntKind.i64.wrap ((k : Int) - 1) = (k : Int) - 1 := IntWalk.i64_in _ (by have := HSL.out; omega)
      clear hlat hv1 hv2 hcr e2 e3 hks
      go_wp2_with fail
      clear c3 d0
      obtain ⟨N, hN⟩ : ∃ N, (atP p.T s k).length = N := ⟨_, rfl⟩
      have HNN := Lib.hid hN
      rw [hN]
      clear hN
      go_loopg [39] N (fun n i W => ∃ (q : Nat) (vs : List Value), q + n = N ∧ i = .int .i64 (q : Int) ∧ LFind w W g s.length (fQ p.T s k q) vs)
      case atStart => exact ⟨0, vs, by omega, rfl, HF.out.congr (fun j _ => fQ_zero _ _ _ _)⟩
      case round =>
        obtain ⟨q, vs, hq, rfl, hf⟩ := hrel
        clear HF
        rename World => W
        have HF := Lib.hid hf
        have HQ := Lib.hid hq
        clear hf hq
        by_cases hlt : q < N
        · have hq2 : q < (atP p.T s k).length := by have := HNN.out; omega
          have r0 : (0 : Int) ≤ (q : Int) := by omega
          have r1 : (q : Int) < (N : Int) := by omega
          have ws4 : IntKind.i64.wrap ((q : Int) + 1) = (q : Int) + 1 := IntWalk.i64_in _ (by have := HNN.out; have := atP_len p.T s k; have := HSL.out; omega)
          obtain ⟨b1, o1, hA1, e1⟩ := (HIDS.out W HF.out.blw).at q hq2
          obtain ⟨id, hid⟩ : ∃ id, (atP p.T s k)[q] = id := ⟨_, rfl⟩
          replace e1 : W.cell? ⟨b1, o1 + q, none⟩ = some (.int .i64 id) := by rw [← hid]; exact e1
          obtain ⟨m1, m2, m3, m4⟩ := at_len HT.out s HKS.out hq2
          rw [hid] at m1 m2 m3 m4
          obtain ⟨sz, hsz⟩ : ∃ z, lenT p.T id = z := ⟨_, rfl⟩
          have hfs : ∀ j, fQ p.T s k (q + 1) j = if j = k then fQ p.T s k q k + cntJ p.T s (k + sz) else fQ p.T s k q j := fun j => by rw [fQ_succ p.T s k q hq2 j, hid, hsz]
          have HFS := Lib.hid hfs
          have HSZ2 := Lib.hid (fun V (hV : Below w.heap.size w V) => HSZ.out V id hV)
          rw [hsz] at HSZ2 m1 m2 m3 m4
          obtain ⟨J, hJ⟩ : ∃ J, k + sz = J := ⟨_, rfl⟩
          rw [hJ] at HFS m2 m3 m4
          have wks : IntKind.i64.wrap ((k : Int) + (sz : Int)) = (J : Int) := by rw [show (k : Int) + (sz : Int) = (J : Int) by omega]; exact IntWalk.i64_in _ (by have := HSL.out; omega)
          have J0 : (0 : Int) ≤ (J : Int) := by omega
          have J1 : (J : Int) < (N1 : Int) := by have := HN1.out; have := HDZ.out; omega
          have K1 : (k : Int) < (N1 : Int) := by have := HN1.out; have := HDZ.out; have := HKS.out; omega
          obtain ⟨Ai, ki, ci, f0, f1, f2⟩ := HF.out.fr.at' k (by have := HKS.out; omega)
          obtain ⟨Aj, kj, cj, g0, g1, g2⟩ := HF.out.fr.at' J m2
          obtain ⟨fi, hfi⟩ : ∃ n, fQ p.T s k q k = n := ⟨_, rfl⟩
          obtain ⟨fj, hfj⟩ : ∃ n, cntJ p.T s J = n := ⟨_, rfl⟩
          have hgj : fQ p.T s k q J = cntJ p.T s J := by unfold fQ; rw [if_pos (by omega)]
          rw [hgj, hfj] at g2
          rw [hfi] at f2
          rw [hfi, hfj] at HFS m4
          have HNI := Lib.hid f2
          have HNJ := Lib.hid g2
          have hdg1 : (dg B32 (fi + fj)).length ≤ 100000 := Nat.le_trans (dg_len_mono (by decide) m4) (HDG.out k)
          have hdg2 : (dg B32 fi).length ≤ 100000 := Nat.le_trans (dg_len_mono (by decide) (Nat.le_trans (Nat.le_add_right _ _) m4)) (HDG.out k)
          have hdg3 : (dg B32 fj).length ≤ 100000 := by rw [← hfj]; exact HDG.out J
          have HD := Lib.hid (And.intro hdg1 (And.intro hdg2 hdg3))
          subst hA1
          clear hq2 hid hsz hfs hJ hgj hfi hfj f1 f2 g1 g2 m1 m3 m4 hdg1 hdg2 hdg3
          go_upto_region 8 with fail
          clear e1
          refine wp_region_D (Ds := [17]) (S := fun V => V.cell? ⟨g, k, none⟩ = some (.slice Ai ki ci) ∧ V.cell? ⟨g, J, none⟩ = some (.slice Aj kj cj)) (by kernel_rfl) (by exact And.intro f0 g0) (fun hHeld => ?_)
          (replace HF := Lib.hid HF.out.drew); (replace HNI := Lib.hid (HNI.out.below (Below.refl _ _).drew (Nat.le_refl _))); (replace HNJ := Lib.hid (HNJ.out.below (Below.refl _ _).drew (Nat.le_refl _))); clear f0 g0; generalize W.drew = W5 at *
          refine tkP 0 43 ?_ rfl (.inl ⟨by rfl, ?_⟩) ?_; rotate_left; focus (intro w' _; go_simp; (try with_reducible rfl))
          try simp only [sIB, sC0, sCS]
          refine tkP 1 44 ?_ rfl (.inl ⟨by rfl, ?_⟩) ?_; rotate_left; focus (intro w' _; go_simp; (try with_reducible rfl))
          try simp only [sIB, sC0, sCS]
          refine tkP 2 45 ?_ rfl (.inl ⟨by rfl, ?_⟩) ?_; rotate_left; focus (intro w' _; go_simp; (try with_reducible rfl))
          try simp only [sIB, sC0, sCS]
          refine tkP 3 46 ?_ rfl (.inl ⟨by rfl, ?_⟩) ?_; rotate_left; focus (intro w' _; go_simp; (try with_reducible rfl))
          try simp only [sIB, sC0, sCS]
          refine tkP 4 47 ?_ rfl (.inl ⟨by rfl, ?_⟩) ?_; rotate_left; focus (intro w' _; go_simp; (try with_reducible rfl))
          try simp only [sIB, sC0, sCS]
          refine tkP 6 49 ?_ rfl (.inl ⟨by rfl, ?_⟩) ?_; rotate_left; focus (intro w' _; go_simp; (try with_reducible rfl))
          try simp only [sIB, sC0, sCS]
          refine tkP 7 50 ?_ rfl (.inl ⟨by rfl, ?_⟩) ?_; rotate_left; focus (intro w' _; go_simp; (try with_reducible rfl))
          try simp only [sIB, sC0, sCS]
          refine tkP 8 51 ?_ rfl (.inl ⟨by rfl, ?_⟩) ?_; rotate_left; focus (intro w' _; go_simp; (try with_reducible rfl))
          try simp only [sIB, sC0, sCS]
          refine tkP 9 52 ?_ rfl (.inl ⟨by rfl, ?_⟩) ?_; rotate_left; focus (intro w' _; go_simp; (try with_reducible rfl))
          try simp only [sIB, sC0, sCS]
          refine tkD 5 48 ?_ rfl hHeld (.inl ⟨by rfl, ?_⟩) ?_; rotate_left; focus (intro w' hSw; (try dsimp only at hSw); go_simp; (try with_reducible rfl))
          try simp only [sIB, sC0, sCS]
          refine wpAnyD_one (i := 10) (by kernel_rfl) rfl (by rfl) (fun K hK => ?_)
          go_simp; refine (HSZ2.out _ HF.out.blw).mono ?_; rintro e W6 ⟨rfl, hw⟩; rw [hw]; clear hw W6; have h := hHeld; go_simp
          refine hK.out _ _ h (fun hHeld => ?_)
          clear hK K
          try simp only [Act.put, sIB, sC0, sCS]
          refine tkP 11 54 ?_ rfl (.inl ⟨by rfl, ?_⟩) ?_; rotate_left; focus (intro w' _; go_simp; (try with_reducible rfl))
          try simp only [sIB, sC0, sCS]
          refine tkP 12 55 ?_ rfl (.inl ⟨by rfl, ?_⟩) ?_; rotate_left; focus (intro w' _; go_simp; (try with_reducible rfl))
          try simp only [sIB, sC0, sCS]
          refine tkD 13 56 ?_ rfl hHeld (.inl ⟨by rfl, ?_⟩) ?_; rotate_left; focus (intro w' hSw; (try dsimp only at hSw); go_simp; (try with_reducible rfl))
          try simp only [sIB, sC0, sCS]
          refine wpAnyD_one (i := 14) (by kernel_rfl) rfl (by rfl) (fun K hK => ?_)
          go_simp; refine lgen_al (fun W7 hW7 hN7 => ?_); (replace HF := Lib.hid (HF.out.below hW7)); (replace HNI := Lib.hid (HNI.out.below hW7 (Nat.le_refl _))); (replace HNJ := Lib.hid (HNJ.out.below hW7 (Nat.le_refl _))); have HN7 := Lib.hid hN7; have h := And.intro (below_cell hW7 (Nat.le_refl _) hHeld.1) (below_cell hW7 (Nat.le_refl _) hHeld.2); clear hW7 hN7
          refine hK.out _ _ h (fun hHeld => ?_)
          clear hK K
          try simp only [Act.put, sIB, sC0, sCS]
          refine wpAnyD_one (i := 15) (by kernel_rfl) rfl (by rfl) (fun K hK => ?_)
          go_simp; refine (add_any _ fi [fj] _ 1 _ HNI.out (lnats_one HNJ.out HN7.out) (by simp) (by intro k hk; rcases k with _ | k; exact HD.out.2.1; (have e : sumL ([fj].take (k + 1)) = fj := by simp [sumL]); rw [e]; exact HD.out.1) (by intro n hn; simp at hn; subst hn; exact HD.out.2.2)).mono ?_; rintro e W8 ⟨v, rfl, hn, hb⟩; rw [show sumL [fj] = fj from by simp [sumL]] at hn; obtain ⟨A8, c8, rfl, hn1, hn2⟩ := hn; have HN8 : Hid (NatIs W8 (.agg #[.slice A8 (dg B32 (fi + fj)).length c8]) (fi + fj)) := Lib.hid ⟨A8, c8, rfl, hn1, hn2⟩; have HF8 := Lib.hid (HF.out.below hb); have h := And.intro (below_cell hb (Nat.le_refl _) hHeld.1) (below_cell hb (Nat.le_refl _) hHeld.2); clear hn1 hn2 hb; obtain ⟨n8, hn8⟩ : ∃ n, (dg B32 (fi + fj)).length = n := ⟨_, rfl⟩; rw [hn8] at HN8; rw [hn8]; clear hn8; go_simp
          refine hK.out _ _ h (fun hHeld => ?_)
          clear hK K
          try simp only [Act.put, sIB, sC0, sCS]
          refine tkP 16 59 ?_ rfl (.inl ⟨by rfl, ?_⟩) ?_; rotate_left; focus (intro w' _; go_simp; (try with_reducible rfl))
          try simp only [sIB, sC0, sCS]
          refine wpAnyD_last (D := 17) (by decide) (by kernel_rfl) rfl (by rfl) (fun K hK => ?_)
          obtain ⟨A9, k9, c9, e9, z9, _⟩ := HF8.out.fr.at' k (by have := HKS.out; omega); have HF9 := Lib.hid (HF8.out.put (j := k) (by have := HKS.out; omega) HN8.out); go_simp
          refine hK.out _ _ ?_
          clear hK K
          try simp only [Act.put, sIB, sC0, sCS]
          refine wpAnyD_done (by kernel_rfl) ?_ _
          clear h hHeld e9 z9 HN8 HF8 HF HNI HNJ HN7
          have HF9 : Hid (LFind w (W8.setCell ⟨g, k, none⟩ (.slice A8 n8 c8)) g s.length (fQ p.T s k (q + 1)) _) := Lib.hid (HF9.out.congr (fun j hj => by rw [HFS.out j]))
          generalize W8.setCell ⟨g, k, none⟩ (.slice A8 n8 c8) = W9 at *
          go_wp2_with fail
          go_roundg (gk - 1)
          case measure => have := HQ.out; omega
          case rel => exact ⟨q + 1, _, by have := HQ.out; omega, by simp, HF9.out⟩
        · have hqe : q = (atP p.T s k).length := by have := HQ.out; have := HNN.out; omega
          have hlt2 : ¬ (q : Int) < (N : Int) := by omega
          have HF2 : Hid (LFind w W g s.length (fM p.T s k) vs) := Lib.hid (HF.out.congr (fun j _ => by rw [hqe]; exact fQ_all HT.out s k HKS.out j))
          clear hqe
          go_wp2_with fail
          go_roundg k
          case measure => omega
          case rel => exact ⟨_, vs, rfl, by have := HLE.out; omega, rfl, HF2.out⟩
end
theorem disable_1 (w : World) : (callFunc 179 #[]).run Tryz.prog w = .ok (.value (.tuple #[])) w := run_call_mark0 Tryz.func179 (by kernel_rfl) (by kernel_rfl) (by kernel_rfl) .disable (by kernel_rfl) w
theorem enable_1 (w : World) : (callFunc 181 #[]).run Tryz.prog w = .ok (.value (.tuple #[])) w := run_call_mark0 Tryz.func181 (by kernel_rfl) (by kernel_rfl) (by kernel_rfl) .enable (by kernel_rfl) w
theorem acquire_1 (a : Addr) (w : World) : (callFunc 182 #[.pointer (some a)]).run Tryz.prog w = .ok (.value (.tuple #[])) w := run_call_marked Tryz.func182 (by kernel_rfl) (by kernel_rfl) (by kernel_rfl) .acquire (by kernel_rfl) a w
theorem releaseMerge_1 (a : Addr) (w : World) : (callFunc 184 #[.pointer (some a)]).run Tryz.prog w = .ok (.value (.tuple #[])) w := run_call_marked Tryz.func184 (by kernel_rfl) (by kernel_rfl) (by kernel_rfl) .releaseMerge (by kernel_rfl) a w
theorem bload_any (b o : Nat) (n : Int) (w : World) (hc : w.cell? ⟨b, o, none⟩ = some (.int .u32 n)) :
    Calls Tryz.prog 108 #[.pointer (some ⟨b, o, none⟩)] w fun e w' => e = .returned (.bool (n != 0)) ∧ w' = w := by
  have hl := run_call_load (P := Tryz.prog) Tryz.func136 (by kernel_rfl) (by kernel_rfl) (by kernel_rfl) .u32 (by kernel_rfl) hc
  clear hc
  go_enter Tryz.func108, Tryz.ntmps108
  go_wp2_with fail
  go_ret
  exact ⟨rfl, rfl⟩
theorem store_def (a : Addr) (x : Value) (u : FrameMode) (w : World) (hc : w.cell? a = some x) (hz : w.frozen? a = false) :
    CallsD Tryz.prog 139 #[.pointer (some a), .bool true] u w fun e u' w' => u' = u ∧ (e = .returned (.tuple #[]) ∧ w' = w.drew.setCell a (.int .u32 1)) := by
  have hc' : w.drew.cell? a = some x := by go_simp
  have hz' : w.drew.frozen? a = false := by go_simp
  have hst := run_call_store (P := Tryz.prog) Tryz.func167 (by kernel_rfl) (by kernel_rfl) (by kernel_rfl) (by kernel_rfl) (k := .u32) (y := 1) hc' hz'
  go_enter_d Tryz.func139, Tryz.ntmps139
  go_wp2
  go_region_calls
  all_goals (go_end0; exact ⟨rfl, rfl⟩)
theorem unlock_def (b o : Nat) (u : FrameMode) (w : World) (hc : w.cell? ⟨b, o, none⟩ = some (.int .i32 1)) (hz : w.frozen? ⟨b, o, none⟩ = false) :
    CallsD Tryz.prog 138 #[.pointer (some ⟨b, o, none⟩)] u w fun e u' w' => u' = u ∧ (e = .returned (.tuple #[]) ∧ w' = w.setCell ⟨b, o, none⟩ (.int .i32 0)) := by
  have hd := disable_1
  have he := enable_1
  have hr := releaseMerge_1
  have hadd := run_call_add (P := Tryz.prog) Tryz.func185 (by kernel_rfl) (by kernel_rfl) (by kernel_rfl) .i32 (by kernel_rfl) (y := -1) (s := 0) hc hz (by simp [go_sem]; rfl)
  have hcv := run_convert_to_unsafe (P := Tryz.prog) (src := 287) (dst := 291) Tryz.underlying287 Tryz.underlying291 (by kernel_rfl) hc
  go_enter_d Tryz.func138, Tryz.ntmps138
  go_wp2
  go_end0
  go_wp2
  go_end0
  exact ⟨rfl, rfl⟩
theorem lock_free (b o : Nat) (w : World) (hc : w.cell? ⟨b, o, none⟩ = some (.int .i32 0)) (hz : w.frozen? ⟨b, o, none⟩ = false) :
    Calls Tryz.prog 137 #[.pointer (some ⟨b, o, none⟩)] w fun e w' => e = .returned (.tuple #[]) ∧ w' = w.setCell ⟨b, o, none⟩ (.int .i32 1) := by
  have hd := disable_1
  have he := enable_1
  have ha := acquire_1
  have hcas := run_call_cas_hit (P := Tryz.prog) Tryz.func180 (by kernel_rfl) (by kernel_rfl) (by kernel_rfl) .i32 (by kernel_rfl) (y := 1) hc hz
  have hc' : (w.setCell ⟨b, o, none⟩ (.int .i32 1)).cell? ⟨b, o, none⟩ = some (.int .i32 1) := World.cell?_setCell_same w ⟨b, o, none⟩ _ hc
  have hcv := run_convert_to_unsafe (P := Tryz.prog) (src := 287) (dst := 291) Tryz.underlying287 Tryz.underlying291 (by kernel_rfl) hc'
  go_enter Tryz.func137, Tryz.ntmps137
  go_wp2
  first | go_end0 | (simp only [Exit.inBlock, Exit.then]; refine bodyPost_ret (results_none rfl _ _ _) rfl ?_) | refine bodyPost_ret (results_none rfl _ _ _) rfl ?_
  go_wp2
  go_end0
  exact ⟨rfl, rfl⟩
theorem do_done (b o : Nat) (f : Value) (w : World) (hc : w.cell? ⟨b, o, none⟩ = some (.int .u32 1)) :
    Calls Tryz.prog 73 #[.pointer (some ⟨b, o, none⟩), f] w fun e w' => e = .returned (.tuple #[]) ∧ w' = w := by
  have hl := bload_any b o 1 w hc
  clear hc
  go_enter Tryz.func73, Tryz.ntmps73
  go_wp2_with (go_at_call 108; (refine hl.mono ?_); (rintro e V1 ⟨rfl, rfl⟩))
  go_end0
  exact ⟨rfl, rfl⟩
set_option maxRecDepth 100000 in
set_option maxHeartbeats 1600000 in
theorem slowl_any {R : World → Prop} (b o vb : Nat) (w : World)
    (h0 : w.cell? ⟨b, o, none⟩ = some (.int .u32 0)) (h1 : w.cell? ⟨b, o + 1, none⟩ = some (.int .i32 0)) (f1 : w.frozen? ⟨b, o + 1, none⟩ = false)
    (hF : Calls Tryz.prog 74 #[.pointer (some ⟨vb, 0, none⟩)] (w.setCell ⟨b, o + 1, none⟩ (.int .i32 1)) fun e w1 => e = .returned (.tuple #[]) ∧ R w1 ∧ w1.cell? ⟨b, o, none⟩ = some (.int .u32 0) ∧ w1.cell? ⟨b, o + 1, none⟩ = some (.int .i32 1) ∧ w1.frozen? ⟨b, o, none⟩ = false ∧ w1.frozen? ⟨b, o + 1, none⟩ = false) :
    Calls Tryz.prog 109 #[.pointer (some ⟨b, o, none⟩), .func (.func 74) #[.pointer (some ⟨vb, 0, none⟩)] #[]] w fun e w' => e = .returned (.tuple #[]) ∧
      ∃ w1, R w1 ∧ w' = (w1.drew.setCell ⟨b, o, none⟩ (.int .u32 1)).setCell ⟨b, o + 1, none⟩ (.int .i32 0) := by
  have hl := bload_any b o 0 (w.setCell ⟨b, o + 1, none⟩ (.int .i32 1)) ((World.cell?_setCell_other _ ⟨b, o + 1, none⟩ ⟨b, o, none⟩ _ (by simp)).trans h0)
  have HL := Lib.hid hl
  have HF := Lib.hid hF
  have HK := Lib.hid (lock_free b o.succ w h1 f1)
  clear hl hF h0 h1 f1
  go_enter_defers Tryz.func109, Tryz.ntmps109
  go_wp2_with (first | (go_at_call 137; refine HK.out.mono ?_; rintro e w' ⟨rfl, rfl⟩) | (go_at_call 108; refine HL.out.mono ?_; rintro e w' ⟨rfl, rfl⟩) | (go_at_call 74; refine HF.out.mono ?_; rintro e w1 ⟨rfl, hR, c0, c1, z0, z1⟩))
  refine leaves_cons (f := 139) (args := #[.pointer (some ⟨b, o, none⟩), .bool true]) (by simp) (by simp [go_sem]) ?_
  refine (store_def ⟨b, o, none⟩ (.int .u32 0) .returning _ c0 z0).mono ?_
  rintro e u' w'' ⟨rfl, rfl, rfl⟩
  refine leaves_cons (f := 138) (args := #[.pointer (some ⟨b, o + 1, none⟩)]) (by simp [settle]) (by simp [go_sem]) ?_
  refine (unlock_def b (o + 1) _ _ ?_ (by simp [z1])).mono ?_
  · refine (World.cell?_setCell_other _ ⟨b, o, none⟩ ⟨b, o + 1, none⟩ _ (by simp)).trans ?_
    rw [World.cell?_drew]
    exact c1
  rintro e u' w'' ⟨rfl, rfl, rfl⟩
  simp [Leaves, settle, results, Tryz.results109]
  exact ⟨_, hR, rfl⟩
set_option maxHeartbeats 1600000 in
theorem dol_first {R : World → Prop} (b o vb : Nat) (w : World)
    (h0 : w.cell? ⟨b, o, none⟩ = some (.int .u32 0)) (h1 : w.cell? ⟨b, o + 1, none⟩ = some (.int .i32 0)) (f1 : w.frozen? ⟨b, o + 1, none⟩ = false)
    (hF : Calls Tryz.prog 74 #[.pointer (some ⟨vb, 0, none⟩)] (w.setCell ⟨b, o + 1, none⟩ (.int .i32 1)) fun e w1 => e = .returned (.tuple #[]) ∧ R w1 ∧ w1.cell? ⟨b, o, none⟩ = some (.int .u32 0) ∧ w1.cell? ⟨b, o + 1, none⟩ = some (.int .i32 1) ∧ w1.frozen? ⟨b, o, none⟩ = false ∧ w1.frozen? ⟨b, o + 1, none⟩ = false) :
    Calls Tryz.prog 73 #[.pointer (some ⟨b, o, none⟩), .func (.func 74) #[.pointer (some ⟨vb, 0, none⟩)] #[]] w fun e w' => e = .returned (.tuple #[]) ∧
      ∃ w1, R w1 ∧ w' = (w1.drew.setCell ⟨b, o, none⟩ (.int .u32 1)).setCell ⟨b, o + 1, none⟩ (.int .i32 0) := by
  have HL := Lib.hid (bload_any b o 0 w h0)
  have HS := Lib.hid (slowl_any b o vb w h0 h1 f1 hF)
  clear h0 h1 f1 hF
  go_enter Tryz.func73, Tryz.ntmps73
  go_wp2_with (first | (go_at_call 108; refine HL.out.mono ?_; rintro e w' ⟨rfl, rfl⟩) | (go_at_call 109; refine HS.out.mono ?_; rintro e w' ⟨rfl, w1, hR, rfl⟩))
  go_end0
  exact ⟨rfl, w1, hR, rfl⟩
structure LatV (w : World) (base lb : Nat) (p : VocP) (s : List UInt8) : Prop where
  lat : ∃ tr A c dn st se fv vals, LatIs w base lb tr p.vb p.T s s.length A c dn st se fv vals ∧ ((fv = .slice none 0 0 ∧ dn = 0 ∧ st = 0) ∨
    ∃ w0 g vs, dn = 1 ∧ fv = .slice (some ⟨g, 0, none⟩) (s.length + 1) (s.length + 1) ∧ lb < g ∧ FrIs w0 w g s.length (cntJ p.T s) vs)
  voc : ∃ b0, VocAt w b0 p none
  lt : p.vb < lb
section
variable {w w' W W' : World} {base lb : Nat} {p : VocP} {s : List UInt8}
theorem LatV.below (h : LatV w base lb p s) (hb : Below w.heap.size w w') : LatV w' base lb p s := by
  obtain ⟨tr, A, c, dn, st, se, fv, vals, h1, h2⟩ := h.lat
  refine ⟨⟨tr, A, c, dn, st, se, fv, vals, h1.below hb, ?_⟩, ?_, h.lt⟩
  · rcases h2 with h2 | ⟨w0, g, vs, h3, h4, h5, h6⟩
    · exact .inl h2
    · exact .inr ⟨w0, g, vs, h3, h4, h5, h6.below hb⟩
  · obtain ⟨b0, hv⟩ := h.voc
    exact ⟨b0, hv.below hb (Nat.le_refl _)⟩
theorem LatV.drew (h : LatV w base lb p s) : LatV w.drew base lb p s := h.below (Below.refl _ _).drew
theorem LatV.row_lt (h : LatV w base lb p s) {g a b : Nat} (hc : w.cell? ⟨lb, 7, none⟩ = some (.slice (some ⟨g, 0, none⟩) a b)) : g < w.heap.size := by
  obtain ⟨tr, A, c, dn, st, se, fv, vals, h1, h2⟩ := h.lat
  rw [h1.c7] at hc
  injection hc with hc
  rcases h2 with ⟨rfl, _⟩ | ⟨w0, g', vs, _, rfl, _, h6⟩
  · cases hc
  · injection hc with hc _ _
    injection hc with hc
    injection hc with hc
    subst hc
    exact (h6.row.lt _ rfl).2
theorem nat_keepL {w w' : World} {base lb tr vb k c0 m : Nat} {T : List Ent} {s : List UInt8} {A : Option Addr} {st se : Int} {fv : Value} {vals : List Value} {v : Value}
    (h1 : LatIs w base lb tr vb T s k A c0 0 st se fv vals) (hfv : ∀ x, fv ≠ .int .u32 x) {cs : Array Value} {t : TypeId} (h2 : w'.heap[lb]? = some (.cells cs t (0, 0))) (h26 : cs[6]? = some (.int .u32 se)) (hk : Keep (fun x => x = lb) w w') (h : NatIs w v m) : NatIs w' v m := by
  obtain ⟨Ad, c', rfl, hs, hc⟩ := h
  refine ⟨Ad, c', rfl, fun i x hx => ?_, hc⟩
  obtain ⟨b, o, rfl, hcell⟩ := hs i x hx
  refine ⟨b, o, rfl, ?_⟩
  by_cases hb : b = lb
  · subst hb
    have hq : ∀ j, w.cell? ⟨b, j, none⟩ = _ := blk_cell h1.blk
    have hq' : ∀ j, w'.cell? ⟨b, j, none⟩ = _ := blk_cell h2
    have hnx : i + 1 < (dg B32 m).length → ∃ d, w.cell? ⟨b, o + i + 1, none⟩ = some (u32V d) := fun hl => by
      obtain ⟨b2, o2, e, h3⟩ := hs (i + 1) _ (List.getElem?_eq_getElem hl)
      injection e with e
      injection e with e1 e2
      subst e1
      subst e2
      exact ⟨_, by rw [Nat.add_assoc]; exact h3⟩
    have hil : i < (dg B32 m).length := (List.getElem?_eq_some_iff.1 hx).1
    generalize o + i = j at *
    rw [hq] at hcell
    rcases j with _ | _ | _ | _ | _ | _ | _ | _ | j
    · simp [u32V] at hcell
    · simp [u32V] at hcell
    · simp [u32V] at hcell
    · simp [u32V] at hcell
    · exfalso
      simp only [List.getElem?_toArray, List.getElem?_cons_zero, List.getElem?_cons_succ, u32V, Option.some.injEq, Value.int.injEq, true_and] at hcell
      by_cases hl : i + 1 < (dg B32 m).length
      · obtain ⟨d, hd⟩ := hnx hl
        rw [hq] at hd
        simp [u32V] at hd
      · rcases dg_last (b := B32) (by decide) m with h0 | h0
        · rw [h0] at hil
          simp at hil
        · apply h0
          have e : (dg B32 m).length - 1 = i := Nat.le_antisymm (Nat.sub_le_of_le_add (Nat.not_lt.1 hl)) (Nat.le_sub_one_of_lt hil)
          have h9 : atL (dg B32 m) i = x := by unfold atL; rw [hx]; rfl
          rw [e, h9]
          exact Int.ofNat.inj hcell.symm
    · simp [u32V] at hcell
    · rw [hq', h26]
      simpa using hcell
    · exfalso
      simp only [List.getElem?_toArray, List.getElem?_cons_zero, List.getElem?_cons_succ, u32V, Option.some.injEq] at hcell
      exact hfv _ hcell
    · simp at hcell
  · rw [← hcell]
    have hlt : b < w.heap.size := by
      unfold World.cell? at hcell
      by_cases hlt : b < w.heap.size
      · exact hlt
      · rw [show w.heap[(⟨b, o + i, none⟩ : Addr).block]? = none from Array.getElem?_eq_none (Nat.not_lt.1 hlt)] at hcell
        simp at hcell
    simp only [World.cell?, hk.block b hlt hb]
theorem ldo_any (h : LatV w base lb p s) (hT : OkT p.T) (hs : s.length ≤ 4000) :
    Calls Tryz.prog 73 #[.pointer (some ⟨lb, 4, none⟩), .func (.func 74) #[.pointer (some ⟨lb, 0, none⟩)] #[]] w fun e w' => e = .returned (.tuple #[]) ∧
      LatV w' base lb p s ∧ Keep (fun x => x = lb) w w' ∧ ∃ g w0 vs, w'.cell? ⟨lb, 7, none⟩ = some (.slice (some ⟨g, 0, none⟩) (s.length + 1) (s.length + 1)) ∧ FrIs w0 w' g s.length (cntJ p.T s) vs ∧ (w.heap.size ≤ g ∨ w.cell? ⟨lb, 7, none⟩ = some (.slice (some ⟨g, 0, none⟩) (s.length + 1) (s.length + 1))) ∧ (∀ v m, NatIs w v m → NatIs w' v m) ∧ w'.cell? ⟨lb, 3, none⟩ = w.cell? ⟨lb, 3, none⟩ := by
  obtain ⟨tr, A, c, dn, st, se, fv, vals, h1, h2⟩ := h.lat
  have c4 := blk_cell h1.blk 4
  have c5 := blk_cell h1.blk 5
  simp only [List.getElem?_toArray, List.getElem?_cons_zero, List.getElem?_cons_succ] at c4 c5
  rcases h2 with ⟨rfl, rfl, rfl⟩ | ⟨w0, g, vs, rfl, rfl, h5, h6⟩
  · obtain ⟨b0, hv⟩ := h.voc
    have hk1 : Keep (fun x => x = lb) w (w.setCell ⟨lb, 5, none⟩ (.int .i32 1)) := (Keep.refl (fun x => x = lb) w).setCell (p := ⟨lb, 5, none⟩) (.inl rfl) _
    have hb1 := blk_set h1.blk 5 (.int .i32 1)
    simp only [List.setIfInBounds_toArray, List.set_cons_zero, List.set_cons_succ] at hb1
    have hl1 : LatIs (w.setCell ⟨lb, 5, none⟩ (.int .i32 1)) base lb tr p.vb p.T s s.length A c 0 1 se (.slice none 0 0) vals := h1.put hk1 hb1
    have hv1 : VocAt (w.setCell ⟨lb, 5, none⟩ (.int .i32 1)) b0 p none := hv.keep hk1 (fun x hx => by
      rcases hx with hx | hx
      · have := h.lt; omega
      · cases hx)
    have hF := lfind_any hl1 hv1 hT hs (fun x => by simp)
    refine (dol_first (R := fun w1 => ∃ g vs, LatIs w1 base lb tr p.vb p.T s s.length A c 0 1 se (.slice (some ⟨g, 0, none⟩) (s.length + 1) (s.length + 1)) vals ∧ FrIs (w.setCell ⟨lb, 5, none⟩ (.int .i32 1)) w1 g s.length (cntJ p.T s) vs ∧ Keep (fun x => x = lb) (w.setCell ⟨lb, 5, none⟩ (.int .i32 1)) w1 ∧ (w.setCell ⟨lb, 5, none⟩ (.int .i32 1)).heap.size ≤ g) lb 4 lb w c4 c5 (h1.z 5) (hF.mono ?_)).mono ?_
    · rintro e w1 ⟨rfl, g, vs, q1, q2, q3, q4⟩
      have d4 := blk_cell q1.blk 4
      have d5 := blk_cell q1.blk 5
      simp only [List.getElem?_toArray, List.getElem?_cons_zero, List.getElem?_cons_succ] at d4 d5
      exact ⟨rfl, ⟨g, vs, q1, q2, q3, q4⟩, d4, d5, q1.z 4, q1.z 5⟩
    · rintro e w' ⟨rfl, w1, ⟨g, vs, q1, q2, q3, q4⟩, rfl⟩
      have hlg : lb < g := by
        have := blk_lt h1.blk
        have e5 : (w.setCell ⟨lb, 5, none⟩ (.int .i32 1)).heap.size = w.heap.size := by simp [World.setCell]
        omega
      have hlg2 : w.heap.size ≤ g := by
        have e5 : (w.setCell ⟨lb, 5, none⟩ (.int .i32 1)).heap.size = w.heap.size := by simp [World.setCell]
        omega
      have f1 := q2.below (Below.refl _ _).drew
      have m1 := q1.drew
      have d4 := blk_cell m1.blk 4
      have d5 := blk_cell m1.blk 5
      simp only [List.getElem?_toArray, List.getElem?_cons_zero, List.getElem?_cons_succ] at d4 d5
      have hk2 : Keep (fun x => x = lb) w1.drew (w1.drew.setCell ⟨lb, 4, none⟩ (.int .u32 1)) := (Keep.refl (fun x => x = lb) w1.drew).setCell (p := ⟨lb, 4, none⟩) (.inl rfl) _
      have hb2 := blk_set m1.blk 4 (.int .u32 1)
      simp only [List.setIfInBounds_toArray, List.set_cons_zero, List.set_cons_succ] at hb2
      have m2 : LatIs (w1.drew.setCell ⟨lb, 4, none⟩ (.int .u32 1)) base lb tr p.vb p.T s s.length A c 1 1 se (.slice (some ⟨g, 0, none⟩) (s.length + 1) (s.length + 1)) vals := m1.put hk2 hb2
      have f2 := FrIs.cellX (p := ⟨lb, 4, none⟩) f1 (by show lb ≠ g; omega) (.int .u32 1) (fun v m hm => hm.cell0 d4 d5 (fun x => by simp) _)
      have e5 := blk_cell m2.blk 5
      simp only [List.getElem?_toArray, List.getElem?_cons_zero, List.getElem?_cons_succ] at e5
      have hk3 : Keep (fun x => x = lb) (w1.drew.setCell ⟨lb, 4, none⟩ (.int .u32 1)) ((w1.drew.setCell ⟨lb, 4, none⟩ (.int .u32 1)).setCell ⟨lb, 5, none⟩ (.int .i32 0)) := (Keep.refl (fun x => x = lb) _).setCell (p := ⟨lb, 5, none⟩) (.inl rfl) _
      have hb3 := blk_set m2.blk 5 (.int .i32 0)
      simp only [List.setIfInBounds_toArray, List.set_cons_zero, List.set_cons_succ] at hb3
      have m3 := LatIs.put m2 (dn' := 1) (st' := 0) (fv' := .slice (some ⟨g, 0, none⟩) (s.length + 1) (s.length + 1)) hk3 hb3
      have f3 := FrIs.cellX (p := ⟨lb, 5, none⟩) f2 (by show lb ≠ g; omega) (.int .i32 0) (fun v m hm => hm.cellK e5 (fun x => by simp) _)
      have hkk : Keep (fun x => x = lb) w ((w1.drew.setCell ⟨lb, 4, none⟩ (.int .u32 1)).setCell ⟨lb, 5, none⟩ (.int .i32 0)) := ((hk1.trans q3 (fun x hx => .inl hx)).drew.trans hk2 (fun x hx => .inl hx)).trans hk3 (fun x hx => .inl hx)
      refine ⟨rfl, ⟨⟨tr, A, c, 1, 0, se, _, vals, m3, .inr ⟨_, g, vs, rfl, rfl, hlg, f3⟩⟩, ⟨b0, hv.keep hkk (fun x hx => ?_)⟩, h.lt⟩, hkk, g, _, vs, m3.c7, f3, .inl hlg2, fun v m hn => nat_keepL h1 (fun x => by simp) m3.blk rfl hkk hn, m3.c3.trans h1.c3.symm⟩
      rcases hx with hx | hx
      · have := h.lt; omega
      · cases hx
  · refine (do_done lb 4 _ w c4).mono ?_
    rintro e w' ⟨rfl, rfl⟩
    exact ⟨rfl, h, Keep.refl _ _, g, w0, vs, h1.c7, h6, .inr h1.c7, fun v m hn => hn, rfl⟩
theorem below_cell3 (hb : Below w.heap.size w w') (hlt : lb < w.heap.size) : w'.cell? ⟨lb, 3, none⟩ = w.cell? ⟨lb, 3, none⟩ := by
  simp only [World.cell?, hb.block lb hlt]
theorem below_cell7 (hb : Below w.heap.size w w') (hlt : lb < w.heap.size) : w'.cell? ⟨lb, 7, none⟩ = w.cell? ⟨lb, 7, none⟩ := by
  simp only [World.cell?, hb.block lb hlt]
theorem lat_box {r m : Nat} {A2 Ar : Option Addr} {k2 c2 kr cr : Nat} (h : LatV w base lb p s) (hr : w.heap[r]? = some (.cells #[.slice Ar kr cr] 59)) (hm : NatIs w (.agg #[.slice A2 k2 c2]) m) (hlt : lb < r) (hne : ∀ g a b, w.cell? ⟨lb, 7, none⟩ = some (.slice (some ⟨g, 0, none⟩) a b) → g ≠ r) (v : Value) :
    LatV (w.setCell ⟨r, 0, none⟩ v) base lb p s ∧ NatIs (w.setCell ⟨r, 0, none⟩ v) (.agg #[.slice A2 k2 c2]) m := by
  have hc := blk_cell hr 0
  simp only [List.getElem?_toArray, List.getElem?_cons_zero] at hc
  have hk : Keep (fun x => x = r) w (w.setCell ⟨r, 0, none⟩ v) := (Keep.refl (fun x => x = r) w).setCell (p := ⟨r, 0, none⟩) (.inl rfl) _
  have hn : ∀ (x : Value) (m : Nat), NatIs w x m → NatIs (w.setCell ⟨r, 0, none⟩ v) x m := fun x m hx => hx.cellK hc (fun y => by simp) v
  obtain ⟨tr, A, c, dn, st, se, fv, vals, h1, h2⟩ := h.lat
  refine ⟨⟨⟨tr, A, c, dn, st, se, fv, vals, h1.keepT hr (by decide) (by decide) (by decide) hk, ?_⟩, ?_, h.lt⟩, hn _ _ hm⟩
  · rcases h2 with h2 | ⟨w0, g, vs, h3, h4, h5, h6⟩
    · exact .inl h2
    · refine .inr ⟨w0, g, vs, h3, h4, h5, ?_⟩
      subst h4
      exact FrIs.cellX (p := ⟨r, 0, none⟩) h6 (fun e2 => hne g _ _ h1.c7 e2.symm) v hn
  · obtain ⟨b0, hv⟩ := h.voc
    exact ⟨b0, hv.keep hk (fun x hx => by
      rcases hx with hx | hx
      · have := h.lt; omega
      · cases hx)⟩
def RowN (w w' : World) (lb : Nat) : Prop := (∀ g a b, w'.cell? ⟨lb, 7, none⟩ = some (.slice (some ⟨g, 0, none⟩) a b) → w.heap.size ≤ g ∨ w.cell? ⟨lb, 7, none⟩ = some (.slice (some ⟨g, 0, none⟩) a b)) ∧ w'.cell? ⟨lb, 3, none⟩ = w.cell? ⟨lb, 3, none⟩
theorem RowN.set (h : RowN w w' lb) {r : Nat} (hne : r ≠ lb) (v : Value) : RowN w (w'.setCell ⟨r, 0, none⟩ v) lb := ⟨fun g a b hg => h.1 g a b (by
  rw [← hg]
  exact (World.cell?_setCell_far w' ⟨r, 0, none⟩ ⟨lb, 7, none⟩ v hne).symm), (World.cell?_setCell_far w' ⟨r, 0, none⟩ ⟨lb, 3, none⟩ v hne).trans h.2⟩
set_option maxHeartbeats 2000000 in
theorem lfrom_any (h : LatV w base lb p s) (hT : OkT p.T) (hs : s.length ≤ 4000) (i : Nat) (hi : i ≤ s.length) :
    Calls Tryz.prog 28 #[.pointer (some ⟨lb, 0, none⟩), .int .i64 (i : Int)] w fun e w' => ∃ v, e = .returned v ∧ NatIs w' v (cntJ p.T s i) ∧ LatV w' base lb p s ∧ Keep (fun x => x = lb) w w' ∧ RowN w w' lb ∧ ∀ v m, NatIs w v m → NatIs w' v m := by
  have hb0 := (Below.refl w.heap.size w).alloc (Nat.le_refl _) (.cells #[.slice none 0 0] 59)
  have HH := Lib.hid (h.below hb0)
  have HN0 := Lib.hid (blk_new w (.cells #[.slice none 0 0] 59))
  have HLB : Hid (lb < w.heap.size) := Lib.hid (by obtain ⟨tr, A, c, dn, st, se, fv, vals, h1, _⟩ := h.lat; exact h1.lt)
  have HK0 : Hid (Keep (fun x => x = lb) w (w.alloc (.cells #[.slice none 0 0] 59))) := Lib.hid ((Keep.refl (fun x => x = lb) w).alloc _)
  have HRW : Hid (∀ g a b, (w.alloc (.cells #[.slice none 0 0] 59)).cell? ⟨lb, 7, none⟩ = some (.slice (some ⟨g, 0, none⟩) a b) → g < w.heap.size) := Lib.hid (fun g a b hg => h.row_lt ((below_cell7 hb0 HLB.out).symm.trans hg))
  have HNA : Hid (∀ v m, NatIs w v m → NatIs (w.alloc (.cells #[.slice none 0 0] 59)) v m) := Lib.hid (fun v m hn => hn.below hb0 (Nat.le_refl _))
  have HR7 : Hid ((w.alloc (.cells #[.slice none 0 0] 59)).cell? ⟨lb, 7, none⟩ = w.cell? ⟨lb, 7, none⟩) := Lib.hid (below_cell7 hb0 HLB.out)
  have HR3 : Hid ((w.alloc (.cells #[.slice none 0 0] 59)).cell? ⟨lb, 3, none⟩ = w.cell? ⟨lb, 3, none⟩) := Lib.hid (below_cell3 hb0 HLB.out)
  have HSZ : Hid (w.heap.size ≤ (w.alloc (.cells #[.slice none 0 0] 59)).heap.size) := Lib.hid hb0.size
  have HT := Lib.hid hT
  have HSL := Lib.hid hs
  have HI := Lib.hid hi
  have HDZ : Hid ((bs s).size = s.length) := Lib.hid (bs_size s)
  clear h hb0 hT hs hi
  go_enter Tryz.func28, Tryz.ntmps28
  go_upto_region 1 with fail
  obtain ⟨r, hr⟩ : ∃ r, w.heap.size = r := ⟨_, rfl⟩
  have HRR := Lib.hid (Nat.le_of_eq hr)
  have HRR2 := Lib.hid (Nat.le_of_eq hr.symm)
  rw [hr] at HN0 HLB ⊢
  clear hr
  generalize w.alloc (.cells #[.slice none 0 0] 59) = w1 at *
  obtain ⟨Z, hZ⟩ : ∃ Z, bs s = Z := ⟨_, rfl⟩
  have c2 : w1.cell? ⟨lb, 2, none⟩ = some (.string Z) := by
    obtain ⟨tr, A, c, dn, st, se, fv, vals, h1, _⟩ := HH.out.lat
    rw [← hZ]
    exact h1.c2
  rw [hZ] at HDZ
  clear hZ
  have p0 : ¬ (i : Int) < 0 := by omega
  have p0' : (0 : Int) ≤ (i : Int) := by omega
  have p1 : ¬ (Z.size : Int) < (i : Int) := by have := HDZ.out; have := HI.out; omega
  have p1' : (i : Int) ≤ (Z.size : Int) := by omega
  have HDO := Lib.hid (ldo_any HH.out HT.out HSL.out)
  go_upto_region 4 with (go_at_call 73; refine HDO.out.mono ?_; rintro e w2 ⟨rfl, hl, hk, g, w0, vs, hc7, hf, hgo, hnk, hr3⟩; (have HNK := Lib.hid hnk); (have HX3 := Lib.hid hr3); clear hnk hr3; (have HGO := Lib.hid hgo); clear hgo; (have HL2 := Lib.hid hl); (have HK2 := Lib.hid hk); (have HC7 := Lib.hid hc7); (have HF := Lib.hid hf); clear hl hk hc7 hf)
  have c7 := HC7.out
  obtain ⟨A2, k2, c2', f0, f1, f2⟩ := HF.out.at' i HI.out
  have HNI := Lib.hid f2
  have HB2 := Lib.hid (HK2.out.blk HN0.out (by have := HLB.out; omega))
  have d0 := blk_cell HB2.out 0
  have z0 := blk_froz HB2.out 0
  simp only [List.getElem?_toArray, List.getElem?_cons_zero] at d0
  obtain ⟨N1, hN1⟩ : ∃ n, s.length + 1 = n := ⟨_, rfl⟩
  rw [hN1] at c7
  have q1 : (i : Int) < (N1 : Int) := by have := HI.out; omega
  have HB3 := Lib.hid (blk_set HB2.out 0 (.slice A2 k2 c2'))
  have HLV : Hid (LatV (w2.setCell ⟨r, 0, none⟩ (.slice A2 k2 c2')) base lb p s ∧ NatIs (w2.setCell ⟨r, 0, none⟩ (.slice A2 k2 c2')) (.agg #[.slice A2 k2 c2']) (cntJ p.T s i)) := Lib.hid (lat_box HL2.out HB2.out f2 (by have := HLB.out; have := HRR.out; omega) (fun g2 a b hg2 e => by
    rw [HC7.out] at hg2
    injection hg2 with hg2
    injection hg2 with hg2 _ _
    injection hg2 with hg2
    injection hg2 with hg2 _
    have hlt := blk_lt HN0.out
    rcases HGO.out with h9 | h9
    · omega
    · have := HRW.out _ _ _ h9
      have := HRR.out
      omega) _)
  have HKF : Hid (Keep (fun x => x = lb) w (w2.setCell ⟨r, 0, none⟩ (.slice A2 k2 c2'))) := Lib.hid ((HK0.out.trans HK2.out (fun x hx => .inl hx)).setCell (p := ⟨r, 0, none⟩) (.inr (by show w.heap.size ≤ r; have := HRR.out; omega)) _)
  have HRN : Hid (RowN w (w2.setCell ⟨r, 0, none⟩ (.slice A2 k2 c2')) lb) := Lib.hid (RowN.set ⟨fun g2 a b hg2 => by
    rw [HC7.out] at hg2
    rcases HGO.out with h9 | h9
    · injection hg2 with hg2
      injection hg2 with hg2 _ _
      injection hg2 with hg2
      injection hg2 with hg2 _
      subst hg2
      exact .inl (by have := HSZ.out; omega)
    · rw [hg2] at h9
      exact .inr (HR7.out ▸ h9), HX3.out.trans HR3.out⟩ (by have := HLB.out; have := HRR.out; omega) _)
  have HNF : Hid (∀ v m, NatIs w v m → NatIs (w2.setCell ⟨r, 0, none⟩ (.slice A2 k2 c2')) v m) := Lib.hid (fun v m hn => (HNK.out v m (HNA.out v m hn)).cellK d0 (fun x => by simp) _)
  clear f1 f2 hN1 HN0
  go_wp2_with fail
  refine ret_cell1 rfl rfl (load_nat HB3.out) ?_
  exact ⟨_, rfl, HLV.out.2, HLV.out.1, HKF.out, HRN.out, HNF.out⟩
end
section
variable {w w' W W' : World} {base lb : Nat} {p : VocP} {s : List UInt8}
theorem lfrom_out (h : LatV w base lb p s) (i : Int) (hi : ¬ (0 ≤ i ∧ i ≤ s.length)) : Calls Tryz.prog 28 #[.pointer (some ⟨lb, 0, none⟩), .int .i64 i] w fun e w' => ∃ v, e = .returned v ∧ NatIs w' v 0 ∧ Below w.heap.size w w' := by
  have HN0 := Lib.hid (blk_new w (.cells #[.slice none 0 0] 59))
  have hb0 := (Below.refl w.heap.size w).alloc (Nat.le_refl _) (.cells #[.slice none 0 0] 59)
  have HB0 := Lib.hid hb0
  have HC2 : Hid ((w.alloc (.cells #[.slice none 0 0] 59)).cell? ⟨lb, 2, none⟩ = some (.string (bs s))) := Lib.hid (by
    obtain ⟨tr, A, c, dn, st, se, fv, vals, h1, _⟩ := h.lat
    exact (h1.below hb0).c2)
  have HDZ : Hid ((bs s).size = s.length) := Lib.hid (bs_size s)
  clear h hb0
  go_enter Tryz.func28, Tryz.ntmps28
  go_upto_region 1 with fail
  obtain ⟨r, hr⟩ : ∃ r, w.heap.size = r := ⟨_, rfl⟩
  have HRR := Lib.hid hr
  rw [hr] at HN0 ⊢
  clear hr
  generalize w.alloc (.cells #[.slice none 0 0] 59) = w1 at *
  have d0 := blk_cell HN0.out 0
  have z0 := blk_froz HN0.out 0
  simp only [List.getElem?_toArray, List.getElem?_cons_zero] at d0
  have HB3 := Lib.hid (blk_set HN0.out 0 (.slice none 0 0))
  by_cases h0 : i < 0
  · clear hi
    go_wp2_with fail
    refine ret_cell1 rfl rfl (load_nat HB3.out) ?_
    exact ⟨_, rfl, NatIs.zero _, HB0.out.setCell (p := ⟨r, 0, none⟩) (Nat.le_of_eq HRR.out) _⟩
  · have h2 : ¬ i < 0 := h0
    have c2 := HC2.out
    generalize bs s = Z at *
    have h3 : (Z.size : Int) < i := by have := HDZ.out; omega
    clear hi h0
    go_wp2_with fail
    refine ret_cell1 rfl rfl (load_nat HB3.out) ?_
    exact ⟨_, rfl, NatIs.zero _, HB0.out.setCell (p := ⟨r, 0, none⟩) (Nat.le_of_eq HRR.out) _⟩
theorem lcount_any (h : LatV w base lb p s) (hT : OkT p.T) (hs : s.length ≤ 4000) :
    Calls Tryz.prog 25 #[.pointer (some ⟨lb, 0, none⟩)] w fun e w' => ∃ v, e = .returned v ∧ NatIs w' v (cntJ p.T s 0) ∧ LatV w' base lb p s ∧ Keep (fun x => x = lb) w w' ∧ RowN w w' lb ∧ ∀ v m, NatIs w v m → NatIs w' v m := by
  have hb0 := (Below.refl w.heap.size w).alloc (Nat.le_refl _) (.cells #[.slice none 0 0] 59)
  have HN0 := Lib.hid (blk_new w (.cells #[.slice none 0 0] 59))
  have HLB : Hid (lb < w.heap.size) := Lib.hid (by obtain ⟨tr, A, c, dn, st, se, fv, vals, h1, _⟩ := h.lat; exact h1.lt)
  have HK0 : Hid (Keep (fun x => x = lb) w (w.alloc (.cells #[.slice none 0 0] 59))) := Lib.hid ((Keep.refl (fun x => x = lb) w).alloc _)
  have HF := Lib.hid (lfrom_any (h.below hb0) hT hs 0 (Nat.zero_le _))
  have HRW : Hid (∀ g a b, (w.alloc (.cells #[.slice none 0 0] 59)).cell? ⟨lb, 7, none⟩ = some (.slice (some ⟨g, 0, none⟩) a b) → g < w.heap.size) := Lib.hid (fun g a b hg => h.row_lt ((below_cell7 hb0 HLB.out).symm.trans hg))
  have HNA : Hid (∀ v m, NatIs w v m → NatIs (w.alloc (.cells #[.slice none 0 0] 59)) v m) := Lib.hid (fun v m hn => hn.below hb0 (Nat.le_refl _))
  have HR7 : Hid ((w.alloc (.cells #[.slice none 0 0] 59)).cell? ⟨lb, 7, none⟩ = w.cell? ⟨lb, 7, none⟩) := Lib.hid (below_cell7 hb0 HLB.out)
  have HR3 : Hid ((w.alloc (.cells #[.slice none 0 0] 59)).cell? ⟨lb, 3, none⟩ = w.cell? ⟨lb, 3, none⟩) := Lib.hid (below_cell3 hb0 HLB.out)
  have HSZ : Hid (w.heap.size ≤ (w.alloc (.cells #[.slice none 0 0] 59)).heap.size) := Lib.hid hb0.size
  clear h hb0 hT hs
  go_enter Tryz.func25, Tryz.ntmps25
  go_upto_region 1 with fail
  obtain ⟨r, hr⟩ : ∃ r, w.heap.size = r := ⟨_, rfl⟩
  have HRR := Lib.hid (Nat.le_of_eq hr)
  have HRR2 := Lib.hid (Nat.le_of_eq hr.symm)
  rw [hr] at HN0 HLB ⊢
  clear hr
  generalize w.alloc (.cells #[.slice none 0 0] 59) = w1 at *
  go_wp2_with (go_at_call 28; refine HF.out.mono ?_; rintro e w2 ⟨v, rfl, ⟨A2, c2, rfl, hn1, hn2⟩, hl, hk, hrn, hnk⟩; (have HNK := Lib.hid hnk); clear hnk; (have HRN := Lib.hid hrn); clear hrn; (have HNI : Hid (NatIs w2 (.agg #[.slice A2 (dg B32 (cntJ p.T s 0)).length c2]) (cntJ p.T s 0)) := Lib.hid ⟨A2, c2, rfl, hn1, hn2⟩); (have HL2 := Lib.hid hl); (have HK2 := Lib.hid hk); (have HN2 := Lib.hid (hk.blk HN0.out (by have := HLB.out; omega))); clear hn1 hn2 hl hk; (have d0 := blk_cell HN2.out 0); (have z0 := blk_froz HN2.out 0); (simp only [List.getElem?_toArray, List.getElem?_cons_zero] at d0); generalize (dg B32 (cntJ p.T s 0)).length = n2 at *)
  have HB3 := Lib.hid (blk_set HN2.out 0 (.slice A2 n2 c2))
  have hlt := blk_lt HN0.out
  have hq : ∀ g a b, w2.cell? ⟨lb, 7, none⟩ = some (.slice (some ⟨g, 0, none⟩) a b) → g ≠ r := fun g a b hg e => by
    rcases HRN.out.1 g a b hg with h9 | h9
    · omega
    · have := HRW.out _ _ _ h9
      have := HRR.out
      omega
  have hlv := lat_box HL2.out HN2.out HNI.out HLB.out hq (.slice A2 n2 c2)
  refine ret_cell1 rfl rfl (load_nat HB3.out) ?_
  refine ⟨_, rfl, hlv.2, hlv.1, (HK0.out.trans HK2.out (fun x hx => .inl hx)).setCell (p := ⟨r, 0, none⟩) (.inr (by show w.heap.size ≤ r; exact HRR.out)) _, ?_, fun v m hn => (HNK.out v m (HNA.out v m hn)).cellK d0 (fun x => by simp) _⟩
  refine RowN.set ⟨fun g a b hg => ?_, HRN.out.2.trans HR3.out⟩ (by have := HLB.out; omega) _
  rcases HRN.out.1 g a b hg with h9 | h9
  · exact .inl (by have := HSZ.out; omega)
  · exact .inr (HR7.out ▸ h9)
end
def mrgS (l : List (Int × Int)) : SpecP := ⟨false, l, [], [], [], []⟩
theorem adds_okT : ∀ (l : List (Int × Int)) (T T' : List Ent), OkT T → addsT T l = some T' → OkT T'
  | [], T, T', h, e => by simp [addsT] at e; rw [← e]; exact h
  | m :: l, T, T', h, e => by
    rw [addsT] at e
    split at e
    · rename_i h0
      exact adds_okT l _ T' (okT_add h _ _ h0) e
    · simp at e
theorem vnew_m {l : List (Int × Int)} {T : List Ent} (hT : addsT baseT l = some T) (A : Option Addr) (c : Nat) (w : World) (hl : Sl w A encM 2 l) (hlen : l.length ≤ 744) (hr : l.all mrgR = true) :
    Calls Tryz.prog 62 #[specV false A l.length c none 0 0 none 0 0 none 0 0 none 0 0] w fun e w' => (∃ p, e = .returned (.tuple #[.pointer (some ⟨p.vb, 0, none⟩), .int .i64 0, .int .i64 0]) ∧ VocAt w' w.heap.size p none ∧ p.T = T ∧ p.s = mrgS l ∧ OkT T) ∧ Below w.heap.size w w' := by
  have hs : SpecAt w (mrgS l) A none none none none := ⟨hl, Sl1.nil _ _ _, Sl.nil _ _ _ _, Sl.nil _ _ _ _, Sl.nil _ _ _ _, by simp [mrgS]; omega⟩
  have hR : rightS (mrgS l) = true := by
    have h1 : headR (mrgS l) = true := rfl
    have h2 : (decide ((((mrgS l).ms.length : Nat) : Int) ≤ 744) && (mrgS l).ms.all mrgR) = true := by
      show (decide (((l.length : Nat) : Int) ≤ 744) && l.all mrgR) = true
      rw [hr]; simp; omega
    unfold rightS
    rw [h1, h2]
    rfl
  have hok : OkT T := adds_okT l baseT T okT_base hT
  have hL : ∀ V, Below w.heap.size w V → Calls Tryz.prog 127 #[specW (mrgS l) A none none none none c 0 0 0 0] V fun e w' => (∃ tb sv mb mp n, e = .returned (.tuple #[.pointer (some ⟨tb, 0, none⟩), .int .i64 n, .int .i64 0]) ∧ TabIs w' V.heap.size tb T sv mb mp) ∧ Below V.heap.size V w' := by
    intro V hV
    refine (load_false (R := fun x y z w' => (∃ tb sv mb mp n, x = .pointer (some ⟨tb, 0, none⟩) ∧ y = .int .i64 n ∧ z = .int .i64 0 ∧ TabIs w' V.heap.size tb T sv mb mp) ∧ Below V.heap.size V w') rfl (fun W hW => ?_)).mono ?_
    · refine (new_ok hT A c W (hl.below (hV.trans (hW.mono hV.size)) (Nat.le_refl _)) (by omega)).mono ?_
      rintro e w' ⟨tb, sv, mb, mp, rfl, _, ht, hb⟩
      exact ⟨_, _, _, rfl, ⟨tb, sv, mb, mp, _, rfl, rfl, rfl, ht.less hW.size⟩, hW.trans (hb.mono hW.size)⟩
    · rintro e w' ⟨x, y, z, rfl, ⟨tb, sv, mb, mp, n, rfl, rfl, rfl, ht⟩, hb⟩
      exact ⟨⟨tb, sv, mb, mp, n, rfl, ht⟩, hb⟩
  have hM : ∀ V, Below w.heap.size w V → Calls Tryz.prog 128 #[.slice none (mrgS l).xs.length 0] V fun e w' => (∃ mb sv mi mt n, e = .returned (.tuple #[.pointer (some ⟨mb, 0, none⟩), .int .i64 n, .int .i64 0]) ∧ MarkIs w' V.heap.size mb (mrgS l).xs sv mi mt) ∧ Below V.heap.size V w' := by
    intro V hV
    refine (mnew_nil V 0).mono ?_
    rintro e w' ⟨⟨mb, sv, mi, mt, rfl, hm⟩, hb⟩
    exact ⟨⟨mb, sv, mi, mt, 0, rfl, hm⟩, hb⟩
  refine (vnew_any (cM := c) (cT := 0) (cX := 0) (cC := 0) (cJ := 0) hs hR hL hM rfl (by simp [mrgS]; omega) rfl rfl).mono ?_
  rintro e w' ⟨⟨vb, A1, A2, A3, A4, A5, c1, c2, c3, c4, c5, tbase, tb, bk, kbase, mk, sv, mb, mp, sv2, mi, mt, rfl, hv⟩, hb⟩
  exact ⟨⟨⟨vb, mrgS l, T, A1, A2, A3, A4, A5, c1, c2, c3, c4, c5, tbase, tb, bk, kbase, mk, sv, mb, mp, sv2, mi, mt⟩, rfl, ⟨_, 0, 0, 0, 0, hv, .inl ⟨rfl, rfl, rfl, rfl⟩⟩, rfl, rfl, hok⟩, hb⟩
def u8V (x : Nat) : Value := .int .u8 (x : Int)
theorem ninfo_u8 : (Tryz.prog.info? 5).map (fun i => (i.zero, i.size, i.bytes)) = some (some (.int .u8 0), 1, 1) := by kernel_rfl
theorem own_cells {w : World} {base n cap g : Nat} {e : TypeId} {size : Nat} {xs : List Value} (h : w.ownsRow base e size (.slice (some ⟨g, 0, none⟩) n cap) n xs) (hn : 0 < n) (j : Nat) (hj : j < n * size) : (∃ v, w.cell? ⟨g, j, none⟩ = some v) ∧ w.frozen? ⟨g, j, none⟩ = false := by
  obtain ⟨g', cap', e1, _, _, hc⟩ := own_open h hn
  injection e1 with e1 e2 e3
  injection e1 with e1
  injection e1 with e1
  subst e1
  have hl := h.1
  obtain ⟨h1, h2⟩ := hc j xs[j] (List.getElem?_eq_getElem (by omega))
  exact ⟨⟨_, h1⟩, h2⟩
theorem gen_set1 {K : Act → World → Prop} {a : Act} {W V : World} (hV : W = V) (h : ∀ W', W' = V → K a W') : K a W := by subst hV; exact h _ rfl
structure RevK (xs out : List Nat) (k : Nat) : Prop where
  len : out.length = xs.length
  at' : ∀ t, t < xs.length → atL out t = if t < k ∨ xs.length - k ≤ t then atL xs (xs.length - 1 - t) else atL xs t
theorem RevK.start (xs : List Nat) : RevK xs xs 0 := ⟨rfl, fun t ht => by rw [if_neg (by omega)]⟩
theorem atL_set (l : List Nat) (i x t : Nat) (hi : i < l.length) : atL (l.set i x) t = if t = i then x else atL l t := by
  unfold atL
  rw [List.getElem?_set]
  by_cases h : i = t
  · subst h; simp [hi]
  · rw [if_neg h, if_neg (fun e => h e.symm)]
theorem RevK.next {xs out : List Nat} {k : Nat} (h : RevK xs out k) (hk : k + 1 + k < xs.length) : RevK xs ((out.set k (atL out (xs.length - 1 - k))).set (xs.length - 1 - k) (atL out k)) (k + 1) := by
  refine ⟨by rw [List.length_set, List.length_set, h.len], fun t ht => ?_⟩
  have hl := h.len
  rw [atL_set _ _ _ _ (by rw [List.length_set]; omega), atL_set _ _ _ _ (by omega)]
  by_cases h1 : t = xs.length - 1 - k
  · rw [if_pos h1, if_pos (by omega), h.at' k (by omega), if_neg (by omega)]
    congr 1
    omega
  · rw [if_neg h1]
    by_cases h2 : t = k
    · rw [if_pos h2, if_pos (by omega), h.at' (xs.length - 1 - k) (by omega), if_neg (by omega)]
      congr 1
      omega
    · rw [if_neg h2, h.at' t ht]
      by_cases h3 : t < k ∨ xs.length - k ≤ t
      · rw [if_pos h3, if_pos (by omega)]
      · rw [if_neg h3, if_neg (by omega)]
theorem RevK.done {xs out : List Nat} {k : Nat} (h : RevK xs out k) (hk : xs.length ≤ k + 1 + k) (hk2 : k ≤ xs.length) : out = xs.reverse := by
  apply List.ext_getElem
  · rw [h.len, List.length_reverse]
  · intro t h1 h2
    have h3 : t < xs.length := by rw [← h.len]; exact h1
    have := h.at' t h3
    rw [atL_get h1] at this
    rw [this, List.getElem_reverse, atL_get (by omega)]
    split
    · rfl
    · rw [atL_get (by omega)]
      congr 1
      omega
set_option maxHeartbeats 4000000 in
theorem reverse_any (xs : List Nat) (base g c : Nat) (w : World) (h : w.ownsRow base 5 1 (.slice (some ⟨g, 0, none⟩) xs.length c) xs.length (xs.map u8V)) (hg : base ≤ g) (hlen : xs.length < 1000000000000000000) :
    Calls Tryz.prog 84 #[.slice (some ⟨g, 0, none⟩) xs.length c] w fun e w' => e = .returned (.tuple #[]) ∧ w'.ownsRow base 5 1 (.slice (some ⟨g, 0, none⟩) xs.length c) xs.length (xs.reverse.map u8V) ∧ Keep (fun x => x = g) w w' := by
  have HO := Lib.hid h
  clear h
  have wl : IntKind.i64.wrap ((xs.length : Int) - 1) = (xs.length : Int) - 1 := IntWalk.i64_in _ (by omega)
  go_enter Tryz.func84, Tryz.ntmps84
  go_wp2_with fail
  clear wl
  go_loopg [2, 3] xs.length (fun n v2 v3 W => ∃ (k : Nat) (out : List Nat), k + n = xs.length ∧ v2 = .int .i64 (k : Int) ∧ v3 = .int .i64 ((xs.length : Int) - 1 - (k : Int)) ∧ RevK xs out k ∧ W.ownsRow base 5 1 (.slice (some ⟨g, 0, none⟩) xs.length c) xs.length (out.map u8V) ∧ Keep (fun x => x = g) w W)
  case atStart => exact ⟨0, xs, by omega, rfl, by simp, RevK.start xs, HO.out, Keep.refl _ _⟩
  case round =>
    obtain ⟨k, out, hk, rfl, rfl, hR, hO, hK⟩ := hrel
    rename World => W
    have HRV := Lib.hid hR
    have HROW := Lib.hid (own_drew hO)
    have HK := Lib.hid hK.drew
    have HROW0 := Lib.hid hO
    have HK0 := Lib.hid hK
    clear HO hR hO hK
    by_cases hlt : k + 1 + k < xs.length
    · obtain ⟨j, hj⟩ : ∃ j, xs.length - 1 - k = j := ⟨_, rfl⟩
      rw [show (xs.length : Int) - 1 - (k : Int) = (j : Int) by omega]
      have hlt' : (k : Int) < (j : Int) := by omega
      have p0 : (0 : Int) ≤ (k : Int) := by omega
      have p1 : (k : Int) < (xs.length : Int) := by omega
      have p2 : (0 : Int) ≤ (j : Int) := by omega
      have p3 : (j : Int) < (xs.length : Int) := by omega
      have hkl : k < xs.length := by omega
      have hjl : j < xs.length := by omega
      have HNX := HRV.out.next hlt
      rw [hj] at HNX
      have hl := HRV.out.len
      obtain ⟨x, hx⟩ : ∃ x, atL out k = x := ⟨_, rfl⟩
      obtain ⟨y, hy⟩ : ∃ y, atL out j = y := ⟨_, rfl⟩
      rw [hx, hy] at HNX
      obtain ⟨a0, a1⟩ := own_at HROW.out k (u8V x) (by rw [List.getElem?_map, List.getElem?_eq_getElem (by omega), ← hx, atL_get (by omega)]; rfl)
      obtain ⟨b0, b1⟩ := own_at HROW.out j (u8V y) (by rw [List.getElem?_map, List.getElem?_eq_getElem (by omega), ← hy, atL_get (by omega)]; rfl)
      unfold u8V at a0 b0
      have HNXT := Lib.hid HNX
      have w1 : IntKind.i64.wrap ((k : Int) + 1) = (k : Int) + 1 := IntWalk.i64_in _ (by omega)
      have w2 : IntKind.i64.wrap ((j : Int) - 1) = (xs.length : Int) - 1 - ((k : Int) + 1) := by rw [IntWalk.i64_in _ (by omega)]; omega
      have HJ := Lib.hid hj
      clear hx hy hl HNX hj
      have hkj : k < j := by omega
      go_wp2_with fail
      refine wp_region_D (Ds := [13, 15]) (S := fun V => V.cell? ⟨g, k, none⟩ = some (.int .u8 (x : Int)) ∧ V.cell? ⟨g, j, none⟩ = some (.int .u8 (y : Int))) (by kernel_rfl) (by exact ⟨a0, b0⟩) (fun hHeld => ?_)
      clear a0 a1 b0 b1
      generalize W.drew = W0 at *
      refine tkP 0 14 ?_ rfl (.inl ⟨by rfl, ?_⟩) ?_; rotate_left; focus (intro w' _; go_simp; (try with_reducible rfl))
      try simp only [sIB, sC0, sCS]
      refine tkP 1 15 ?_ rfl (.inl ⟨by rfl, ?_⟩) ?_; rotate_left; focus (intro w' _; go_simp; (try with_reducible rfl))
      try simp only [sIB, sC0, sCS]
      refine tkP 2 16 ?_ rfl (.inl ⟨by rfl, ?_⟩) ?_; rotate_left; focus (intro w' _; go_simp; (try with_reducible rfl))
      try simp only [sIB, sC0, sCS]
      refine tkP 3 17 ?_ rfl (.inl ⟨by rfl, ?_⟩) ?_; rotate_left; focus (intro w' _; go_simp; (try with_reducible rfl))
      try simp only [sIB, sC0, sCS]
      refine tkP 4 18 ?_ rfl (.inl ⟨by rfl, ?_⟩) ?_; rotate_left; focus (intro w' _; go_simp; (try with_reducible rfl))
      try simp only [sIB, sC0, sCS]
      refine tkP 5 19 ?_ rfl (.inl ⟨by rfl, ?_⟩) ?_; rotate_left; focus (intro w' _; go_simp; (try with_reducible rfl))
      try simp only [sIB, sC0, sCS]
      refine tkP 6 20 ?_ rfl (.inl ⟨by rfl, ?_⟩) ?_; rotate_left; focus (intro w' _; go_simp; (try with_reducible rfl))
      try simp only [sIB, sC0, sCS]
      refine tkP 8 22 ?_ rfl (.inl ⟨by rfl, ?_⟩) ?_; rotate_left; focus (intro w' _; go_simp; (try with_reducible rfl))
      try simp only [sIB, sC0, sCS]
      refine tkP 9 23 ?_ rfl (.inl ⟨by rfl, ?_⟩) ?_; rotate_left; focus (intro w' _; go_simp; (try with_reducible rfl))
      try simp only [sIB, sC0, sCS]
      refine tkP 10 24 ?_ rfl (.inl ⟨by rfl, ?_⟩) ?_; rotate_left; focus (intro w' _; go_simp; (try with_reducible rfl))
      try simp only [sIB, sC0, sCS]
      refine tkD 7 21 ?_ rfl hHeld (.inl ⟨by rfl, ?_⟩) ?_; rotate_left; focus (intro w' hSw; (try dsimp only at hSw); go_simp; (try with_reducible rfl))
      try simp only [sIB, sC0, sCS]
      refine tkD 11 25 ?_ rfl hHeld (.inl ⟨by rfl, ?_⟩) ?_; rotate_left; focus (intro w' hSw; (try dsimp only at hSw); go_simp; (try with_reducible rfl))
      try simp only [sIB, sC0, sCS]
      refine tkP 12 26 ?_ rfl (.inl ⟨by rfl, ?_⟩) ?_; rotate_left; focus (intro w' _; go_simp; (try with_reducible rfl))
      try simp only [sIB, sC0, sCS]
      refine wpAnyD_last (D := 13) (by decide) (by kernel_rfl) rfl (by rfl) (fun K hK => ?_)
      have q0 := own_cells HROW.out (by omega) k (by omega); obtain ⟨⟨v0, c0⟩, f0⟩ := q0; clear hHeld; go_simp; have HROW := Lib.hid (own_set HROW.out k (.int .u8 (y : Int))); have HK := Lib.hid (HK.out.setCell (p := ⟨g, k, none⟩) (.inl rfl) (.int .u8 (y : Int))); refine gen_set1 rfl (fun W' hW' => ?_); rw [← hW'] at HROW HK; clear hW' c0 f0
      refine hK.out _ _ ?_
      clear hK K
      try simp only [Act.put, sIB, sC0, sCS]
      refine tkP 14 27 ?_ rfl (.inl ⟨by rfl, ?_⟩) ?_; rotate_left; focus (intro w' _; go_simp; (try with_reducible rfl))
      try simp only [sIB, sC0, sCS]
      refine wpAnyD_last (D := 15) (by decide) (by kernel_rfl) rfl (by rfl) (fun K hK => ?_)
      have q0 := own_cells HROW.out (by omega) j (by omega); obtain ⟨⟨v0, c0⟩, f0⟩ := q0; go_simp; have HROW := Lib.hid (own_set HROW.out j (.int .u8 (x : Int))); have HK := Lib.hid (HK.out.setCell (p := ⟨g, j, none⟩) (.inl rfl) (.int .u8 (x : Int))); refine gen_set1 rfl (fun W' hW' => ?_); rw [← hW'] at HROW HK; clear hW' c0 f0
      refine hK.out _ _ ?_
      clear hK K
      try simp only [Act.put, sIB, sC0, sCS]
      refine wpAnyD_done (by kernel_rfl) ?_ _
      go_wp2_with fail
      go_roundg (gk - 1)
      case measure => omega
      case rel => exact ⟨k + 1, _, by omega, by simp, by simp, HNXT.out, by rw [List.map_set, List.map_set]; exact HROW.out, HK.out⟩
    · have hlt' : ¬ ((k : Int) < (xs.length : Int) - 1 - (k : Int)) := by omega
      have hd := HRV.out.done (by omega) (by omega)
      subst hd
      clear HROW HK
      go_wp2_with fail
      go_end0
      exact ⟨rfl, by rw [← List.map_reverse]; exact HROW0.out, HK0.out⟩
def decB (n : Nat) : List Nat := if n = 0 then [48] else (dg 10 n).reverse.map (· + 48)
def decS (n : Nat) : ByteArray := bs ((decB n).map UInt8.ofNat)
theorem dg_step {m : Nat} (hm : 0 < m) (out : List Nat) (n : Nat) (h : dg 10 n = out ++ dg 10 m) : dg 10 n = (out ++ [m % 10]) ++ dg 10 (m / 10) := by
  rw [h, dg_pos (by decide) hm, List.append_assoc]; rfl
theorem rest_step (r q e : Nat) : (r + 10 ^ (e + 1) * q) % 10 = r % 10 ∧ (r + 10 ^ (e + 1) * q) / 10 = r / 10 + 10 ^ e * q := by
  have h : 10 ^ (e + 1) * q = 10 * (10 ^ e * q) := by rw [Nat.pow_succ, Nat.mul_comm (10 ^ e) 10, Nat.mul_assoc]
  rw [h]
  generalize 10 ^ e * q = z
  omega
theorem rest_lt (r e : Nat) (h : r < 10 ^ (e + 1)) : r / 10 < 10 ^ e := by
  rw [Nat.pow_succ] at h
  exact Nat.div_lt_of_lt_mul (by rw [Nat.mul_comm]; exact h)
theorem nrow_ne {w : World} {base e : TypeId} {size n : Nat} {v : Value} {xs : List Value} {tb : Nat} {cs : Array Value} {t : TypeId} {fz : Nat × Nat} (h : w.ownsRow base e size v n xs) (hb : w.heap[tb]? = some (.cells cs t fz)) (hne : t ≠ e) : v.ownBlock ≠ some tb := by
  rcases h.2 with ⟨rfl, _⟩ | ⟨g, cap, cur, rfl, _, hg, _⟩
  · simp [Value.ownBlock]
  · simp only [Value.ownBlock, ne_eq, Option.some.injEq]
    rintro rfl
    rw [hb] at hg
    simp only [Option.some.injEq, Obj.cells.injEq] at hg
    exact hne hg.2.1
theorem own_lt {w : World} {base : Nat} {e : TypeId} {size n : Nat} {v : Value} {xs : List Value} (h : w.ownsRow base e size v n xs) : ∀ k, v.ownBlock = some k → k < w.heap.size := by
  intro k hk
  rcases h.2 with ⟨rfl, _⟩ | ⟨g, cap, cur, rfl, hb, hg, _⟩
  · simp [Value.ownBlock] at hk
  · simp only [Value.ownBlock, Option.some.injEq] at hk; subst hk; exact blk_lt hg
structure InIs (w W : World) (r g4 : Nat) (q rv e n : Nat) (Aq : Option Addr) (cq : Nat) (out : List Nat) (A : Option Addr) (c : Nat) : Prop where
  below : Below w.heap.size w W
  c0 : ∃ s, W.heap[r]? = some (.cells #[s] 59) ∧ (∀ x : Nat, s ≠ u32V x)
  c4 : W.heap[g4]? = some (.cells #[.slice Aq (dg B32 q).length cq] 59)
  nq : NatIs W (.agg #[.slice Aq (dg B32 q).length cq]) q
  fr : 0 < q → ∀ a, Aq = some a → (Value.slice A out.length c).ownBlock ≠ some a.block ∧ a.block < W.heap.size
  row : W.ownsRow (w.heap.size + 1) 5 1 (.slice A out.length c) out.length (out.map fun d => u8V (d + 48))
  val : dg 10 n = out ++ dg 10 (rv + 10 ^ e * q)
  lt : rv < 10 ^ e
  small : q ≤ n
theorem InIs.grow {w W V : World} {r g4 q rv e n : Nat} {Aq : Option Addr} {cq : Nat} {out : List Nat} {A : Option Addr} {c : Nat} (h : InIs w W r g4 q rv (e + 1) n Aq cq out A c) {v' : Value} (hpos : 0 < rv ∨ 0 < q)
    (hown : V.ownsRow (w.heap.size + 1) 5 1 v' (out.length + 1) ((out.map fun d => u8V (d + 48)) ++ [u8V (rv % 10 + 48)])) (hg : W.grownBy V (Value.slice A out.length c).ownBlock) (hn : v'.ownBlock = (Value.slice A out.length c).ownBlock ∨ ∃ g, v'.ownBlock = some g ∧ W.heap.size ≤ g) :
    ∃ A' c', v' = .slice A' (out.length + 1) c' ∧ InIs w V r g4 q (rv / 10) e n Aq cq (out ++ [rv % 10]) A' c' := by
  obtain ⟨A', c', rfl⟩ := own_slice hown
  have hk : Keep (fun g => (Value.slice A out.length c).ownBlock = some g) W V := Keep.of_grown hg (fun g hg => hg)
  obtain ⟨s, hs1, hs2⟩ := h.c0
  have hl : (out ++ [rv % 10]).length = out.length + 1 := by simp
  obtain ⟨hm1, hm2⟩ := rest_step rv q e
  refine ⟨A', c', rfl, h.below.trans (hk.below (B := w.heap.size) h.below.size (fun x hx => by have := own_base h.row x hx; omega)), ⟨s, hk.blk hs1 (fun e => nrow_ne h.row hs1 (by decide) e), hs2⟩, hk.blk h.c4 (fun e => nrow_ne h.row h.c4 (by decide) e), ?_, ?_, ?_, ?_, rest_lt _ _ h.lt, h.small⟩
  · obtain ⟨A2, c2, e2, h1, h2⟩ := h.nq
    refine ⟨A2, c2, e2, ?_, h2⟩
    simp only [Value.agg.injEq, List.cons.injEq, Array.mk.injEq, and_true, Value.slice.injEq] at e2
    obtain ⟨e3, _, _⟩ := e2
    subst e3
    rcases Nat.eq_zero_or_pos q with hq | hq
    · subst hq; rw [dg_zero]; exact Sl1.nil _ _ _
    · exact sl1_keep h1 hk (fun a ha e => (h.fr hq a ha).1 e)
  · intro hq a ha
    obtain ⟨h1, h2⟩ := h.fr hq a ha
    refine ⟨?_, Nat.lt_of_lt_of_le h2 hk.size⟩
    rw [hl]
    rcases hn with hn | ⟨g, hn, hgg⟩
    · rw [hn]; exact h1
    · rw [hn]
      intro e
      simp at e
      omega
  · rw [hl, List.map_append]; exact hown
  · have hp : 0 < rv + 10 ^ (e + 1) * q := by
      rcases hpos with h1 | h1
      · omega
      · have : 0 < 10 ^ (e + 1) * q := Nat.mul_pos (Nat.pow_pos (by decide)) h1
        omega
    have := dg_step hp out n h.val
    rwa [hm1, hm2] at this
structure StrIs (w W : World) (r : Nat) (m n : Nat) (out : List Nat) (A : Option Addr) (c : Nat) : Prop where
  below : Below w.heap.size w W
  c0 : ∃ s, W.heap[r]? = some (.cells #[s] 59) ∧ (∀ x : Nat, s ≠ u32V x) ∧ NatIs W (.agg #[s]) m
  row : W.ownsRow (w.heap.size + 1) 5 1 (.slice A out.length c) out.length (out.map fun d => u8V (d + 48))
  val : dg 10 n = out ++ dg 10 m
  small : m ≤ n
set_option maxHeartbeats 8000000 in
theorem string_any (v1 : Value) (n : Nat) (w : World) (h1 : NatIs w v1 n) (hl : (dg B32 n).length ≤ 100000) (hd10 : (dg 10 n).length ≤ 100000000) :
    Calls Tryz.prog 38 #[v1] w fun e w' => e = .returned (.string (decS n)) ∧ Below w.heap.size w w' := by
  have HSM := Lib.hid (fun m (h : m ≤ n) => Nat.le_trans (dg_len_mono (b := B32) (by decide) h) hl)
  obtain ⟨A1, c1, rfl, s1, k1⟩ := h1
  have hb0 := (Below.refl w.heap.size w).alloc (Nat.le_refl _) (.cells #[.slice A1 (dg B32 n).length c1] 59)
  have hx0 := blk_new w (.cells #[.slice A1 (dg B32 n).length c1] 59)
  have HN0 := Lib.hid (NatIs.below ⟨A1, c1, rfl, s1, k1⟩ hb0 (Nat.le_refl _))
  have HI : Hid (StrIs w (w.alloc (.cells #[.slice A1 (dg B32 n).length c1] 59)) w.heap.size n n [] none 0) :=
    Lib.hid ⟨hb0, ⟨_, hx0, sl_ne_u32 _ _ _, NatIs.below ⟨A1, c1, rfl, s1, k1⟩ hb0 (Nat.le_refl _)⟩, own_nil _ _ _ _, rfl, Nat.le_refl _⟩
  have HB0 := Lib.hid hb0
  obtain ⟨f0, f1⟩ := cell_facts hx0
  clear s1 k1 hb0 hx0 hl
  go_enter Tryz.func38, Tryz.ntmps38
  go_upto_region 1 with fail
  generalize w.alloc (.cells #[.slice A1 (dg B32 n).length c1] 59) = W0 at *
  generalize Value.slice A1 (dg B32 n).length c1 = s0 at *
  have HRR : Hid (w.heap.size = w.heap.size) := Lib.hid rfl
  generalize hr : w.heap.size = r at HI f0 f1 ⊢
  have HR := Lib.hid hr
  clear hr HRR
  go_wp2_with fail
  refine (zero_any _ n W0 HN0.out).mono ?_
  rintro e W1 ⟨rfl, hb1⟩
  by_cases hz : n = 0
  · subst hz
    have hB1 := HB0.out.trans (hb1.mono HB0.out.size)
    have hd : decide ((0 : Nat) = 0) = true := rfl
    rw [hd]
    clear hd
    go_wp2_with fail
    go_ret
    exact ⟨rfl, hB1⟩
  · have hd : decide (n = 0) = false := by simp [hz]
    rw [hd]
    have HI1 : Hid (StrIs w W1 r n n [] none 0) := Lib.hid (by
      obtain ⟨s, hs1, hs2, hs3⟩ := HI.out.c0
      exact ⟨HI.out.below.trans (hb1.mono HI.out.below.size), ⟨s, blk_below hb1 (blk_lt hs1) hs1, hs2, hs3.below hb1 (Nat.le_refl _)⟩, own_below HI.out.row hb1 (Nat.le_refl _), HI.out.val, HI.out.small⟩)
    clear hd hb1 HI f0 f1
    go_wp2_with fail
    go_loopg [3] n (fun m v3 W => ∃ (out : List Nat) (A : Option Addr) (c : Nat), v3 = .slice A out.length c ∧ StrIs w W r m n out A c)
    case atStart => exact ⟨[], none, 0, rfl, HI1.out⟩
    case round =>
      obtain ⟨out, A, c, rfl, hW⟩ := hrel
      rename World => W
      clear HI1
      have HW := Lib.hid hW
      clear hW
      obtain ⟨s, hs1, hs2, hs3⟩ := HW.out.c0
      have HS3 := Lib.hid hs3
      obtain ⟨z0, z1⟩ := cell_facts hs1
      have HC0 := Lib.hid (And.intro hs1 hs2)
      clear hs1 hs2 hs3
      go_wp2_with fail
      refine (zero_any (.agg #[s]) gk W HS3.out).mono ?_
      rintro e W2 ⟨rfl, hb2⟩
      have HB2 := Lib.hid (HW.out.below.trans (hb2.mono HW.out.below.size))
      have HR2 := Lib.hid (own_below HW.out.row hb2 (Nat.le_refl _))
      have HC2 := Lib.hid (And.intro (blk_below hb2 (blk_lt HC0.out.1) HC0.out.1) HC0.out.2)
      have HS2 := Lib.hid (HS3.out.below hb2 (Nat.le_refl _))
      obtain ⟨y0, y1⟩ := cell_facts HC2.out.1
      have HV := Lib.hid HW.out.val
      have HSMM := Lib.hid HW.out.small
      have hlt10 : ∀ d ∈ out, d < 10 := by
        intro d hd
        have : d ∈ dg 10 n := by rw [HV.out]; exact List.mem_append_left _ hd
        exact dg_lt (by decide) n d this
      have HL10 := Lib.hid hlt10
      clear z0 z1 hb2 HC0 HS3 HW hlt10
      rcases Nat.eq_zero_or_pos gk with hg0 | hg0
      · subst hg0
        have hout : out = dg 10 n := by have := HV.out; rw [dg_zero, List.append_nil] at this; exact this.symm
        have hne : 0 < out.length := by rw [hout]; exact List.length_pos_iff.2 (dg_ne_nil (by decide) (Nat.pos_of_ne_zero hz))
        obtain ⟨g, cap, hA, hgb, _, _⟩ := own_open HR2.out hne
        simp only [Value.slice.injEq, true_and] at hA
        obtain ⟨rfl, rfl⟩ := hA
        have hl8 : (out.map (· + 48)).length = out.length := by simp
        have hrow : W2.ownsRow (w.heap.size + 1) 5 1 (.slice (some ⟨g, 0, none⟩) (out.map (· + 48)).length c) (out.map (· + 48)).length ((out.map (· + 48)).map u8V) := by
          rw [hl8, List.map_map]; exact HR2.out
        have hol : out.length < 1000000000000000000 := by
          have h9 : out.length ≤ 100000000 := by rw [hout]; exact hd10
          omega
        have HREV := Lib.hid (reverse_any (out.map (· + 48)) _ g c W2 hrow hgb (by rw [hl8]; exact hol))
        rw [hl8] at HREV
        have HOUT := Lib.hid hout
        have hdd : decide ((0 : Nat) = 0) = true := rfl
        rw [hdd]
        clear hdd hout hl8 hrow
        go_wp2_with fail
        refine HREV.out.mono ?_
        rintro e W3 ⟨rfl, hr3, hk3⟩
        have hb3 : Below w.heap.size w W3 := HB2.out.trans (hk3.below (B := w.heap.size) HB2.out.size (fun x hx => by omega))
        have hcv : (convert 70 9 (.slice (some ⟨g, 0, none⟩) out.length c)).run Tryz.prog W3 = .ok (.string (decS n)) W3 := by
          have hl9 : (((out.map (· + 48)).reverse).map UInt8.ofNat).length = out.length := by simp
          have := run_convert_bytes_back (P := Tryz.prog) W3 70 9 5 ⟨g, 0, none⟩ c (((out.map (· + 48)).reverse).map UInt8.ofNat) Tryz.underlying70 Tryz.underlying5 Tryz.underlying9 ?_
          · rw [hl9] at this
            rw [this]
            unfold decS decB
            rw [if_neg hz, ← HOUT.out, ← List.map_reverse]
            rfl
          · intro j hj
            rw [hl9] at hj
            have hj2 : j < ((out.map (· + 48)).reverse).length := by simpa using hj
            have hx := (own_at hr3 j (u8V (((out.map (· + 48)).reverse)[j])) (by rw [List.getElem?_map, List.getElem?_eq_getElem hj2]; rfl)).1
            rw [add_plain, Nat.zero_add, hx]
            have hm : ((out.map (· + 48)).reverse)[j] ∈ (out.map (· + 48)).reverse := List.getElem_mem _
            rw [List.mem_reverse, List.mem_map] at hm
            obtain ⟨d, hd, he⟩ := hm
            have hd10 := HL10.out d hd
            simp only [List.getElem_map, u8V]
            rw [← he]
            simp
            omega
        have HB3 := Lib.hid hb3
        clear hr3 hk3 hb3 hgb hne
        go_wp2_with fail
        go_ret
        exact ⟨rfl, HB3.out⟩
      · have hdd : decide (gk = 0) = false := by simp; omega
        rw [hdd]
        clear hdd
        go_wp2_with fail
        refine (divide_any (.agg #[s]) gk 1000000000 W2 HS2.out (by decide) (by decide) (HSM.out _ HSMM.out)).mono ?_
        rintro e W3 ⟨v, rfl, hq3, hb3, hfr⟩
        obtain ⟨Aq, cq, rfl, hq4, hq5⟩ := hq3
        obtain ⟨qd, hqd⟩ : ∃ qd, gk / 1000000000 = qd := ⟨_, rfl⟩
        obtain ⟨rv, hrv⟩ : ∃ rv, gk % 1000000000 = rv := ⟨_, rfl⟩
        rw [hqd] at hq4 hq5 hfr ⊢
        rw [hrv]
        have hgm : gk = rv + 10 ^ 9 * qd := by rw [← hqd, ← hrv]; exact (Nat.mod_add_div gk 1000000000).symm
        have HLTQ : Hid (qd < gk) := Lib.hid (by rw [← hqd]; exact Nat.div_lt_self hg0 (by decide))
        have hrvl : rv < 1000000000 := by rw [← hrv]; exact Nat.mod_lt _ (by decide)
        have hb4 := hb3.alloc hb3.size (.cells #[.slice Aq (dg B32 qd).length cq] 59)
        have hb4' : Below W3.heap.size W3 (W3.alloc (.cells #[.slice Aq (dg B32 qd).length cq] 59)) := (Below.refl _ _).alloc (Nat.le_refl _) _
        have HG4 : Hid (w.heap.size ≤ W3.heap.size) := Lib.hid (Nat.le_trans HB2.out.size hb3.size)
        have HIN0 : Hid (InIs w (W3.alloc (.cells #[.slice Aq (dg B32 qd).length cq] 59)) r W3.heap.size qd rv 9 n Aq cq out A c) := Lib.hid (by
          refine ⟨HB2.out.trans (hb4.mono HB2.out.size), ⟨s, blk_below hb4 (blk_lt HC2.out.1) HC2.out.1, HC2.out.2⟩, blk_new W3 _, NatIs.below ⟨Aq, cq, rfl, hq4, hq5⟩ hb4' (Nat.le_refl _), ?_, own_below HR2.out hb4 (Nat.le_refl _), by rw [← hgm]; exact HV.out, hrvl, by have := HSMM.out; have := HLTQ.out; omega⟩
          intro hq a ha
          have h1 := hfr _ _ _ rfl a ha
          refine ⟨fun e => by have := own_lt HR2.out _ e; omega, ?_⟩
          obtain ⟨x, l', hx⟩ := List.exists_cons_of_ne_nil (dg_ne_nil (b := B32) (by decide) hq)
          obtain ⟨b, o, e1, hc1⟩ := hq4 0 x (by rw [hx]; rfl)
          rw [e1] at ha
          cases ha
          have := World.block_lt_of_cell? _ _ hc1
          exact Nat.lt_of_lt_of_le this hb4'.size)
        have HRVL := Lib.hid hrvl
        clear hb3 hb4 hb4' hq4 hq5 hfr hqd hrv hgm hrvl HR2 y0 y1 HV HC2 HS2 HL10 HB2
        go_wp2_with fail
        generalize W3.alloc (.cells #[.slice Aq (dg B32 qd).length cq] 59) = W4 at *
        generalize W3.heap.size = g4 at *
        go_loopg [3, 5, 6] 9 (fun e v3 v5 v6 V => ∃ (i rv : Nat) (out : List Nat) (A : Option Addr) (c : Nat), i + e = 9 ∧ v6 = .int .i64 (i : Int) ∧ v5 = .int .u32 (rv : Int) ∧ v3 = .slice A out.length c ∧ rv < 1000000000 ∧ InIs w V r g4 qd rv e n Aq cq out A c)
        case atStart => exact ⟨0, rv, out, A, c, rfl, rfl, rfl, rfl, HRVL.out, HIN0.out⟩
        case round =>
          clear HRVL HIN0
          obtain ⟨i, r5, o5, A5, c5, hi, rfl, rfl, rfl, hrvl, hIN⟩ := hrel
          rename World => V
          have HIN := Lib.hid hIN
          have HRVL := Lib.hid hrvl
          clear hIN hrvl
          rcases Nat.eq_zero_or_pos gk with he0 | he0
          · subst he0
            have hi9 : i = 9 := by omega
            subst hi9
            have HVAL : Hid (dg 10 n = o5 ++ dg 10 qd) := Lib.hid (by
              have h1 := HIN.out.val
              have h2 := HIN.out.lt
              rw [show r5 = 0 by simpa using h2] at h1
              simpa using h1)
            have hX := HIN.out
            obtain ⟨sx, hsx1, hsx2⟩ := hX.c0
            obtain ⟨x0, x1⟩ := cell_facts hsx1
            obtain ⟨x4, x5⟩ := cell_facts hX.c4
            have HSX : Hid (StrIs w (V.setCell ⟨r, 0, none⟩ (.slice Aq (dg B32 qd).length cq)) r qd n o5 A5 c5) := Lib.hid (by
              refine ⟨hX.below.setCell (p := ⟨r, 0, none⟩) (by rw [HR.out]; exact Nat.le_refl _) _, ⟨_, cell_put hsx1 _, sl_ne_u32 _ _ _, NatIs.put hX.nq hsx1 hsx2 _⟩, ?_, HVAL.out, hX.small⟩
              exact own_keep hX.row (Keep.setCell (F := fun x => x = r) (p := ⟨r, 0, none⟩) (Keep.refl _ _) (.inl rfl) _) (fun g hg e => by subst e; exact nrow_ne hX.row hsx1 (by decide) hg))
            clear hX hsx1 hsx2
            go_wp2_with fail
            go_roundg qd
            case measure => exact HLTQ.out
            case rel => exact ⟨o5, A5, c5, rfl, HSX.out⟩
          · obtain ⟨e, rfl⟩ : ∃ e, gk = e + 1 := ⟨gk - 1, by omega⟩
            have hi9 : (i : Int) < 9 := by omega
            rcases Nat.eq_zero_or_pos r5 with hr0 | hr0
            · subst hr0
              have hr1 : ¬ (0 : Int) < 0 := by omega
              obtain ⟨x4, x5⟩ := cell_facts HIN.out.c4
              go_wp2_with fail
              refine (zero_any _ qd V HIN.out.nq).mono ?_
              rintro e9 V2 ⟨rfl, hb9⟩
              have HIN2 : Hid (InIs w V2 r g4 qd 0 (e + 1) n Aq cq o5 A5 c5) := Lib.hid (by
                have h := HIN.out
                obtain ⟨s', h1, h2⟩ := h.c0
                exact ⟨h.below.trans (hb9.mono h.below.size), ⟨s', blk_below hb9 (blk_lt h1) h1, h2⟩, blk_below hb9 (blk_lt h.c4) h.c4, h.nq.below hb9 (Nat.le_refl _), fun hq a ha => ⟨(h.fr hq a ha).1, Nat.lt_of_lt_of_le (h.fr hq a ha).2 hb9.size⟩, own_below h.row hb9 (Nat.le_refl _), h.val, h.lt, h.small⟩)
              clear hb9 x4 x5 HIN
              have HIN := HIN2
              clear HIN2
              rename World => V
              rcases Nat.eq_zero_or_pos qd with hq0 | hq0
              · have hdd : decide (qd = 0) = true := by simp [hq0]
                rw [hdd]
                clear hdd
                have HVAL : Hid (dg 10 n = o5 ++ dg 10 qd) := Lib.hid (by
                  have h1 := HIN.out.val
                  rw [hq0] at h1 ⊢
                  simpa using h1)
                clear hq0
                have hX := HIN.out
                obtain ⟨sx, hsx1, hsx2⟩ := hX.c0
                obtain ⟨x0, x1⟩ := cell_facts hsx1
                obtain ⟨x4, x5⟩ := cell_facts hX.c4
                have HSX : Hid (StrIs w (V.setCell ⟨r, 0, none⟩ (.slice Aq (dg B32 qd).length cq)) r qd n o5 A5 c5) := Lib.hid (by
                  refine ⟨hX.below.setCell (p := ⟨r, 0, none⟩) (by rw [HR.out]; exact Nat.le_refl _) _, ⟨_, cell_put hsx1 _, sl_ne_u32 _ _ _, NatIs.put hX.nq hsx1 hsx2 _⟩, ?_, HVAL.out, hX.small⟩
                  exact own_keep hX.row (Keep.setCell (F := fun x => x = r) (p := ⟨r, 0, none⟩) (Keep.refl _ _) (.inl rfl) _) (fun g hg e => by subst e; exact nrow_ne hX.row hsx1 (by decide) hg))
                clear hX hsx1 hsx2
                go_wp2_with fail
                go_roundg qd
                case measure => exact HLTQ.out
                case rel => exact ⟨o5, A5, c5, rfl, HSX.out⟩
              · have hdd : decide (qd = 0) = false := by simp; omega
                rw [hdd]
                clear hdd hr1
                have HR5 : Hid ((0 : Nat) = 0) := Lib.hid rfl
                have HROW := Lib.hid HIN.out.row
                have HGEN : Hid (w.heap.size + 1 ≤ V.heap.size) := Lib.hid (by have h1 := blk_lt HIN.out.c4; have h2 := HG4.out; omega)
                have hol : o5.length ≤ 100000000 := by
                  have h1 := congrArg List.length HIN.out.val
                  rw [List.length_append] at h1
                  omega
                go_wp2_with (at_builtin; refine app_new (w.heap.size + 1) 70 5 (.int .u8 0) 1 1 [_] 1 _ _ rfl rfl Tryz.underlying70 ninfo_u8 rfl (by decide) _ _ _ rfl rfl rfl (by intro u hu; simp at hu; subst hu; rfl) HROW.out (by omega) (by omega) HGEN.out ?_)
                intro v' w9 hown hg9 hnew
                have HGR : Hid (∃ A' c', v' = .slice A' (o5.length + 1) c' ∧ InIs w w9 r g4 qd (0 / 10) e n Aq cq (o5 ++ [0 % 10]) A' c') := Lib.hid (HIN.out.grow (Or.inr hq0) (by exact hown) hg9 hnew)
                obtain ⟨A6, c6, rfl, hN6⟩ := HGR.out
                have HN6 := Lib.hid hN6
                clear hown hg9 hnew HGR hN6
                have wi : IntKind.i64.wrap ((i : Int) + 1) = (i : Int) + 1 := IntWalk.i64_in _ (by omega)
                go_wp2_with fail
                go_roundg e
                case measure => omega
                case rel => exact ⟨i + 1, 0, _, A6, c6, by omega, by simp, rfl, by simp, by omega, HN6.out⟩
            · have hr1 : (0 : Int) < (r5 : Int) := by omega
              have HROW := Lib.hid HIN.out.row
              have HGEN : Hid (w.heap.size + 1 ≤ V.heap.size) := Lib.hid (by have h1 := blk_lt HIN.out.c4; have h2 := HG4.out; omega)
              have hol : o5.length ≤ 100000000 := by
                have h1 := congrArg List.length HIN.out.val
                rw [List.length_append] at h1
                omega
              obtain ⟨d, hd⟩ : ∃ d, r5 % 10 = d := ⟨_, rfl⟩
              obtain ⟨rq, hrq⟩ : ∃ rq, r5 / 10 = rq := ⟨_, rfl⟩
              have wd : ((r5 : Int) % 10) = (d : Int) := by omega
              have wq : ((r5 : Int) / 10) = (rq : Int) := by omega
              have hd9 : d < 10 := by omega
              have hrv : r5 < 1000000000 := HRVL.out
              have w1 : IntKind.u32.wrap (48 + (d : Int)) = 48 + (d : Int) := IntWalk.u32_in _ (by omega)
              have w2 : (48 + (d : Int)) % 4294967296 = 48 + (d : Int) := by omega
              have w3 : (48 + (d : Int)) % 256 = ((d + 48 : Nat) : Int) := by omega
              have w4 : IntKind.u32.wrap (rq : Int) = (rq : Int) := IntWalk.u32_in _ (by omega)
              have w5 : (rq : Int) % 4294967296 = (rq : Int) := by omega
              have hrql : rq < 1000000000 := by omega
              have HDQ := Lib.hid (And.intro hd hrq)
              clear hd hrq
              go_wp2_with (at_builtin; refine app_new (w.heap.size + 1) 70 5 (.int .u8 0) 1 1 [_] 1 _ _ rfl rfl Tryz.underlying70 ninfo_u8 rfl (by decide) _ _ _ rfl rfl rfl (by intro u hu; simp at hu; subst hu; rfl) HROW.out (by omega) (by omega) HGEN.out ?_)
              intro v' w9 hown hg9 hnew
              have HGR : Hid (∃ A' c', v' = .slice A' (o5.length + 1) c' ∧ InIs w w9 r g4 qd (r5 / 10) e n Aq cq (o5 ++ [r5 % 10]) A' c') := Lib.hid (HIN.out.grow (Or.inl hr0) (by rw [HDQ.out.1]; have h := hown; rw [show (48 + (d : Int)) = ((d + 48 : Nat) : Int) by omega] at h; exact h) hg9 hnew)
              obtain ⟨A6, c6, rfl, hN6⟩ := HGR.out
              rw [HDQ.out.1, HDQ.out.2] at hN6
              have HN6 := Lib.hid hN6
              clear hown hg9 hnew HGR hN6
              have wi : IntKind.i64.wrap ((i : Int) + 1) = (i : Int) + 1 := IntWalk.i64_in _ (by omega)
              go_wp2_with fail
              go_roundg e
              case measure => omega
              case rel => exact ⟨i + 1, rq, _, A6, c6, by omega, by simp, rfl, by simp, hrql, HN6.out⟩
section
variable {w w' W W' : World} {base : Nat} {p : VocP} {g : Option Nat}
theorem count_newV {base : Nat} {p : VocP} {w : World} (h : VocAt w base p none) (hT : OkT p.T) (s : List UInt8) (hs : s.length ≤ 4000) :
    Calls Tryz.prog 24 #[.pointer (some ⟨p.vb, 0, none⟩), .string (bs s)] w fun e w' => (∃ lb, e = .returned (.tuple #[.pointer (some ⟨lb, 0, none⟩), .int .i64 0]) ∧ w.heap.size ≤ lb ∧ LatV w' w.heap.size lb p s) ∧ Below w.heap.size w w' := by
  refine (count_new h hT s hs).mono ?_
  rintro e w' ⟨⟨lb, tr, A, c, vals, rfl, h1⟩, hb⟩
  exact ⟨⟨lb, rfl, h1.lo, ⟨tr, A, c, 0, 0, 0, _, vals, h1, .inl ⟨rfl, rfl, rfl⟩⟩, ⟨base, h.below hb (Nat.le_refl _)⟩, Nat.lt_of_lt_of_le h.lt_size h1.lo⟩, hb⟩
end
def aw21 : List (Int × Int) := [(97, 98)]
def awT21 : List Ent := baseT ++ [([97, 98], 97, 98)]
theorem aw21_1 : addT baseT 97 98 = (256, 0, awT21) := by kernel_rfl
theorem aw21_adds : addsT baseT aw21 = some awT21 := by simp only [aw21, addsT, aw21_1, if_true]
def abab : List UInt8 := [97, 98, 97, 98]
theorem aw21_cnt : cntJ awT21 abab 0 = 4 := by kernel_rfl
theorem aw21_d32 : (dg B32 4).length ≤ 100000 := Nat.le_trans (dg_len_le (k := 2) (by decide) (by decide)) (by decide)
theorem aw21_d10 : (dg 10 4).length ≤ 100000000 := Nat.le_trans (dg_len_le (k := 1) (by decide) (by decide)) (by decide)
theorem sl_mrg1 {w : World} {b : Nat} (h : w.heap[b]? = some (.cells #[.int .i64 97, .int .i64 98] 113)) : Sl w (some ⟨b, 0, none⟩) encM 2 aw21 := sl_mrg (l := aw21) h
theorem awake21_any (w : World) : Calls Tryz.prog 22 #[] w fun e w' => e = .returned (.bool true) ∧ Below w.heap.size w w' := by
  have HB0 := Lib.hid ((Below.refl w.heap.size w).alloc (Nat.le_refl _) (.cells #[.int .i64 97, .int .i64 98] 113))
  have HSL := Lib.hid (sl_mrg1 (blk_new w (.cells #[.int .i64 97, .int .i64 98] 113)))
  have HN : Hid (∀ V, Sl V (some ⟨w.heap.size, 0, none⟩) encM 2 aw21 → Calls Tryz.prog 62 #[.agg #[.bool false, .slice (some ⟨w.heap.size, 0, none⟩) 1 1, .slice none 0 0, .slice none 0 0, .slice none 0 0, .slice none 0 0]] V fun e w' => (∃ p, e = .returned (.tuple #[.pointer (some ⟨p.vb, 0, none⟩), .int .i64 0, .int .i64 0]) ∧ VocAt w' V.heap.size p none ∧ p.T = awT21 ∧ p.s = mrgS aw21 ∧ OkT awT21) ∧ Below V.heap.size V w') := Lib.hid (fun V hV => vnew_m aw21_adds _ 1 V hV (by decide) (by decide))
  go_enter Tryz.func22, Tryz.ntmps22
  go_wp2_with (first
    | (go_at_call 62; refine (HN.out _ HSL.out).mono ?_; rintro e W ⟨⟨p, rfl, hv, hT, hs, hok⟩, hb⟩; (have HV := Lib.hid hv); (have HT := Lib.hid hT); (have HOK := Lib.hid hok); (have HB := Lib.hid (HB0.out.trans (hb.mono HB0.out.size))); clear hv hT hs hok hb)
    | (go_at_call 24; refine (count_newV HV.out (by rw [HT.out]; exact HOK.out) abab (by decide)).mono ?_; rintro e W2 ⟨⟨lb, rfl, hlo, hl⟩, hb⟩; (have HL := Lib.hid hl); (have HLO := Lib.hid hlo); (have HB2 := Lib.hid (HB.out.trans (hb.mono HB.out.size))); (have HW := Lib.hid HB.out.size); clear hl hlo hb)
    | (go_at_call 25; refine (lcount_any HL.out (by rw [HT.out]; exact HOK.out) (by decide)).mono ?_; rintro e W3 ⟨v, rfl, hn, hl, hk, _⟩; (rw [HT.out, aw21_cnt] at hn); (have HNI := Lib.hid hn); (have HB3 := Lib.hid (HB2.out.trans (hk.below HB2.out.size (fun x hx => by subst hx; have := HLO.out; have := HW.out; omega)))); clear hn hl hk)
    | (go_at_call 38; refine (string_any _ 4 _ HNI.out aw21_d32 aw21_d10).mono ?_; rintro e W4 ⟨rfl, hb⟩; (have HB4 := Lib.hid (HB3.out.trans (hb.mono HB3.out.size))); clear hb))
  have e4 : ((decS 4).toList == [52]) = true := by kernel_rfl
  rw [e4]
  go_ret
  exact ⟨rfl, HB4.out⟩
section
variable {w : World} {c : CaseP} {AL AC AJ AX : Option Addr} {cL cC cJ cX : Nat}
theorem of12_any (h : CaseAt w c AL AC AJ AX cL cC cJ cX) (ho : CaseOk c) :
    Calls Tryz.prog 23 #[.agg #[.slice AL c.l.length cL, .slice AC c.cs.length cC, .slice AJ c.js.length cJ, .slice AX c.xs.length cX]] w fun e w' => (∃ p r, e = .returned (.tuple #[.pointer (some ⟨p.vb, 0, none⟩), r.val c]) ∧ VocAt w' w.heap.size p none ∧ p.T = c.T ∧ p.s = c.spec ∧ RVocIs w' w.heap.size c r) ∧ Below w.heap.size w w' := by
  have HS := Lib.hid (fun V (hV : Below w.heap.size w V) => some_any (h.below hV (Nat.le_refl _)) ho)
  have HV : Hid (∀ (W : World) (A1 A3 A4 A5 : Option Addr) (c1 c3 c4 c5 : Nat), SpecAt W c.spec A1 none A3 A4 A5 → _) := Lib.hid (fun W A1 A3 A4 A5 c1 c3 c4 c5 hs => vnew_case (w := W) (c1 := c1) (c3 := c3) (c4 := c4) (c5 := c5) c hs)
  have HO : Hid (∀ (W : World) (A1 A3 A4 A5 : Option Addr) (c1 c3 c4 c5 : Nat), SpecAt W c.spec A1 none A3 A4 A5 → _) := Lib.hid (fun W A1 A3 A4 A5 c1 c3 c4 c5 hs => rof10_any (w := W) (c1 := c1) (c3 := c3) (c4 := c4) (c5 := c5) c hs)
  clear h ho
  have b2 := ((Below.refl w.heap.size w).alloc (Nat.le_refl _) (.cells #[.slice AL c.l.length cL, .slice AC c.cs.length cC, .slice AJ c.js.length cJ, .slice AX c.xs.length cX] 27)).alloc (by simp) (.cells #[.slice none 0 0, .slice none 0 0, .slice none 0 0, .slice none 0 0, .slice none 0 0] 38)
  have n1 := blk_alloc (blk_new w (.cells #[.slice AL c.l.length cL, .slice AC c.cs.length cC, .slice AJ c.js.length cJ, .slice AX c.xs.length cX] 27)) (.cells #[.slice none 0 0, .slice none 0 0, .slice none 0 0, .slice none 0 0, .slice none 0 0] 38)
  have n2 := blk_new (w.alloc (.cells #[.slice AL c.l.length cL, .slice AC c.cs.length cC, .slice AJ c.js.length cJ, .slice AX c.xs.length cX] 27)) (.cells #[.slice none 0 0, .slice none 0 0, .slice none 0 0, .slice none 0 0, .slice none 0 0] 38)
  rw [size_alloc] at n2
  obtain ⟨bs, hbs⟩ : ∃ b, w.heap.size = b := ⟨_, rfl⟩
  have HBS := Lib.hid (Nat.le_of_eq hbs)
  have HN1 : Hid (((w.alloc (.cells #[.slice AL c.l.length cL, .slice AC c.cs.length cC, .slice AJ c.js.length cJ, .slice AX c.xs.length cX] 27)).alloc (.cells #[.slice none 0 0, .slice none 0 0, .slice none 0 0, .slice none 0 0, .slice none 0 0] 38)).heap[bs]? = some (.cells #[.slice AL c.l.length cL, .slice AC c.cs.length cC, .slice AJ c.js.length cJ, .slice AX c.xs.length cX] 27)) := Lib.hid (by rw [← hbs]; exact n1)
  have HN2 : Hid (((w.alloc (.cells #[.slice AL c.l.length cL, .slice AC c.cs.length cC, .slice AJ c.js.length cJ, .slice AX c.xs.length cX] 27)).alloc (.cells #[.slice none 0 0, .slice none 0 0, .slice none 0 0, .slice none 0 0, .slice none 0 0] 38)).heap[bs + 1]? = some (.cells #[.slice none 0 0, .slice none 0 0, .slice none 0 0, .slice none 0 0, .slice none 0 0] 38)) := Lib.hid (by rw [← hbs]; exact n2)
  have HB := Lib.hid b2
  clear b2 n1 n2
  unfold specW specV at HS HV HO
  simp only [CaseP.spec, List.length_nil] at HS HV HO
  go_enter Tryz.func23, Tryz.ntmps23
  go_upto_region 1 with fail
  (try rw [hbs])
  clear hbs
  generalize (w.alloc (.cells #[.slice AL c.l.length cL, .slice AC c.cs.length cC, .slice AJ c.js.length cJ, .slice AX c.xs.length cX] 27)).alloc (.cells #[.slice none 0 0, .slice none 0 0, .slice none 0 0, .slice none 0 0, .slice none 0 0] 38) = w1 at *
  have s0 := blk_cell HN1.out 0
  have s1 := blk_cell HN1.out 1
  have s2 := blk_cell HN1.out 2
  have s3 := blk_cell HN1.out 3
  simp only [List.getElem?_toArray, List.getElem?_cons_zero, List.getElem?_cons_succ] at s0 s1 s2 s3
  go_upto_region 2 with (go_at_call 65; refine (HS.out _ HB.out).mono ?_; rintro e w2 ⟨⟨A1, A3, A4, A5, c1, c3, c4, c5, rfl, hs⟩, hb⟩; (have HX := Lib.hid hs); (have HB2 := Lib.hid hb); clear hs hb s0 s1 s2 s3)
  have hb3 := (Below.refl w2.heap.size w2).alloc (Nat.le_refl _) (.cells #[.bool false, .slice A1 (mrgsT c.T).length c1, .slice none 0 0, .slice A3 (someX c.xs (min c.xs.length 6)).length c3, .slice A4 (someC c.cs).length c4, .slice A5 (someJ c.js).length c5] 115)
  have HTV := Lib.hid (blk_new w2 (.cells #[.bool false, .slice A1 (mrgsT c.T).length c1, .slice none 0 0, .slice A3 (someX c.xs (min c.xs.length 6)).length c3, .slice A4 (someC c.cs).length c4, .slice A5 (someJ c.js).length c5] 115))
  have HB3 := Lib.hid (HB2.out.trans (hb3.mono HB2.out.size))
  have HX3 := Lib.hid (HX.out.below hb3 (Nat.le_refl _))
  have HBW := Lib.hid (HB.out.trans (HB3.out.mono HB.out.size))
  have HTG := Lib.hid HB2.out.size
  clear hb3 HX
  generalize w2.heap.size = tv at *
  generalize w2.alloc (.cells #[.bool false, .slice A1 (mrgsT c.T).length c1, .slice none 0 0, .slice A3 (someX c.xs (min c.xs.length 6)).length c3, .slice A4 (someC c.cs).length c4, .slice A5 (someJ c.js).length c5] 115) = w3 at *
  have s0 := blk_cell HTV.out 0
  have s1 := blk_cell HTV.out 1
  have s2 := blk_cell HTV.out 2
  have s3 := blk_cell HTV.out 3
  have s4 := blk_cell HTV.out 4
  have s5 := blk_cell HTV.out 5
  simp only [List.getElem?_toArray, List.getElem?_cons_zero, List.getElem?_cons_succ] at s0 s1 s2 s3 s4 s5
  have HVN := Lib.hid (HV.out w3 A1 A3 A4 A5 c1 c3 c4 c5 HX3.out)
  go_upto_region 3 with (go_at_call 62; refine HVN.out.mono ?_; rintro e w4 ⟨⟨p, rfl, hva, hpT, hps⟩, hb⟩; (have HVA := Lib.hid hva); (have HPT := Lib.hid hpT); (have HPS := Lib.hid hps); (have HB4 := Lib.hid hb); clear hva hpT hps hb s0 s1 s2 s3 s4 s5)
  have HX4 := Lib.hid (HX3.out.below HB4.out (Nat.le_refl _))
  have HTV4 := Lib.hid (blk_below HB4.out (blk_lt HTV.out) HTV.out)
  have s0 := blk_cell HTV4.out 0
  have s1 := blk_cell HTV4.out 1
  have s2 := blk_cell HTV4.out 2
  have s3 := blk_cell HTV4.out 3
  have s4 := blk_cell HTV4.out 4
  have s5 := blk_cell HTV4.out 5
  simp only [List.getElem?_toArray, List.getElem?_cons_zero, List.getElem?_cons_succ] at s0 s1 s2 s3 s4 s5
  have HON := Lib.hid (HO.out w4 A1 A3 A4 A5 c1 c3 c4 c5 HX4.out)
  go_wp2_with (go_at_call 66; refine HON.out.mono ?_; rintro e w5 ⟨⟨r, rfl, hr⟩, hb⟩; (unfold RVoc.val); (have HR := Lib.hid hr); (have HB5 := Lib.hid hb); clear hr hb s0 s1 s2 s3 s4 s5; (have HN25 := Lib.hid (blk_below (HB3.out.trans ((HB4.out.trans (HB5.out.mono HB4.out.size)).mono HB3.out.size)) (blk_lt HN2.out) HN2.out)); (have g0 := blk_cell HN25.out 0); (have g1 := blk_cell HN25.out 1); (have g2 := blk_cell HN25.out 2); (have g3 := blk_cell HN25.out 3); (have g4 := blk_cell HN25.out 4); (have z0 := blk_froz HN25.out 0); (have z1 := blk_froz HN25.out 1); (have z2 := blk_froz HN25.out 2); (have z3 := blk_froz HN25.out 3); (have z4 := blk_froz HN25.out 4); (simp only [List.getElem?_toArray, List.getElem?_cons_zero, List.getElem?_cons_succ] at g0 g1 g2 g3 g4))
  have hbb := blk_lt HN2.out
  have hz3 := HB3.out.size
  have hz4 := HB4.out.size
  have hzb := HB.out.size
  have HD := of_done (W := w5) (rb := bs + 1) (b1 := w3.heap.size) (b2 := w4.heap.size) (by omega) (by omega) HN25.out (HVA.out.below HB5.out (Nat.le_refl _)) HR.out
    (.slice r.A1 c.T.length r.c1) (.slice r.A2 (mrgsT c.T).length r.c2) (.slice r.A3 (someC c.cs).length r.c3) (.slice r.A4 (someJ c.js).length r.c4) (.slice r.A5 (someX c.xs (min c.xs.length 6)).length r.c5)
  have hB : Below w.heap.size w w5 := HBW.out.trans ((HB4.out.trans (HB5.out.mono HB4.out.size)).mono HBW.out.size)
  refine ret_voc1 (r := bs + 1) rfl rfl rfl HD.1 ⟨⟨p, r, rfl, HD.2.1.less HBW.out.size, HPT.out, HPS.out, HD.2.2.1.less (by omega)⟩, hB.trans (HD.2.2.2.below hB.size (fun x hx => by have := HBS.out; omega))⟩
end
section
variable {w : World} {xs : List (Int × List UInt8)} {AL AC AJ AX : Option Addr} {cL cC cJ cX nl nc nj : Nat}
theorem great12_any (h : Sl w AX encIS 2 xs) (hl : xs.length ≤ 9223372036854775807) :
    Calls Tryz.prog 16 #[.agg #[.slice AL nl cL, .slice AC nc cC, .slice AJ nj cJ, .slice AX xs.length cX]] w fun e w' => e = .returned (.int .i64 (if (decide (60 < nl) || decide (20 < nc) || decide (20 < nj) || greatX xs) = true then 1 else 0)) ∧ Below w.heap.size w w' := by
  have HB := Lib.hid ((Below.refl w.heap.size w).alloc (Nat.le_refl _) (.cells #[.slice AL nl cL, .slice AC nc cC, .slice AJ nj cJ, .slice AX xs.length cX] 27))
  have HN1 := Lib.hid (blk_new w (.cells #[.slice AL nl cL, .slice AC nc cC, .slice AJ nj cJ, .slice AX xs.length cX] 27))
  have HG := Lib.hid (rgreat_any (nl := nl) (nc := nc) (nj := nj) (cL := cL) (cC := cC) (cJ := cJ) (AL := AL) (AC := AC) (AJ := AJ) (c := cX) (h.below HB.out (Nat.le_refl _)) hl)
  clear h hl
  obtain ⟨G, hG⟩ : ∃ G, (decide (60 < nl) || decide (20 < nc) || decide (20 < nj) || greatX xs) = G := ⟨_, rfl⟩
  rw [hG] at HG ⊢
  clear hG
  go_enter Tryz.func16, Tryz.ntmps16
  go_upto_region 1 with fail
  obtain ⟨bs, hbs⟩ : ∃ b, w.heap.size = b := ⟨_, rfl⟩
  rw [hbs] at HN1 ⊢
  generalize w.alloc (.cells #[.slice AL nl cL, .slice AC nc cC, .slice AJ nj cJ, .slice AX xs.length cX] 27) = w1 at *
  have s0 := blk_cell HN1.out 0
  have s1 := blk_cell HN1.out 1
  have s2 := blk_cell HN1.out 2
  have s3 := blk_cell HN1.out 3
  simp only [List.getElem?_toArray, List.getElem?_cons_zero, List.getElem?_cons_succ] at s0 s1 s2 s3
  cases G
  · go_wp2_with (go_at_call 61; refine HG.out.mono ?_; rintro e w2 ⟨rfl, rfl⟩)
    go_ret
    exact ⟨rfl, hbs ▸ HB.out⟩
  · go_wp2_with (go_at_call 61; refine HG.out.mono ?_; rintro e w2 ⟨rfl, rfl⟩)
    go_ret
    exact ⟨rfl, hbs ▸ HB.out⟩
end
def CaseP.X (c : CaseP) : List Spl := someX c.xs (min c.xs.length 6)
structure RBox (w W : World) (base : Nat) (c : CaseP) (r : RVoc) (b : Nat) : Prop where
  box : W.heap[b]? = some (.cells #[.slice r.A1 c.T.length r.c1, .slice r.A2 (mrgsT c.T).length r.c2, .slice r.A3 (someC c.cs).length r.c3, .slice r.A4 (someJ c.js).length r.c4, .slice r.A5 c.X.length r.c5] 38)
  voc : RVocIs W base c r
  blw : Below w.heap.size w W
section
variable {w W W' : World} {base b : Nat} {c : CaseP} {r : RVoc}
theorem RBox.below (h : RBox w W base c r b) (hb : Below W.heap.size W W') : RBox w W' base c r b := ⟨blk_below hb (blk_lt h.box) h.box, h.voc.below hb (Nat.le_refl _), h.blw.trans (hb.mono h.blw.size)⟩
theorem RBox.drewN (h : RBox w W base c r b) (m : Nat) : RBox w (W.drewN m) base c r b := h.below (below_drewN (Below.refl _ _) m)
theorem RBox.drew (h : RBox w W base c r b) : RBox w W.drew base c r b := h.below ⟨rfl, rfl, rfl, Nat.le_refl _, fun _ _ => rfl⟩
theorem RBox.n0 (h : RBox w W base c r b) : W.cell? ⟨b, 0, none⟩ = some (.slice r.A1 c.T.length r.c1) := by have := blk_cell h.box 0; simpa using this
theorem RBox.n1 (h : RBox w W base c r b) : W.cell? ⟨b, 1, none⟩ = some (.slice r.A2 (mrgsT c.T).length r.c2) := by have := blk_cell h.box 1; simpa using this
theorem RBox.n2 (h : RBox w W base c r b) : W.cell? ⟨b, 2, none⟩ = some (.slice r.A3 (someC c.cs).length r.c3) := by have := blk_cell h.box 2; simpa using this
theorem RBox.n3 (h : RBox w W base c r b) : W.cell? ⟨b, 3, none⟩ = some (.slice r.A4 (someJ c.js).length r.c4) := by have := blk_cell h.box 3; simpa using this
theorem RBox.n4 (h : RBox w W base c r b) : W.cell? ⟨b, 4, none⟩ = some (.slice r.A5 c.X.length r.c5) := by have := blk_cell h.box 4; simpa using this
end
def clsZ (l : List Int) : Cls := ⟨l.getD 0 0, l.getD 1 0, l.getD 2 0⟩
def jnZ (l : List Int) : Jn := ⟨l.getD 0 0, l.getD 1 0⟩
theorem slZ {α β : Type} {w : World} {A : Option Addr} {enc : α → List Value} {enc' : β → List Value} {sz : Nat} {xs : List α} (f : α → β) (h : Sl w A enc sz xs) (he : ∀ x ∈ xs, enc' (f x) = enc x) : Sl w A enc' sz (xs.map f) := by
  intro i y hy
  rw [List.getElem?_map, Option.map_eq_some_iff] at hy
  obtain ⟨x, hx, rfl⟩ := hy
  rw [he x (List.mem_of_getElem? hx)]
  exact h i x hx
theorem enc_clsZ (l : List Int) (h : l.length = 3) : encCls (clsZ l) = encInts .i64 l := by
  match l, h with
  | [a, b, c], _ => rfl
theorem enc_jnZ (l : List Int) (h : l.length = 2) : encJn (jnZ l) = encInts .i64 l := by
  match l, h with
  | [a, b], _ => rfl
def CaseP.great (c : CaseP) : Bool := decide (60 < c.l.length) || decide (20 < c.cs.length) || decide (20 < c.js.length) || greatX c.xs
structure CaseIn (w : World) (c : CaseP) (AL AC AJ AX : Option Addr) (cL cC cJ cX : Nat) : Prop where
  here : CaseAt w c AL AC AJ AX cL cC cJ cX
  sm : ∀ x ∈ c.l, x < 65536
  xl : c.xs.length ≤ 9223372036854775807
def CaseP.val (c : CaseP) (AL AC AJ AX : Option Addr) (cL cC cJ cX : Nat) : Value := .agg #[.slice AL c.l.length cL, .slice AC c.cs.length cC, .slice AJ c.js.length cJ, .slice AX c.xs.length cX]
theorem CaseIn.ok {w : World} {c : CaseP} {AL AC AJ AX : Option Addr} {cL cC cJ cX : Nat} (h : CaseIn w c AL AC AJ AX cL cC cJ cX) (hg : c.great = false) : CaseOk c := by
  unfold CaseP.great greatX longX at hg
  simp only [Bool.or_eq_false_iff, decide_eq_false_iff_not, List.any_eq_false, decide_eq_true_eq] at hg
  obtain ⟨⟨⟨h1, h2⟩, h3⟩, h4, h5⟩ := hg
  exact ⟨h.sm, by omega, by omega, by omega, by omega, fun x hx => by have := h4 x hx; omega⟩
theorem case_in {w : World} {x0 : List Int} {A0 : Option Addr} {c0 : Nat} {x1 : List (List Int)} {A1 : Option Addr} {c1 : Nat} {x2 : List (List Int)} {A2 : Option Addr} {c2 : Nat} {x3 : List (Int × List UInt8)} {A3 : Option Addr} {c3 : Nat}
    (_ : x0.length ≤ c0) (_ : c0 ≤ maxLen) (w0 : ∀ y ∈ x0, (Lit.int .u16 y).wf = true) (s0 : Sl1 w A0 (Value.int .u16) x0)
    (l1 : x1.length ≤ c1) (_ : c1 ≤ maxLen) (w1 : ∀ y ∈ x1, y.length = 3 ∧ ∀ z ∈ y, (Lit.int .i64 z).wf = true) (s1 : Sl w A1 (encInts .i64) 3 x1)
    (l2 : x2.length ≤ c2) (_ : c2 ≤ maxLen) (w2 : ∀ y ∈ x2, y.length = 2 ∧ ∀ z ∈ y, (Lit.int .i64 z).wf = true) (s2 : Sl w A2 (encInts .i64) 2 x2)
    (l3 : x3.length ≤ c3) (m3 : c3 ≤ maxLen) (w3 : ∀ y ∈ x3, (Lit.int .i64 y.1).wf = true ∧ y.2.length ≤ maxLen) (s3 : Sl w A3 encIS 2 x3) :
    ∃ c : CaseP, CaseIn w c A0 A1 A2 A3 c0 c1 c2 c3 ∧ (.agg #[.slice A0 x0.length c0, .slice A1 x1.length c1, .slice A2 x2.length c2, .slice A3 x3.length c3] : Value) = c.val A0 A1 A2 A3 c0 c1 c2 c3 := by
  obtain ⟨l, e, h3, h4⟩ := nats_of w0 s0
  refine ⟨⟨l, x1.map clsZ, x2.map jnZ, x3⟩, ⟨⟨h4, slZ clsZ s1 (fun x hx => enc_clsZ x (w1 x hx).1), slZ jnZ s2 (fun x hx => enc_jnZ x (w2 x hx).1), s3, by simpa using l1, by simpa using l2⟩, h3, ?_⟩, ?_⟩
  · show x3.length ≤ _
    unfold maxLen at m3
    omega
  · unfold CaseP.val
    simp [e]
section
variable {w w' W W' : World} {base base' mb : Nat} {c : CaseP} {r : RVoc} {p : VocP} {g : Option Nat} {AL AC AJ AX : Option Addr} {cL cC cJ cX : Nat}
theorem CaseIn.below (h : CaseIn w c AL AC AJ AX cL cC cJ cX) {B : Nat} (hb : Below B w w') (hB : w.heap.size ≤ B) : CaseIn w' c AL AC AJ AX cL cC cJ cX := ⟨h.here.below hb hB, h.sm, h.xl⟩
theorem great_no (h : CaseIn w c AL AC AJ AX cL cC cJ cX) (hg : c.great = false) : Calls Tryz.prog 16 #[c.val AL AC AJ AX cL cC cJ cX] w fun e w' => e = .returned (.int .i64 0) ∧ Below w.heap.size w w' := by
  refine (great12_any h.here.xs h.xl).mono ?_
  rintro e w' ⟨rfl, hb⟩
  exact ⟨by rw [show (decide (60 < c.l.length) || decide (20 < c.cs.length) || decide (20 < c.js.length) || greatX c.xs) = false from hg]; rfl, hb⟩
theorem great_yes (h : CaseIn w c AL AC AJ AX cL cC cJ cX) (hg : c.great = true) : Calls Tryz.prog 16 #[c.val AL AC AJ AX cL cC cJ cX] w fun e w' => e = .returned (.int .i64 1) ∧ Below w.heap.size w w' := by
  refine (great12_any h.here.xs h.xl).mono ?_
  rintro e w' ⟨rfl, hb⟩
  exact ⟨by rw [show (decide (60 < c.l.length) || decide (20 < c.cs.length) || decide (20 < c.js.length) || greatX c.xs) = true from hg]; rfl, hb⟩
theorem VocAt.off {α : Type} (h : VocAt w base p g) {A : Option Addr} {enc : α → List Value} {sz : Nat} {xs : List α} (hs : Sl w A enc sz xs) (k : Keep (fun x => x = p.vb) w w')
    (he : ∀ x, (∃ a b, (enc x)[0]? = some (.int .i64 a) ∧ (enc x)[1]? = some (.int .i64 b)) ∨ ∃ s, (enc x)[1]? = some (.string s)) : Sl w' A enc sz xs := by
  obtain ⟨l, dn, st, se, us, hq, hl⟩ := h
  have hbk := hq.blk
  have hls : ∃ A n c, l = .slice A n c := by
    rcases hl with ⟨_, h2, _⟩ | ⟨_, _, _, h2, _⟩ <;> exact ⟨_, _, _, h2⟩
  obtain ⟨Al, nl, cl, rfl⟩ := hls
  intro i x hx
  obtain ⟨b, o, e, hc⟩ := hs i x hx
  have hb : b ≠ p.vb := by
    intro hbe
    subst hbe
    rcases he x with ⟨a1, a2, h1, h2⟩ | ⟨s, h2⟩
    · have c1 := hc 0 _ h1
      have c2 := hc 1 _ h2
      rw [blk_cell hbk] at c1 c2
      generalize o + i * sz = n at c1 c2
      rcases n with _ | _ | _ | _ | _ | _ | _ | _ | _ | _ | _ | _ | _ | _ | n <;> simp at c1 c2
    · have c2 := hc 1 _ h2
      rw [blk_cell hbk] at c2
      generalize o + i * sz = n at c2
      rcases n with _ | _ | _ | _ | _ | _ | _ | _ | _ | _ | _ | _ | _ | _ | n <;> simp at c2
  exact ⟨b, o, e, fun j v hv => k.keepCell (hc j v hv) hb⟩
theorem own_off {n sz : Nat} {e : TypeId} {v : Value} {xs : List Value} (h : VocAt w base p g) (ho : w.ownsRow base' e sz v n xs) (ht : e ≠ 202) : ∀ b, v.ownBlock = some b → b ≠ p.vb := by
  intro b hb hbe
  obtain ⟨l, dn, st, se, us, hq, _⟩ := h
  have hbk := hq.blk
  rcases ho.2 with ⟨h1, _⟩ | ⟨g, cap, cur, h1, h2, h3, _⟩
  · rw [h1] at hb; simp [Value.ownBlock] at hb
  · rw [h1] at hb
    simp only [Value.ownBlock, Option.some.injEq] at hb
    rw [hb, hbe, hbk] at h3
    injection h3 with h3
    injection h3 with _ h3 _
    exact ht h3.symm
theorem RVocIs.keepV (h : RVocIs w base c r) (hv : VocAt w base' p g) (k : Keep (fun x => x = p.vb) w w') : RVocIs w' base c r :=
  ⟨⟨own_keep h.ref.row k (fun b hb => own_off hv h.ref.row (by decide) b hb), own_keep h.ref.mrg k (fun b hb => own_off hv h.ref.mrg (by decide) b hb), h.ref.nil⟩,
   hv.off h.cs k (fun x => .inl ⟨_, _, rfl, rfl⟩), hv.off h.js k (fun x => .inl ⟨_, _, rfl, rfl⟩), hv.off h.xs k (fun x => .inr ⟨_, rfl⟩)⟩
structure LawV (w W : World) (c : CaseP) (p : VocP) (r : RVoc) (mb : Nat) : Prop where
  voc : ∃ g, VocAt W w.heap.size p g
  box : W.heap[mb]? = some (.cells #[.slice r.A1 c.T.length r.c1, .slice r.A2 (mrgsT c.T).length r.c2, .slice r.A3 (someC c.cs).length r.c3, .slice r.A4 (someJ c.js).length r.c4, .slice r.A5 c.X.length r.c5] 38)
  ref : RVocIs W w.heap.size c r
  blw : Below w.heap.size w W
theorem LawV.below (h : LawV w W c p r mb) (hb : Below W.heap.size W W') : LawV w W' c p r mb := by
  obtain ⟨g, hv⟩ := h.voc
  exact ⟨⟨g, hv.below hb (Nat.le_refl _)⟩, blk_below hb (blk_lt h.box) h.box, h.ref.below hb (Nat.le_refl _), h.blw.trans (hb.mono h.blw.size)⟩
theorem LawV.drew (h : LawV w W c p r mb) : LawV w W.drew c p r mb := h.below (Below.refl _ _).drew
theorem LawV.keep (h : LawV w W c p r mb) {b0 : Nat} {g g' : Option Nat} (hv : VocAt W b0 p g) (hv' : VocAt W' w.heap.size p g') (k : Keep (fun x => x = p.vb) W W') : LawV w W' c p r mb := by
  obtain ⟨g2, hv2⟩ := h.voc
  have hvb : w.heap.size ≤ p.vb := by
    obtain ⟨l, dn, st, se, us, hq, _⟩ := hv2
    exact hq.lt.1
  have hne : mb ≠ p.vb := by
    intro e
    obtain ⟨l, dn, st, se, us, hq, _⟩ := hv2
    have h1 := h.box
    have h2 := hq.blk
    rw [e, h2] at h1
    injection h1 with h1
    injection h1 with _ h1 _
    exact absurd h1 (by decide)
  exact ⟨⟨g', hv'⟩, k.blk h.box hne, h.ref.keepV hv k, h.blw.trans (k.below h.blw.size (fun x hx => by subst hx; exact hvb))⟩
theorem LawV.n0 (h : LawV w W c p r mb) : W.cell? ⟨mb, 0, none⟩ = some (.slice r.A1 c.T.length r.c1) := by have := blk_cell h.box 0; simpa using this
theorem LawV.n1 (h : LawV w W c p r mb) : W.cell? ⟨mb, 1, none⟩ = some (.slice r.A2 (mrgsT c.T).length r.c2) := by have := blk_cell h.box 1; simpa using this
theorem LawV.n2 (h : LawV w W c p r mb) : W.cell? ⟨mb, 2, none⟩ = some (.slice r.A3 (someC c.cs).length r.c3) := by have := blk_cell h.box 2; simpa using this
theorem LawV.n3 (h : LawV w W c p r mb) : W.cell? ⟨mb, 3, none⟩ = some (.slice r.A4 (someJ c.js).length r.c4) := by have := blk_cell h.box 3; simpa using this
theorem LawV.n4 (h : LawV w W c p r mb) : W.cell? ⟨mb, 4, none⟩ = some (.slice r.A5 c.X.length r.c5) := by have := blk_cell h.box 4; simpa using this
theorem LawV.made (hb : Below w.heap.size w W) {g : Option Nat} (hv : VocAt W w.heap.size p g) (hr : RVocIs W w.heap.size c r) :
    LawV w (W.alloc (.cells #[.slice r.A1 c.T.length r.c1, .slice r.A2 (mrgsT c.T).length r.c2, .slice r.A3 (someC c.cs).length r.c3, .slice r.A4 (someJ c.js).length r.c4, .slice r.A5 c.X.length r.c5] 38)) c p r W.heap.size := by
  have hB := (Below.refl W.heap.size W).alloc (Nat.le_refl _) (.cells #[.slice r.A1 c.T.length r.c1, .slice r.A2 (mrgsT c.T).length r.c2, .slice r.A3 (someC c.cs).length r.c3, .slice r.A4 (someJ c.js).length r.c4, .slice r.A5 c.X.length r.c5] 38)
  exact ⟨⟨g, hv.below hB (Nat.le_refl _)⟩, blk_new _ _, hr.below hB (Nat.le_refl _), hb.trans (hB.mono hb.size)⟩
end
section
variable {w w' W W' : World} {base lb tr vb k c bx lx sb B0 : Nat} {p : VocP} {T : List Ent} {s s' : List UInt8} {A : Option Addr} {dn st se : Int} {fv : Value} {vals : List Value}
theorem LatIs.keepO (h : LatIs w base lb tr vb T s k A c dn st se fv vals) {b : Nat} {cs : Array Value} {t : TypeId} {fz : Nat × Nat} (hb : w.heap[b]? = some (.cells cs t fz)) (h1 : b ≠ lb) (h2 : t ≠ 48) (h3 : t ≠ 3) (hk : Keep (fun x => x = b) w w') : LatIs w' base lb tr vb T s k A c dn st se fv vals :=
  ⟨hk.blk h.blk (fun e => h1 e.symm), own_keep h.row hk (row_off h.row hb (fun e => h2 e.symm)), fun i hi => by
    obtain ⟨v, q1, q2⟩ := h.ids i hi
    exact ⟨v, q1, own_keep q2 hk (row_off q2 hb (fun e => h3 e.symm))⟩, h.lo⟩
structure LatF (w : World) (base lb : Nat) (p : VocP) (s : List UInt8) : Prop where
  lat : ∃ tr A c vals, LatIs w base lb tr p.vb p.T s s.length A c 0 0 0 (.slice none 0 0) vals
  voc : ∃ b0, VocAt w b0 p none
  lt : p.vb < lb
theorem LatF.below (h : LatF w base lb p s) (hb : Below w.heap.size w w') : LatF w' base lb p s := by
  obtain ⟨tr, A, c, vals, h1⟩ := h.lat
  obtain ⟨b0, hv⟩ := h.voc
  exact ⟨⟨tr, A, c, vals, h1.below hb⟩, ⟨b0, hv.below hb (Nat.le_refl _)⟩, h.lt⟩
theorem LatF.keepO (h : LatF w base lb p s) {b : Nat} {cs : Array Value} {t : TypeId} {fz : Nat × Nat} (hb : w.heap[b]? = some (.cells cs t fz)) (h1 : b ≠ lb) (h2 : t ≠ 48) (h3 : t ≠ 3) (h4 : p.vb < b) (hk : Keep (fun x => x = b) w w') : LatF w' base lb p s := by
  obtain ⟨tr, A, c, vals, h0⟩ := h.lat
  obtain ⟨b0, hv⟩ := h.voc
  refine ⟨⟨tr, A, c, vals, h0.keepO hb h1 h2 h3 hk⟩, ⟨b0, hv.keep hk (fun x hx e => ?_)⟩, h.lt⟩
  rcases hx with hx | hx
  · omega
  · cases hx
theorem LatV.tag (h : LatV w base lb p s) : ∃ cs fz, w.heap[lb]? = some (.cells cs 142 fz) := by
  obtain ⟨tr, A, c, dn, st, se, fv, vals, h1, _⟩ := h.lat
  exact ⟨_, _, h1.blk⟩
theorem LatV.lt_size (h : LatV w base lb p s) : lb < w.heap.size := by
  obtain ⟨cs, fz, h1⟩ := h.tag
  exact blk_lt h1
theorem LatV.size (h : LatV w base lb p s) (id : Int) : Calls Tryz.prog 31 #[.pointer (some ⟨lb, 0, none⟩), .int .i64 id] w fun e w' => e = .returned (.int .i64 (lenT p.T id : Nat)) ∧ w' = w := by
  obtain ⟨tr, A, c, dn, st, se, fv, vals, h1, _⟩ := h.lat
  obtain ⟨b0, hv⟩ := h.voc
  exact lsize_any h1 hv id
theorem LatV.ats (h : LatV w base lb p s) (i : Nat) (hi : i < s.length) (hs : s.length ≤ 1000000) : Calls Tryz.prog 29 #[.pointer (some ⟨lb, 0, none⟩), .int .i64 (i : Int)] w fun e w' => (∃ v, e = .returned v ∧ IntsIs w' w.heap.size v (atP p.T s i)) ∧ Below w.heap.size w w' := by
  obtain ⟨tr, A, c, dn, st, se, fv, vals, h1, _⟩ := h.lat
  exact lat_any h1 i hi hs
structure SumV (w W : World) (base lb bx lx : Nat) (p : VocP) (s s' : List UInt8) : Prop where
  one : LatV W base lb p s
  two : LatF W bx lx p s'
  ne : lb ≠ lx
  blw : Below w.heap.size w W
  lo : w.heap.size ≤ lb
  lo2 : w.heap.size ≤ lx
theorem SumV.below (h : SumV w W base lb bx lx p s s') (hb : Below W.heap.size W W') : SumV w W' base lb bx lx p s s' :=
  ⟨h.one.below hb, h.two.below hb, h.ne, h.blw.trans (hb.mono h.blw.size), h.lo, h.lo2⟩
theorem SumV.drew (h : SumV w W base lb bx lx p s s') : SumV w W.drew base lb bx lx p s s' := h.below (Below.refl _ _).drew
theorem SumV.ask (h : SumV w W base lb bx lx p s s') (k : Keep (fun x => x = lb) W W') (h1 : LatV W' base lb p s) : SumV w W' base lb bx lx p s s' := by
  obtain ⟨cs, fz, hb⟩ := h.one.tag
  exact ⟨h1, h.two.keepO hb h.ne (by decide) (by decide) h.one.lt k, h.ne, h.blw.trans (k.below h.blw.size (fun x hx => by subst hx; exact h.lo)), h.lo, h.lo2⟩
structure SumI (w W : World) (base lb bx lx sb : Nat) (p : VocP) (s s' : List UInt8) (A : Option Addr) (kn c : Nat) (m : Nat) (A2 : Option Addr) (c2 : Nat) (l : List Int) : Prop where
  two : SumV w W base lb bx lx p s s'
  blk : W.heap[sb]? = some (.cells #[.slice A kn c] 59)
  nat : NatIs W (.agg #[.slice A kn c]) m
  row : ∀ g a b, W.cell? ⟨lb, 7, none⟩ = some (.slice (some ⟨g, 0, none⟩) a b) → g ≠ sb
  lo : lb < sb
  hi : lx < sb
  ids : ∃ b0, W.ownsRow b0 3 1 (.slice A2 l.length c2) l.length (l.map (Value.int .i64))
section
variable {kn m c2 : Nat} {A2 : Option Addr} {l : List Int}
theorem SumI.below (h : SumI w W base lb bx lx sb p s s' A kn c m A2 c2 l) (hb : Below W.heap.size W W') : SumI w W' base lb bx lx sb p s s' A kn c m A2 c2 l :=
  ⟨h.two.below hb, blk_below hb (blk_lt h.blk) h.blk, h.nat.below hb (Nat.le_refl _), fun g a b hg => h.row g a b ((below_cell7 hb h.two.one.lt_size).symm.trans hg), h.lo, h.hi, by obtain ⟨b0, hi⟩ := h.ids; exact ⟨b0, own_below hi hb (Nat.le_refl _)⟩⟩
theorem SumI.drew (h : SumI w W base lb bx lx sb p s s' A kn c m A2 c2 l) : SumI w W.drew base lb bx lx sb p s s' A kn c m A2 c2 l := h.below (Below.refl _ _).drew
theorem SumI.ask (h : SumI w W base lb bx lx sb p s s' A kn c m A2 c2 l) (k : Keep (fun x => x = lb) W W') (h1 : LatV W' base lb p s) (hr : RowN W W' lb) (hn : ∀ v m, NatIs W v m → NatIs W' v m) : SumI w W' base lb bx lx sb p s s' A kn c m A2 c2 l := by
  obtain ⟨cs, fz, hb⟩ := h.two.one.tag
  have hlo := h.lo
  refine ⟨h.two.ask k h1, k.blk h.blk (by omega), hn _ _ h.nat, fun g a b hg => ?_, h.lo, h.hi, by obtain ⟨b0, hi⟩ := h.ids; exact ⟨b0, own_keep hi k (row_off hi hb (by decide))⟩⟩
  rcases hr.1 g a b hg with h9 | h9
  · have := blk_lt h.blk
    omega
  · exact h.row g a b h9
theorem SumI.put (h : SumI w W base lb bx lx sb p s s' A kn c m A2 c2 l) {A' : Option Addr} {k' c' m' : Nat} (hn : NatIs W (.agg #[.slice A' k' c']) m') :
    SumI w (W.setCell ⟨sb, 0, none⟩ (.slice A' k' c')) base lb bx lx sb p s s' A' k' c' m' A2 c2 l := by
  have hk : Keep (fun x => x = sb) W (W.setCell ⟨sb, 0, none⟩ (.slice A' k' c')) := (Keep.refl (fun x => x = sb) W).setCell (p := ⟨sb, 0, none⟩) (.inl rfl) _
  have h1 := lat_box h.two.one h.blk hn h.lo h.row (.slice A' k' c')
  have hlo := h.lo
  have hhi := h.hi
  have hvb := h.two.one.lt
  refine ⟨⟨h1.1, h.two.two.keepO h.blk (by omega) (by decide) (by decide) (by omega) hk, h.two.ne, h.two.blw.setCell (p := ⟨sb, 0, none⟩) (Nat.le_trans h.two.lo (Nat.le_of_lt hlo)) _, h.two.lo, h.two.lo2⟩, ?_, h1.2, fun g a b hg => h.row g a b ?_, hlo, hhi, by obtain ⟨b0, hi⟩ := h.ids; exact ⟨b0, own_keep hi hk (row_off hi h.blk (by decide))⟩⟩
  · have := blk_set h.blk 0 (.slice A' k' c')
    simpa using this
  · rw [World.cell?_setCell_far W ⟨sb, 0, none⟩ ⟨lb, 7, none⟩ _ (show sb ≠ lb by omega)] at hg
    exact hg
theorem SumI.c0 (h : SumI w W base lb bx lx sb p s s' A kn c m A2 c2 l) : W.cell? ⟨sb, 0, none⟩ = some (.slice A kn c) := by have := blk_cell h.blk 0; simpa using this
theorem SumI.held (h : SumI w W base lb bx lx sb p s s' A kn c m A2 c2 l) {q b o : Nat} {id : Int} (hA : A2 = some ⟨b, o, none⟩) (hl : l[q]? = some id) : W.cell? ⟨sb, 0, none⟩ = some (.slice A kn c) ∧ W.cell? ⟨b, o + q, none⟩ = some (.int .i64 id) := by
  refine ⟨h.c0, ?_⟩
  obtain ⟨b0, hi⟩ := h.ids
  obtain ⟨b', o', e, hc⟩ := own_sl1 hi q id hl
  rw [hA] at e
  injection e with e
  injection e with e1 e2
  subst e1
  subst e2
  exact hc
theorem FrIs.keepN {w0 : World} {g n : Nat} {f : Nat → Nat} {vs : List Value} (h : FrIs w0 W g n f vs) {b : Nat} {cs : Array Value} {t : TypeId} {fz : Nat × Nat} (hb : W.heap[b]? = some (.cells cs t fz)) (ht : t ≠ 59) (k : Keep (fun x => x = b) W W') (hn : ∀ v m, NatIs W v m → NatIs W' v m) : FrIs w0 W' g n f vs :=
  ⟨own_keep h.row k (row_off h.row hb (fun e => ht e.symm)), fun j hj => by
    obtain ⟨A, k2, c2, h1, h2⟩ := h.nat j hj
    exact ⟨A, k2, c2, h1, hn _ _ h2⟩⟩
end
end
def edgN (T : List Ent) (s : List UInt8) : Nat → Nat
  | 0 => 0
  | n + 1 => edgN T s n + (atP T s n).length
theorem edgN_le (T : List Ent) (s : List UInt8) : ∀ n, edgN T s n ≤ n * s.length
  | 0 => Nat.zero_le _
  | n + 1 => by
    have h1 := edgN_le T s n
    have h2 := atP_len T s n
    rw [edgN, Nat.succ_mul]
    omega
section
variable {w w' W W' : World} {base lb : Nat} {p : VocP} {s : List UInt8}
theorem LatV.bytes (h : LatV w base lb p s) : Calls Tryz.prog 30 #[.pointer (some ⟨lb, 0, none⟩)] w fun e w' => e = .returned (.string (bs s)) ∧ w' = w := by
  obtain ⟨tr, A, c, dn, st, se, fv, vals, h1, _⟩ := h.lat
  exact lbytes_any h1
theorem LatV.vocab (h : LatV w base lb p s) : Calls Tryz.prog 33 #[.pointer (some ⟨lb, 0, none⟩)] w fun e w' => e = .returned (.pointer (some ⟨p.vb, 0, none⟩)) ∧ w' = w := by
  obtain ⟨tr, A, c, dn, st, se, fv, vals, h1, _⟩ := h.lat
  exact lvocab_any h1
theorem LatV.atOut (h : LatV w base lb p s) (i : Int) (hi : ¬ (0 ≤ i ∧ i < s.length)) : Calls Tryz.prog 29 #[.pointer (some ⟨lb, 0, none⟩), .int .i64 i] w fun e w' => e = .returned (.slice none 0 0) ∧ w' = w := by
  obtain ⟨tr, A, c, dn, st, se, fv, vals, h1, _⟩ := h.lat
  exact lat_out h1 i hi
theorem ledges_any (h : LatV w base lb p s) (hs : s.length ≤ 4000) : Calls Tryz.prog 32 #[.pointer (some ⟨lb, 0, none⟩)] w fun e w' => e = .returned (.int .i64 (edgN p.T s s.length : Nat)) ∧ Below w.heap.size w w' := by
  have HBY := Lib.hid h.bytes
  have HDZ : Hid ((bs s).size = s.length) := Lib.hid (bs_size s)
  have HL : Hid (LatV w base lb p s) := Lib.hid h
  have HSL := Lib.hid hs
  clear h hs
  obtain ⟨Z, hZ⟩ : ∃ Z, bs s = Z := ⟨_, rfl⟩
  rw [hZ] at HBY HDZ
  clear hZ
  go_enter Tryz.func32, Tryz.ntmps32
  go_wp2_with (go_at_call 30; refine HBY.out.mono ?_; rintro e w1 ⟨rfl, hw⟩; rw [hw]; clear hw w1)
  go_loopg [3, 8] Z.size (fun n x i W => ∃ k : Nat, k + n = Z.size ∧ x = .int .i64 (edgN p.T s k : Nat) ∧ i = .int .i64 (k : Int) ∧ LatV W base lb p s ∧ Below w.heap.size w W)
  case atStart => exact ⟨0, by omega, rfl, rfl, HL.out, Below.refl _ _⟩
  case round =>
    obtain ⟨k, hk, rfl, rfl, hl, hb⟩ := hrel
    clear HL
    rename World => W
    have HL := Lib.hid hl
    have HB := Lib.hid hb
    have HK := Lib.hid hk
    clear hl hb hk
    by_cases hlt : k < Z.size
    · have p0 : (0 : Int) ≤ (k : Int) := by omega
      have p1 : (k : Int) < (Z.size : Int) := by omega
      have HAT := Lib.hid (HL.out.ats k (by have := HDZ.out; omega) (by have := HSL.out; omega))
      have HLE := Lib.hid (edgN_le p.T s k)
      have HAL := Lib.hid (atP_len p.T s k)
      have HE : Hid (edgN p.T s (k + 1) = edgN p.T s k + (atP p.T s k).length) := Lib.hid rfl
      have HKL : Hid (k * s.length ≤ 16000000) := Lib.hid (Nat.le_trans (Nat.mul_le_mul (show k ≤ 4000 by have := HDZ.out; have := HSL.out; omega) HSL.out) (by decide))
      generalize edgN p.T s k = m at *
      have wk : IntKind.i64.wrap ((k : Int) + 1) = (k : Int) + 1 := IntWalk.i64_in _ (by have := HDZ.out; have := HSL.out; omega)
      obtain ⟨N, hN⟩ : ∃ N, (atP p.T s k).length = N := ⟨_, rfl⟩
      rw [hN] at HAL HE
      have HN := Lib.hid hN
      clear hN
      have wm : IntKind.i64.wrap ((m : Int) + (N : Int)) = ((m + N : Nat) : Int) := by rw [Int.natCast_add]; exact IntWalk.i64_in _ (by have := HLE.out; have := HKL.out; have := HAL.out; have := HSL.out; omega)
      go_wp2_with (go_at_call 29; refine HAT.out.mono ?_; rintro e W2 ⟨⟨v, rfl, A2, c2, rfl, hown⟩, hb⟩; rw [HN.out]; (replace HL := Lib.hid (HL.out.below hb)); (replace HB := Lib.hid (HB.out.trans (hb.mono HB.out.size))); clear hown hb)
      go_roundg (gk - 1)
      case measure => have := HK.out; omega
      case rel => exact ⟨k + 1, by have := HK.out; omega, by rw [HE.out]; simp, by simp, HL.out, HB.out⟩
    · have hlt3 : ¬ ((k : Nat) : Int) < (Z.size : Int) := by omega
      have HKE : Hid (k = s.length) := Lib.hid (by have := HK.out; have := HDZ.out; omega)
      go_wp2_with fail
      go_ret
      exact ⟨by rw [HKE.out]; rfl, HB.out⟩
end
def skipN (T : List Ent) (s : List UInt8) (id : Int) : List Int → Option Nat
  | [] => none
  | x :: l => if x = id then some 0 else (skipN T s id l).map (fun n => cntA T (s.drop (lenT T x)) + n)
def rnk (T : List Ent) : List UInt8 → List Int → Option Nat
  | s, [] => if s = [] then some 0 else none
  | s, id :: r => (skipN T s id (atA T s)).bind fun k => (rnk T (s.drop (lenT T id)) r).map (fun n => k + n)
theorem sumA_cons (T : List Ent) (s : List UInt8) (x : Int) (l : List Int) : sumA T s (x :: l) = cntA T (s.drop (lenT T x)) + sumA T s l := rfl
end Go.Proofs.YtkkcekgbnloegaaGreat
