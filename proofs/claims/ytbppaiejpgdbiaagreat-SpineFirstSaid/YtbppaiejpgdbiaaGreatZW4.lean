/- Texts of several layers, one behind the other: Bound4, Some0, Some1, Some2, MarkA, MarkB, Mark1, MarkC, Build0, Build1, Vocab0, Once0, Once1, Once2, Vocab2, Find0, Find1, Spine0, Voc0, CaseA, CaseB, CaseC, KeepS, CaseD, CaseE, SpineP0, SpineP1, Parts. -/
import Derived.Test.YtbppaiejpgdbiaaGreatZW3
import Derived.WalkKit
import Derived.KernelRfl
import Derived.Lib.Hide
import Derived.Deep.QuietTactic
import Derived.BigQuiet
import Derived.OwnWalk
import Derived.Lib.Strings
import Derived.Deep.DeepCutAuto
import Derived.Deep.RegionHeld3
import Derived.StillTailTactics
import Derived.Test.YtbppaiejpgdbiaaGreatProg
import Derived.Deep.Slices
import Derived.Deep.Fields
import Derived.ChangeSame
import Derived.SliceStrings
import Derived.OpenShut
import Derived.Maps.OwnSet
import Derived.Maps.OwnOps
import Derived.DeepKeys4
import Derived.WideKeyEntry
import Derived.Maps.AppendAt
import Derived.Laws.ResultCell
import Derived.Laws.IdiomStrings
import Derived.Laws.AppendOwnNone
import Derived.Lib.AppendStr
import Derived.Laws.LoneSync
import Derived.Tactics
import Derived.Tactics2
import Derived.Defers
import Derived.Laws.Pointers
import Derived.RegionTactic
import Derived.RegionCalls
import Derived.ChangeAlike
import Derived.Test.YtbppaiejpgdbiaaGreatRows
import Derived.ProofKit
import Derived.ShutString
import Derived.ChangeOld
import Derived.Below
import Derived.Lib.SmallJoins
set_option maxRecDepth 100000
set_option linter.unusedVariables false
set_option linter.unusedSimpArgs false
namespace Go.Proofs.YtbppaiejpgdbiaaGreat
open Go.RowKit
set_option maxHeartbeats 2000000 in
theorem right_any (cs : List Cls) (js : List Jn) (A B : Option Addr) (cA cB : Nat) (w : World) (hA : Sl w A encCls 3 cs) (hB : Sl w B encJn 2 js) (hcs : cs.length < 9000000000000000000) (hjs : js.length < 9000000000000000000) :
    Calls Tryz.prog 73 #[.agg #[.slice A cs.length cA, .slice B js.length cB]] w fun e w' => e = .returned (.bool (cs.all spanB && js.all jnB)) ∧ Below w.heap.size w w' := by
  have H0 : BRTab w cs js A B (w.alloc (.cells #[.slice A cs.length cA, .slice B js.length cB] 36)) := BRTab.step ⟨Below.refl _ _, hA, hB⟩ ((Below.refl w.heap.size w).alloc (Nat.le_refl _) _)
  have HBK := Lib.hid (blk_new w (.cells #[.slice A cs.length cA, .slice B js.length cB] 36))
  have HH := Lib.hid H0
  clear H0 hA hB
  go_enter Tryz.func73, Tryz.ntmps73
  go_wp2_with fail
  go_loopw [3] (fun i W => ∃ k : Nat, k ≤ cs.length ∧ i = .int .i64 (k : Int) ∧ (cs.take k).all spanB = true ∧ BRTab w cs js A B W ∧ W.heap[w.heap.size]? = some (.cells #[.slice A cs.length cA, .slice B js.length cB] 36 (0, 0))) (fun i _ => cs.length - (intOf i).toNat)
  case atStart => exact ⟨0, Nat.zero_le _, rfl, rfl, HH.out, HBK.out⟩
  case round =>
    obtain ⟨k, hk, rfl, hall, hT, hbk⟩ := hrel
    rename World => W
    have d0 := blk_cell hbk 0
    have d1 := blk_cell hbk 1
    simp only [List.getElem?_toArray, List.getElem?_cons_zero, List.getElem?_cons_succ] at d0 d1
    have HAL := Lib.hid hall
    have HT := Lib.hid hT
    have HB := Lib.hid hbk
    have hsz := hT.below.size
    have hsz2 := blk_lt hbk
    clear hall hT hbk HH HBK
    by_cases hlt : k < cs.length
    · have hck : cs[k]? = some cs[k] := by simp
      obtain ⟨ba, o, rfl, hc0⟩ := HT.out.cl.at k hlt
      have g0 : W.cell? ⟨ba, o + k * 3, none⟩ = some (.int .i64 cs[k].lo) := hc0 0 _ rfl
      have g1 : W.cell? ⟨ba, o + k * 3 + 1, none⟩ = some (.int .i64 cs[k].hi) := hc0 1 _ rfl
      have g2 : W.cell? ⟨ba, o + k * 3 + 2, none⟩ = some (.int .i64 cs[k].n) := hc0 2 _ rfl
      have HTK := Lib.hid (take_snoc hlt)
      have HCK := Lib.hid hck
      generalize cs[k] = c at *
      clear hc0 hck
      obtain ⟨lo, hi, n⟩ := c
      simp only at *
      go_wp2_with fail
      all_goals first
        | (go_ret
           have hsp : spanB ⟨lo, hi, n⟩ = false := by simp only [spanB, decide_eq_false_iff_not]; omega
           refine ⟨ret_bool ?_, (HT.out.below.alloc hsz _)⟩
           rw [all_false HCK.out hsp]; rfl)
        | (go_roundw
           case rel =>
             have hsp : spanB ⟨lo, hi, n⟩ = true := by simp only [spanB, decide_eq_true_eq]; omega
             refine ⟨k + 1, by omega, by go_num, ?_, HT.out.step ((Below.refl _ _).alloc (Nat.le_refl _) _), blk_alloc HB.out _⟩
             rw [HTK.out, all_snoc, HAL.out, hsp]; rfl
           case measure => (simp [intOf]; try omega))
    · obtain rfl : k = cs.length := by omega
      have HAC := Lib.hid (show cs.all spanB = true by have := HAL.out; rwa [List.take_length] at this)
      clear HAL
      go_wp2_with fail
      go_loopw [5] (fun i W => ∃ k : Nat, k ≤ js.length ∧ i = .int .i64 (k : Int) ∧ (js.take k).all jnB = true ∧ BRTab w cs js A B W ∧ W.heap[w.heap.size]? = some (.cells #[.slice A cs.length cA, .slice B js.length cB] 36 (0, 0))) (fun i _ => js.length - (intOf i).toNat)
      case atStart => exact ⟨0, Nat.zero_le _, rfl, rfl, HT.out, HB.out⟩
      case round =>
        obtain ⟨k, hk, rfl, hall, hT, hbk⟩ := hrel
        rename World => U
        have e0 := blk_cell hbk 0
        have e1 := blk_cell hbk 1
        simp only [List.getElem?_toArray, List.getElem?_cons_zero, List.getElem?_cons_succ] at e0 e1
        have HAL := Lib.hid hall
        have HTU := Lib.hid hT
        have HBU := Lib.hid hbk
        have hsz3 := hT.below.size
        have hsz4 := blk_lt hbk
        clear hall hT hbk HT HB d0 d1
        by_cases hlt : k < js.length
        · have hck : js[k]? = some js[k] := by simp
          obtain ⟨ba, o, rfl, hc0⟩ := HTU.out.jn.at k hlt
          have g0 : U.cell? ⟨ba, o + k * 2, none⟩ = some (.int .i64 js[k].a) := hc0 0 _ rfl
          have g1 : U.cell? ⟨ba, o + k * 2 + 1, none⟩ = some (.int .i64 js[k].b) := hc0 1 _ rfl
          have HTK := Lib.hid (take_snoc hlt)
          have HCK := Lib.hid hck
          generalize js[k] = c at *
          clear hc0 hck
          obtain ⟨ja, jb⟩ := c
          simp only at *
          go_wp2_with fail
          all_goals first
            | (go_ret
               have hsp : jnB ⟨ja, jb⟩ = false := by simp only [jnB, clsB, Bool.and_eq_false_iff, decide_eq_false_iff_not]; omega
               refine ⟨ret_bool ?_, (HTU.out.below.alloc hsz3 _)⟩
               rw [all_false HCK.out hsp, HAC.out]; rfl)
            | (go_roundw
               case rel =>
                 have hsp : jnB ⟨ja, jb⟩ = true := by simp only [jnB, clsB, Bool.and_eq_true, decide_eq_true_eq]; omega
                 refine ⟨k + 1, by omega, by go_num, ?_, HTU.out.step ((Below.refl _ _).alloc (Nat.le_refl _) _), blk_alloc HBU.out _⟩
                 rw [HTK.out, all_snoc, HAL.out, hsp]; rfl
               case measure => (simp [intOf]; try omega))
        · obtain rfl : k = js.length := by omega
          have HAJ := Lib.hid (show js.all jnB = true by have := HAL.out; rwa [List.take_length] at this)
          clear HAL
          go_wp2_with fail
          go_ret
          refine ⟨ret_bool ?_, HTU.out.below⟩
          rw [HAC.out, HAJ.out]; rfl
open Go.RowKit Go.Maps Go.WideMaps
def someC (cs : List Cls) : List Cls := (cs.take 8).filter spanB
def someJ (js : List Jn) : List Jn := (js.take 8).filter jnB
def someX (xs : List Spl) : Nat → List Spl
  | 0 => []
  | k + 1 => if okX (someX xs k ++ [(1000 + (k : Int), (xs.getD k (0, [])).2)]) then someX xs k ++ [(1000 + (k : Int), (xs.getD k (0, [])).2)] else someX xs k
theorem take_filter_succ {α : Type} (l : List α) (p : α → Bool) (k : Nat) (h : k < l.length) (h8 : k < 8) : ((l.take (k + 1)).take 8).filter p = ((l.take k).take 8).filter p ++ (if p l[k] then [l[k]] else []) := by
  rw [List.take_of_length_le (by rw [List.length_take]; omega), List.take_of_length_le (l := l.take k) (by rw [List.length_take]; omega), List.take_add_one, List.getElem?_eq_getElem h, List.filter_append]
  congr 1
  simp [List.filter_cons]
theorem take_filter_end {α : Type} (l : List α) (p : α → Bool) (k : Nat) (h : k = l.length ∨ k = 8) : ((l.take k).take 8).filter p = (l.take 8).filter p := by
  rcases h with h | h
  · rw [h, List.take_length]
  · rw [h, List.take_take, Nat.min_self]
theorem someX_ok (xs : List Spl) : ∀ k, okX (someX xs k) = true
  | 0 => rfl
  | k + 1 => by
    rw [someX]
    split
    · assumption
    · exact someX_ok xs k
theorem someX_len (xs : List Spl) : ∀ k, (someX xs k).length ≤ k
  | 0 => Nat.le_refl _
  | k + 1 => by
    have := someX_len xs k
    rw [someX]
    split
    · rw [List.length_append]; simp; omega
    · omega
theorem someX_ids (xs : List Spl) : ∀ k, ∀ x ∈ someX xs k, 1000 ≤ x.1 ∧ x.1 < 1000 + (k : Int)
  | 0 => fun x hx => by simp [someX] at hx
  | k + 1 => fun x hx => by
    rw [someX] at hx
    split at hx
    · rcases List.mem_append.1 hx with hx | hx
      · have := someX_ids xs k x hx; omega
      · rw [List.mem_singleton] at hx
        subst hx
        simp only; omega
    · have := someX_ids xs k x hx; omega
theorem someC_ok (cs : List Cls) : (someC cs).all spanB = true := by
  unfold someC
  rw [List.all_eq_true]
  intro x hx
  exact (List.mem_filter.1 hx).2
theorem someJ_ok (js : List Jn) : (someJ js).all jnB = true := by
  unfold someJ
  rw [List.all_eq_true]
  intro x hx
  exact (List.mem_filter.1 hx).2
theorem someC_len (cs : List Cls) : (someC cs).length ≤ 8 := by
  unfold someC
  refine Nat.le_trans (List.length_filter_le _ _) ?_
  rw [List.length_take]; omega
theorem someJ_len (js : List Jn) : (someJ js).length ≤ 8 := by
  unfold someJ
  refine Nat.le_trans (List.length_filter_le _ _) ?_
  rw [List.length_take]; omega
structure FldIs (W0 W : World) (sb : Nat) (t : TypeId) (cells : Array Value) (e : TypeId) (size : Nat) (v : Value) (n : Nat) (xs : List Value) : Prop where
  blk : W.heap[sb]? = some (.cells cells t)
  row : W.ownsRow W0.heap.size e size v n xs
  keep : Keep (fun x => x = sb) W0 W
  lt : sb < W0.heap.size
section
variable {W0 W W' : World} {sb n m i : Nat} {t e : TypeId} {cells : Array Value} {size : Nat} {v v' : Value} {xs ys : List Value}
theorem FldIs.below (h : FldIs W0 W sb t cells e size v n xs) (hb : Below W.heap.size W W') : FldIs W0 W' sb t cells e size v n xs :=
  ⟨blk_below hb (blk_lt h.blk) h.blk, own_below h.row hb (Nat.le_refl _), h.keep.trans (G := fun _ => False) ⟨hb.os, hb.tape, hb.output, hb.size, fun x hx _ => hb.block x hx⟩ (fun x hx => hx.elim), h.lt⟩
theorem FldIs.drew (h : FldIs W0 W sb t cells e size v n xs) : FldIs W0 W.drew sb t cells e size v n xs := h.below ⟨rfl, rfl, rfl, Nat.le_refl _, fun _ _ => rfl⟩
theorem FldIs.put (h : FldIs W0 W sb t cells e size v n xs) (hk : Keep (fun g => v.ownBlock = some g) W W') (ho : W'.ownsRow W0.heap.size e size v' m ys) (i : Nat) :
    FldIs W0 (W'.setCell ⟨sb, i, none⟩ v') sb t (cells.setIfInBounds i v') e size v' m ys := by
  have hne : ∀ g, v.ownBlock = some g → g ≠ sb := fun g hg he => by have := own_base h.row g hg; have := h.lt; omega
  have hk2 : Keep (fun x => x = sb) W' (W'.setCell ⟨sb, i, none⟩ v') := (Keep.refl (fun x => x = sb) W').setCell (p := ⟨sb, i, none⟩) (.inl rfl) _
  have hb := hk.blk h.blk (fun hg => hne sb hg rfl)
  refine ⟨blk_set hb i v', own_keep ho hk2 (fun g hg he => ?_), ?_, h.lt⟩
  · have := own_base ho g hg; have := h.lt; omega
  · exact (h.keep.trans hk (fun x hx => .inr (own_base h.row x hx))).trans hk2 (fun x hx => .inl hx)
end
theorem info_cls : (Tryz.prog.info? 132).map (fun i => (i.zero, i.size, i.bytes)) = some (some (.agg #[.int .i64 0, .int .i64 0, .int .i64 0]), 3, 24) := by kernel_rfl
theorem info_jn : (Tryz.prog.info? 133).map (fun i => (i.zero, i.size, i.bytes)) = some (some (.agg #[.int .i64 0, .int .i64 0]), 2, 16) := by kernel_rfl
theorem info_spl : (Tryz.prog.info? 98).map (fun i => (i.zero, i.size, i.bytes)) = some (some (.agg #[.int .i64 0, .string ⟨#[]⟩]), 2, 24) := by kernel_rfl
theorem slice_cls (b o n c k : Nat) (w : World) (h1 : k < n) (h2 : n ≤ c) : (Instr.sliceAt 23 (.slice (some ⟨b, o, none⟩) n c) (some (.int .i64 (k : Int))) (some (.int .i64 ((k : Int) + 1))) none).run Tryz.prog w = .ok (.slice (some ⟨b, o + k * 3, none⟩) 1 (c - k)) w := by
  have q1 : (0 : Int) ≤ (k : Int) := by omega
  have q2 : (k : Int) + 1 ≤ (c : Int) := by omega
  have q3 : (k : Int) ≤ (k : Int) + 1 := by omega
  have q4 : ((k : Int) + 1 - (k : Int)).toNat = 1 := by omega
  have q5 : ((c : Int) - (k : Int)).toNat = c - k := by omega
  simp [go_sem, q1, q2, q3, q4, q5]
  intro h
  omega
theorem slice_jn (b o n c k : Nat) (w : World) (h1 : k < n) (h2 : n ≤ c) : (Instr.sliceAt 24 (.slice (some ⟨b, o, none⟩) n c) (some (.int .i64 (k : Int))) (some (.int .i64 ((k : Int) + 1))) none).run Tryz.prog w = .ok (.slice (some ⟨b, o + k * 2, none⟩) 1 (c - k)) w := by
  have q1 : (0 : Int) ≤ (k : Int) := by omega
  have q2 : (k : Int) + 1 ≤ (c : Int) := by omega
  have q3 : (k : Int) ≤ (k : Int) + 1 := by omega
  have q4 : ((k : Int) + 1 - (k : Int)).toNat = 1 := by omega
  have q5 : ((c : Int) - (k : Int)).toNat = c - k := by omega
  simp [go_sem, q1, q2, q3, q4, q5]
  intro h
  omega
theorem sl_one {α : Type} {w : World} {A : Option Addr} {enc : α → List Value} {sz b o k : Nat} {xs : List α} (h : Sl w A enc sz xs) (hk : k < xs.length) (hA : A = some ⟨b, o, none⟩) : Sl w (some ⟨b, o + k * sz, none⟩) enc sz [xs[k]] := by
  intro i x hx
  have hi : i = 0 := by have := (List.getElem?_eq_some_iff.1 hx).1; simpa using this
  subst hi
  simp at hx
  subst hx
  obtain ⟨b', o', e, hc⟩ := h k xs[k] (List.getElem?_eq_getElem hk)
  rw [hA] at e
  injection e with e
  injection e with e1 e2
  subst e1
  subst e2
  exact ⟨b, o + k * sz, rfl, fun j v hv => by rw [Nat.zero_mul, Nat.add_zero]; exact hc j v hv⟩
theorem Keep.keepCell {F : Nat → Prop} {w w' : World} (k : Keep F w w') {a : Addr} {v : Value} (h : w.cell? a = some v) (hf : ¬ F a.block := by intro _; contradiction) : w'.cell? a = some v :=
  (World.cell?_of_block (w := w) (k.block a.block (World.block_lt_of_cell? w a h) hf)).trans h
theorem own_addr {w : World} {base n m c : Nat} {e : TypeId} {size : Nat} {A : Option Addr} {xs : List Value} (h : w.ownsRow base e size (.slice A m c) n xs) : ∀ a, A = some a → base ≤ a.block := by
  intro a ha
  rcases h.2 with ⟨h1, _⟩ | ⟨g, cap, cur, h1, hb, _⟩
  · injection h1 with h1 _ _
    rw [ha] at h1; cases h1
  · injection h1 with h1 _ _
    rw [ha] at h1
    injection h1 with h1
    rw [h1]; exact hb
theorem own_empty {w : World} {base g : Nat} {e : TypeId} {size : Nat} (h : w.heap[g]? = some (.cells #[] e)) (hb : base ≤ g) : w.ownsRow base e size (.slice (some ⟨g, 0, none⟩) 0 0) 0 [] :=
  ⟨by simp, .inr ⟨g, 0, #[], rfl, hb, h, Nat.le_refl _, by unfold maxLen; omega, by simp, by simp⟩⟩
theorem wp_app_row {P : Program} {w : World} {o : Oper} {a : Act} {K : Act → World → Prop} {Q : Exit → Act → World → Prop} (base base0 : Nat) (t e : TypeId) (z : Value) (size bytes : Nat) (s x : Operand)
    (ho : o.op = .call { callee := .builtin .append, args := #[s, x], argTypes := #[t, t] })
    (ht : P.underlying t = some (.slice e)) (hinfo : (P.info? e).map (fun i => (i.zero, i.size, i.bytes)) = some (some z, size, bytes)) (hzs : z.cells.size = size) (hsz : 0 < size)
    (v : Value) (n : Nat) (xs : List Value) (hs : a.eval s = v) (u : Value) (m : Nat) (ys : List Value) (hx : a.eval x = u) (h1 : ∀ z ∈ ys, z.oneCell' = true)
    (hown : w.ownsRow base e size v n xs) (hrow : w.ownsRow base0 e size u m ys) (hbytes : (n + m) * bytes ≤ 140737488355328) (h63 : n + m ≤ 9000000000000000000) (hbase : base ≤ w.heap.size)
    (h : ∀ v' w', w'.ownsRow base e size v' (n + m) (xs ++ ys) → w.grownBy w' v.ownBlock → K (a.put o.dst v') w') : Oper.wp P o a w K Q := by
  rcases hrow.2 with ⟨h2, h3⟩ | ⟨g, cap, cur, h2, hb, hg, hc1, hc2, hc3, htk⟩
  · subst h3
    have hy : ys = [] := List.eq_nil_of_length_eq_zero (by simpa using hrow.1)
    subst hy
    obtain ⟨i, hi, hz0, hz1, hz2⟩ := info_parts hinfo
    have hrun := run_append_owned_none (P := P) (w := w) base t o.type e i size ht hi v n xs hown
    unfold Oper.wp
    simp [execOp, ho, resolve, invoke, builtin, hs, hx, h2, hrun, Result.andThen]
    exact h v w (by simpa using hown) ⟨rfl, rfl, rfl, Nat.le_refl _, fun _ _ _ => rfl⟩
  · refine wp_app_list base t e z size bytes ys cap m ⟨g, 0, none⟩ s x ho ht hinfo hzs hsz v n xs hs (by rw [hx, h2]) hrow.1 ?_ h1 hown hbytes h63 hbase (fun v' w' r1 r2 _ => h v' w' r1 r2)
    intro j u' hu
    rw [add_plain, Nat.zero_add, blk_cell hg j]
    rw [← htk] at hu
    rw [List.getElem?_take] at hu
    split at hu
    · simpa using hu
    · simp at hu
theorem own_addr_lt {w : World} {base n m c : Nat} {e : TypeId} {size : Nat} {A : Option Addr} {xs : List Value} (h : w.ownsRow base e size (.slice A m c) n xs) : ∀ a, A = some a → a.block < w.heap.size := by
  intro a ha
  rcases h.2 with ⟨h1, _⟩ | ⟨g, cap, cur, h1, hb, hg, _⟩
  · injection h1 with h1 _ _
    rw [ha] at h1; cases h1
  · injection h1 with h1 _ _
    rw [ha] at h1
    injection h1 with h1
    rw [h1]; exact blk_lt hg
structure CaseP where
  (l : List Nat) (cs : List Cls) (js : List Jn) (xs : List Spl)
structure CaseAt (w : World) (c : CaseP) (AL AC AJ AX : Option Addr) (cL cC cJ cX : Nat) : Prop where
  l : Sl1 w AL (fun x : Nat => .int .u16 (x : Int)) c.l
  cs : Sl w AC encCls 3 c.cs
  js : Sl w AJ encJn 2 c.js
  xs : Sl w AX encIS 2 c.xs
  cap : c.cs.length ≤ cC ∧ c.js.length ≤ cJ
theorem CaseAt.below {w w' : World} {c : CaseP} {AL AC AJ AX : Option Addr} {cL cC cJ cX : Nat} (h : CaseAt w c AL AC AJ AX cL cC cJ cX) {B : Nat} (hb : Below B w w') (hB : w.heap.size ≤ B) : CaseAt w' c AL AC AJ AX cL cC cJ cX :=
  ⟨h.l.below hb hB, h.cs.below hb hB, h.js.below hb hB, h.xs.below hb hB, h.cap⟩
structure CaseOk (c : CaseP) : Prop where
  sm : ∀ x ∈ c.l, x < 65536
  len : c.l.length ≤ 60
  cs : c.cs.length ≤ 20
  js : c.js.length ≤ 20
  xs : c.xs.length ≤ 40
  tx : ∀ x ∈ c.xs, x.2.length ≤ 100
def CaseP.T (c : CaseP) : List Ent := growT c.l (min (c.l.length / 2) 30)
def CaseP.spec (c : CaseP) : SpecP := ⟨false, mrgsT c.T, [], someX c.xs (min c.xs.length 6), someC c.cs, someJ c.js⟩
section
variable {w : World} {c : CaseP} {AL AC AJ AX : Option Addr} {cL cC cJ cX : Nat}
set_option maxHeartbeats 4000000 in
theorem some_any (h : CaseAt w c AL AC AJ AX cL cC cJ cX) (ho : CaseOk c) :
    Calls Tryz.prog 42 #[.slice AL c.l.length cL, .slice AC c.cs.length cC, .slice AJ c.js.length cJ, .slice AX c.xs.length cX] w fun e w' => (∃ A1 A3 A4 A5 c1 c3 c4 c5, e = .returned (specW c.spec A1 none A3 A4 A5 c1 0 c3 c4 c5) ∧ SpecAt w' c.spec A1 none A3 A4 A5) ∧ Below w.heap.size w w' := by
  have HC := Lib.hid h
  have HO := Lib.hid ho
  have HB0 := Lib.hid ((Below.refl w.heap.size w).alloc (Nat.le_refl _) (.cells #[.bool false, .slice none 0 0, .slice none 0 0, .slice none 0 0, .slice none 0 0, .slice none 0 0] 48))
  have HN0 := Lib.hid (blk_new w (.cells #[.bool false, .slice none 0 0, .slice none 0 0, .slice none 0 0, .slice none 0 0, .slice none 0 0] 48))
  clear h ho
  go_enter Tryz.func42, Tryz.ntmps42
  go_upto_region 1 with fail
  obtain ⟨r0, hr0⟩ : ∃ r, w.heap.size = r := ⟨_, rfl⟩
  have HR0 := Lib.hid (Nat.le_of_eq hr0)
  have HN0 : Hid ((w.alloc (.cells #[.bool false, .slice none 0 0, .slice none 0 0, .slice none 0 0, .slice none 0 0, .slice none 0 0] 48)).heap[r0]? = some (.cells #[.bool false, .slice none 0 0, .slice none 0 0, .slice none 0 0, .slice none 0 0, .slice none 0 0] 48)) := Lib.hid (by rw [← hr0]; exact HN0.out)
  rw [hr0]
  clear hr0
  generalize w.alloc (.cells #[.bool false, .slice none 0 0, .slice none 0 0, .slice none 0 0, .slice none 0 0, .slice none 0 0] 48) = w1 at *
  go_upto_region 2 with (go_at_call 20; refine (grow_any c.l AL cL w1 (HC.out.below HB0.out (Nat.le_refl _)).l HO.out.sm (by have := HO.out.len; omega)).mono ?_; rintro e w2 ⟨hb2, A1, n1, c1, A2, n2, c2, rfl, href⟩; (have HREF := Lib.hid href); (have HB2 := Lib.hid (HB0.out.trans (hb2.mono HB0.out.size))); (have HN2 := Lib.hid (blk_below hb2 (blk_lt HN0.out) HN0.out)); clear href hb2)
  have hn2 : n2 = (mrgsT c.T).length := by obtain ⟨_, _, e⟩ := own_slice HREF.out.mrg; injection e
  subst hn2
  have HMSL : Hid ((mrgsT c.T).length ≤ 1000) := Lib.hid (by have := (addsT_grow c.l (min (c.l.length / 2) 30)).1.small; have e : (mrgsT c.T).length = (growT c.l (min (c.l.length / 2) 30)).length - 256 := mrgs_len; omega)
  have hmlt : ∀ a, A2 = some a → r0 < a.block ∧ a.block < w2.heap.size := fun a ha => by
    have h1 := own_addr HREF.out.mrg a ha
    have h2 := own_addr_lt HREF.out.mrg a ha
    have h3 := blk_lt HN0.out
    omega
  have HMS := Lib.hid (own_sl (enc := encM) (fun _ => rfl) HREF.out.mrg (by decide) : Sl w2 A2 encM 2 (mrgsT c.T))
  have hb3 := (Below.refl w2.heap.size w2).alloc (Nat.le_refl _) (.cells #[.slice A1 n1 c1, .slice A2 (mrgsT c.T).length c2] 34)
  have hn3 := blk_new w2 (.cells #[.slice A1 n1 c1, .slice A2 (mrgsT c.T).length c2] 34)
  replace HB2 := Lib.hid (HB2.out.trans (hb3.mono HB2.out.size))
  replace HMS := Lib.hid (HMS.out.below hb3 (Nat.le_refl _))
  replace HN2 := Lib.hid (blk_below hb3 (blk_lt HN2.out) HN2.out)
  have m1 := blk_cell hn3 1
  simp only [List.getElem?_toArray, List.getElem?_cons_zero, List.getElem?_cons_succ] at m1
  clear hb3 hn3 HREF HN0
  obtain ⟨g3, hg3⟩ : ∃ g, w2.heap.size = g := ⟨_, rfl⟩
  have HG3 : Hid (g3 ≤ (w2.alloc (.cells #[.slice A1 n1 c1, .slice A2 (mrgsT c.T).length c2] 34)).heap.size) := Lib.hid (by rw [← hg3, size_alloc]; omega)
  rw [hg3] at m1 hmlt ⊢
  clear hg3
  have HMLT := Lib.hid hmlt
  clear hmlt
  generalize w2.alloc (.cells #[.slice A1 n1 c1, .slice A2 (mrgsT c.T).length c2] 34) = w3 at *
  go_upto_region 3 with fail
  have HSB := Lib.hid HB2.out.size
  have HRS := Lib.hid (blk_lt HN2.out)
  have hb4 := (Below.refl w3.heap.size w3).alloc (Nat.le_refl _) (.cells #[.bool false, .slice A2 (mrgsT c.T).length c2, .slice none 0 0, .slice none 0 0, .slice none 0 0, .slice none 0 0] 48)
  have hn4 := blk_new w3 (.cells #[.bool false, .slice A2 (mrgsT c.T).length c2, .slice none 0 0, .slice none 0 0, .slice none 0 0, .slice none 0 0] 48)
  have hsz4 : w3.heap.size < (w3.alloc (.cells #[.bool false, .slice A2 (mrgsT c.T).length c2, .slice none 0 0, .slice none 0 0, .slice none 0 0, .slice none 0 0] 48)).heap.size := blk_lt hn4
  replace HB2 := Lib.hid (HB2.out.trans (hb4.mono HB2.out.size))
  replace HMS := Lib.hid (HMS.out.below hb4 (Nat.le_refl _))
  replace HN2 := Lib.hid (blk_below hb4 (blk_lt HN2.out) HN2.out)
  generalize w3.heap.size = sb at *
  generalize w3.alloc (.cells #[.bool false, .slice A2 (mrgsT c.T).length c2, .slice none 0 0, .slice none 0 0, .slice none 0 0, .slice none 0 0] 48) = w4 at *
  have HF : Hid (FldIs w4 w4 sb 48 #[.bool false, .slice A2 (mrgsT c.T).length c2, .slice none 0 0, .slice none 0 0, .slice none 0 0, .slice none 0 0] 132 3 (.slice none 0 0) 0 []) := Lib.hid ⟨hn4, own_nil _ _ _ _, Keep.refl _ _, hsz4⟩
  have HCA := Lib.hid (HC.out.below HB2.out (Nat.le_refl _))
  clear hb4 hn4 hsz4 m1
  go_wp2_with fail
  have HBW := HB2
  go_loopg [11] (min c.cs.length 8) (fun n i W => ∃ k : Nat, k + n = min c.cs.length 8 ∧ i = .int .i64 (k : Int) ∧ ∃ AV cv, FldIs w4 W sb 48 #[.bool false, .slice A2 (mrgsT c.T).length c2, .slice none 0 0, .slice none 0 0, .slice AV (((c.cs.take k).take 8).filter spanB).length cv, .slice none 0 0] 132 3 (.slice AV (((c.cs.take k).take 8).filter spanB).length cv) (((c.cs.take k).take 8).filter spanB).length ((((c.cs.take k).take 8).filter spanB).flatMap encCls))
  case atStart => exact ⟨0, by omega, rfl, none, 0, by simpa using HF.out⟩
  case round =>
    obtain ⟨k, hk, rfl, AV, cv, hf⟩ := hrel
    clear HF
    rename World => W
    have HF := Lib.hid hf
    clear hf
    by_cases hlt : k < min c.cs.length 8
    · have hk1 : k < c.cs.length := by omega
      have hlt1 : (k : Int) < (c.cs.length : Int) := by omega
      have hlt2 : (k : Int) < 8 := by omega
      have q0 : (0 : Int) ≤ (k : Int) := by omega
      have ws : IntKind.i64.wrap ((k : Int) + 1) = (k : Int) + 1 := IntWalk.i64_in _ (by omega)
      have HSUC := Lib.hid (take_filter_succ c.cs spanB k hk1 (by omega))
      obtain ⟨b, o, hA, hcc⟩ := HC.out.cs.at k hk1
      have HCAP := Lib.hid HC.out.cap.1
      have hsl := slice_cls b o c.cs.length cC k W hk1 HCAP.out
      have HSO : Hid (∀ V, Keep (fun x => x = sb) w4 V → Sl V (some ⟨b, o + k * 3, none⟩) encCls 3 [c.cs[k]]) := Lib.hid (fun V hV => sl_one (HC.out.below (HBW.out.trans (hV.below HBW.out.size (fun x hx => by rw [hx]; exact HSB.out))) (Nat.le_refl _)).cs hk1 hA)
      subst hA
      obtain ⟨x, hx⟩ : ∃ x, c.cs[k] = x := ⟨_, rfl⟩
      rw [hx] at HSO HSUC
      have HRT := Lib.hid (right_any [x] [] (some ⟨b, o + k * 3, none⟩) none (cC - k) 0 W (HSO.out _ HF.out.keep) (Sl.nil _ _ _ _) (by simp) (by simp))
      obtain ⟨q, hq⟩ : ∃ q, spanB x = q := ⟨_, rfl⟩
      have HRT2 : Hid (([x].all spanB && ([] : List Jn).all jnB) = q) := Lib.hid (by rw [← hq]; simp)
      rw [HRT2.out] at HRT
      rw [hq] at HSUC
      have HLL : Hid ((((c.cs.take k).take 8).filter spanB).length ≤ 1000) := Lib.hid (Nat.le_trans (List.length_filter_le _ _) (by rw [List.length_take]; omega))
      have HSC : Hid (∀ V, Keep (fun x => x = sb) w4 V → V.cell? ⟨b, o + k * 3, none⟩ = some (.int .i64 x.lo) ∧ V.cell? ⟨b, o + k * 3 + 1, none⟩ = some (.int .i64 x.hi) ∧ V.cell? ⟨b, o + k * 3 + 2, none⟩ = some (.int .i64 x.n)) := Lib.hid (fun V hV => by
        obtain ⟨bx, ox, hAx, hcx⟩ := (HSO.out V hV).at 0 (by simp)
        injection hAx with hAx
        injection hAx with hAx1 hAx2
        subst hAx1
        subst hAx2
        simp only [List.getElem_cons_zero, Nat.zero_mul, Nat.add_zero] at hcx
        exact ⟨by simpa using hcx 0 _ rfl, hcx 1 _ rfl, hcx 2 _ rfl⟩)
      clear hcc hx hq HRT2
      generalize ((c.cs.take k).take 8).filter spanB = L at *
      cases q with
      | false =>
        go_wp2_with (go_at_call 73; refine HRT.out.mono ?_; rintro e W1 ⟨rfl, hb⟩; (replace HF := Lib.hid (HF.out.below hb)); clear hb)
        go_roundg (gk - 1)
        case measure => omega
        case rel => exact ⟨k + 1, by omega, by simp, AV, cv, by rw [HSUC.out]; simpa using HF.out⟩
      | true =>
        replace HSUC := Lib.hid (HSUC.out.trans (congrArg (L ++ ·) (if_pos rfl)))
        go_upto_region 7 with (go_at_call 73; refine HRT.out.mono ?_; rintro e W1 ⟨rfl, hb⟩; (replace HF := Lib.hid (HF.out.below hb)); clear hb)
        have cv4 := blk_cell HF.out.blk 4
        simp only [List.getElem?_toArray, List.getElem?_cons_zero, List.getElem?_cons_succ] at cv4
        obtain ⟨e0, e1, e2⟩ := HSC.out _ HF.out.keep
        clear hsl
        refine wp_region_D (Ds := [9]) (S := fun V => V.cell? ⟨sb, 4, none⟩ = some (.slice AV L.length cv) ∧ V.cell? ⟨b, o + k * 3, none⟩ = some (.int .i64 x.lo) ∧ V.cell? ⟨b, o + k * 3 + 1, none⟩ = some (.int .i64 x.hi) ∧ V.cell? ⟨b, o + k * 3 + 2, none⟩ = some (.int .i64 x.n)) (by kernel_rfl) (by exact (And.intro cv4 (And.intro e0 (And.intro e1 e2)))) (fun hHeld => ?_)
        (replace HF := Lib.hid HF.out.drew); clear cv4 e0 e1 e2; generalize W1.drew = W2 at *
        refine tkP 0 39 ?_ rfl (.inl ⟨by rfl, ?_⟩) ?_; rotate_left; focus (intro w' _; go_simp; (try with_reducible rfl))
        try simp only [sIB, sC0, sCS]
        refine tkP 2 41 ?_ rfl (.inl ⟨by rfl, ?_⟩) ?_; rotate_left; focus (intro w' _; go_simp; (try with_reducible rfl))
        try simp only [sIB, sC0, sCS]
        refine tkP 3 42 ?_ rfl (.inl ⟨by rfl, ?_⟩) ?_; rotate_left; focus (intro w' _; go_simp; (try with_reducible rfl))
        try simp only [sIB, sC0, sCS]
        refine tkP 4 43 ?_ rfl (.inl ⟨by rfl, ?_⟩) ?_; rotate_left; focus (intro w' _; go_simp; (try with_reducible rfl))
        try simp only [sIB, sC0, sCS]
        refine tkD 1 40 ?_ rfl hHeld (.inl ⟨by rfl, ?_⟩) ?_; rotate_left; focus (intro w' hSw; (try dsimp only at hSw); go_simp; (try with_reducible rfl))
        try simp only [sIB, sC0, sCS]
        refine tkD 5 44 ?_ rfl hHeld (.inl ⟨by rfl, ?_⟩) ?_; rotate_left; focus (intro w' hSw; (try dsimp only at hSw); go_simp; (try with_reducible rfl))
        try simp only [sIB, sC0, sCS]
        refine wpAnyD_one (i := 6) (by kernel_rfl) rfl (by rfl) (fun K hK => ?_)
        go_simp; have hbl := (Below.refl W2.heap.size W2).alloc (Nat.le_refl _) (.cells #[.int .i64 x.lo, .int .i64 x.hi, .int .i64 x.n] 132); have h := (And.intro (below_cell hbl (Nat.le_refl _) hHeld.1) (And.intro (below_cell hbl (Nat.le_refl _) hHeld.2.1) (And.intro (below_cell hbl (Nat.le_refl _) hHeld.2.2.1) (below_cell hbl (Nat.le_refl _) hHeld.2.2.2)))); clear hbl
        refine hK.out _ _ h (fun hHeld => ?_)
        clear hK K
        try simp only [Act.put, sIB, sC0, sCS]
        refine wpAnyD_one (i := 7) (by kernel_rfl) rfl (by rfl) (fun K hK => ?_)
        refine wp_app_one w4.heap.size 23 132 (.agg #[.int .i64 0, .int .i64 0, .int .i64 0]) 3 24 [_, _, _] 1 _ _ rfl Tryz.underlying23 info_cls rfl (by decide) _ _ _ rfl _ rfl rfl rfl (by intro u hu; simp at hu; rcases hu with rfl | rfl | rfl <;> rfl) HF.out.row (by have := HLL.out; omega) (by have := HLL.out; omega) HF.out.keep.size ?_; intro v' W3 hown1 hg1 hnew; obtain ⟨AN, cN, rfl⟩ := own_slice hown1; have hk1 : Keep (fun g => (Value.slice AV L.length cv).ownBlock = some g) W2 W3 := Keep.of_grown hg1 (fun g hg => hg); have HFN := Lib.hid (HF.out.put hk1 hown1 4); have b1 := hk1.blk HF.out.blk (fun hg => by have := own_base HF.out.row _ hg; have := HF.out.lt; omega); have c9 := blk_cell b1 4; simp only [List.getElem?_toArray, List.getElem?_cons_zero, List.getElem?_cons_succ] at c9; have h := And.intro c9 (HSC.out _ (HF.out.keep.trans hk1 (fun x hx => .inr (own_base HF.out.row x hx))))
        refine hK.out _ _ h (fun hHeld => ?_)
        clear hK K
        try simp only [Act.put, sIB, sC0, sCS]
        refine tkP 8 47 ?_ rfl (.inl ⟨by rfl, ?_⟩) ?_; rotate_left; focus (intro w' _; go_simp; (try with_reducible rfl))
        try simp only [sIB, sC0, sCS]
        refine wpAnyD_last (D := 9) (by decide) (by kernel_rfl) rfl (by rfl) (fun K hK => ?_)
        have z0 := blk_froz b1 4; have c0 := hHeld.1; go_simp
        refine hK.out _ _ ?_
        clear hK K
        try simp only [Act.put, sIB, sC0, sCS]
        refine wpAnyD_done (by kernel_rfl) ?_ _
        have hfn := HFN.out
        simp only [List.setIfInBounds_toArray, List.set_cons_zero, List.set_cons_succ] at hfn
        have HFN2 := Lib.hid hfn
        clear hfn HFN z0 c0 b1 c9 h hHeld hown1 hg1 hnew hk1
        generalize W3.setCell ⟨sb, 4, none⟩ (.slice AN (L.length + 1) cN) = W4 at *
        go_wp2_with fail
        go_roundg (gk - 1)
        case measure => omega
        case rel => exact ⟨k + 1, by omega, by simp, AN, cN, by
          rw [HSUC.out, List.length_append, List.flatMap_append]
          exact HFN2.out⟩
    · have hke : k = min c.cs.length 8 := by omega
      have HEND := Lib.hid (take_filter_end c.cs spanB k (by omega))
      have hcond : ¬ ((k : Int) < (c.cs.length : Int)) ∨ ((k : Int) < (c.cs.length : Int) ∧ ¬ (k : Int) < 8) := by omega
      rw [HEND.out] at HF
      have HKE := Lib.hid hke
      clear hke
      go_upto_region 4 with fail
      go_cut [29] (fun v U => v = .bool false ∧ W = U)
      case first =>
        rcases hcond with h1 | ⟨h1, h2⟩ <;> (go_wp2_with fail; go_meet; case rel => exact ⟨rfl, rfl⟩)
      case rest =>
        obtain ⟨rfl, rfl⟩ := hcut
        clear hcond
        go_upto_region 8 with fail
        have HCR : Hid (Sl W AV encCls 3 (someC c.cs)) := Lib.hid (own_sl (enc := encCls) (fun _ => rfl) HF.out.row (by decide))
        have HCRB : Hid (∀ a, AV = some a → sb < a.block) := Lib.hid (fun a ha => by have := own_addr HF.out.row a ha; have := HF.out.lt; omega)
        have HBW2 := Lib.hid (HBW.out.trans (HF.out.keep.below HBW.out.size (fun x hx => by rw [hx]; exact HSB.out)))
        have HKW := Lib.hid HF.out.keep
        have HF : Hid (FldIs W W sb 48 #[.bool false, .slice A2 (mrgsT c.T).length c2, .slice none 0 0, .slice none 0 0, .slice AV (someC c.cs).length cv, .slice none 0 0] 133 2 (.slice none 0 0) 0 []) := Lib.hid ⟨HF.out.blk, own_nil _ _ _ _, Keep.refl _ _, Nat.lt_of_lt_of_le HF.out.lt HF.out.keep.size⟩
        have HBW := HBW2
        clear HBW2
        rename World => w5
        generalize AV = AC2 at *
        generalize cv = cC2 at *
        go_wp2_with fail
        go_loopg [12] (min c.js.length 8) (fun n i W => ∃ k : Nat, k + n = min c.js.length 8 ∧ i = .int .i64 (k : Int) ∧ ∃ AV cv, FldIs w5 W sb 48 #[.bool false, .slice A2 (mrgsT c.T).length c2, .slice none 0 0, .slice none 0 0, .slice AC2 (someC c.cs).length cC2, .slice AV (((c.js.take k).take 8).filter jnB).length cv] 133 2 (.slice AV (((c.js.take k).take 8).filter jnB).length cv) (((c.js.take k).take 8).filter jnB).length ((((c.js.take k).take 8).filter jnB).flatMap encJn))
        case atStart => exact ⟨0, by omega, rfl, none, 0, by simpa using HF.out⟩
        case round =>
          obtain ⟨k, hk, rfl, AV, cv, hf⟩ := hrel
          clear HF
          rename World => W
          have HF := Lib.hid hf
          clear hf
          by_cases hlt : k < min c.js.length 8
          · have hk1 : k < c.js.length := by omega
            have hlt1 : (k : Int) < (c.js.length : Int) := by omega
            have hlt2 : (k : Int) < 8 := by omega
            have q0 : (0 : Int) ≤ (k : Int) := by omega
            have ws : IntKind.i64.wrap ((k : Int) + 1) = (k : Int) + 1 := IntWalk.i64_in _ (by omega)
            have HSUC := Lib.hid (take_filter_succ c.js jnB k hk1 (by omega))
            obtain ⟨b, o, hA, hcc⟩ := HC.out.js.at k hk1
            have HCAP := Lib.hid HC.out.cap.2
            have hsl := slice_jn b o c.js.length cJ k W hk1 HCAP.out
            have HSO : Hid (∀ V, Keep (fun x => x = sb) w5 V → Sl V (some ⟨b, o + k * 2, none⟩) encJn 2 [c.js[k]]) := Lib.hid (fun V hV => sl_one (HC.out.below (HBW.out.trans (hV.below HBW.out.size (fun x hx => by rw [hx]; exact HSB.out))) (Nat.le_refl _)).js hk1 hA)
            subst hA
            obtain ⟨x, hx⟩ : ∃ x, c.js[k] = x := ⟨_, rfl⟩
            rw [hx] at HSO HSUC
            have HRT := Lib.hid (right_any [] [x] none (some ⟨b, o + k * 2, none⟩) 0 (cJ - k) W (Sl.nil _ _ _ _) (HSO.out _ HF.out.keep) (by simp) (by simp))
            obtain ⟨q, hq⟩ : ∃ q, jnB x = q := ⟨_, rfl⟩
            have HRT2 : Hid ((([] : List Cls).all spanB && [x].all jnB) = q) := Lib.hid (by rw [← hq]; simp)
            rw [HRT2.out] at HRT
            rw [hq] at HSUC
            have HLL : Hid ((((c.js.take k).take 8).filter jnB).length ≤ 1000) := Lib.hid (Nat.le_trans (List.length_filter_le _ _) (by rw [List.length_take]; omega))
            have HSC : Hid (∀ V, Keep (fun x => x = sb) w5 V → V.cell? ⟨b, o + k * 2, none⟩ = some (.int .i64 x.a) ∧ V.cell? ⟨b, o + k * 2 + 1, none⟩ = some (.int .i64 x.b)) := Lib.hid (fun V hV => by
              obtain ⟨bx, ox, hAx, hcx⟩ := (HSO.out V hV).at 0 (by simp)
              injection hAx with hAx
              injection hAx with hAx1 hAx2
              subst hAx1
              subst hAx2
              simp only [List.getElem_cons_zero, Nat.zero_mul, Nat.add_zero] at hcx
              exact ⟨by simpa using hcx 0 _ rfl, hcx 1 _ rfl⟩)
            clear hcc hx hq HRT2
            generalize ((c.js.take k).take 8).filter jnB = L at *
            cases q with
            | false =>
              go_wp2_with (go_at_call 73; refine HRT.out.mono ?_; rintro e W1 ⟨rfl, hb⟩; (replace HF := Lib.hid (HF.out.below hb)); clear hb)
              go_roundg (gk - 1)
              case measure => omega
              case rel => exact ⟨k + 1, by omega, by simp, AV, cv, by rw [HSUC.out]; simpa using HF.out⟩
            | true =>
              replace HSUC := Lib.hid (HSUC.out.trans (congrArg (L ++ ·) (if_pos rfl)))
              go_upto_region 12 with (go_at_call 73; refine HRT.out.mono ?_; rintro e W1 ⟨rfl, hb⟩; (replace HF := Lib.hid (HF.out.below hb)); clear hb)
              have cv4 := blk_cell HF.out.blk 5
              simp only [List.getElem?_toArray, List.getElem?_cons_zero, List.getElem?_cons_succ] at cv4
              obtain ⟨e0, e1⟩ := HSC.out _ HF.out.keep
              clear hsl
              refine wp_region_D (Ds := [9]) (S := fun V => V.cell? ⟨sb, 5, none⟩ = some (.slice AV L.length cv) ∧ V.cell? ⟨b, o + k * 2, none⟩ = some (.int .i64 x.a) ∧ V.cell? ⟨b, o + k * 2 + 1, none⟩ = some (.int .i64 x.b)) (by kernel_rfl) (by exact (And.intro cv4 (And.intro e0 e1))) (fun hHeld => ?_)
              (replace HF := Lib.hid HF.out.drew); clear cv4 e0 e1; generalize W1.drew = W2 at *
              refine tkP 0 65 ?_ rfl (.inl ⟨by rfl, ?_⟩) ?_; rotate_left; focus (intro w' _; go_simp; (try with_reducible rfl))
              try simp only [sIB, sC0, sCS]
              refine tkP 2 67 ?_ rfl (.inl ⟨by rfl, ?_⟩) ?_; rotate_left; focus (intro w' _; go_simp; (try with_reducible rfl))
              try simp only [sIB, sC0, sCS]
              refine tkP 3 68 ?_ rfl (.inl ⟨by rfl, ?_⟩) ?_; rotate_left; focus (intro w' _; go_simp; (try with_reducible rfl))
              try simp only [sIB, sC0, sCS]
              refine tkP 4 69 ?_ rfl (.inl ⟨by rfl, ?_⟩) ?_; rotate_left; focus (intro w' _; go_simp; (try with_reducible rfl))
              try simp only [sIB, sC0, sCS]
              refine tkD 1 66 ?_ rfl hHeld (.inl ⟨by rfl, ?_⟩) ?_; rotate_left; focus (intro w' hSw; (try dsimp only at hSw); go_simp; (try with_reducible rfl))
              try simp only [sIB, sC0, sCS]
              refine tkD 5 70 ?_ rfl hHeld (.inl ⟨by rfl, ?_⟩) ?_; rotate_left; focus (intro w' hSw; (try dsimp only at hSw); go_simp; (try with_reducible rfl))
              try simp only [sIB, sC0, sCS]
              refine wpAnyD_one (i := 6) (by kernel_rfl) rfl (by rfl) (fun K hK => ?_)
              go_simp; have hbl := (Below.refl W2.heap.size W2).alloc (Nat.le_refl _) (.cells #[.int .i64 x.a, .int .i64 x.b] 133); have h := (And.intro (below_cell hbl (Nat.le_refl _) hHeld.1) (And.intro (below_cell hbl (Nat.le_refl _) hHeld.2.1) (below_cell hbl (Nat.le_refl _) hHeld.2.2))); clear hbl
              refine hK.out _ _ h (fun hHeld => ?_)
              clear hK K
              try simp only [Act.put, sIB, sC0, sCS]
              refine wpAnyD_one (i := 7) (by kernel_rfl) rfl (by rfl) (fun K hK => ?_)
              refine wp_app_one w5.heap.size 24 133 (.agg #[.int .i64 0, .int .i64 0]) 2 16 [_, _] 1 _ _ rfl Tryz.underlying24 info_jn rfl (by decide) _ _ _ rfl _ rfl rfl rfl (by intro u hu; simp at hu; rcases hu with rfl | rfl <;> rfl) HF.out.row (by have := HLL.out; omega) (by have := HLL.out; omega) HF.out.keep.size ?_; intro v' W3 hown1 hg1 hnew; obtain ⟨AN, cN, rfl⟩ := own_slice hown1; have hk1 : Keep (fun g => (Value.slice AV L.length cv).ownBlock = some g) W2 W3 := Keep.of_grown hg1 (fun g hg => hg); have HFN := Lib.hid (HF.out.put hk1 hown1 5); have b1 := hk1.blk HF.out.blk (fun hg => by have := own_base HF.out.row _ hg; have := HF.out.lt; omega); have c9 := blk_cell b1 5; simp only [List.getElem?_toArray, List.getElem?_cons_zero, List.getElem?_cons_succ] at c9; have h := And.intro c9 (HSC.out _ (HF.out.keep.trans hk1 (fun x hx => .inr (own_base HF.out.row x hx))))
              refine hK.out _ _ h (fun hHeld => ?_)
              clear hK K
              try simp only [Act.put, sIB, sC0, sCS]
              refine tkP 8 73 ?_ rfl (.inl ⟨by rfl, ?_⟩) ?_; rotate_left; focus (intro w' _; go_simp; (try with_reducible rfl))
              try simp only [sIB, sC0, sCS]
              refine wpAnyD_last (D := 9) (by decide) (by kernel_rfl) rfl (by rfl) (fun K hK => ?_)
              have z0 := blk_froz b1 5; have c0 := hHeld.1; go_simp
              refine hK.out _ _ ?_
              clear hK K
              try simp only [Act.put, sIB, sC0, sCS]
              refine wpAnyD_done (by kernel_rfl) ?_ _
              have hfn := HFN.out
              simp only [List.setIfInBounds_toArray, List.set_cons_zero, List.set_cons_succ] at hfn
              have HFN2 := Lib.hid hfn
              clear hfn HFN z0 c0 b1 c9 h hHeld hown1 hg1 hnew hk1
              generalize W3.setCell ⟨sb, 5, none⟩ (.slice AN (L.length + 1) cN) = W4 at *
              go_wp2_with fail
              go_roundg (gk - 1)
              case measure => omega
              case rel => exact ⟨k + 1, by omega, by simp, AN, cN, by
                rw [HSUC.out, List.length_append, List.flatMap_append]
                exact HFN2.out⟩
          · have hke : k = min c.js.length 8 := by omega
            have HEND := Lib.hid (take_filter_end c.js jnB k (by omega))
            have hcond : ¬ ((k : Int) < (c.js.length : Int)) ∨ ((k : Int) < (c.js.length : Int) ∧ ¬ (k : Int) < 8) := by omega
            rw [HEND.out] at HF
            have HKE := Lib.hid hke
            clear hke
            go_upto_region 9 with fail
            go_cut [55] (fun v U => v = .bool false ∧ W = U)
            case first =>
              rcases hcond with h1 | ⟨h1, h2⟩ <;> (go_wp2_with fail; go_meet; case rel => exact ⟨rfl, rfl⟩)
            case rest =>
              obtain ⟨rfl, rfl⟩ := hcut
              clear hcond
              go_upto_region 13 with fail
              have HJR : Hid (Sl W AV encJn 2 (someJ c.js)) := Lib.hid (own_sl (enc := encJn) (fun _ => rfl) HF.out.row (by decide))
              have HJRB : Hid (∀ a, AV = some a → sb < a.block) := Lib.hid (fun a ha => by have := own_addr HF.out.row a ha; have := HF.out.lt; omega)
              have HBW2 := Lib.hid (HBW.out.trans (HF.out.keep.below HBW.out.size (fun x hx => by rw [hx]; exact HSB.out)))
              have HKW2 := Lib.hid HF.out.keep
              rename World => w6
              generalize AV = AJ2 at *
              generalize cv = cJ2 at *
              have HF : Hid (FldIs w6 w6 sb 48 #[.bool false, .slice A2 (mrgsT c.T).length c2, .slice none 0 0, .slice none 0 0, .slice AC2 (someC c.cs).length cC2, .slice AJ2 (someJ c.js).length cJ2] 98 2 (.slice none 0 0) 0 []) := Lib.hid ⟨HF.out.blk, own_nil _ _ _ _, Keep.refl _ _, Nat.lt_of_lt_of_le HF.out.lt HF.out.keep.size⟩
              have HBW := HBW2
              clear HBW2
              go_wp2_with fail
              go_loopg [13] (min c.xs.length 6) (fun n i W => ∃ k : Nat, k + n = min c.xs.length 6 ∧ i = .int .i64 (k : Int) ∧ ∃ AV cv, FldIs w6 W sb 48 #[.bool false, .slice A2 (mrgsT c.T).length c2, .slice none 0 0, .slice AV (someX c.xs k).length cv, .slice AC2 (someC c.cs).length cC2, .slice AJ2 (someJ c.js).length cJ2] 98 2 (.slice AV (someX c.xs k).length cv) (someX c.xs k).length ((someX c.xs k).flatMap encIS))
              case atStart => exact ⟨0, by omega, rfl, none, 0, HF.out⟩
              case round =>
                obtain ⟨k, hk, rfl, AV, cv, hf⟩ := hrel
                clear HF
                rename World => W
                have HF := Lib.hid hf
                clear hf
                by_cases hlt : k < min c.xs.length 6
                · have hk1 : k < c.xs.length := by omega
                  have hlt1 : (k : Int) < (c.xs.length : Int) := by omega
                  have hlt2 : (k : Int) < 6 := by omega
                  have q0 : (0 : Int) ≤ (k : Int) := by omega
                  have ws : IntKind.i64.wrap ((k : Int) + 1) = (k : Int) + 1 := IntWalk.i64_in _ (by omega)
                  have wk : IntKind.i64.wrap (1000 + (k : Int)) = 1000 + (k : Int) := IntWalk.i64_in _ (by omega)
                  obtain ⟨b, o, hA, hcc⟩ := HC.out.xs.at k hk1
                  obtain ⟨x, hx⟩ : ∃ x, c.xs[k] = x := ⟨_, rfl⟩
                  have HGD : Hid (c.xs.getD k (0, []) = x) := Lib.hid (by rw [← hx, List.getD_eq_getElem?_getD, List.getElem?_eq_getElem hk1]; rfl)
                  have hc1 : w.cell? ⟨b, o + k * 2 + 1, none⟩ = some (strV x.2) := by rw [← hx]; exact hcc 1 _ rfl
                  obtain ⟨z, hz⟩ : ∃ z, bs x.2 = z := ⟨_, rfl⟩
                  have HZ := Lib.hid hz
                  have HSC : Hid (∀ V, Keep (fun x => x = sb) w6 V → V.cell? ⟨b, o + k * 2 + 1, none⟩ = some (.string z)) := Lib.hid (fun V hV => by rw [← hz]; exact below_cell (HBW.out.trans (hV.below HBW.out.size (fun x hx => by rw [hx]; exact HSB.out))) (Nat.le_refl _) hc1)
                  subst hA
                  have HSUC : Hid (someX c.xs (k + 1) = if okX (someX c.xs k ++ [(1000 + (k : Int), x.2)]) then someX c.xs k ++ [(1000 + (k : Int), x.2)] else someX c.xs k) := Lib.hid (by rw [someX, HGD.out])
                  have HLL : Hid ((someX c.xs k).length ≤ 1000) := Lib.hid (by have := someX_len c.xs k; omega)
                  clear hcc hc1 hx hz
                  generalize someX c.xs k = L at *
                  have c3 := blk_cell HF.out.blk 3
                  simp only [List.getElem?_toArray, List.getElem?_cons_zero, List.getElem?_cons_succ] at c3
                  have e1 := HSC.out _ HF.out.keep
                  go_upto_region 16 with fail
                  refine wp_region_D (Ds := []) (S := fun V => V.cell? ⟨sb, 3, none⟩ = some (.slice AV L.length cv) ∧ V.cell? ⟨b, o + k * 2 + 1, none⟩ = some (.string z)) (by kernel_rfl) (by exact And.intro c3 e1) (fun hHeld => ?_)
                  (replace HF := Lib.hid HF.out.drew); clear c3 e1; generalize W.drew = W2 at *; (have HCL : Hid (∀ V, Below W2.heap.size W2 V → V.cell? ⟨sb, 3, none⟩ = some (.slice AV L.length cv) ∧ V.cell? ⟨b, o + k * 2 + 1, none⟩ = some (.string z)) := Lib.hid (fun V hV => And.intro (by have := blk_cell (HF.out.below hV).blk 3; simpa using this) (HSC.out _ (HF.out.below hV).keep))); (have HBB := Lib.hid (Below.refl W2.heap.size W2))
                  refine tkP 1 85 ?_ rfl (.inl ⟨by rfl, ?_⟩) ?_; rotate_left; focus (intro w' _; go_simp; (try with_reducible rfl))
                  try simp only [sIB, sC0, sCS]
                  refine tkP 4 88 ?_ rfl (.inl ⟨by rfl, ?_⟩) ?_; rotate_left; focus (intro w' _; go_simp; (try with_reducible rfl))
                  try simp only [sIB, sC0, sCS]
                  refine tkP 5 89 ?_ rfl (.inl ⟨by rfl, ?_⟩) ?_; rotate_left; focus (intro w' _; go_simp; (try with_reducible rfl))
                  try simp only [sIB, sC0, sCS]
                  refine tkP 6 90 ?_ rfl (.inl ⟨by rfl, ?_⟩) ?_; rotate_left; focus (intro w' _; go_simp; (try with_reducible rfl))
                  try simp only [sIB, sC0, sCS]
                  refine tkP 7 91 ?_ rfl (.inl ⟨by rfl, ?_⟩) ?_; rotate_left; focus (intro w' _; go_simp; (try with_reducible rfl))
                  try simp only [sIB, sC0, sCS]
                  refine tkP 8 92 ?_ rfl (.inl ⟨by rfl, ?_⟩) ?_; rotate_left; focus (intro w' _; go_simp; (try with_reducible rfl))
                  try simp only [sIB, sC0, sCS]
                  refine tkP 9 93 ?_ rfl (.inl ⟨by rfl, ?_⟩) ?_; rotate_left; focus (intro w' _; go_simp; (try with_reducible rfl))
                  try simp only [sIB, sC0, sCS]
                  refine tkD 2 86 ?_ rfl hHeld (.inl ⟨by rfl, ?_⟩) ?_; rotate_left; focus (intro w' hSw; (try dsimp only at hSw); go_simp; (try with_reducible rfl))
                  try simp only [sIB, sC0, sCS]
                  refine tkD 10 94 ?_ rfl hHeld (.inl ⟨by rfl, ?_⟩) ?_; rotate_left; focus (intro w' hSw; (try dsimp only at hSw); go_simp; (try with_reducible rfl))
                  try simp only [sIB, sC0, sCS]
                  refine tkP 11 95 ?_ rfl (.inl ⟨by rfl, ?_⟩) ?_; rotate_left; focus (intro w' _; go_simp; (try with_reducible rfl))
                  try simp only [sIB, sC0, sCS]
                  refine wpAnyD_two (i := 0) (j := 12) (by kernel_rfl) rfl rfl (by rfl) (by rfl) (fun K hK => ?_) (fun K hK => ?_)
                  ·
                    go_simp; have HGE := Lib.hid HBB.out.size; have HEB := Lib.hid (bel_new HBB.out (.cells #[] 98)); (try have HK := Lib.hid (blk_alloc HK.out (.cells #[] 98))); have HBB := Lib.hid (bel_alloc HBB.out (.cells #[] 98)); refine gen_below HBB.out rfl (fun W' hW' => ?_); rw [← hW'] at HBB HEB; (try rw [← hW'] at HK); clear hW'; have h := HCL.out _ HBB.out
                    refine hK.out _ _ h (fun hHeld => ?_)
                    clear hK K
                    try simp only [Act.put, sIB, sC0, sCS]
                    refine wpAnyD_two (i := 3) (j := 12) (by kernel_rfl) rfl rfl (by rfl) (by rfl) (fun K hK => ?_) (fun K hK => ?_)
                    ·
                      refine wp_app_row W2.heap.size w6.heap.size 25 98 (.agg #[.int .i64 0, .string ⟨#[]⟩]) 2 24 _ _ rfl Tryz.underlying25 info_spl rfl (by decide) (.slice (some ⟨_, 0, none⟩) 0 0) 0 [] rfl _ L.length (L.flatMap encIS) rfl (by intro u hu; obtain ⟨y, _, hy⟩ := List.mem_flatMap.1 hu; simp [encIS, strV] at hy; rcases hy with rfl | rfl <;> rfl) (own_empty HEB.out HGE.out) (HF.out.below HBB.out).row (by have := HLL.out; omega) (by have := HLL.out; omega) HBB.out.size ?_; intro v' W' hown' hg'; rw [Nat.zero_add, List.nil_append] at hown'; obtain ⟨AR, cR, rfl⟩ := own_slice hown'; have hk' := (Keep.of_grown (F := fun g => _ = g) hg' (fun g hg => by injection hg)); (try have HK := Lib.hid (hk'.blk HK.out (fun e => by have h1 := HK.out; rw [← e, HEB.out] at h1; simp at h1))); have HBB := Lib.hid (HBB.out.trans (hk'.below HBB.out.size (fun g hg => by rw [← hg]; exact HGE.out))); have HROW := Lib.hid hown'; clear hown' hg' hk' HEB HGE; have h := HCL.out _ HBB.out
                      refine hK.out _ _ h (fun hHeld => ?_)
                      clear hK K
                      try simp only [Act.put, sIB, sC0, sCS]
                      refine wpAnyD_one (i := 12) (by kernel_rfl) rfl (by rfl) (fun K hK => ?_)
                      go_simp; (try have HEB := Lib.hid (blk_alloc HEB.out (.cells #[.int .i64 (1000 + (k : Int)), .string z] 98))); (try have HROW := Lib.hid (row_alloc HROW.out (.cells #[.int .i64 (1000 + (k : Int)), .string z] 98))); have HK := Lib.hid (bel_new HBB.out (.cells #[.int .i64 (1000 + (k : Int)), .string z] 98)); have HBB := Lib.hid (bel_alloc HBB.out (.cells #[.int .i64 (1000 + (k : Int)), .string z] 98)); refine gen_below HBB.out rfl (fun W' hW' => ?_); rw [← hW'] at HBB HK; (try rw [← hW'] at HEB); (try rw [← hW'] at HROW); clear hW'; have h := HCL.out _ HBB.out
                      refine hK.out _ _ h (fun hHeld => ?_)
                      clear hK K
                      try simp only [Act.put, sIB, sC0, sCS]
                      refine wpAnyD_one (i := 13) (by kernel_rfl) rfl (by rfl) (fun K hK => ?_)
                      refine wp_app_at W2.heap.size 25 98 (.agg #[.int .i64 0, .string ⟨#[]⟩]) 2 24 [_, _] 1 _ _ _ rfl Tryz.underlying25 info_spl rfl (by decide) _ _ _ rfl rfl rfl (by intro u hu; simp at hu; rcases hu with rfl | rfl <;> rfl) HK.out HROW.out (by have := HLL.out; omega) (by have := HLL.out; omega) HBB.out.size ?_; intro v' W' hown' hg' _; obtain ⟨AY, cY, rfl⟩ := own_slice hown'; have hk' : Keep (fun g => (Value.slice AR L.length cR).ownBlock = some g) _ W' := Keep.of_grown hg' (fun g hg => hg); have HBB := Lib.hid (HBB.out.trans (hk'.below HBB.out.size (own_base HROW.out))); have HY := Lib.hid hown'; clear hown' hg' hk' HROW HK; have h := HCL.out _ HBB.out
                      refine hK.out _ _ h (fun hHeld => ?_)
                      clear hK K
                      try simp only [Act.put, sIB, sC0, sCS]
                      refine tkP 14 14 ?_ rfl (.inl ⟨by rfl, ?_⟩) ?_; rotate_left; focus (intro w' _; go_simp; (try with_reducible rfl))
                      try simp only [sIB, sC0, sCS]
                      refine wpAnyD_done (by kernel_rfl) ?_ _
                      clear h hHeld
                      have HYS : Hid (Sl W' AY encIS 2 (L ++ [(1000 + (k : Int), x.2)])) := Lib.hid (own_sl (enc := encIS) (fun _ => rfl) (n := L.length + 1) (c := cY) (by rw [List.flatMap_append]; have h9 := HY.out; rw [← HZ.out] at h9; exact h9) (by decide))
                      have HCK := Lib.hid (rcheck_any (c := cY) HYS.out (by rw [List.length_append]; have := HLL.out; simp; omega))
                      rw [show (L ++ [(1000 + (k : Int), x.2)]).length = L.length + 1 from by rw [List.length_append]; rfl] at HCK
                      obtain ⟨q, hq⟩ : ∃ q, okX (L ++ [(1000 + (k : Int), x.2)]) = q := ⟨_, rfl⟩
                      have HQ := Lib.hid hq
                      rw [hq] at HSUC
                      clear hq
                      cases q with
                      | true =>
                        replace HSUC := Lib.hid (HSUC.out.trans (if_pos rfl))
                        go_upto_region 19 with (go_at_call 74; refine HCK.out.mono ?_; rintro e V ⟨⟨n0, k0, rfl, hy1, hy2⟩, m, rfl⟩; obtain ⟨_, hk00⟩ := hy1 HQ.out; subst hk00; clear hy1 hy2)
                        have HFC := Lib.hid (HF.out.below (below_drewN HBB.out m))
                        have cc := blk_cell HFC.out.blk 3
                        have zz := blk_froz HFC.out.blk 3
                        simp only [List.getElem?_toArray, List.getElem?_cons_zero, List.getElem?_cons_succ] at cc
                        have hfn := HF.out.put (Keep.of_below (below_drewN HBB.out m)) (own_less (own_drewN HY.out m) HF.out.keep.size) 3
                        simp only [List.setIfInBounds_toArray, List.set_cons_zero, List.set_cons_succ] at hfn
                        have HFN := Lib.hid hfn
                        clear hfn
                        go_wp2_with fail
                        go_roundg (gk - 1)
                        case measure => omega
                        case rel => exact ⟨k + 1, by omega, by simp, AY, cY, by
                          rw [HSUC.out, List.length_append, List.flatMap_append]
                          have h9 := HFN.out
                          rw [← HZ.out] at h9
                          exact h9⟩
                      | false =>
                        replace HSUC := Lib.hid (HSUC.out.trans (if_neg (by decide)))
                        go_wp2_with (go_at_call 74; refine HCK.out.mono ?_; rintro e V ⟨⟨n0, k0, rfl, hy1, hy2⟩, m, rfl⟩; (have hk00 := hy2 HQ.out); clear hy1 hy2)
                        have HFC := Lib.hid (HF.out.below (below_drewN HBB.out m))
                        go_roundg (gk - 1)
                        case measure => omega
                        case rel => exact ⟨k + 1, by omega, by simp, AV, cv, by rw [HSUC.out]; exact HFC.out⟩
                    ·
                      go_simp; (try have HEB := Lib.hid (blk_alloc HEB.out (.cells #[.int .i64 (1000 + (k : Int)), .string z] 98))); (try have HROW := Lib.hid (row_alloc HROW.out (.cells #[.int .i64 (1000 + (k : Int)), .string z] 98))); have HK := Lib.hid (bel_new HBB.out (.cells #[.int .i64 (1000 + (k : Int)), .string z] 98)); have HBB := Lib.hid (bel_alloc HBB.out (.cells #[.int .i64 (1000 + (k : Int)), .string z] 98)); refine gen_below HBB.out rfl (fun W' hW' => ?_); rw [← hW'] at HBB HK; (try rw [← hW'] at HEB); (try rw [← hW'] at HROW); clear hW'; have h := HCL.out _ HBB.out
                      refine hK.out _ _ h (fun hHeld => ?_)
                      clear hK K
                      try simp only [Act.put, sIB, sC0, sCS]
                      refine wpAnyD_one (i := 3) (by kernel_rfl) rfl (by rfl) (fun K hK => ?_)
                      refine wp_app_row W2.heap.size w6.heap.size 25 98 (.agg #[.int .i64 0, .string ⟨#[]⟩]) 2 24 _ _ rfl Tryz.underlying25 info_spl rfl (by decide) (.slice (some ⟨_, 0, none⟩) 0 0) 0 [] rfl _ L.length (L.flatMap encIS) rfl (by intro u hu; obtain ⟨y, _, hy⟩ := List.mem_flatMap.1 hu; simp [encIS, strV] at hy; rcases hy with rfl | rfl <;> rfl) (own_empty HEB.out HGE.out) (HF.out.below HBB.out).row (by have := HLL.out; omega) (by have := HLL.out; omega) HBB.out.size ?_; intro v' W' hown' hg'; rw [Nat.zero_add, List.nil_append] at hown'; obtain ⟨AR, cR, rfl⟩ := own_slice hown'; have hk' := (Keep.of_grown (F := fun g => _ = g) hg' (fun g hg => by injection hg)); (try have HK := Lib.hid (hk'.blk HK.out (fun e => by have h1 := HK.out; rw [← e, HEB.out] at h1; simp at h1))); have HBB := Lib.hid (HBB.out.trans (hk'.below HBB.out.size (fun g hg => by rw [← hg]; exact HGE.out))); have HROW := Lib.hid hown'; clear hown' hg' hk' HEB HGE; have h := HCL.out _ HBB.out
                      refine hK.out _ _ h (fun hHeld => ?_)
                      clear hK K
                      try simp only [Act.put, sIB, sC0, sCS]
                      refine wpAnyD_one (i := 13) (by kernel_rfl) rfl (by rfl) (fun K hK => ?_)
                      refine wp_app_at W2.heap.size 25 98 (.agg #[.int .i64 0, .string ⟨#[]⟩]) 2 24 [_, _] 1 _ _ _ rfl Tryz.underlying25 info_spl rfl (by decide) _ _ _ rfl rfl rfl (by intro u hu; simp at hu; rcases hu with rfl | rfl <;> rfl) HK.out HROW.out (by have := HLL.out; omega) (by have := HLL.out; omega) HBB.out.size ?_; intro v' W' hown' hg' _; obtain ⟨AY, cY, rfl⟩ := own_slice hown'; have hk' : Keep (fun g => (Value.slice AR L.length cR).ownBlock = some g) _ W' := Keep.of_grown hg' (fun g hg => hg); have HBB := Lib.hid (HBB.out.trans (hk'.below HBB.out.size (own_base HROW.out))); have HY := Lib.hid hown'; clear hown' hg' hk' HROW HK; have h := HCL.out _ HBB.out
                      refine hK.out _ _ h (fun hHeld => ?_)
                      clear hK K
                      try simp only [Act.put, sIB, sC0, sCS]
                      refine tkP 14 14 ?_ rfl (.inl ⟨by rfl, ?_⟩) ?_; rotate_left; focus (intro w' _; go_simp; (try with_reducible rfl))
                      try simp only [sIB, sC0, sCS]
                      refine wpAnyD_done (by kernel_rfl) ?_ _
                      clear h hHeld
                      have HYS : Hid (Sl W' AY encIS 2 (L ++ [(1000 + (k : Int), x.2)])) := Lib.hid (own_sl (enc := encIS) (fun _ => rfl) (n := L.length + 1) (c := cY) (by rw [List.flatMap_append]; have h9 := HY.out; rw [← HZ.out] at h9; exact h9) (by decide))
                      have HCK := Lib.hid (rcheck_any (c := cY) HYS.out (by rw [List.length_append]; have := HLL.out; simp; omega))
                      rw [show (L ++ [(1000 + (k : Int), x.2)]).length = L.length + 1 from by rw [List.length_append]; rfl] at HCK
                      obtain ⟨q, hq⟩ : ∃ q, okX (L ++ [(1000 + (k : Int), x.2)]) = q := ⟨_, rfl⟩
                      have HQ := Lib.hid hq
                      rw [hq] at HSUC
                      clear hq
                      cases q with
                      | true =>
                        replace HSUC := Lib.hid (HSUC.out.trans (if_pos rfl))
                        go_upto_region 19 with (go_at_call 74; refine HCK.out.mono ?_; rintro e V ⟨⟨n0, k0, rfl, hy1, hy2⟩, m, rfl⟩; obtain ⟨_, hk00⟩ := hy1 HQ.out; subst hk00; clear hy1 hy2)
                        have HFC := Lib.hid (HF.out.below (below_drewN HBB.out m))
                        have cc := blk_cell HFC.out.blk 3
                        have zz := blk_froz HFC.out.blk 3
                        simp only [List.getElem?_toArray, List.getElem?_cons_zero, List.getElem?_cons_succ] at cc
                        have hfn := HF.out.put (Keep.of_below (below_drewN HBB.out m)) (own_less (own_drewN HY.out m) HF.out.keep.size) 3
                        simp only [List.setIfInBounds_toArray, List.set_cons_zero, List.set_cons_succ] at hfn
                        have HFN := Lib.hid hfn
                        clear hfn
                        go_wp2_with fail
                        go_roundg (gk - 1)
                        case measure => omega
                        case rel => exact ⟨k + 1, by omega, by simp, AY, cY, by
                          rw [HSUC.out, List.length_append, List.flatMap_append]
                          have h9 := HFN.out
                          rw [← HZ.out] at h9
                          exact h9⟩
                      | false =>
                        replace HSUC := Lib.hid (HSUC.out.trans (if_neg (by decide)))
                        go_wp2_with (go_at_call 74; refine HCK.out.mono ?_; rintro e V ⟨⟨n0, k0, rfl, hy1, hy2⟩, m, rfl⟩; (have hk00 := hy2 HQ.out); clear hy1 hy2)
                        have HFC := Lib.hid (HF.out.below (below_drewN HBB.out m))
                        go_roundg (gk - 1)
                        case measure => omega
                        case rel => exact ⟨k + 1, by omega, by simp, AV, cv, by rw [HSUC.out]; exact HFC.out⟩
                  ·
                    go_simp; (try have HEB := Lib.hid (blk_alloc HEB.out (.cells #[.int .i64 (1000 + (k : Int)), .string z] 98))); (try have HROW := Lib.hid (row_alloc HROW.out (.cells #[.int .i64 (1000 + (k : Int)), .string z] 98))); have HK := Lib.hid (bel_new HBB.out (.cells #[.int .i64 (1000 + (k : Int)), .string z] 98)); have HBB := Lib.hid (bel_alloc HBB.out (.cells #[.int .i64 (1000 + (k : Int)), .string z] 98)); refine gen_below HBB.out rfl (fun W' hW' => ?_); rw [← hW'] at HBB HK; (try rw [← hW'] at HEB); (try rw [← hW'] at HROW); clear hW'; have h := HCL.out _ HBB.out
                    refine hK.out _ _ h (fun hHeld => ?_)
                    clear hK K
                    try simp only [Act.put, sIB, sC0, sCS]
                    refine wpAnyD_one (i := 0) (by kernel_rfl) rfl (by rfl) (fun K hK => ?_)
                    go_simp; have HGE := Lib.hid HBB.out.size; have HEB := Lib.hid (bel_new HBB.out (.cells #[] 98)); (try have HK := Lib.hid (blk_alloc HK.out (.cells #[] 98))); have HBB := Lib.hid (bel_alloc HBB.out (.cells #[] 98)); refine gen_below HBB.out rfl (fun W' hW' => ?_); rw [← hW'] at HBB HEB; (try rw [← hW'] at HK); clear hW'; have h := HCL.out _ HBB.out
                    refine hK.out _ _ h (fun hHeld => ?_)
                    clear hK K
                    try simp only [Act.put, sIB, sC0, sCS]
                    refine wpAnyD_one (i := 3) (by kernel_rfl) rfl (by rfl) (fun K hK => ?_)
                    refine wp_app_row W2.heap.size w6.heap.size 25 98 (.agg #[.int .i64 0, .string ⟨#[]⟩]) 2 24 _ _ rfl Tryz.underlying25 info_spl rfl (by decide) (.slice (some ⟨_, 0, none⟩) 0 0) 0 [] rfl _ L.length (L.flatMap encIS) rfl (by intro u hu; obtain ⟨y, _, hy⟩ := List.mem_flatMap.1 hu; simp [encIS, strV] at hy; rcases hy with rfl | rfl <;> rfl) (own_empty HEB.out HGE.out) (HF.out.below HBB.out).row (by have := HLL.out; omega) (by have := HLL.out; omega) HBB.out.size ?_; intro v' W' hown' hg'; rw [Nat.zero_add, List.nil_append] at hown'; obtain ⟨AR, cR, rfl⟩ := own_slice hown'; have hk' := (Keep.of_grown (F := fun g => _ = g) hg' (fun g hg => by injection hg)); (try have HK := Lib.hid (hk'.blk HK.out (fun e => by have h1 := HK.out; rw [← e, HEB.out] at h1; simp at h1))); have HBB := Lib.hid (HBB.out.trans (hk'.below HBB.out.size (fun g hg => by rw [← hg]; exact HGE.out))); have HROW := Lib.hid hown'; clear hown' hg' hk' HEB HGE; have h := HCL.out _ HBB.out
                    refine hK.out _ _ h (fun hHeld => ?_)
                    clear hK K
                    try simp only [Act.put, sIB, sC0, sCS]
                    refine wpAnyD_one (i := 13) (by kernel_rfl) rfl (by rfl) (fun K hK => ?_)
                    refine wp_app_at W2.heap.size 25 98 (.agg #[.int .i64 0, .string ⟨#[]⟩]) 2 24 [_, _] 1 _ _ _ rfl Tryz.underlying25 info_spl rfl (by decide) _ _ _ rfl rfl rfl (by intro u hu; simp at hu; rcases hu with rfl | rfl <;> rfl) HK.out HROW.out (by have := HLL.out; omega) (by have := HLL.out; omega) HBB.out.size ?_; intro v' W' hown' hg' _; obtain ⟨AY, cY, rfl⟩ := own_slice hown'; have hk' : Keep (fun g => (Value.slice AR L.length cR).ownBlock = some g) _ W' := Keep.of_grown hg' (fun g hg => hg); have HBB := Lib.hid (HBB.out.trans (hk'.below HBB.out.size (own_base HROW.out))); have HY := Lib.hid hown'; clear hown' hg' hk' HROW HK; have h := HCL.out _ HBB.out
                    refine hK.out _ _ h (fun hHeld => ?_)
                    clear hK K
                    try simp only [Act.put, sIB, sC0, sCS]
                    refine tkP 14 14 ?_ rfl (.inl ⟨by rfl, ?_⟩) ?_; rotate_left; focus (intro w' _; go_simp; (try with_reducible rfl))
                    try simp only [sIB, sC0, sCS]
                    refine wpAnyD_done (by kernel_rfl) ?_ _
                    clear h hHeld
                    have HYS : Hid (Sl W' AY encIS 2 (L ++ [(1000 + (k : Int), x.2)])) := Lib.hid (own_sl (enc := encIS) (fun _ => rfl) (n := L.length + 1) (c := cY) (by rw [List.flatMap_append]; have h9 := HY.out; rw [← HZ.out] at h9; exact h9) (by decide))
                    have HCK := Lib.hid (rcheck_any (c := cY) HYS.out (by rw [List.length_append]; have := HLL.out; simp; omega))
                    rw [show (L ++ [(1000 + (k : Int), x.2)]).length = L.length + 1 from by rw [List.length_append]; rfl] at HCK
                    obtain ⟨q, hq⟩ : ∃ q, okX (L ++ [(1000 + (k : Int), x.2)]) = q := ⟨_, rfl⟩
                    have HQ := Lib.hid hq
                    rw [hq] at HSUC
                    clear hq
                    cases q with
                    | true =>
                      replace HSUC := Lib.hid (HSUC.out.trans (if_pos rfl))
                      go_upto_region 19 with (go_at_call 74; refine HCK.out.mono ?_; rintro e V ⟨⟨n0, k0, rfl, hy1, hy2⟩, m, rfl⟩; obtain ⟨_, hk00⟩ := hy1 HQ.out; subst hk00; clear hy1 hy2)
                      have HFC := Lib.hid (HF.out.below (below_drewN HBB.out m))
                      have cc := blk_cell HFC.out.blk 3
                      have zz := blk_froz HFC.out.blk 3
                      simp only [List.getElem?_toArray, List.getElem?_cons_zero, List.getElem?_cons_succ] at cc
                      have hfn := HF.out.put (Keep.of_below (below_drewN HBB.out m)) (own_less (own_drewN HY.out m) HF.out.keep.size) 3
                      simp only [List.setIfInBounds_toArray, List.set_cons_zero, List.set_cons_succ] at hfn
                      have HFN := Lib.hid hfn
                      clear hfn
                      go_wp2_with fail
                      go_roundg (gk - 1)
                      case measure => omega
                      case rel => exact ⟨k + 1, by omega, by simp, AY, cY, by
                        rw [HSUC.out, List.length_append, List.flatMap_append]
                        have h9 := HFN.out
                        rw [← HZ.out] at h9
                        exact h9⟩
                    | false =>
                      replace HSUC := Lib.hid (HSUC.out.trans (if_neg (by decide)))
                      go_wp2_with (go_at_call 74; refine HCK.out.mono ?_; rintro e V ⟨⟨n0, k0, rfl, hy1, hy2⟩, m, rfl⟩; (have hk00 := hy2 HQ.out); clear hy1 hy2)
                      have HFC := Lib.hid (HF.out.below (below_drewN HBB.out m))
                      go_roundg (gk - 1)
                      case measure => omega
                      case rel => exact ⟨k + 1, by omega, by simp, AV, cv, by rw [HSUC.out]; exact HFC.out⟩
                · have hke : k = min c.xs.length 6 := by omega
                  have hcond : ¬ ((k : Int) < (c.xs.length : Int)) ∨ ((k : Int) < (c.xs.length : Int) ∧ ¬ (k : Int) < 6) := by omega
                  rw [hke] at HF
                  have HKE := Lib.hid hke
                  clear hke
                  go_upto_region 14 with fail
                  go_cut [81] (fun v U => v = .bool false ∧ W = U)
                  case first =>
                    rcases hcond with h1 | ⟨h1, h2⟩ <;> (go_wp2_with fail; go_meet; case rel => exact ⟨rfl, rfl⟩)
                  case rest =>
                    obtain ⟨rfl, rfl⟩ := hcut
                    clear hcond
                    have HXR : Hid (Sl W AV encIS 2 (someX c.xs (min c.xs.length 6))) := Lib.hid (own_sl (enc := encIS) (fun _ => rfl) HF.out.row (by decide))
                    have HBW2 := Lib.hid (HBW.out.trans (HF.out.keep.below HBW.out.size (fun x hx => by rw [hx]; exact HSB.out)))
                    have HKALL := Lib.hid ((HKW.out.trans HKW2.out (fun x hx => .inl hx)).trans HF.out.keep (fun x hx => .inl hx))
                    have d0 := blk_cell HF.out.blk 0
                    have d1 := blk_cell HF.out.blk 1
                    have d2 := blk_cell HF.out.blk 2
                    have d3 := blk_cell HF.out.blk 3
                    have d4 := blk_cell HF.out.blk 4
                    have d5 := blk_cell HF.out.blk 5
                    simp only [List.getElem?_toArray, List.getElem?_cons_zero, List.getElem?_cons_succ] at d0 d1 d2 d3 d4 d5
                    have HN9 := Lib.hid (HKALL.out.blk HN2.out (fun e => by have := HRS.out; omega))
                    have f0 := blk_cell HN9.out 0
                    have f1 := blk_cell HN9.out 1
                    have f2 := blk_cell HN9.out 2
                    have f3 := blk_cell HN9.out 3
                    have f4 := blk_cell HN9.out 4
                    have f5 := blk_cell HN9.out 5
                    have z0 := blk_froz HN9.out 0
                    have z1 := blk_froz HN9.out 1
                    have z2 := blk_froz HN9.out 2
                    have z3 := blk_froz HN9.out 3
                    have z4 := blk_froz HN9.out 4
                    have z5 := blk_froz HN9.out 5
                    simp only [List.getElem?_toArray, List.getElem?_cons_zero, List.getElem?_cons_succ] at f0 f1 f2 f3 f4 f5
                    go_upto_region 20 with fail
                    go_wp2_with fail
                    have HXRB : ∀ a, AV = some a → sb < a.block := fun a ha => by have := own_addr HF.out.row a ha; have := HF.out.lt; omega
                    have hb9 := blk_set (blk_set (blk_set (blk_set (blk_set (blk_set HN9.out 0 (.bool false)) 1 (.slice A2 (mrgsT c.T).length c2)) 2 (.slice none 0 0)) 3 (.slice AV (someX c.xs (min c.xs.length 6)).length cv)) 4 (.slice AC2 (someC c.cs).length cC2)) 5 (.slice AJ2 (someJ c.js).length cJ2)
                    simp only [List.setIfInBounds_toArray, List.set_cons_zero, List.set_cons_succ] at hb9
                    have KR := ((((((Keep.refl (fun x => x = sb ∨ x = r0) W).setCell (p := ⟨r0, 0, none⟩) (.inl (.inr rfl)) (.bool false)).setCell (p := ⟨r0, 1, none⟩) (.inl (.inr rfl)) (.slice A2 (mrgsT c.T).length c2)).setCell (p := ⟨r0, 2, none⟩) (.inl (.inr rfl)) (.slice none 0 0)).setCell (p := ⟨r0, 3, none⟩) (.inl (.inr rfl)) (.slice AV (someX c.xs (min c.xs.length 6)).length cv)).setCell (p := ⟨r0, 4, none⟩) (.inl (.inr rfl)) (.slice AC2 (someC c.cs).length cC2)).setCell (p := ⟨r0, 5, none⟩) (.inl (.inr rfl)) (.slice AJ2 (someJ c.js).length cJ2)
                    have hrs := HRS.out
                    have hms := HMSL.out
                    have K6 := (HF.out.keep.mono (G := fun x => x = sb ∨ x = r0) (fun x hx => .inl hx)).trans KR (fun x hx => .inl hx)
                    have K5 := (HKW2.out.mono (G := fun x => x = sb ∨ x = r0) (fun x hx => .inl hx)).trans K6 (fun x hx => .inl hx)
                    have K4 := (HKW.out.mono (G := fun x => x = sb ∨ x = r0) (fun x hx => .inl hx)).trans K5 (fun x hx => .inl hx)
                    refine ret_cell1 (r := r0) rfl rfl (load_spec hb9) ⟨⟨A2, AV, AC2, AJ2, c2, cv, cC2, cJ2, rfl, ?_⟩, HBW2.out.trans (KR.below HBW2.out.size (fun x hx => by have := HSB.out; have := HR0.out; omega))⟩
                    refine ⟨sl_keep HMS.out K4 (fun a ha h => by have := HMLT.out a ha; have := HG3.out; omega), Sl1.nil _ _ _, sl_keep HXR.out KR (fun a ha h => by have := HXRB a ha; omega), sl_keep HCR.out K5 (fun a ha h => by have := HCRB.out a ha; omega), sl_keep HJR.out K6 (fun a ha h => by have := HJRB.out a ha; omega), ?_⟩
                    have l1 := someX_len c.xs (min c.xs.length 6)
                    have l2 := someC_len c.cs
                    have l3 := someJ_len c.js
                    simp only [CaseP.spec, List.length_nil]
                    omega
end
theorem MapOf.look {α : Type} {P : Program} {K E : TypeId} {kv : α → Value} {w : World} {b n : Nat} {f : α → Option Int} (h : MapOf P K E kv w b n f) (law : Keyed P K) {t : TypeId} (ht : P.underlying t = some (.map K E)) (he : P.underlying E = some (.int .i64)) (hz : (zeroValue E).run P w = .ok (.int .i64 0) w) (y : α) (hkey : ∃ l, keyOf P K (kv y) = some l) :
    (Instr.lookup t (.map (some b)) (kv y) true).run P w = .ok (.tuple #[.int .i64 ((f y).getD 0), .bool (f y).isSome]) w := by
  obtain ⟨D, hown, hD, hf⟩ := h
  obtain ⟨l, hl⟩ := hkey
  obtain ⟨h1, h2⟩ := hf y l hl
  have hw0 : (Lit.int .i64 0).wf = true := by decide
  obtain ⟨v, ps, hrun, hv⟩ := hown.look_ok law ht hz (plainElem_int he hw0) hl
  obtain ⟨c, rfl, hc, hwc⟩ := plainElem_int_inv he hv
  rw [hrun, h1]
  simp only [Prod.mk.injEq] at hc
  have hc := hc.1
  cases hy : f y with
  | none =>
    rw [hy] at h1
    have := atKey_of_not_has (by rw [h1]; rfl) (.lit (.int .i64 0) : DataW Unit)
    rw [this] at hc
    cases hc
    rfl
  | some v =>
    rw [h2 v hy] at hc
    cases hc
    rfl
theorem mright_any (x : Spl) (w : World) : Calls Tryz.prog 152 #[.agg #[.int .i64 x.1, strV x.2]] w fun e w' => e = .returned (.bool (rightX x)) ∧ Below w.heap.size w w' := by
  obtain ⟨id, tx⟩ := x
  simp only
  unfold strV
  obtain ⟨z, hz⟩ : ∃ z, bs tx = z := ⟨_, rfl⟩
  have HSZ := Lib.hid (show (z.size : Int) = (tx.length : Int) by rw [← hz, bs_size])
  have HZ := Lib.hid hz
  rw [hz]
  have HB := Lib.hid ((Below.refl w.heap.size w).alloc (Nat.le_refl _) (.cells #[.int .i64 id, .string z] 98))
  have hn := blk_new w (.cells #[.int .i64 id, .string z] 98)
  have n0 := blk_cell hn 0
  have n1 := blk_cell hn 1
  simp only [List.getElem?_toArray, List.getElem?_cons_zero, List.getElem?_cons_succ] at n0 n1
  clear hz hn
  by_cases h1 : 0 ≤ id
  · by_cases h2 : id ≤ 1073741824
    · have hzt : z.toList = tx := by rw [← HZ.out, ByteArray.toList_eq]; rfl
      by_cases h3 : tx = []
      · have e3 : z.toList.isEmpty = true := by rw [hzt, h3]; rfl
        have HR : Hid (rightX (id, tx) = false) := Lib.hid (rightX_no (by rw [h3]; simp))
        have e4 : z.toList = [] := by rw [hzt, h3]
        clear h3 hzt
        go_enter Tryz.func152, Tryz.ntmps152
        go_wp2_with fail
        go_ret
        exact ⟨by rw [HR.out]; simp, HB.out⟩
      · have e3 : z.toList.isEmpty = false := by rw [hzt]; cases tx with | nil => exact absurd rfl h3 | cons a l => rfl
        have e4 : ¬ z.toList = [] := by rw [hzt]; exact h3
        have HL3 : Hid (1 ≤ tx.length) := Lib.hid (by cases tx with | nil => exact absurd rfl h3 | cons a l => simp)
        clear h3 hzt
        by_cases h5 : (z.size : Int) ≤ 64
        · have HR : Hid (rightX (id, tx) = true) := Lib.hid (rightX_yes (by have := HSZ.out; have := HL3.out; simp only; omega))
          go_enter Tryz.func152, Tryz.ntmps152
          go_wp2_with fail
          go_ret
          exact ⟨by rw [HR.out]; simp, HB.out⟩
        · have HR : Hid (rightX (id, tx) = false) := Lib.hid (rightX_no (by have := HSZ.out; simp only; omega))
          go_enter Tryz.func152, Tryz.ntmps152
          go_wp2_with fail
          go_ret
          exact ⟨by rw [HR.out]; simp, HB.out⟩
    · have HR : Hid (rightX (id, tx) = false) := Lib.hid (rightX_no (by simp only; omega))
      go_enter Tryz.func152, Tryz.ntmps152
      go_wp2_with fail
      go_ret
      exact ⟨by rw [HR.out]; rfl, HB.out⟩
  · have HR : Hid (rightX (id, tx) = false) := Lib.hid (rightX_no (by simp only; omega))
    go_enter Tryz.func152, Tryz.ntmps152
    go_wp2_with fail
    go_ret
    exact ⟨by rw [HR.out]; rfl, HB.out⟩
theorem fndI_snoc (M : List Spl) (x : Spl) (i : Int) (h : fndI M x.1 = none) : fndI (M ++ [x]) i = if i = x.1 then some M.length else fndI M i := by
  unfold fndI at *
  rw [find_snoc]
  by_cases hi : i = x.1
  · subst hi; rw [h]; simp
  · rw [if_neg hi]
    cases hf : M.findIdx? (fun y => y.1 == i) with
    | some j => simp
    | none => simp; exact fun e => hi e.symm
theorem fndX_snoc (M : List Spl) (x : Spl) (s : List UInt8) (h : fndX M x.2 = none) : fndX (M ++ [x]) s = if s = x.2 then some M.length else fndX M s := by
  unfold fndX at *
  rw [find_snoc]
  by_cases hi : s = x.2
  · subst hi; rw [h]; simp
  · rw [if_neg hi]
    cases hf : M.findIdx? (fun y => y.2 == s) with
    | some j => simp
    | none => simp; exact fun e => hi e.symm
theorem mostM_snoc (M : List Spl) (x : Spl) : mostM (M ++ [x]) = max (mostM M) x.2.length := by simp [mostM]
theorem firstB_snoc (M : List Spl) (x : Spl) (c : UInt8) (l : List UInt8) (hx : x.2 = c :: l) (b : Nat) : firstB (M ++ [x]) b = (firstB M b || (c.toNat == b)) := by
  unfold firstB
  rw [List.any_append]
  simp [hx]
theorem mark_set (sv : Value) (mi mt : Nat) (fs : Nat → Bool) (mo : Nat) (i : Nat) (v : Value) (sv' : Value) (fs' : Nat → Bool) (mo' : Nat) (h : ∀ j, j < 260 → (if i = j then v else markC sv mi mt fs mo j) = markC sv' mi mt fs' mo' j) :
    (markA sv mi mt fs mo).setIfInBounds i v = markA sv' mi mt fs' mo' := by
  apply Array.ext
  · simp [markA]
  · intro j h1 h2
    have hj : j < 260 := by simpa [markA] using h2
    rw [Array.getElem_setIfInBounds (by simpa using h1)]
    have := h j hj
    simp only [markA, Array.getElem_ofFn]
    rw [← this]
theorem mark_put0 (sv sv' : Value) (mi mt : Nat) (fs : Nat → Bool) (mo : Nat) : (markA sv mi mt fs mo).setIfInBounds 0 sv' = markA sv' mi mt fs mo := by
  apply mark_set
  intro j hj
  unfold markC
  by_cases h : 0 = j
  · rw [if_pos h, if_pos h.symm]
  · rw [if_neg h]
    simp only [show ¬ j = 0 from fun e => h e.symm, if_false]
theorem mark_putF (sv : Value) (mi mt : Nat) (fs : Nat → Bool) (mo : Nat) (c : Nat) (hc : c < 256) : (markA sv mi mt fs mo).setIfInBounds (3 + c) (.bool true) = markA sv mi mt (fun b => fs b || c == b) mo := by
  apply mark_set
  intro j hj
  unfold markC
  by_cases h : 3 + c = j
  · subst h
    rw [if_pos rfl, if_neg (by omega), if_neg (by omega), if_neg (by omega), if_pos (by omega)]
    simp
  · rw [if_neg h]
    by_cases h0 : j = 0
    · simp [h0]
    · by_cases h1 : j = 1
      · simp [h1]
      · by_cases h2 : j = 2
        · simp [h2]
        · simp only [h0, h1, h2, if_false]
          split
          · have : (c == j - 3) = false := by rw [beq_eq_false_iff_ne]; omega
            rw [this, Bool.or_false]
          · rfl
theorem mark_putM (sv : Value) (mi mt : Nat) (fs : Nat → Bool) (mo mo' : Nat) : (markA sv mi mt fs mo).setIfInBounds 259 (.int .i64 (mo' : Nat)) = markA sv mi mt fs mo' := by
  apply mark_set
  intro j hj
  unfold markC
  by_cases h : 259 = j
  · subst h; simp
  · rw [if_neg h]
    by_cases h0 : j = 0
    · simp [h0]
    · by_cases h1 : j = 1
      · simp [h1]
      · by_cases h2 : j = 2
        · simp [h2]
        · simp only [h0, h1, h2, if_false]
          rw [if_pos (by omega), if_pos (by omega)]
structure MkIs (w W : World) (base mb mi mt : Nat) (sv : Value) (fs : Nat → Bool) (mo : Nat) (M : List Spl) (id : Int) (tx : List UInt8) (z : ByteArray) (bx : Nat) : Prop where
  blk : W.heap[mb]? = some (.cells (markA sv mi mt fs mo) 214)
  box : W.heap[bx]? = some (.cells #[.int .i64 id, .string z] 98)
  row : W.ownsRow base 98 2 sv M.length (M.flatMap encIS)
  ids : MapOf Tryz.prog 3 3 (Value.int .i64) W mi (M.length + 1) (fun x => if x = id then some (M.length : Int) else (fndI M x).map Int.ofNat)
  txs : MapOf Tryz.prog 9 3 strV W mt (M.length + 1) (fun x => if x = tx then some (M.length : Int) else (fndX M x).map Int.ofNat)
  keep : Keep (fun g => base ≤ g) w W
  lt : base ≤ mb ∧ base ≤ mi ∧ base ≤ mt
  ne : mi ≠ mt
section
variable {w W W' : World} {base mb mi mt : Nat} {sv : Value} {fs : Nat → Bool} {mo : Nat} {M : List Spl} {id : Int} {tx : List UInt8} {z : ByteArray} {bx : Nat}
theorem MkIs.keepF {F : Nat → Prop} (h : MkIs w W base mb mi mt sv fs mo M id tx z bx) (k : Keep F W W') (h1 : ¬ F mb) (h2 : ¬ F bx) (h3 : ¬ F mi) (h4 : ¬ F mt) (h5 : ∀ g, sv.ownBlock = some g → ¬ F g) (h6 : ∀ x, F x → base ≤ x ∨ w.heap.size ≤ x) : MkIs w W' base mb mi mt sv fs mo M id tx z bx :=
  ⟨k.blk h.blk h1, k.blk h.box h2, own_keep h.row k h5, h.ids.keep k h3, h.txs.keep k h4, h.keep.trans k h6, h.lt, h.ne⟩
theorem MkIs.drew (h : MkIs w W base mb mi mt sv fs mo M id tx z bx) : MkIs w W.drew base mb mi mt sv fs mo M id tx z bx :=
  h.keepF ((Keep.refl (fun _ => False) W).drew) (fun h => h) (fun h => h) (fun h => h) (fun h => h) (fun _ _ h => h) (fun _ h => h.elim)
theorem MkIs.ne_box (h : MkIs w W base mb mi mt sv fs mo M id tx z bx) : bx ≠ mb := by
  intro e
  have h1 := h.box
  rw [e, h.blk] at h1
  simp at h1
theorem MkIs.put (h : MkIs w W base mb mi mt sv fs mo M id tx z bx) (i : Nat) (v : Value) {sv' : Value} {fs' : Nat → Bool} {mo' : Nat} (he : (markA sv mi mt fs mo).setIfInBounds i v = markA sv' mi mt fs' mo') :
    (W.setCell ⟨mb, i, none⟩ v).heap[mb]? = some (.cells (markA sv' mi mt fs' mo') 214) ∧ (W.setCell ⟨mb, i, none⟩ v).heap[bx]? = some (.cells #[.int .i64 id, .string z] 98) ∧
    (W.setCell ⟨mb, i, none⟩ v).ownsRow base 98 2 sv M.length (M.flatMap encIS) ∧
    MapOf Tryz.prog 3 3 (Value.int .i64) (W.setCell ⟨mb, i, none⟩ v) mi (M.length + 1) (fun x => if x = id then some (M.length : Int) else (fndI M x).map Int.ofNat) ∧
    MapOf Tryz.prog 9 3 strV (W.setCell ⟨mb, i, none⟩ v) mt (M.length + 1) (fun x => if x = tx then some (M.length : Int) else (fndX M x).map Int.ofNat) ∧ Keep (fun g => base ≤ g) w (W.setCell ⟨mb, i, none⟩ v) := by
  have k : Keep (fun g => g = mb) W (W.setCell ⟨mb, i, none⟩ v) := (Keep.refl (fun g => g = mb) W).setCell (p := ⟨mb, i, none⟩) (.inl rfl) v
  refine ⟨?_, k.blk h.box h.ne_box, own_keep h.row k (fun g hg e => row_ne h.row h.blk (by decide) (by rw [hg, e])), h.ids.keep k (h.ids.blk_ne h.blk), h.txs.keep k (h.txs.blk_ne h.blk), h.keep.trans k (fun x hx => .inl (by rw [hx]; exact h.lt.1))⟩
  have := blk_set h.blk i v
  rw [he] at this
  exact this
theorem MkIs.put2 (h : MkIs w W base mb mi mt sv fs mo M id tx z bx) (i : Nat) (v : Value) {fs' : Nat → Bool} {mo' : Nat} (he : (markA sv mi mt fs mo).setIfInBounds i v = markA sv mi mt fs' mo') : MkIs w (W.setCell ⟨mb, i, none⟩ v) base mb mi mt sv fs' mo' M id tx z bx := by
  obtain ⟨h1, h2, h3, h4, h5, h6⟩ := h.put i v he
  exact ⟨h1, h2, h3, h4, h5, h6, h.lt, h.ne⟩
theorem MkIs.at0 (h : MkIs w W base mb mi mt sv fs mo M id tx z bx) : W.cell? ⟨mb, 0, none⟩ = some sv := by
  have := blk_cell h.blk 0
  rw [mark_get _ _ _ _ _ _ (by decide)] at this
  exact this
theorem MkIs.atF (h : MkIs w W base mb mi mt sv fs mo M id tx z bx) (c : Nat) (hc : c < 256) : W.cell? ⟨mb, 3 + c, none⟩ = some (.bool (fs c)) := by
  have := blk_cell h.blk (3 + c)
  rw [mark_get _ _ _ _ _ _ (by omega)] at this
  rw [this]
  unfold markC
  rw [if_neg (by omega), if_neg (by omega), if_neg (by omega), if_pos (by omega)]
  simp
theorem MkIs.atM (h : MkIs w W base mb mi mt sv fs mo M id tx z bx) : W.cell? ⟨mb, 259, none⟩ = some (.int .i64 (mo : Nat)) := by
  have := blk_cell h.blk 259
  rw [mark_get _ _ _ _ _ _ (by decide)] at this
  exact this
theorem MkIs.frz (h : MkIs w W base mb mi mt sv fs mo M id tx z bx) (i : Nat) : W.frozen? ⟨mb, i, none⟩ = false := blk_froz h.blk i
theorem MkIs.bx0 (h : MkIs w W base mb mi mt sv fs mo M id tx z bx) : W.cell? ⟨bx, 0, none⟩ = some (.int .i64 id) := by have := blk_cell h.box 0; simpa using this
theorem MkIs.bx1 (h : MkIs w W base mb mi mt sv fs mo M id tx z bx) : W.cell? ⟨bx, 1, none⟩ = some (.string z) := by have := blk_cell h.box 1; simpa using this
end
theorem own_lt {w : World} {base e : TypeId} {size n : Nat} {v : Value} {xs : List Value} (h : w.ownsRow base e size v n xs) : ∀ g, v.ownBlock = some g → g < w.heap.size := by
  intro g hg
  rcases h.2 with ⟨rfl, _⟩ | ⟨g', cap, cur, rfl, _, hb, _⟩
  · simp [Value.ownBlock] at hg
  · simp only [Value.ownBlock, Option.some.injEq] at hg
    have := blk_lt hb; omega
section
variable {w : World} {base mb : Nat} {M : List Spl} {sv : Value} {mi mt : Nat}
set_option maxHeartbeats 4000000 in
theorem madd_ok (h : MarkIs w base mb M sv mi mt) (x : Spl) (hr : rightX x = true) (hM : M.length < 32) (hi : fndI M x.1 = none) (ht : fndX M x.2 = none) :
    Calls Tryz.prog 128 #[.pointer (some ⟨mb, 0, none⟩), .agg #[.int .i64 x.1, strV x.2]] w fun e w' => e = .returned (.int .i64 0) ∧ ∃ sv', MarkIs w' base mb (M ++ [x]) sv' mi mt ∧ Keep (fun g => base ≤ g) w w' := by
  have HMR := Lib.hid (fun V => mright_any x V)
  have HOL := Lib.hid (own_lt h.row)
  rw [hr] at HMR
  obtain ⟨id, tx⟩ := x
  simp only at hi ht HMR ⊢
  unfold strV at HMR ⊢
  obtain ⟨z, hz⟩ : ∃ z, bs tx = z := ⟨_, rfl⟩
  have HZ := Lib.hid hz
  have HZV : Hid (strV tx = .string z) := Lib.hid (by unfold strV; rw [hz])
  rw [hz] at HMR ⊢
  have hrx : 0 ≤ id ∧ id ≤ 1073741824 ∧ 1 ≤ tx.length ∧ tx.length ≤ 64 := by
    unfold rightX at hr
    simp only [Bool.and_eq_true, decide_eq_true_eq] at hr
    exact ⟨hr.1.1.1, hr.1.1.2, hr.1.2, hr.2⟩
  have hb0 := (Below.refl w.heap.size w).alloc (Nat.le_refl _) (.cells #[.int .i64 id, .string z] 98)
  have HX := Lib.hid (blk_new w (.cells #[.int .i64 id, .string z] 98))
  have HM := Lib.hid (h.below hb0 (Nat.le_refl _))
  have HB := Lib.hid hb0
  have HRX := Lib.hid hrx
  have HFI := Lib.hid hi
  have HFX := Lib.hid ht
  have HML := Lib.hid hM
  have hwf : (Lit.int .i64 id).wf = true := wf_i64 (by omega) (by omega)
  have HKI := Lib.hid (key_int hwf)
  have HKX := Lib.hid (key_str tx (by unfold maxLen; omega))
  have HLI : Hid (∀ V, MarkIs V base mb M sv mi mt → (Instr.lookup 49 (.map (some mi)) (.int .i64 id) true).run Tryz.prog V = .ok (.tuple #[.int .i64 0, .bool false]) V) := Lib.hid (fun V hV => by
    have := hV.ids.look keyed_int Tryz.underlying49 Tryz.underlying3 (zero_int V) id HKI.out
    rw [HFI.out] at this
    exact this)
  have HLX : Hid (∀ V, MarkIs V base mb M sv mi mt → (Instr.lookup 186 (.map (some mt)) (.string z) true).run Tryz.prog V = .ok (.tuple #[.int .i64 0, .bool false]) V) := Lib.hid (fun V hV => by
    have := hV.txs.look keyed_str Tryz.underlying186 Tryz.underlying3 (zero_int V) tx HKX.out
    rw [HFX.out, HZV.out] at this
    exact this)
  clear h hr hM hi ht hz hrx hb0 hwf
  go_enter Tryz.func128, Tryz.ntmps128
  go_upto_region 1 with fail
  obtain ⟨bx, hbx⟩ : ∃ b, w.heap.size = b := ⟨_, rfl⟩
  have HBX := Lib.hid (Nat.le_of_eq hbx)
  have HX2 : Hid ((w.alloc (.cells #[.int .i64 id, .string z] 98)).heap[bx]? = some (.cells #[.int .i64 id, .string z] 98)) := Lib.hid (by rw [← hbx]; exact HX.out)
  rw [hbx]
  clear hbx HX
  generalize w.alloc (.cells #[.int .i64 id, .string z] 98) = w1 at *
  have c1 : w1.cell? ⟨mb, 1, none⟩ = some (.map (some mi)) := by have := blk_cell HM.out.blk 1; rw [mark_get _ _ _ _ _ _ (by decide)] at this; exact this
  have x0 : w1.cell? ⟨bx, 0, none⟩ = some (.int .i64 id) := by have := blk_cell HX2.out 0; simpa using this
  refine wp_region_held_drew (S := fun V => V.cell? ⟨mb, 1, none⟩ = some (.map (some mi)) ∧ V.cell? ⟨bx, 0, none⟩ = some (.int .i64 id) ∧ (Instr.lookup 49 (.map (some mi)) (.int .i64 id) true).run Tryz.prog V = .ok (.tuple #[.int .i64 0, .bool false]) V) (by kernel_rfl) (by exact And.intro c1 (And.intro x0 (HLI.out _ (HM.out.below (B := w1.heap.size) ⟨rfl, rfl, rfl, Nat.le_refl _, fun _ _ => rfl⟩ (Nat.le_refl _))))) (fun hHeld => ?_)
  refine tkH 0 10 ?_ rfl hHeld (.inl ⟨by rfl, ?_⟩) ?_; rotate_left; focus (intro w' hSw; (try dsimp only at hSw); go_simp; (try with_reducible rfl))
  try simp only [sIB, sC0, sCS]
  refine tkH 1 11 ?_ rfl hHeld (.inl ⟨by rfl, ?_⟩) ?_; rotate_left; focus (intro w' hSw; (try dsimp only at hSw); go_simp; (try with_reducible rfl))
  try simp only [sIB, sC0, sCS]
  refine tkH 2 12 ?_ rfl hHeld (.inl ⟨by rfl, ?_⟩) ?_; rotate_left; focus (intro w' hSw; (try dsimp only at hSw); go_simp; (try with_reducible rfl))
  try simp only [sIB, sC0, sCS]
  refine tkH 3 13 ?_ rfl hHeld (.inl ⟨by rfl, ?_⟩) ?_; rotate_left; focus (intro w' hSw; (try dsimp only at hSw); go_simp; (try with_reducible rfl))
  try simp only [sIB, sC0, sCS]
  refine tkH 4 14 ?_ rfl hHeld (.inl ⟨by rfl, ?_⟩) ?_; rotate_left; focus (intro w' hSw; (try dsimp only at hSw); go_simp; (try with_reducible rfl))
  try simp only [sIB, sC0, sCS]
  refine tkH 5 15 ?_ rfl hHeld (.inl ⟨by rfl, ?_⟩) ?_; rotate_left; focus (intro w' hSw; (try dsimp only at hSw); go_simp; (try with_reducible rfl))
  try simp only [sIB, sC0, sCS]
  refine tkH 6 16 ?_ rfl hHeld (.inl ⟨by rfl, ?_⟩) ?_; rotate_left; focus (intro w' hSw; (try dsimp only at hSw); go_simp; (try with_reducible rfl))
  try simp only [sIB, sC0, sCS]
  refine tkH 7 9 ?_ rfl hHeld (.inl ⟨by rfl, ?_⟩) ?_; rotate_left; focus (intro w' hSw; (try dsimp only at hSw); go_simp; (try with_reducible rfl))
  try simp only [sIB, sC0, sCS]
  refine tkH 8 17 ?_ rfl hHeld (.inl ⟨by rfl, ?_⟩) ?_; rotate_left; focus (intro w' hSw; (try dsimp only at hSw); go_simp; (try with_reducible rfl))
  try simp only [sIB, sC0, sCS]
  refine tkH 9 18 ?_ rfl hHeld (.inl ⟨by rfl, ?_⟩) ?_; rotate_left; focus (intro w' hSw; (try dsimp only at hSw); go_simp; (try with_reducible rfl))
  try simp only [sIB, sC0, sCS]
  refine tkH 10 5 ?_ rfl hHeld (.inl ⟨by rfl, ?_⟩) ?_; rotate_left; focus (intro w' hSw; (try dsimp only at hSw); go_simp; (try with_reducible rfl))
  try simp only [sIB, sC0, sCS]
  refine tkH 11 6 ?_ rfl hHeld (.inl ⟨by rfl, ?_⟩) ?_; rotate_left; focus (intro w' hSw; (try dsimp only at hSw); go_simp; (try with_reducible rfl))
  try simp only [sIB, sC0, sCS]
  refine wpAnyH_done (by kernel_rfl) ?_ _
  have HM : Hid (MarkIs w1.drew base mb M sv mi mt) := Lib.hid (HM.out.below (B := w1.heap.size) ⟨rfl, rfl, rfl, Nat.le_refl _, fun _ _ => rfl⟩ (Nat.le_refl _))
  have HB := Lib.hid HB.out.drew
  have HX2 : Hid (w1.drew.heap[bx]? = some (.cells #[.int .i64 id, .string z] 98)) := HX2
  clear c1 x0
  generalize w1.drew = w2 at *
  go_upto_region 2 with fail
  have c2 : w2.cell? ⟨mb, 2, none⟩ = some (.map (some mt)) := by have := blk_cell HM.out.blk 2; rw [mark_get _ _ _ _ _ _ (by decide)] at this; exact this
  have x1 : w2.cell? ⟨bx, 1, none⟩ = some (.string z) := by have := blk_cell HX2.out 1; simpa using this
  refine wp_region_held_drew (S := fun V => V.cell? ⟨mb, 2, none⟩ = some (.map (some mt)) ∧ V.cell? ⟨bx, 1, none⟩ = some (.string z) ∧ (Instr.lookup 186 (.map (some mt)) (.string z) true).run Tryz.prog V = .ok (.tuple #[.int .i64 0, .bool false]) V) (by kernel_rfl) (by exact And.intro c2 (And.intro x1 (HLX.out _ (HM.out.below (B := w2.heap.size) ⟨rfl, rfl, rfl, Nat.le_refl _, fun _ _ => rfl⟩ (Nat.le_refl _))))) (fun hHeld => ?_)
  refine tkH 0 20 ?_ rfl hHeld (.inl ⟨by rfl, ?_⟩) ?_; rotate_left; focus (intro w' hSw; (try dsimp only at hSw); go_simp; (try with_reducible rfl))
  try simp only [sIB, sC0, sCS]
  refine tkH 1 21 ?_ rfl hHeld (.inl ⟨by rfl, ?_⟩) ?_; rotate_left; focus (intro w' hSw; (try dsimp only at hSw); go_simp; (try with_reducible rfl))
  try simp only [sIB, sC0, sCS]
  refine tkH 2 22 ?_ rfl hHeld (.inl ⟨by rfl, ?_⟩) ?_; rotate_left; focus (intro w' hSw; (try dsimp only at hSw); go_simp; (try with_reducible rfl))
  try simp only [sIB, sC0, sCS]
  refine tkH 3 23 ?_ rfl hHeld (.inl ⟨by rfl, ?_⟩) ?_; rotate_left; focus (intro w' hSw; (try dsimp only at hSw); go_simp; (try with_reducible rfl))
  try simp only [sIB, sC0, sCS]
  refine tkH 4 24 ?_ rfl hHeld (.inl ⟨by rfl, ?_⟩) ?_; rotate_left; focus (intro w' hSw; (try dsimp only at hSw); go_simp; (try with_reducible rfl))
  try simp only [sIB, sC0, sCS]
  refine tkH 5 25 ?_ rfl hHeld (.inl ⟨by rfl, ?_⟩) ?_; rotate_left; focus (intro w' hSw; (try dsimp only at hSw); go_simp; (try with_reducible rfl))
  try simp only [sIB, sC0, sCS]
  refine tkH 6 26 ?_ rfl hHeld (.inl ⟨by rfl, ?_⟩) ?_; rotate_left; focus (intro w' hSw; (try dsimp only at hSw); go_simp; (try with_reducible rfl))
  try simp only [sIB, sC0, sCS]
  refine tkH 7 19 ?_ rfl hHeld (.inl ⟨by rfl, ?_⟩) ?_; rotate_left; focus (intro w' hSw; (try dsimp only at hSw); go_simp; (try with_reducible rfl))
  try simp only [sIB, sC0, sCS]
  refine tkH 8 27 ?_ rfl hHeld (.inl ⟨by rfl, ?_⟩) ?_; rotate_left; focus (intro w' hSw; (try dsimp only at hSw); go_simp; (try with_reducible rfl))
  try simp only [sIB, sC0, sCS]
  refine tkH 9 28 ?_ rfl hHeld (.inl ⟨by rfl, ?_⟩) ?_; rotate_left; focus (intro w' hSw; (try dsimp only at hSw); go_simp; (try with_reducible rfl))
  try simp only [sIB, sC0, sCS]
  refine tkH 10 7 ?_ rfl hHeld (.inl ⟨by rfl, ?_⟩) ?_; rotate_left; focus (intro w' hSw; (try dsimp only at hSw); go_simp; (try with_reducible rfl))
  try simp only [sIB, sC0, sCS]
  refine tkH 11 8 ?_ rfl hHeld (.inl ⟨by rfl, ?_⟩) ?_; rotate_left; focus (intro w' hSw; (try dsimp only at hSw); go_simp; (try with_reducible rfl))
  try simp only [sIB, sC0, sCS]
  refine wpAnyH_done (by kernel_rfl) ?_ _
  have HM : Hid (MarkIs w2.drew base mb M sv mi mt) := Lib.hid (HM.out.below (B := w2.heap.size) ⟨rfl, rfl, rfl, Nat.le_refl _, fun _ _ => rfl⟩ (Nat.le_refl _))
  have HB := Lib.hid HB.out.drew
  have HX2 : Hid (w2.drew.heap[bx]? = some (.cells #[.int .i64 id, .string z] 98)) := HX2
  clear c2 x1
  generalize w2.drew = w3 at *
  have x0 : w3.cell? ⟨bx, 0, none⟩ = some (.int .i64 id) := by have := blk_cell HX2.out 0; simpa using this
  have x1 : w3.cell? ⟨bx, 1, none⟩ = some (.string z) := by have := blk_cell HX2.out 1; simpa using this
  go_upto_region 5 with (go_at_call 152; refine (HMR.out _).mono ?_; rintro e w4 ⟨rfl, hb⟩; (replace HM := Lib.hid (HM.out.below hb (Nat.le_refl _))); (replace HB := Lib.hid (HB.out.trans (hb.mono HB.out.size))); (replace HX2 := Lib.hid (blk_below hb (blk_lt HX2.out) HX2.out)); clear hb x0 x1)
  obtain ⟨A, c, hsv⟩ := own_slice HM.out.row
  subst hsv
  have c0 : w4.cell? ⟨mb, 0, none⟩ = some (.slice A M.length c) := by have := blk_cell HM.out.blk 0; rw [mark_get _ _ _ _ _ _ (by decide)] at this; exact this
  have l32 : ¬ (32 : Int) ≤ (M.length : Int) := by have := HML.out; omega
  go_upto_region 9 with fail
  have HML2 := Lib.hid (show M.length < maxLen by have := HML.out; unfold maxLen; omega)
  have hids : MapOf Tryz.prog 3 3 (Value.int .i64) w4.drew mi M.length (fun i => (fndI M i).map Int.ofNat) := HM.out.ids.keep ((Keep.refl (fun _ => False) _).drew) (fun h => h)
  have htxs : MapOf Tryz.prog 9 3 strV w4.drew mt M.length (fun s => (fndX M s).map Int.ofNat) := HM.out.txs.keep ((Keep.refl (fun _ => False) _).drew) (fun h => h)
  obtain ⟨st1, o1, o2, hE1, hS1, hM1⟩ := entry_new (t := 49) keyed_int Tryz.underlying49 Tryz.underlying3 zero_int (fun x y e => by injection e) hids HML2.out id HKI.out (by rw [HFI.out]; rfl) (M.length : Int) (wf_i64 (by omega) (by have := HML.out; omega))
  have htx2 := htxs.keep (setBlock_keep (w := w4.drew) (b := mi) (o := o2)) (fun e => HM.out.ne e.symm)
  obtain ⟨st2, p1, p2, hE2, hS2, hM2⟩ := entry_new (t := 186) keyed_str Tryz.underlying186 Tryz.underlying3 zero_int strV_inj htx2 HML2.out tx HKX.out (by rw [HFX.out]; rfl) (M.length : Int) (wf_i64 (by omega) (by have := HML.out; omega))
  rw [HZV.out] at hE2
  have hilt : mi < w4.drew.heap.size := hids.lt
  have htlt : mt < (Go.ChangeMaps.setBlock w4.drew mi o2).heap.size := htx2.lt
  have NMI := Lib.hid (hids.blk_ne HM.out.blk)
  have NMT := Lib.hid (htxs.blk_ne HM.out.blk)
  have NXI := Lib.hid (hids.blk_ne HX2.out)
  have NXT := Lib.hid (htxs.blk_ne HX2.out)
  have d1 : w4.drew.heap[mb]? = _ := HM.out.blk
  have e1 : w4.drew.heap[bx]? = _ := HX2.out
  have D1 := Lib.hid d1
  have E1 := Lib.hid e1
  have D2 := Lib.hid ((setBlock_keep (w := w4.drew) (b := mi) (o := o1)).blk d1 (fun e => NMI.out e.symm))
  have E2 := Lib.hid ((setBlock_keep (w := w4.drew) (b := mi) (o := o1)).blk e1 (fun e => NXI.out e.symm))
  have D3 := Lib.hid ((setBlock_keep (w := w4.drew) (b := mi) (o := o2)).blk d1 (fun e => NMI.out e.symm))
  have E3 := Lib.hid ((setBlock_keep (w := w4.drew) (b := mi) (o := o2)).blk e1 (fun e => NXI.out e.symm))
  have D4 := Lib.hid ((setBlock_keep (w := Go.ChangeMaps.setBlock w4.drew mi o2) (b := mt) (o := p1)).blk D3.out (fun e => NMT.out e.symm))
  have E4 := Lib.hid ((setBlock_keep (w := Go.ChangeMaps.setBlock w4.drew mi o2) (b := mt) (o := p1)).blk E3.out (fun e => NXT.out e.symm))
  have D5 := Lib.hid ((setBlock_keep (w := Go.ChangeMaps.setBlock w4.drew mi o2) (b := mt) (o := p2)).blk D3.out (fun e => NMT.out e.symm))
  have E5 := Lib.hid ((setBlock_keep (w := Go.ChangeMaps.setBlock w4.drew mi o2) (b := mt) (o := p2)).blk E3.out (fun e => NXT.out e.symm))
  have HCD : Hid (∀ V : World, V.heap[mb]? = some (.cells (markA (.slice A M.length c) mi mt (firstB M) (mostM M)) 214) → V.heap[bx]? = some (.cells #[.int .i64 id, .string z] 98) →
      V.cell? ⟨mb, 1, none⟩ = some (.map (some mi)) ∧ V.cell? ⟨mb, 2, none⟩ = some (.map (some mt)) ∧ V.cell? ⟨mb, 0, none⟩ = some (.slice A M.length c) ∧ V.cell? ⟨bx, 0, none⟩ = some (.int .i64 id) ∧ V.cell? ⟨bx, 1, none⟩ = some (.string z)) := Lib.hid (fun V h1 h2 => by
    have a0 := blk_cell h1 0
    have a1 := blk_cell h1 1
    have a2 := blk_cell h1 2
    rw [mark_get _ _ _ _ _ _ (by decide)] at a0 a1 a2
    have b0 := blk_cell h2 0
    have b1 := blk_cell h2 1
    simp only [List.getElem?_toArray, List.getElem?_cons_zero, List.getElem?_cons_succ] at b0 b1
    exact ⟨a1, a2, a0, b0, b1⟩)
  have RE1 := Lib.hid hE1
  have RS1 := Lib.hid (hS1 _ (setBlock_at hilt))
  have RE2 := Lib.hid hE2
  have RS2 := Lib.hid (hS2 _ (setBlock_at htlt))
  have HM1 := Lib.hid hM1
  have HM2 := Lib.hid hM2
  clear hids htxs htx2 hE1 hS1 hE2 hS2 hM1 hM2 hilt htlt d1 e1 c0 l32
  refine wp_region_G (D := 27) (S := fun V => V.cell? ⟨mb, 1, none⟩ = some (.map (some mi)) ∧ V.cell? ⟨mb, 2, none⟩ = some (.map (some mt)) ∧ V.cell? ⟨mb, 0, none⟩ = some (.slice A M.length c) ∧ V.cell? ⟨bx, 0, none⟩ = some (.int .i64 id) ∧ V.cell? ⟨bx, 1, none⟩ = some (.string z)) (by kernel_rfl) (by exact HCD.out _ D1.out E1.out) (fun hHeld => ?_)
  refine tkG 0 45 ?_ rfl hHeld (.inl ⟨by rfl, ?_⟩) ?_; rotate_left; focus (intro w' hSw; (try dsimp only at hSw); go_simp; (try with_reducible rfl))
  try simp only [sIB, sC0, sCS]
  refine tkG 1 46 ?_ rfl hHeld (.inl ⟨by rfl, ?_⟩) ?_; rotate_left; focus (intro w' hSw; (try dsimp only at hSw); go_simp; (try with_reducible rfl))
  try simp only [sIB, sC0, sCS]
  refine tkG 2 47 ?_ rfl hHeld (.inl ⟨by rfl, ?_⟩) ?_; rotate_left; focus (intro w' hSw; (try dsimp only at hSw); go_simp; (try with_reducible rfl))
  try simp only [sIB, sC0, sCS]
  refine tkG 3 48 ?_ rfl hHeld (.inl ⟨by rfl, ?_⟩) ?_; rotate_left; focus (intro w' hSw; (try dsimp only at hSw); go_simp; (try with_reducible rfl))
  try simp only [sIB, sC0, sCS]
  refine tkG 4 49 ?_ rfl hHeld (.inl ⟨by rfl, ?_⟩) ?_; rotate_left; focus (intro w' hSw; (try dsimp only at hSw); go_simp; (try with_reducible rfl))
  try simp only [sIB, sC0, sCS]
  refine tkG 5 50 ?_ rfl hHeld (.inl ⟨by rfl, ?_⟩) ?_; rotate_left; focus (intro w' hSw; (try dsimp only at hSw); go_simp; (try with_reducible rfl))
  try simp only [sIB, sC0, sCS]
  refine tkG 6 51 ?_ rfl hHeld (.inl ⟨by rfl, ?_⟩) ?_; rotate_left; focus (intro w' hSw; (try dsimp only at hSw); go_simp; (try with_reducible rfl))
  try simp only [sIB, sC0, sCS]
  refine tkG 7 52 ?_ rfl hHeld (.inl ⟨by rfl, ?_⟩) ?_; rotate_left; focus (intro w' hSw; (try dsimp only at hSw); go_simp; (try with_reducible rfl))
  try simp only [sIB, sC0, sCS]
  refine tkG 8 53 ?_ rfl hHeld (.inl ⟨by rfl, ?_⟩) ?_; rotate_left; focus (intro w' hSw; (try dsimp only at hSw); go_simp; (try with_reducible rfl))
  try simp only [sIB, sC0, sCS]
  refine tkG 9 54 ?_ rfl hHeld (.inl ⟨by rfl, ?_⟩) ?_; rotate_left; focus (intro w' hSw; (try dsimp only at hSw); go_simp; (try with_reducible rfl))
  try simp only [sIB, sC0, sCS]
  refine tkG 10 55 ?_ rfl hHeld (.inl ⟨by rfl, ?_⟩) ?_; rotate_left; focus (intro w' hSw; (try dsimp only at hSw); go_simp; (try with_reducible rfl))
  try simp only [sIB, sC0, sCS]
  refine tkG 11 56 ?_ rfl hHeld (.inl ⟨by rfl, ?_⟩) ?_; rotate_left; focus (intro w' hSw; (try dsimp only at hSw); go_simp; (try with_reducible rfl))
  try simp only [sIB, sC0, sCS]
  refine tkG 12 57 ?_ rfl hHeld (.inl ⟨by rfl, ?_⟩) ?_; rotate_left; focus (intro w' hSw; (try dsimp only at hSw); go_simp; (try with_reducible rfl))
  try simp only [sIB, sC0, sCS]
  refine tkG 13 58 ?_ rfl hHeld (.inl ⟨by rfl, ?_⟩) ?_; rotate_left; focus (intro w' hSw; (try dsimp only at hSw); go_simp; (try with_reducible rfl))
  try simp only [sIB, sC0, sCS]
  refine tkG 14 59 ?_ rfl hHeld (.inl ⟨by rfl, ?_⟩) ?_; rotate_left; focus (intro w' hSw; (try dsimp only at hSw); go_simp; (try with_reducible rfl))
  try simp only [sIB, sC0, sCS]
  refine tkG 15 60 ?_ rfl hHeld (.inl ⟨by rfl, ?_⟩) ?_; rotate_left; focus (intro w' hSw; (try dsimp only at hSw); go_simp; (try with_reducible rfl))
  try simp only [sIB, sC0, sCS]
  refine tkG 16 61 ?_ rfl hHeld (.inl ⟨by rfl, ?_⟩) ?_; rotate_left; focus (intro w' hSw; (try dsimp only at hSw); go_simp; (try with_reducible rfl))
  try simp only [sIB, sC0, sCS]
  refine tkG 17 62 ?_ rfl hHeld (.inl ⟨by rfl, ?_⟩) ?_; rotate_left; focus (intro w' hSw; (try dsimp only at hSw); go_simp; (try with_reducible rfl))
  try simp only [sIB, sC0, sCS]
  refine tkG 18 63 ?_ rfl hHeld (.inl ⟨by rfl, ?_⟩) ?_; rotate_left; focus (intro w' hSw; (try dsimp only at hSw); go_simp; (try with_reducible rfl))
  try simp only [sIB, sC0, sCS]
  refine tkG 19 64 ?_ rfl hHeld (.inl ⟨by rfl, ?_⟩) ?_; rotate_left; focus (intro w' hSw; (try dsimp only at hSw); go_simp; (try with_reducible rfl))
  try simp only [sIB, sC0, sCS]
  refine tkG 20 65 ?_ rfl hHeld (.inl ⟨by rfl, ?_⟩) ?_; rotate_left; focus (intro w' hSw; (try dsimp only at hSw); go_simp; (try with_reducible rfl))
  try simp only [sIB, sC0, sCS]
  refine tkG 21 66 ?_ rfl hHeld (.inl ⟨by rfl, ?_⟩) ?_; rotate_left; focus (intro w' hSw; (try dsimp only at hSw); go_simp; (try with_reducible rfl))
  try simp only [sIB, sC0, sCS]
  refine wpAnyG_one (i := 22) (by kernel_rfl) rfl (by rfl) (fun K hK => ?_)
  refine wp_mapEntry 49 _ _ _ _ rfl rfl rfl RE1.out ?_; have h := HCD.out _ D2.out E2.out
  refine hK.out _ _ h (fun hHeld => ?_)
  clear hK K
  try simp only [Act.put, sIB, sC0, sCS]
  refine tkG 23 68 ?_ rfl hHeld (.inl ⟨by rfl, ?_⟩) ?_; rotate_left; focus (intro w' hSw; (try dsimp only at hSw); go_simp; (try with_reducible rfl))
  try simp only [sIB, sC0, sCS]
  refine wpAnyG_one (i := 24) (by kernel_rfl) rfl (by rfl) (fun K hK => ?_)
  refine wp_entryStore 49 _ _ _ _ _ _ rfl rfl rfl rfl RS1.out ?_; rw [setBlock_twice]; have h := HCD.out _ D3.out E3.out
  refine hK.out _ _ h (fun hHeld => ?_)
  clear hK K
  try simp only [Act.put, sIB, sC0, sCS]
  refine wpAnyG_one (i := 25) (by kernel_rfl) rfl (by rfl) (fun K hK => ?_)
  refine wp_mapEntry 186 _ _ _ _ rfl rfl rfl RE2.out ?_; have h := HCD.out _ D4.out E4.out
  refine hK.out _ _ h (fun hHeld => ?_)
  clear hK K
  try simp only [Act.put, sIB, sC0, sCS]
  refine tkG 26 70 ?_ rfl hHeld (.inl ⟨by rfl, ?_⟩) ?_; rotate_left; focus (intro w' hSw; (try dsimp only at hSw); go_simp; (try with_reducible rfl))
  try simp only [sIB, sC0, sCS]
  refine wpAnyG_last (by kernel_rfl) rfl (by rfl) (fun K hK => ?_)
  refine wp_entryStore 186 _ _ _ _ _ _ rfl rfl rfl rfl RS2.out ?_; rw [setBlock_twice]
  refine hK.out _ _ ?_
  clear hK K
  try simp only [Act.put, sIB, sC0, sCS]
  refine wpAnyG_done (by kernel_rfl) ?_ _
  clear hHeld
  have KA : Keep (fun g => g = mi) w4 (Go.ChangeMaps.setBlock w4.drew mi o2) := ((Keep.refl (fun g => g = mi) w4).drew).trans setBlock_keep (fun x hx => .inl hx)
  have KB : Keep (fun g => g = mt) (Go.ChangeMaps.setBlock w4.drew mi o2) (Go.ChangeMaps.setBlock (Go.ChangeMaps.setBlock w4.drew mi o2) mt p2) := setBlock_keep
  have own3 := own_keep HM.out.row KA (fun g hg e => HM.out.ids.row_ne HM.out.row (by rw [hg, e]))
  have HTX3 := HM.out.txs.keep KA (fun e => HM.out.ne e.symm)
  have HOWN := Lib.hid (own_keep own3 KB (fun g hg e => HTX3.row_ne own3 (by rw [hg, e])))
  have HIDS := Lib.hid (HM1.out.keep KB (fun e => HM.out.ne e))
  have HLT := Lib.hid HM.out.lt
  have HNE := Lib.hid HM.out.ne
  have HKW := Lib.hid (((Keep.of_below HB.out : Keep (fun g => base ≤ g) w w4).trans KA (fun x hx => .inl (by rw [hx]; exact HLT.out.2.1))).trans KB (fun x hx => .inl (by rw [hx]; exact HLT.out.2.2)))
  clear KA KB own3 HTX3 RE1 RS1 RE2 RS2 HM1 D1 D2 D3 D4 E1 E2 E3 E4 HCD HM HLI HLX HMR
  generalize Go.ChangeMaps.setBlock (Go.ChangeMaps.setBlock w4.drew mi o2) mt p2 = w5 at *
  have HK : Hid (MkIs w w5 base mb mi mt (.slice A M.length c) (firstB M) (mostM M) M id tx z bx) := Lib.hid ⟨D5.out, E5.out, HOWN.out, HIDS.out, HM2.out, HKW.out, HLT.out, HNE.out⟩
  clear D5 E5 HOWN HIDS HM2 HKW h
  obtain ⟨ch, l, hch⟩ : ∃ ch l, tx = ch :: l := by
    have := HRX.out
    cases tx with
    | nil => simp at this
    | cons a l => exact ⟨a, l, rfl⟩
  have HCH := Lib.hid hch
  obtain ⟨n, hn⟩ : ∃ n, ch.toNat = n := ⟨_, rfl⟩
  have HN := Lib.hid hn
  have hn2 : n < 256 := by rw [← hn]; exact ch.toNat_lt
  have hzs : z.size = tx.length := by rw [← HZ.out, bs_size]
  have HZS := Lib.hid hzs
  have hidx : ∀ V : World, (Instr.index 9 (.string z) (.int .i64 0)).run Tryz.prog V = .ok (.int .u8 (n : Int)) V := fun V => by
    have h1 : 0 < z.size := by rw [hzs, hch]; simp
    have h2 : z[0] = ch := by
      have : ∀ (hq : 0 < z.size), z[0]'hq = ch := by
        rw [← HZ.out, hch]
        intro hq
        rfl
      exact this h1
    simp [go_sem, h1, h2, hn]
  have HIX := Lib.hid hidx
  clear hch hn hzs hidx
  have n0 : (0 : Int) ≤ (n : Int) := by omega
  have n1 : (n : Int) < 256 := by omega
  have x1 := HK.out.bx1
  have ix := HIX.out w5
  go_upto_region 10 with fail
  refine wp_region_G (D := 7) (S := fun V => V.cell? ⟨bx, 1, none⟩ = some (.string z) ∧ (Instr.index 9 (.string z) (.int .i64 0)).run Tryz.prog V = .ok (.int .u8 (n : Int)) V) (by kernel_rfl) (by exact And.intro x1 (HIX.out _)) (fun hHeld => ?_)
  (replace HK := Lib.hid HK.out.drew); clear x1 ix; generalize w5.drew = w6 at *
  refine tkG 0 71 ?_ rfl hHeld (.inl ⟨by rfl, ?_⟩) ?_; rotate_left; focus (intro w' hSw; (try dsimp only at hSw); go_simp; (try with_reducible rfl))
  try simp only [sIB, sC0, sCS]
  refine tkG 1 72 ?_ rfl hHeld (.inl ⟨by rfl, ?_⟩) ?_; rotate_left; focus (intro w' hSw; (try dsimp only at hSw); go_simp; (try with_reducible rfl))
  try simp only [sIB, sC0, sCS]
  refine tkG 2 73 ?_ rfl hHeld (.inl ⟨by rfl, ?_⟩) ?_; rotate_left; focus (intro w' hSw; (try dsimp only at hSw); go_simp; (try with_reducible rfl))
  try simp only [sIB, sC0, sCS]
  refine tkG 3 74 ?_ rfl hHeld (.inl ⟨by rfl, ?_⟩) ?_; rotate_left; focus (intro w' hSw; (try dsimp only at hSw); go_simp; (try with_reducible rfl))
  try simp only [sIB, sC0, sCS]
  refine wpAnyG_one (i := 4) (by kernel_rfl) rfl (by rfl) (fun K hK => ?_)
  go_simp
  refine hK.out _ _ hHeld (fun hHeld => ?_)
  clear hK K
  try simp only [Act.put, sIB, sC0, sCS]
  refine wpAnyG_one (i := 5) (by kernel_rfl) rfl (by rfl) (fun K hK => ?_)
  go_simp
  refine hK.out _ _ hHeld (fun hHeld => ?_)
  clear hK K
  try simp only [Act.put, sIB, sC0, sCS]
  refine tkG 6 77 ?_ rfl hHeld (.inl ⟨by rfl, ?_⟩) ?_; rotate_left; focus (intro w' hSw; (try dsimp only at hSw); go_simp; (try with_reducible rfl))
  try simp only [sIB, sC0, sCS]
  refine wpAnyG_last (by kernel_rfl) rfl (by rfl) (fun K hK => ?_)
  have f0 := HK.out.atF n (by omega); have fz := HK.out.frz (3 + n); go_simp
  refine hK.out _ _ ?_
  clear hK K
  try simp only [Act.put, sIB, sC0, sCS]
  refine wpAnyG_done (by kernel_rfl) ?_ _
  clear hHeld
  have HK2 : Hid (MkIs w (w6.setCell ⟨mb, 3 + n, none⟩ (.bool true)) base mb mi mt (.slice A M.length c) (fun b => firstB M b || n == b) (mostM M) M id tx z bx) := Lib.hid (HK.out.put2 (3 + n) (.bool true) (mark_putF _ _ _ _ _ n (by omega)))
  clear f0 fz
  generalize w6.setCell ⟨mb, 3 + n, none⟩ (.bool true) = w7 at *
  obtain ⟨mo, hmo⟩ : ∃ mo, mostM M = mo := ⟨_, rfl⟩
  have HMO := Lib.hid hmo
  rw [hmo] at HK2
  clear hmo
  have x1 := HK2.out.bx1
  have m0 := HK2.out.atM
  go_upto_region 11 with fail
  refine wp_region_G (D := 11) (S := fun V => V.cell? ⟨bx, 1, none⟩ = some (.string z) ∧ V.cell? ⟨mb, 259, none⟩ = some (.int .i64 (mo : Nat))) (by kernel_rfl) (by exact And.intro x1 m0) (fun hHeld => ?_)
  (replace HK2 := Lib.hid HK2.out.drew); clear x1 m0; generalize w7.drew = w8 at *
  refine tkG 0 78 ?_ rfl hHeld (.inl ⟨by rfl, ?_⟩) ?_; rotate_left; focus (intro w' hSw; (try dsimp only at hSw); go_simp; (try with_reducible rfl))
  try simp only [sIB, sC0, sCS]
  refine tkG 1 79 ?_ rfl hHeld (.inl ⟨by rfl, ?_⟩) ?_; rotate_left; focus (intro w' hSw; (try dsimp only at hSw); go_simp; (try with_reducible rfl))
  try simp only [sIB, sC0, sCS]
  refine tkG 2 80 ?_ rfl hHeld (.inl ⟨by rfl, ?_⟩) ?_; rotate_left; focus (intro w' hSw; (try dsimp only at hSw); go_simp; (try with_reducible rfl))
  try simp only [sIB, sC0, sCS]
  refine tkG 3 81 ?_ rfl hHeld (.inl ⟨by rfl, ?_⟩) ?_; rotate_left; focus (intro w' hSw; (try dsimp only at hSw); go_simp; (try with_reducible rfl))
  try simp only [sIB, sC0, sCS]
  refine tkG 4 82 ?_ rfl hHeld (.inl ⟨by rfl, ?_⟩) ?_; rotate_left; focus (intro w' hSw; (try dsimp only at hSw); go_simp; (try with_reducible rfl))
  try simp only [sIB, sC0, sCS]
  refine tkG 5 83 ?_ rfl hHeld (.inl ⟨by rfl, ?_⟩) ?_; rotate_left; focus (intro w' hSw; (try dsimp only at hSw); go_simp; (try with_reducible rfl))
  try simp only [sIB, sC0, sCS]
  refine tkG 6 84 ?_ rfl hHeld (.inl ⟨by rfl, ?_⟩) ?_; rotate_left; focus (intro w' hSw; (try dsimp only at hSw); go_simp; (try with_reducible rfl))
  try simp only [sIB, sC0, sCS]
  refine tkG 7 85 ?_ rfl hHeld (.inl ⟨by rfl, ?_⟩) ?_; rotate_left; focus (intro w' hSw; (try dsimp only at hSw); go_simp; (try with_reducible rfl))
  try simp only [sIB, sC0, sCS]
  refine tkG 8 86 ?_ rfl hHeld (.inl ⟨by rfl, ?_⟩) ?_; rotate_left; focus (intro w' hSw; (try dsimp only at hSw); go_simp; (try with_reducible rfl))
  try simp only [sIB, sC0, sCS]
  refine wpAnyG_one (i := 9) (by kernel_rfl) rfl (by rfl) (fun K hK => ?_)
  go_simp
  refine hK.out _ _ hHeld (fun hHeld => ?_)
  clear hK K
  try simp only [Act.put, sIB, sC0, sCS]
  refine tkG 10 88 ?_ rfl hHeld (.inl ⟨by rfl, ?_⟩) ?_; rotate_left; focus (intro w' hSw; (try dsimp only at hSw); go_simp; (try with_reducible rfl))
  try simp only [sIB, sC0, sCS]
  refine wpAnyG_last (by kernel_rfl) rfl (by rfl) (fun K hK => ?_)
  have f0 := HK2.out.atM; have fz := HK2.out.frz 259; go_simp
  refine hK.out _ _ ?_
  clear hK K
  try simp only [Act.put, sIB, sC0, sCS]
  refine wpAnyG_done (by kernel_rfl) ?_ _
  clear h hHeld
  rw [show (if mo < z.size then (z.size : Int) else (mo : Int)) = ((max mo z.size : Nat) : Int) from by split <;> omega]
  have HK3 : Hid (MkIs w (w8.setCell ⟨mb, 259, none⟩ (.int .i64 ((max mo z.size : Nat) : Int))) base mb mi mt (.slice A M.length c) (fun b => firstB M b || n == b) (max mo z.size) M id tx z bx) := Lib.hid (HK2.out.put2 259 _ (mark_putM _ _ _ _ _ _))
  clear f0 fz
  generalize w8.setCell ⟨mb, 259, none⟩ (.int .i64 ((max mo z.size : Nat) : Int)) = w9 at *
  have a0 := HK3.out.at0
  have a1 := HK3.out.bx0
  have a2 := HK3.out.bx1
  have HBO : ¬ ((Value.slice A M.length c).ownBlock = some bx) := fun e => by have := HOL.out bx e; have := HBX.out; omega
  go_upto_region 12 with fail
  refine wp_region_D (Ds := [10]) (S := fun V => V.cell? ⟨mb, 0, none⟩ = some (.slice A M.length c) ∧ V.cell? ⟨bx, 0, none⟩ = some (.int .i64 id) ∧ V.cell? ⟨bx, 1, none⟩ = some (.string z)) (by kernel_rfl) (by exact And.intro a0 (And.intro a1 a2)) (fun hHeld => ?_)
  (replace HK3 := Lib.hid HK3.out.drew); clear a0 a1 a2; generalize w9.drew = w10 at *
  refine tkP 0 89 ?_ rfl (.inl ⟨by rfl, ?_⟩) ?_; rotate_left; focus (intro w' _; go_simp; (try with_reducible rfl))
  try simp only [sIB, sC0, sCS]
  refine tkP 1 90 ?_ rfl (.inl ⟨by rfl, ?_⟩) ?_; rotate_left; focus (intro w' _; go_simp; (try with_reducible rfl))
  try simp only [sIB, sC0, sCS]
  refine tkP 2 91 ?_ rfl (.inl ⟨by rfl, ?_⟩) ?_; rotate_left; focus (intro w' _; go_simp; (try with_reducible rfl))
  try simp only [sIB, sC0, sCS]
  refine tkP 3 92 ?_ rfl (.inl ⟨by rfl, ?_⟩) ?_; rotate_left; focus (intro w' _; go_simp; (try with_reducible rfl))
  try simp only [sIB, sC0, sCS]
  refine tkD 4 93 ?_ rfl hHeld (.inl ⟨by rfl, ?_⟩) ?_; rotate_left; focus (intro w' hSw; (try dsimp only at hSw); go_simp; (try with_reducible rfl))
  try simp only [sIB, sC0, sCS]
  refine tkD 5 94 ?_ rfl hHeld (.inl ⟨by rfl, ?_⟩) ?_; rotate_left; focus (intro w' hSw; (try dsimp only at hSw); go_simp; (try with_reducible rfl))
  try simp only [sIB, sC0, sCS]
  refine wpAnyD_one (i := 6) (by kernel_rfl) rfl (by rfl) (fun K hK => ?_)
  go_simp; have hbl := (Below.refl w10.heap.size w10).alloc (Nat.le_refl _) (.cells #[.int .i64 id, .string z] 98); have h := And.intro (below_cell hbl (Nat.le_refl _) hHeld.1) (And.intro (below_cell hbl (Nat.le_refl _) hHeld.2.1) (below_cell hbl (Nat.le_refl _) hHeld.2.2)); clear hbl
  refine hK.out _ _ h (fun hHeld => ?_)
  clear hK K
  try simp only [Act.put, sIB, sC0, sCS]
  refine wpAnyD_one (i := 7) (by kernel_rfl) rfl (by rfl) (fun K hK => ?_)
  refine wp_app_one base 25 98 (.agg #[.int .i64 0, .string ⟨#[]⟩]) 2 24 [_, _] 1 _ _ rfl Tryz.underlying25 info_spl rfl (by decide) _ _ _ rfl _ rfl rfl rfl (by intro u hu; simp at hu; rcases hu with rfl | rfl <;> rfl) HK3.out.row (by have := HML.out; omega) (by have := HML.out; omega) (Nat.le_trans HK3.out.lt.1 (Nat.le_of_lt (blk_lt HK3.out.blk))) ?_; intro v' w11 hown1 hg1 hnew; obtain ⟨A1, cA1, rfl⟩ := own_slice hown1; have hk1 : Keep (fun g => (Value.slice A M.length c).ownBlock = some g) w10 w11 := Keep.of_grown hg1 (fun g hg => hg); have b1 := hk1.blk HK3.out.blk (row_ne HK3.out.row HK3.out.blk (by decide)); have b2 := blk_cell b1 0; rw [mark_get _ _ _ _ _ _ (by decide)] at b2; have b3 := hk1.blk HK3.out.box HBO; have h := And.intro b2 (And.intro (by have := blk_cell b3 0; simpa using this) (by have := blk_cell b3 1; simpa using this))
  refine hK.out _ _ h (fun hHeld => ?_)
  clear hK K
  try simp only [Act.put, sIB, sC0, sCS]
  refine tkP 8 97 ?_ rfl (.inl ⟨by rfl, ?_⟩) ?_; rotate_left; focus (intro w' _; go_simp; (try with_reducible rfl))
  try simp only [sIB, sC0, sCS]
  refine tkP 9 98 ?_ rfl (.inl ⟨by rfl, ?_⟩) ?_; rotate_left; focus (intro w' _; go_simp; (try with_reducible rfl))
  try simp only [sIB, sC0, sCS]
  refine wpAnyD_last (D := 10) (by decide) (by kernel_rfl) rfl (by rfl) (fun K hK => ?_)
  have z0 := blk_froz b1 0; have c0 := hHeld.1; go_simp
  refine hK.out _ _ ?_
  clear hK K
  try simp only [Act.put, sIB, sC0, sCS]
  refine wpAnyD_done (by kernel_rfl) ?_ _
  have k2 : Keep (fun g => g = mb) w11 (w11.setCell ⟨mb, 0, none⟩ (.slice A1 (M.length + 1) cA1)) := (Keep.refl (fun g => g = mb) w11).setCell (p := ⟨mb, 0, none⟩) (.inl rfl) _
  have hblk := blk_set b1 0 (.slice A1 (M.length + 1) cA1)
  rw [mark_put0] at hblk
  have hids := (HK3.out.ids.keep hk1 (HK3.out.ids.row_ne HK3.out.row)).keep k2 (HK3.out.ids.blk_ne HK3.out.blk)
  have htxs := (HK3.out.txs.keep hk1 (HK3.out.txs.row_ne HK3.out.row)).keep k2 (HK3.out.txs.blk_ne HK3.out.blk)
  have hown2 := own_keep hown1 k2 (fun g hg e => row_ne hown1 b1 (by decide) (by rw [hg, e]))
  have hkk := (HK3.out.keep.trans hk1 (fun x hx => .inl (own_base HK3.out.row x hx))).trans k2 (fun x hx => .inl (by rw [hx]; exact HK3.out.lt.1))
  have HFIN : Hid (MarkIs (w11.setCell ⟨mb, 0, none⟩ (.slice A1 (M.length + 1) cA1)) base mb (M ++ [(id, tx)]) (.slice A1 (M.length + 1) cA1) mi mt) := Lib.hid (by
    have hl : (M ++ [((id, tx) : Spl)]).length = M.length + 1 := by simp
    refine ⟨?_, ?_, ?_, ?_, HK3.out.ne, HK3.out.lt⟩
    · have e1 : firstB (M ++ [((id, tx) : Spl)]) = fun b => firstB M b || n == b := by
        funext b
        rw [firstB_snoc M (id, tx) ch l HCH.out, HN.out]
      have e2 : mostM (M ++ [((id, tx) : Spl)]) = max mo z.size := by rw [mostM_snoc, HMO.out, HZS.out]
      rw [e1, e2]
      exact hblk
    · rw [hl, List.flatMap_append]
      have e3 : [((id, tx) : Spl)].flatMap encIS = [Value.int .i64 id, .string z] := by simp [encIS, HZV.out]
      rw [e3]
      exact hown2
    · rw [hl]
      refine hids.congr (fun i => ?_)
      rw [fndI_snoc _ _ _ HFI.out]
      simp only
      split <;> rfl
    · rw [hl]
      refine htxs.congr (fun i => ?_)
      rw [fndX_snoc _ _ _ HFX.out]
      simp only
      split <;> rfl)
  have HKK := Lib.hid hkk
  clear hkk hids htxs hown2 hblk k2 hown1 hg1 hnew hk1 b1 b2 b3 h hHeld z0 c0 HBO
  generalize w11.setCell ⟨mb, 0, none⟩ (.slice A1 (M.length + 1) cA1) = w12 at *
  go_wp2_with fail
  go_ret
  exact ⟨rfl, _, HFIN.out, HKK.out⟩
end
def zeroC (i : Nat) : Value := if i = 0 then .slice none 0 0 else if i = 1 then .map none else if i = 2 then .map none else if i < 259 then .bool false else .int .i64 0
theorem zero_mark0 : Tryz.zeroCells214 = Array.ofFn (n := 260) fun i => zeroC i := by
  have : Tryz.zeroCells214.toList = (Array.ofFn (n := 260) fun i => zeroC i).toList := by
    rw [Array.toList_ofFn]
    kernel_rfl
  exact Array.toList_inj.1 this
theorem zero_mark (a b : Nat) : ((Tryz.zeroCells214.setIfInBounds 1 (.map (some a))).setIfInBounds 2 (.map (some b))) = markA (.slice none 0 0) a b (firstB []) (mostM []) := by
  rw [zero_mark0]
  apply Array.ext_getElem?
  intro j
  by_cases hj : j < 260
  · rw [mark_get _ _ _ _ _ _ hj]
    simp only [Array.getElem?_setIfInBounds, Array.size_setIfInBounds, Array.size_ofFn]
    by_cases h2 : 2 = j
    · subst h2; simp [markC]
    · rw [if_neg h2]
      by_cases h1 : 1 = j
      · subst h1; simp [markC]
      · rw [if_neg h1]
        simp only [Array.getElem?_ofFn, hj, dite_true, zeroC, markC]
        have n1 : ¬ j = 1 := fun e => h1 e.symm
        have n2 : ¬ j = 2 := fun e => h2 e.symm
        simp only [n1, n2, if_false, firstB, List.any_nil, mostM, List.foldl_nil]
        rfl
  · simp [markA, hj]
set_option maxHeartbeats 1000000 in
theorem mnew_nil (w : World) (c : Nat) : Calls Tryz.prog 88 #[.slice none 0 c] w fun e w' => (∃ mb sv mi mt, e = .returned (.tuple #[.pointer (some ⟨mb, 0, none⟩), .int .i64 0, .int .i64 0]) ∧ MarkIs w' w.heap.size mb [] sv mi mt) ∧ Below w.heap.size w w' := by
  have hmm := @run_makeMap Tryz.prog
  have HM : Hid (MarkIs (((w.alloc (.map #[] 0)).alloc (.map #[] 0)).alloc (.cells (markA (.slice none 0 0) w.heap.size (w.heap.size + 1) (firstB []) (mostM [])) 214)) w.heap.size (w.heap.size + 1 + 1) [] (.slice none 0 0) w.heap.size (w.heap.size + 1)) := Lib.hid (by
    refine ⟨?_, own_nil _ _ _ _, ?_, ?_, by omega, by omega, by omega, by omega⟩
    · have := blk_new ((w.alloc (.map #[] 0)).alloc (.map #[] 0)) (.cells (markA (.slice none 0 0) w.heap.size (w.heap.size + 1) (firstB []) (mostM [])) 214)
      simpa [size_alloc] using this
    · refine ((MapOf.made w Tryz.prog 3 3 (Value.int .i64)).keep (F := fun _ => False) ((Keep.refl _ _).alloc _ |>.alloc _) (fun h => h)).congr (fun a => rfl)
    · have := MapOf.made (w.alloc (.map #[] 0)) Tryz.prog 9 3 strV
      rw [size_alloc] at this
      exact (this.keep (F := fun _ => False) ((Keep.refl _ _).alloc _) (fun h => h)).congr (fun a => rfl))
  have HB := Lib.hid ((((Below.refl w.heap.size w).alloc (Nat.le_refl _) (.map #[] 0)).alloc (by simp) (.map #[] 0)).alloc (by simp; omega) (.cells (markA (.slice none 0 0) w.heap.size (w.heap.size + 1) (firstB []) (mostM [])) 214))
  go_enter Tryz.func88, Tryz.ntmps88
  go_upto_region 2 with fail
  rw [zero_mark]
  clear hmm
  obtain ⟨mb, hmb⟩ : ∃ mb, w.heap.size + 1 + 1 = mb := ⟨_, rfl⟩
  rw [hmb] at HM ⊢
  clear hmb
  go_wp2_with fail
  go_loopg [15] 0 (fun n i W => i = .int .i64 0 ∧ MarkIs W w.heap.size mb [] (.slice none 0 0) w.heap.size (w.heap.size + 1) ∧ Below w.heap.size w W)
  case atStart => exact ⟨rfl, HM.out, HB.out⟩
  case round =>
    obtain ⟨rfl, hm, hb⟩ := hrel
    clear HM HB
    have HM := Lib.hid hm
    have HB := Lib.hid hb
    clear hm hb
    go_wp2_with fail
    go_ret3
    exact ⟨⟨_, _, _, _, rfl, HM.out⟩, HB.out⟩
theorem fresh_fndI {M : List Spl} {x : Spl} (h : freshX M x = true) : fndI M x.1 = none := by
  unfold fndI
  rw [List.findIdx?_eq_none_iff]
  intro y hy
  unfold freshX at h
  rw [List.all_eq_true] at h
  have := h y hy
  simp only [Bool.and_eq_true, decide_eq_true_eq] at this
  simpa using this.1
theorem fresh_fndX {M : List Spl} {x : Spl} (h : freshX M x = true) : fndX M x.2 = none := by
  unfold fndX
  rw [List.findIdx?_eq_none_iff]
  intro y hy
  unfold freshX at h
  rw [List.all_eq_true] at h
  have := h y hy
  simp only [Bool.and_eq_true, decide_eq_true_eq] at this
  simpa using this.2
set_option maxHeartbeats 2000000 in
theorem mnew_any (xs : List Spl) (A : Option Addr) (c : Nat) (w : World) (h : Sl w A encIS 2 xs) (hok : okX xs = true) : Calls Tryz.prog 88 #[.slice A xs.length c] w fun e w' => (∃ mb sv mi mt n, e = .returned (.tuple #[.pointer (some ⟨mb, 0, none⟩), .int .i64 n, .int .i64 0]) ∧ MarkIs w' w.heap.size mb xs sv mi mt) ∧ Below w.heap.size w w' := by
  have HSL := Lib.hid h
  have HOK := Lib.hid ((okX_iff xs).1 hok)
  clear h hok
  have hmm := @run_makeMap Tryz.prog
  have HM : Hid (MarkIs (((w.alloc (.map #[] 0)).alloc (.map #[] 0)).alloc (.cells (markA (.slice none 0 0) w.heap.size (w.heap.size + 1) (firstB []) (mostM [])) 214)) w.heap.size (w.heap.size + 1 + 1) [] (.slice none 0 0) w.heap.size (w.heap.size + 1)) := Lib.hid (by
    refine ⟨?_, own_nil _ _ _ _, ?_, ?_, by omega, by omega, by omega, by omega⟩
    · have := blk_new ((w.alloc (.map #[] 0)).alloc (.map #[] 0)) (.cells (markA (.slice none 0 0) w.heap.size (w.heap.size + 1) (firstB []) (mostM [])) 214)
      simpa [size_alloc] using this
    · refine ((MapOf.made w Tryz.prog 3 3 (Value.int .i64)).keep (F := fun _ => False) ((Keep.refl _ _).alloc _ |>.alloc _) (fun h => h)).congr (fun a => rfl)
    · have := MapOf.made (w.alloc (.map #[] 0)) Tryz.prog 9 3 strV
      rw [size_alloc] at this
      exact (this.keep (F := fun _ => False) ((Keep.refl _ _).alloc _) (fun h => h)).congr (fun a => rfl))
  have HB := Lib.hid ((((Below.refl w.heap.size w).alloc (Nat.le_refl _) (.map #[] 0)).alloc (by simp) (.map #[] 0)).alloc (by simp; omega) (.cells (markA (.slice none 0 0) w.heap.size (w.heap.size + 1) (firstB []) (mostM [])) 214))
  go_enter Tryz.func88, Tryz.ntmps88
  go_upto_region 2 with fail
  rw [zero_mark]
  clear hmm
  obtain ⟨mb, hmb⟩ : ∃ mb, w.heap.size + 1 + 1 = mb := ⟨_, rfl⟩
  rw [hmb] at HM ⊢
  clear hmb
  go_wp2_with fail
  obtain ⟨N, hN⟩ : ∃ N, xs.length = N := ⟨_, rfl⟩
  have HN := Lib.hid hN
  have HN32 : Hid (N ≤ 32) := Lib.hid (by rw [← hN]; exact HOK.out.1)
  rw [hN]
  clear hN
  go_loopg [15] N (fun n i W => ∃ k : Nat, k + n = N ∧ i = .int .i64 (k : Int) ∧ (∃ sv, MarkIs W w.heap.size mb (xs.take k) sv w.heap.size (w.heap.size + 1)) ∧ Below w.heap.size w W)
  case atStart => exact ⟨0, by omega, rfl, ⟨_, HM.out⟩, HB.out⟩
  case round =>
    obtain ⟨k, hk, rfl, ⟨sv, hm⟩, hb⟩ := hrel
    clear HM HB
    rename World => W
    have HM := Lib.hid hm
    have HB := Lib.hid hb
    clear hm hb
    by_cases hlt : k < N
    · have hlt' : (k : Int) < (N : Int) := by omega
      have q0 : (0 : Int) ≤ (k : Int) := by omega
      have hk2 : k < xs.length := by rw [HN.out]; exact hlt
      have HK2 := Lib.hid hk2
      have ws : IntKind.i64.wrap ((k : Int) + 1) = (k : Int) + 1 := IntWalk.i64_in _ (by have := HN32.out; omega)
      obtain ⟨b, o, hA, hc⟩ := (HSL.out.below HB.out (Nat.le_refl _)).at k hk2
      subst hA
      obtain ⟨hr, hf⟩ := HOK.out.2 k hk2
      obtain ⟨x, hx⟩ : ∃ x, xs[k] = x := ⟨_, rfl⟩
      have hr2 : rightX x = true := by rw [← hx]; exact hr
      have hf2 : freshX (xs.take k) x = true := by rw [← hx]; exact hf
      have e0 : W.cell? ⟨b, o + k * 2, none⟩ = some (.int .i64 x.1) := by rw [← hx]; exact hc 0 _ rfl
      have e1 : W.cell? ⟨b, o + k * 2 + 1, none⟩ = some (strV x.2) := by rw [← hx]; exact hc 1 _ rfl
      have HTK : Hid (xs.take (k + 1) = xs.take k ++ [x]) := Lib.hid (by rw [List.take_add_one, List.getElem?_eq_getElem hk2, ← hx]; rfl)
      have HTL : Hid ((xs.take k).length < 32) := Lib.hid (by rw [List.length_take]; have := HOK.out.1; omega)
      have HR2 := Lib.hid hr2
      have HF2 := Lib.hid hf2
      clear hc hr hf hx hr2 hf2
      generalize xs.take k = M at *
      unfold strV at e1
      obtain ⟨z, hv1⟩ : ∃ z, bs x.2 = z := ⟨_, rfl⟩
      have HV1 := Lib.hid hv1
      rw [hv1] at e1
      clear hv1
      have HBA := Lib.hid ((Below.refl W.heap.size W).alloc (Nat.le_refl _) (.cells #[.int .i64 x.1, .string z] 98))
      have HMA : Hid (∀ V, Below W.heap.size W V → MarkIs V w.heap.size mb M sv w.heap.size (w.heap.size + 1)) := Lib.hid (fun V hV => HM.out.below hV (Nat.le_refl _))
      have hn := blk_new W (.cells #[.int .i64 x.1, .string z] 98)
      have n0 := blk_cell hn 0
      have n1 := blk_cell hn 1
      simp only [List.getElem?_toArray, List.getElem?_cons_zero, List.getElem?_cons_succ] at n0 n1
      clear hn
      go_upto_region 5 with fail
      generalize W.alloc (.cells #[.int .i64 x.1, .string z] 98) = W2 at *
      have HAD := madd_ok (HMA.out _ HBA.out) x HR2.out HTL.out (fresh_fndI HF2.out) (fresh_fndX HF2.out)
      unfold strV at HAD
      rw [HV1.out] at HAD
      have HAD2 := Lib.hid HAD
      clear HAD
      go_wp2_with (go_at_call 128; refine HAD2.out.mono ?_; rintro e W3 ⟨rfl, sv3, hm3, hk3⟩; (have HM3 := Lib.hid hm3); (have HB3 := Lib.hid ((HB.out.trans (HBA.out.mono HB.out.size)).trans (hk3.below (Nat.le_trans HB.out.size HBA.out.size) (fun x hx => hx)))); clear hm3 hk3)
      go_roundg (gk - 1)
      case measure => omega
      case rel => exact ⟨k + 1, by omega, by simp, ⟨sv3, by rw [HTK.out]; exact HM3.out⟩, HB3.out⟩
    · have hke : k = N := by omega
      have HM2 : Hid (MarkIs W w.heap.size mb xs sv w.heap.size (w.heap.size + 1)) := Lib.hid (by
        have := HM.out
        rw [List.take_of_length_le (by rw [HN.out]; omega)] at this
        exact this)
      subst hke
      have hlt' : ¬ ((k : Nat) : Int) < (k : Int) := by omega
      go_wp2_with fail
      go_ret3
      exact ⟨⟨mb, ⟨_, rfl⟩, _, _, _, HM2.out⟩, HB.out⟩
def idB (T : List Ent) (x : Int × List UInt8) : Bool := !decide (x.1 < (T.length : Int))
section
variable {tbase tb : Nat} {T : List Ent} {sv : Value} {mb mp : Nat}
theorem bclo_any (x : Int × List UInt8) (w : World) (pb : Nat) (hp : w.cell? ⟨pb, 0, none⟩ = some (.pointer (some ⟨tb, 0, none⟩))) (hT : TabIs w tbase tb T sv mb mp) :
    Calls Tryz.prog 90 #[.agg #[.int .i64 x.1, .string (bs x.2)], .pointer (some ⟨pb, 0, none⟩)] w fun e w' => e = .returned (.bool (!idB T x)) ∧ Below w.heap.size w w' := by
  obtain ⟨x1, x2⟩ := x
  have hr : (!idB T (x1, x2)) = decide (x1 < (T.length : Int)) := by simp [idB]
  rw [hr]
  have HB := Lib.hid ((Below.refl w.heap.size w).alloc (Nat.le_refl _) (.cells #[.int .i64 x1, .string (bs x2)] 98))
  have hp2 := below_cell HB.out (Nat.le_refl _) hp
  have n0 := blk_cell (blk_new w (.cells #[.int .i64 x1, .string (bs x2)] 98)) 0
  simp only [List.getElem?_toArray, List.getElem?_cons_zero, List.getElem?_cons_succ] at n0
  have HT := Lib.hid (hT.below HB.out (Nat.le_refl _)).drew
  clear hp hT hr
  go_enter Tryz.func90, Tryz.ntmps90
  go_upto_region 1 with fail
  generalize (w.alloc (.cells #[.int .i64 x1, .string (bs x2)] 98)) = W at *
  obtain ⟨nb, hnb⟩ : ∃ nb, w.heap.size = nb := ⟨_, rfl⟩
  have HB9 := Lib.hid HB.out
  rw [hnb] at n0 ⊢
  clear hnb
  refine wp_region_held_drew (S := fun V => V.cell? ⟨nb, 0, none⟩ = some (.int .i64 x1) ∧ V.cell? ⟨pb, 0, none⟩ = some (.pointer (some ⟨tb, 0, none⟩))) (by kernel_rfl) (by exact ⟨n0, hp2⟩) (fun hHeld => ?_)
  refine tkH 0 4 ?_ rfl hHeld (.inl ⟨by rfl, ?_⟩) ?_; rotate_left; focus (intro w' hSw; (try dsimp only at hSw); go_simp; (try with_reducible rfl))
  try simp only [sIB, sC0, sCS]
  refine tkH 1 5 ?_ rfl hHeld (.inl ⟨by rfl, ?_⟩) ?_; rotate_left; focus (intro w' hSw; (try dsimp only at hSw); go_simp; (try with_reducible rfl))
  try simp only [sIB, sC0, sCS]
  refine tkH 2 6 ?_ rfl hHeld (.inl ⟨by rfl, ?_⟩) ?_; rotate_left; focus (intro w' hSw; (try dsimp only at hSw); go_simp; (try with_reducible rfl))
  try simp only [sIB, sC0, sCS]
  refine wpAnyH_ready (rs := [3]) (by kernel_rfl) (by simp) ?_
  refine AllReadyH.cons rfl (fun K hK => ?_) AllReadyH.nil
  (try go_simp)
  refine (len_tab HT.out).mono ?_; rintro e V1 ⟨rfl, rfl⟩; have h := hHeld; go_simp
  go_wp2_with fail
  refine hK.out _ _ h (fun hHeld => ?_)
  clear hK K
  try simp only [Act.put, sIB, sC0, sCS]
  refine tkH 4 8 ?_ rfl hHeld (.inl ⟨by rfl, ?_⟩) ?_; rotate_left; focus (intro w' hSw; (try dsimp only at hSw); go_simp; (try with_reducible rfl))
  try simp only [sIB, sC0, sCS]
  refine tkH 5 3 ?_ rfl hHeld (.inl ⟨by rfl, ?_⟩) ?_; rotate_left; focus (intro w' hSw; (try dsimp only at hSw); go_simp; (try with_reducible rfl))
  try simp only [sIB, sC0, sCS]
  refine wpAnyH_done (by kernel_rfl) ?_ _
  go_wp2_with fail
  go_ret
  exact ⟨rfl, HB.out.drew⟩
set_option maxHeartbeats 1000000 in
theorem bidx_any (xs : List (Int × List UInt8)) (A : Option Addr) (c pb : Nat) (w : World) (hA : Sl w A encIS 2 xs) (hp : w.cell? ⟨pb, 0, none⟩ = some (.pointer (some ⟨tb, 0, none⟩))) (hT : TabIs w tbase tb T sv mb mp) (hl : xs.length < 9000000000000000000) :
    Calls Tryz.prog 89 #[.slice A xs.length c, .func (.func 90) #[] #[.pointer (some ⟨pb, 0, none⟩)]] w fun e w' => (∃ r, e = .returned (.int .i64 r) ∧ decide (0 ≤ r) = !(xs.all (idB T))) ∧ Below w.heap.size w w' := by
  have HA := Lib.hid hA
  have HP := Lib.hid hp
  have HL := Lib.hid hl
  have HTT := Lib.hid hT
  clear hA hp hT
  go_enter Tryz.func89, Tryz.ntmps89
  go_wp2_with fail
  go_loopg [8] xs.length (fun n i W => ∃ k : Nat, k + n = xs.length ∧ i = .int .i64 (k : Int) ∧ Below w.heap.size w W ∧ (xs.take k).all (idB T) = true)
  case atStart => exact ⟨0, Nat.zero_add _, rfl, Below.refl _ _, rfl⟩
  case round =>
    obtain ⟨k, hk, rfl, hbl, hall⟩ := hrel
    rename World => W
    by_cases hlt : k < xs.length
    · have HT := Lib.hid (take_snoc hlt)
      have HG := Lib.hid (show xs[k]? = some xs[k] from by simp)
      have HC := Lib.hid (bclo_any xs[k] W pb (below_cell hbl (Nat.le_refl _) HP.out) (HTT.out.below hbl (Nat.le_refl _)))
      obtain ⟨b, o, rfl, hc⟩ := HA.out.at k hlt
      have g0 : W.cell? ⟨b, o + k * 2, none⟩ = some (.int .i64 xs[k].1) := below_cell hbl (Nat.le_refl _) (hc 0 _ rfl)
      have g1 : W.cell? ⟨b, o + k * 2 + 1, none⟩ = some (.string (bs xs[k].2)) := below_cell hbl (Nat.le_refl _) (hc 1 _ rfl)
      generalize xs[k] = x at *
      have HK := Lib.hid hk
      have HBL := Lib.hid hbl
      have HALL := Lib.hid hall
      have w1 : IntKind.i64.wrap ((k : Int) + 1) = ((k + 1 : Nat) : Int) := IntWalk.i64_in _ (by omega)
      have k0 : (0 : Int) ≤ (k : Int) := by omega
      have k1 : (k : Int) < (xs.length : Int) := by omega
      obtain ⟨b2, hb2⟩ : ∃ b, (idB T) x = b := ⟨_, rfl⟩
      rw [hb2] at HC
      have HB2 := Lib.hid hb2
      clear hk hbl hall hc hb2
      rcases b2 with _ | _
      · go_wp2_with (go_at_call 90; (refine HC.out.mono ?_); (rintro e V1 ⟨rfl, hb⟩); (have HB3 := Lib.hid (HBL.out.trans (hb.mono HBL.out.size))); (clear hb))
        go_ret
        refine ⟨⟨_, rfl, ?_⟩, HB3.out⟩
        rw [all_false HG.out HB2.out, decide_eq_true k0]
        rfl
      · go_wp2_with (go_at_call 90; (refine HC.out.mono ?_); (rintro e V1 ⟨rfl, hb⟩); (have HB3 := Lib.hid (HBL.out.trans (hb.mono HBL.out.size))); (clear hb))
        have hk := HK.out
        go_roundg (xs.length - (k + 1))
        · refine ⟨k + 1, by omega, rfl, HB3.out, ?_⟩
          rw [HT.out, all_snoc, HALL.out, HB2.out]
          rfl
        · omega
    · have hke : k = xs.length := by omega
      have HBL := Lib.hid hbl
      have HALL : Hid (xs.all (idB T) = true) := Lib.hid (by rw [hke, List.take_length] at hall; exact hall)
      have k1 : ¬ (k : Int) < (xs.length : Int) := by omega
      clear hk hke hbl hall
      go_wp2_with fail
      go_ret
      exact ⟨⟨_, rfl, by rw [HALL.out]; rfl⟩, HBL.out⟩
end
theorem results_tm4 {fn : Func} {a b c d : Tmp} (h : fn.results = #[.tmp a, .tmp b, .tmp c, .tmp d]) (tmps : Array Value) (P : Program) (w : World) :
    (results fn tmps).run P w = .ok (.tuple #[tmps.getD a undef, tmps.getD b undef, tmps.getD c undef, tmps.getD d undef]) w := by
  simp only [results, h]
  simp [Sem.run_bind, Result.andThen]
structure VocIs (w : World) (base vb : Nat) (s : SpecP) (T : List Ent) (A1 A2 A3 A4 A5 : Option Addr) (c1 c2 c3 c4 c5 tbase tb bk kbase mk : Nat) (sv : Value) (mb mp : Nat) (sv2 : Value) (mi mt : Nat) (l : Value) (dn st se us : Int) : Prop where
  blk : w.heap[vb]? = some (.cells #[.bool s.rk, .slice A1 s.ms.length c1, .slice A2 s.ts.length c2, .slice A3 s.xs.length c3, .slice A4 s.cs.length c4, .slice A5 s.js.length c5, .pointer (some ⟨tb, 0, none⟩), .pointer (some ⟨bk, 0, none⟩), .pointer (some ⟨mk, 0, none⟩), .int .u32 dn, .int .i32 st, .int .u32 se, l, .int .i64 us] 161)
  org : ∃ V0 : World, V0.heap.size ≤ vb ∧ SpecAt V0 s A1 A2 A3 A4 A5 ∧ TabIs V0 tbase tb T sv mb mp ∧ BTab V0 bk (Cof s.cs) (Jof s.js) ∧ MarkIs V0 kbase mk s.xs sv2 mi mt ∧ Below V0.heap.size V0 w
  lt : base ≤ vb ∧ base ≤ tbase ∧ base ≤ kbase
section
variable {w : World} {base vb : Nat} {s : SpecP} {T : List Ent} {A1 A2 A3 A4 A5 : Option Addr} {c1 c2 c3 c4 c5 tbase tb bk kbase mk : Nat} {sv : Value} {mb mp : Nat} {sv2 : Value} {mi mt : Nat} {l : Value} {dn st se us : Int}
theorem VocIs.spec (h : VocIs w base vb s T A1 A2 A3 A4 A5 c1 c2 c3 c4 c5 tbase tb bk kbase mk sv mb mp sv2 mi mt l dn st se us) : SpecAt w s A1 A2 A3 A4 A5 := by obtain ⟨V0, _, a, b, c, d, e⟩ := h.org; exact a.below e (Nat.le_refl _)
theorem VocIs.tab (h : VocIs w base vb s T A1 A2 A3 A4 A5 c1 c2 c3 c4 c5 tbase tb bk kbase mk sv mb mp sv2 mi mt l dn st se us) : TabIs w tbase tb T sv mb mp := by obtain ⟨V0, _, a, b, c, d, e⟩ := h.org; exact b.below e (Nat.le_refl _)
theorem VocIs.bnd (h : VocIs w base vb s T A1 A2 A3 A4 A5 c1 c2 c3 c4 c5 tbase tb bk kbase mk sv mb mp sv2 mi mt l dn st se us) : BTab w bk (Cof s.cs) (Jof s.js) := by obtain ⟨V0, _, a, b, c, d, e⟩ := h.org; exact c.below e (blk_lt c.1)
theorem VocIs.mrk (h : VocIs w base vb s T A1 A2 A3 A4 A5 c1 c2 c3 c4 c5 tbase tb bk kbase mk sv mb mp sv2 mi mt l dn st se us) : MarkIs w kbase mk s.xs sv2 mi mt := by obtain ⟨V0, _, a, b, c, d, e⟩ := h.org; exact d.below e (Nat.le_refl _)
end
theorem BTab.lt {w : World} {bk : Nat} {C : Nat → Int} {J : Nat → Nat → Bool} (h : BTab w bk C J) : bk < w.heap.size := blk_lt h.1
section
variable {w : World} {s : SpecP} {T : List Ent} {AM AT AX AC AJ : Option Addr} {cM cT cX cC cJ : Nat}
set_option maxHeartbeats 2000000 in
theorem build_any (hs : SpecAt w s AM AT AX AC AJ)
    (hL : ∀ V, Below w.heap.size w V → Calls Tryz.prog 87 #[specW s AM AT AX AC AJ cM cT cX cC cJ] V fun e w' => (∃ tb sv mb mp n, e = .returned (.tuple #[.pointer (some ⟨tb, 0, none⟩), .int .i64 n, .int .i64 0]) ∧ TabIs w' V.heap.size tb T sv mb mp) ∧ Below V.heap.size V w')
    (hM : ∀ V, Below w.heap.size w V → Calls Tryz.prog 88 #[.slice AX s.xs.length cX] V fun e w' => (∃ mb sv mi mt n, e = .returned (.tuple #[.pointer (some ⟨mb, 0, none⟩), .int .i64 n, .int .i64 0]) ∧ MarkIs w' V.heap.size mb s.xs sv mi mt) ∧ Below V.heap.size V w')
    (hid : s.xs.all (idB T) = true) (hln : s.ms.length ≤ 1000000 ∧ s.ts.length ≤ 1000000 ∧ s.xs.length ≤ 1000000 ∧ s.cs.length ≤ 1000000 ∧ s.js.length ≤ 1000000) (hcs : s.cs.all spanB = true) (hjs : s.js.all jnB = true) :
    Calls Tryz.prog 48 #[specW s AM AT AX AC AJ cM cT cX cC cJ] w fun e w' => (∃ vb A1 A2 A3 A4 A5 c1 c2 c3 c4 c5 tbase tb bk kbase mk sv mb mp sv2 mi mt, e = .returned (.tuple #[.pointer (some ⟨vb, 0, none⟩), .int .i64 0, .int .i64 0, .int .i64 0]) ∧ VocIs w' w.heap.size vb s T A1 A2 A3 A4 A5 c1 c2 c3 c4 c5 tbase tb bk kbase mk sv mb mp sv2 mi mt (.slice none 0 0) 0 0 0 0) ∧ Below w.heap.size w w' := by
  unfold specW specV at hL ⊢
  have HS := Lib.hid hs
  have HL := Lib.hid hL
  have HM := Lib.hid hM
  have HI := Lib.hid hid
  have HLN := Lib.hid hln
  have HC := Lib.hid hcs
  have HJ := Lib.hid hjs
  have HB0 := Lib.hid ((Below.refl w.heap.size w).alloc (Nat.le_refl _) (.cells #[.bool s.rk, .slice AM s.ms.length cM, .slice AT s.ts.length cT, .slice AX s.xs.length cX, .slice AC s.cs.length cC, .slice AJ s.js.length cJ] 48))
  have HO0 := Lib.hid (blk_new w (.cells #[.bool s.rk, .slice AM s.ms.length cM, .slice AT s.ts.length cT, .slice AX s.xs.length cX, .slice AC s.cs.length cC, .slice AJ s.js.length cJ] 48))
  obtain ⟨sb, hsb⟩ : ∃ sb, w.heap.size = sb := ⟨_, rfl⟩
  have HO0 : Hid ((w.alloc (.cells #[.bool s.rk, .slice AM s.ms.length cM, .slice AT s.ts.length cT, .slice AX s.xs.length cX, .slice AC s.cs.length cC, .slice AJ s.js.length cJ] 48)).heap[sb]? = some (.cells #[.bool s.rk, .slice AM s.ms.length cM, .slice AT s.ts.length cT, .slice AX s.xs.length cX, .slice AC s.cs.length cC, .slice AJ s.js.length cJ] 48)) := Lib.hid (by rw [← hsb]; exact HO0.out)
  clear hs hL hM hid hln hcs hjs
  go_enter Tryz.func48, Tryz.ntmps48
  go_upto_region 13 with (first
    | (go_at_call 87; (refine (HL.out _ HB0.out).mono ?_); (rintro e V1 ⟨⟨tb, sv, mb, mp, n1, rfl, ht⟩, hb⟩); (have HB1 := Lib.hid ((HB0.out.trans (hb.mono HB0.out.size)).trans (((Below.refl V1.heap.size V1).alloc (Nat.le_refl _) (.cells #[.pointer (some ⟨tb, 0, none⟩)] 63)).mono (HB0.out.trans (hb.mono HB0.out.size)).size))); (have HO1 := Lib.hid (blk_alloc (blk_below hb (blk_lt HO0.out) HO0.out) (.cells #[.pointer (some ⟨tb, 0, none⟩)] 63))); (have HP1 := Lib.hid (blk_new V1 (.cells #[.pointer (some ⟨tb, 0, none⟩)] 63))); (have HT1 := Lib.hid (ht.below ((Below.refl V1.heap.size V1).alloc (Nat.le_refl _) (.cells #[.pointer (some ⟨tb, 0, none⟩)] 63)) (Nat.le_refl _))); (have a1 := blk_cell HO1.out 3); (simp only [List.getElem?_toArray, List.getElem?_cons_zero, List.getElem?_cons_succ] at a1); (clear ht hb))
    | (go_at_call 88; (obtain ⟨pb, hpb⟩ : ∃ pb, V1.heap.size = pb := ⟨_, rfl⟩); (have HP1 := Lib.hid HP1.out); (rw [hpb] at HP1 ⊢); (generalize hX : V1.alloc (.cells #[.pointer (some ⟨tb, 0, none⟩)] 63) = X at *); (clear hX hpb); (refine (HM.out X HB1.out).mono ?_); (rintro e V2 ⟨⟨mk, sv2, mi, mt, n2, rfl, hm⟩, hb⟩); (have HB2 := Lib.hid (HB1.out.trans (hb.mono HB1.out.size))); (have HO2 := Lib.hid (blk_below hb (blk_lt HO1.out) HO1.out)); (have HP2 := Lib.hid (blk_below hb (blk_lt HP1.out) HP1.out)); (have HT2 := Lib.hid (HT1.out.below hb (Nat.le_refl _))); (have HK2 := Lib.hid hm); (have a2 := blk_cell HO2.out 3); (simp only [List.getElem?_toArray, List.getElem?_cons_zero, List.getElem?_cons_succ] at a2); (clear hm hb))
    | (go_at_call 89; (refine (bidx_any s.xs AX cX pb V2 (HS.out.xs.below HB2.out (Nat.le_refl _)) (blk_cell HP2.out 0) HT2.out HS.out.len.2.2.1).mono ?_); (rintro e V3 ⟨⟨r, rfl, hr⟩, hb⟩); (rw [HI.out] at hr); (have r0 : ¬ (0 : Int) ≤ r := of_decide_eq_false hr); (have HB3 := Lib.hid (HB2.out.trans (hb.mono HB2.out.size))); (have HO3 := Lib.hid (blk_below hb (blk_lt HO2.out) HO2.out)); (have HP3 := Lib.hid (blk_below hb (blk_lt HP2.out) HP2.out)); (have HT3 := Lib.hid (HT2.out.below hb (Nat.le_refl _))); (have HK3 := Lib.hid (HK2.out.below hb (Nat.le_refl _))); (have a3 := blk_cell HO3.out 4); (have a4 := blk_cell HO3.out 5); (simp only [List.getElem?_toArray, List.getElem?_cons_zero, List.getElem?_cons_succ] at a3 a4); (clear hr hb))
    | (go_at_call 91; (refine (bnew_any s.cs s.js AC AJ cC cJ V3 (HS.out.cs.below HB3.out (Nat.le_refl _)) (HS.out.js.below HB3.out (Nat.le_refl _)) HS.out.len.2.2.2.1 HS.out.len.2.2.2.2).mono ?_); (rintro e V4 ⟨hb, hn⟩); (rw [if_pos (by rw [HC.out, HJ.out]; rfl)] at hn); (obtain ⟨bk, hbk, rfl, hbt, hbs⟩ := hn); (have HB4 := Lib.hid (HB3.out.trans (hb.mono HB3.out.size))); (have HO4 := Lib.hid (blk_below hb (blk_lt HO3.out) HO3.out)); (have HP4 := Lib.hid (blk_below hb (blk_lt HP3.out) HP3.out)); (have HT4 := Lib.hid (HT3.out.below hb (Nat.le_refl _))); (have HK4 := Lib.hid (HK3.out.below hb (Nat.le_refl _))); (have HN4 : Hid (BTab V4 bk (Cof s.cs) (Jof s.js)) := Lib.hid ⟨hbt, hbs⟩); (clear hb hbk hbt hbs)))
  clear a1 a2 a3 a4 r0
  refine wp_region_D (Ds := []) (S := fun V => V.cell? ⟨sb, 0, none⟩ = some (.bool s.rk) ∧ V.cell? ⟨sb, 1, none⟩ = some (.slice AM s.ms.length cM) ∧ V.cell? ⟨sb, 2, none⟩ = some (.slice AT s.ts.length cT) ∧ V.cell? ⟨sb, 3, none⟩ = some (.slice AX s.xs.length cX) ∧ V.cell? ⟨sb, 4, none⟩ = some (.slice AC s.cs.length cC) ∧ V.cell? ⟨sb, 5, none⟩ = some (.slice AJ s.js.length cJ) ∧ V.cell? ⟨pb, 0, none⟩ = some (.pointer (some ⟨tb, 0, none⟩))) (by kernel_rfl) (by (have q0 := blk_cell HO4.out 0); (have q1 := blk_cell HO4.out 1); (have q2 := blk_cell HO4.out 2); (have q3 := blk_cell HO4.out 3); (have q4 := blk_cell HO4.out 4); (have q5 := blk_cell HO4.out 5); (have q6 := blk_cell HP4.out 0); (simp only [List.getElem?_toArray, List.getElem?_cons_zero, List.getElem?_cons_succ] at q0 q1 q2 q3 q4 q5 q6); exact And.intro q0 (And.intro q1 (And.intro q2 (And.intro q3 (And.intro q4 (And.intro q5 (q6))))))) (fun hHeld => ?_)
  (have hd : Below V4.heap.size V4 V4.drew := ⟨rfl, rfl, rfl, Nat.le_refl _, fun _ _ => rfl⟩); (replace HB4 := Lib.hid HB4.out.drew); (replace HO4 := Lib.hid (blk_below hd (blk_lt HO4.out) HO4.out)); (replace HP4 := Lib.hid (blk_below hd (blk_lt HP4.out) HP4.out)); (replace HT4 := Lib.hid (HT4.out.below hd (Nat.le_refl _))); (replace HK4 := Lib.hid (HK4.out.below hd (Nat.le_refl _))); (replace HN4 := Lib.hid (HN4.out.below hd (blk_lt HN4.out.1))); clear hd; generalize V4.drew = X4 at *
  refine tkP 3 54 ?_ rfl (.inl ⟨by rfl, ?_⟩) ?_; rotate_left; focus (intro w' _; go_simp; (try with_reducible rfl))
  try simp only [sIB, sC0, sCS]
  refine tkP 4 55 ?_ rfl (.inl ⟨by rfl, ?_⟩) ?_; rotate_left; focus (intro w' _; go_simp; (try with_reducible rfl))
  try simp only [sIB, sC0, sCS]
  refine tkD 0 51 ?_ rfl hHeld (.inl ⟨by rfl, ?_⟩) ?_; rotate_left; focus (intro w' hSw; (try dsimp only at hSw); go_simp; (try with_reducible rfl))
  try simp only [sIB, sC0, sCS]
  refine tkD 2 53 ?_ rfl hHeld (.inl ⟨by rfl, ?_⟩) ?_; rotate_left; focus (intro w' hSw; (try dsimp only at hSw); go_simp; (try with_reducible rfl))
  try simp only [sIB, sC0, sCS]
  refine wpAnyD_one (i := 1) (by kernel_rfl) rfl (by rfl) (fun K hK => ?_)
  go_simp; refine (copied_any (s := s) (HS.out.below HB4.out (Nat.le_refl _)) (by have := HLN.out; omega)).mono ?_; rintro e V5 ⟨⟨A1, A2, A3, A4, A5, c1, c2, c3, c4, c5, rfl, hsp⟩, hb⟩; have HB5 := Lib.hid (HB4.out.trans (hb.mono HB4.out.size)); have HO5 := Lib.hid (blk_below hb (blk_lt HO4.out) HO4.out); have HP5 := Lib.hid (blk_below hb (blk_lt HP4.out) HP4.out); have HT5 := Lib.hid (HT4.out.below hb (Nat.le_refl _)); have HK5 := Lib.hid (HK4.out.below hb (Nat.le_refl _)); have HN5 := Lib.hid (HN4.out.below hb (blk_lt HN4.out.1)); have HS5 := Lib.hid hsp; clear hsp hb; have q0 := blk_cell HO5.out 0; have q1 := blk_cell HO5.out 1; have q2 := blk_cell HO5.out 2; have q3 := blk_cell HO5.out 3; have q4 := blk_cell HO5.out 4; have q5 := blk_cell HO5.out 5; have q6 := blk_cell HP5.out 0; simp only [List.getElem?_toArray, List.getElem?_cons_zero, List.getElem?_cons_succ] at q0 q1 q2 q3 q4 q5 q6; have h := And.intro q0 (And.intro q1 (And.intro q2 (And.intro q3 (And.intro q4 (And.intro q5 (q6)))))); clear q0 q1 q2 q3 q4 q5 q6; unfold specW specV; go_simp
  refine hK.out _ _ h (fun hHeld => ?_)
  clear hK K
  try simp only [Act.put, sIB, sC0, sCS]
  refine tkP 5 56 ?_ rfl (.inl ⟨by rfl, ?_⟩) ?_; rotate_left; focus (intro w' _; go_simp; (try with_reducible rfl))
  try simp only [sIB, sC0, sCS]
  refine tkP 6 57 ?_ rfl (.inl ⟨by rfl, ?_⟩) ?_; rotate_left; focus (intro w' _; go_simp; (try with_reducible rfl))
  try simp only [sIB, sC0, sCS]
  refine wpAnyD_one (i := 7) (by kernel_rfl) rfl (by rfl) (fun K hK => ?_)
  go_simp; have hal := ((Below.refl V5.heap.size V5).alloc (Nat.le_refl _) (.cells #[.bool s.rk, .slice A1 s.ms.length c1, .slice A2 s.ts.length c2, .slice A3 s.xs.length c3, .slice A4 s.cs.length c4, .slice A5 s.js.length c5, .pointer (some ⟨tb, 0, none⟩), .pointer (some ⟨bk, 0, none⟩), .pointer (some ⟨mk, 0, none⟩), .int .u32 0, .int .i32 0, .int .u32 0, .slice none 0 0, .int .i64 0] 161)); have HV := Lib.hid (blk_new V5 (.cells #[.bool s.rk, .slice A1 s.ms.length c1, .slice A2 s.ts.length c2, .slice A3 s.xs.length c3, .slice A4 s.cs.length c4, .slice A5 s.js.length c5, .pointer (some ⟨tb, 0, none⟩), .pointer (some ⟨bk, 0, none⟩), .pointer (some ⟨mk, 0, none⟩), .int .u32 0, .int .i32 0, .int .u32 0, .slice none 0 0, .int .i64 0] 161)); have HB6 := Lib.hid (HB5.out.trans (hal.mono HB5.out.size)); have HO6 := Lib.hid (blk_below hal (blk_lt HO5.out) HO5.out); have HP6 := Lib.hid (blk_below hal (blk_lt HP5.out) HP5.out); have HT6 := Lib.hid (HT5.out.below hal (Nat.le_refl _)); have HK6 := Lib.hid (HK5.out.below hal (Nat.le_refl _)); have HN6 := Lib.hid (HN5.out.below hal (blk_lt HN5.out.1)); have HS6 := Lib.hid (HS5.out.below hal (Nat.le_refl _)); have HVL := Lib.hid HB5.out.size; have HAL := Lib.hid hal; clear hal; obtain ⟨vb, hvb⟩ : ∃ vb, V5.heap.size = vb := ⟨_, rfl⟩; have HVB : Hid (V5.heap.size ≤ vb) := Lib.hid (Nat.le_of_eq hvb); rw [hvb] at HV HVL ⊢; clear hvb; generalize V5.alloc (.cells #[.bool s.rk, .slice A1 s.ms.length c1, .slice A2 s.ts.length c2, .slice A3 s.xs.length c3, .slice A4 s.cs.length c4, .slice A5 s.js.length c5, .pointer (some ⟨tb, 0, none⟩), .pointer (some ⟨bk, 0, none⟩), .pointer (some ⟨mk, 0, none⟩), .int .u32 0, .int .i32 0, .int .u32 0, .slice none 0 0, .int .i64 0] 161) = V6 at *; have q0 := blk_cell HO6.out 0; have q1 := blk_cell HO6.out 1; have q2 := blk_cell HO6.out 2; have q3 := blk_cell HO6.out 3; have q4 := blk_cell HO6.out 4; have q5 := blk_cell HO6.out 5; have q6 := blk_cell HP6.out 0; simp only [List.getElem?_toArray, List.getElem?_cons_zero, List.getElem?_cons_succ] at q0 q1 q2 q3 q4 q5 q6; have h := And.intro q0 (And.intro q1 (And.intro q2 (And.intro q3 (And.intro q4 (And.intro q5 (q6)))))); clear q0 q1 q2 q3 q4 q5 q6
  refine hK.out _ _ h (fun hHeld => ?_)
  clear hK K
  try simp only [Act.put, sIB, sC0, sCS]
  refine tkP 8 2 ?_ rfl (.inl ⟨by rfl, ?_⟩) ?_; rotate_left; focus (intro w' _; go_simp; (try with_reducible rfl))
  try simp only [sIB, sC0, sCS]
  refine tkP 9 3 ?_ rfl (.inl ⟨by rfl, ?_⟩) ?_; rotate_left; focus (intro w' _; go_simp; (try with_reducible rfl))
  try simp only [sIB, sC0, sCS]
  refine tkP 10 4 ?_ rfl (.inl ⟨by rfl, ?_⟩) ?_; rotate_left; focus (intro w' _; go_simp; (try with_reducible rfl))
  try simp only [sIB, sC0, sCS]
  refine tkP 11 5 ?_ rfl (.inl ⟨by rfl, ?_⟩) ?_; rotate_left; focus (intro w' _; go_simp; (try with_reducible rfl))
  try simp only [sIB, sC0, sCS]
  refine wpAnyD_done (by kernel_rfl) ?_ _
  go_wp2_with fail
  refine bodyPost_ret (results_tm4 rfl _ _ _) rfl ?_
  exact ⟨⟨vb, A1, A2, A3, A4, A5, c1, c2, c3, c4, c5, _, tb, bk, _, mk, _, _, _, _, _, _, rfl, HV.out, ⟨V5, HVB.out, HS5.out, HT5.out, HN5.out, HK5.out, HAL.out⟩, HVL.out, HB0.out.size, HB1.out.size⟩, HB6.out⟩
end
section
variable {w : World} {s : SpecP} {T : List Ent} {AM AT AX AC AJ : Option Addr} {cM cT cX cC cJ : Nat}
set_option maxHeartbeats 2000000 in
theorem vnew_any (hs : SpecAt w s AM AT AX AC AJ) (hR : rightS s = true)
    (hL : ∀ V, Below w.heap.size w V → Calls Tryz.prog 87 #[specW s AM AT AX AC AJ cM cT cX cC cJ] V fun e w' => (∃ tb sv mb mp n, e = .returned (.tuple #[.pointer (some ⟨tb, 0, none⟩), .int .i64 n, .int .i64 0]) ∧ TabIs w' V.heap.size tb T sv mb mp) ∧ Below V.heap.size V w')
    (hM : ∀ V, Below w.heap.size w V → Calls Tryz.prog 88 #[.slice AX s.xs.length cX] V fun e w' => (∃ mb sv mi mt n, e = .returned (.tuple #[.pointer (some ⟨mb, 0, none⟩), .int .i64 n, .int .i64 0]) ∧ MarkIs w' V.heap.size mb s.xs sv mi mt) ∧ Below V.heap.size V w')
    (hid : s.xs.all (idB T) = true) (hln : s.ms.length ≤ 1000000 ∧ s.ts.length ≤ 1000000 ∧ s.xs.length ≤ 1000000 ∧ s.cs.length ≤ 1000000 ∧ s.js.length ≤ 1000000) (hcs : s.cs.all spanB = true) (hjs : s.js.all jnB = true) :
    Calls Tryz.prog 15 #[specW s AM AT AX AC AJ cM cT cX cC cJ] w fun e w' => (∃ vb A1 A2 A3 A4 A5 c1 c2 c3 c4 c5 tbase tb bk kbase mk sv mb mp sv2 mi mt, e = .returned (.tuple #[.pointer (some ⟨vb, 0, none⟩), .int .i64 0, .int .i64 0]) ∧ VocIs w' w.heap.size vb s T A1 A2 A3 A4 A5 c1 c2 c3 c4 c5 tbase tb bk kbase mk sv mb mp sv2 mi mt (.slice none 0 0) 0 0 0 0) ∧ Below w.heap.size w w' := by
  have HB0 := Lib.hid ((Below.refl w.heap.size w).alloc (Nat.le_refl _) (.cells #[.bool s.rk, .slice AM s.ms.length cM, .slice AT s.ts.length cT, .slice AX s.xs.length cX, .slice AC s.cs.length cC, .slice AJ s.js.length cJ] 48))
  have HO0 := Lib.hid (blk_new w (.cells #[.bool s.rk, .slice AM s.ms.length cM, .slice AT s.ts.length cT, .slice AX s.xs.length cX, .slice AC s.cs.length cC, .slice AJ s.js.length cJ] 48))
  have HRI := Lib.hid (fun V (hV : Below w.heap.size w V) => sright_any (cM := cM) (cT := cT) (cX := cX) (cC := cC) (cJ := cJ) (hs.below hV (Nat.le_refl _)))
  rw [hR] at HRI
  have HBU := Lib.hid (fun V (hV : Below w.heap.size w V) => build_any (cM := cM) (cT := cT) (cX := cX) (cC := cC) (cJ := cJ) (hs.below hV (Nat.le_refl _)) (fun U hU => hL U (hV.trans (hU.mono hV.size))) (fun U hU => hM U (hV.trans (hU.mono hV.size))) hid hln hcs hjs)
  clear hs hR hL hM hid hln hcs hjs
  unfold specW specV at *
  go_enter Tryz.func15, Tryz.ntmps15
  go_wp2_with (first
    | (go_at_call 47; (refine (HRI.out _ HB0.out).mono ?_); (rintro e V1 ⟨rfl, hb⟩); (have HB1 := Lib.hid (HB0.out.trans (hb.mono HB0.out.size))); (have HO1 := Lib.hid (blk_below hb (blk_lt HO0.out) HO0.out)); (have q0 := blk_cell HO1.out 0); (have q1 := blk_cell HO1.out 1); (have q2 := blk_cell HO1.out 2); (have q3 := blk_cell HO1.out 3); (have q4 := blk_cell HO1.out 4); (have q5 := blk_cell HO1.out 5); (simp only [List.getElem?_toArray, List.getElem?_cons_zero, List.getElem?_cons_succ] at q0 q1 q2 q3 q4 q5); (clear hb))
    | (go_at_call 48; (refine (HBU.out V1 HB1.out).mono ?_); (rintro e V2 ⟨⟨vb, A1, A2, A3, A4, A5, c1, c2, c3, c4, c5, tbase, tb, bk, kbase, mk, sv, mb, mp, sv2, mi, mt, rfl, hv⟩, hb⟩); (have HV := Lib.hid hv); (have HB2 := Lib.hid (HB1.out.trans (hb.mono HB1.out.size))); (clear hv hb)))
  go_ret3
  have hv := HV.out
  have hz := HB1.out.size
  exact ⟨⟨vb, A1, A2, A3, A4, A5, c1, c2, c3, c4, c5, tbase, tb, bk, kbase, mk, sv, mb, mp, sv2, mi, mt, rfl, ⟨hv.blk, hv.org, Nat.le_trans hz hv.lt.1, Nat.le_trans hz hv.lt.2.1, Nat.le_trans hz hv.lt.2.2⟩⟩, HB2.out⟩
end
theorem disable_1 (w : World) : (callFunc 170 #[]).run Tryz.prog w = .ok (.value (.tuple #[])) w := run_call_mark0 Tryz.func170 (by kernel_rfl) (by kernel_rfl) (by kernel_rfl) .disable (by kernel_rfl) w
theorem enable_1 (w : World) : (callFunc 172 #[]).run Tryz.prog w = .ok (.value (.tuple #[])) w := run_call_mark0 Tryz.func172 (by kernel_rfl) (by kernel_rfl) (by kernel_rfl) .enable (by kernel_rfl) w
theorem acquire_1 (a : Addr) (w : World) : (callFunc 173 #[.pointer (some a)]).run Tryz.prog w = .ok (.value (.tuple #[])) w := run_call_marked Tryz.func173 (by kernel_rfl) (by kernel_rfl) (by kernel_rfl) .acquire (by kernel_rfl) a w
theorem releaseMerge_1 (a : Addr) (w : World) : (callFunc 175 #[.pointer (some a)]).run Tryz.prog w = .ok (.value (.tuple #[])) w := run_call_marked Tryz.func175 (by kernel_rfl) (by kernel_rfl) (by kernel_rfl) .releaseMerge (by kernel_rfl) a w
theorem bload_any (b o : Nat) (n : Int) (w : World) (hc : w.cell? ⟨b, o, none⟩ = some (.int .u32 n)) :
    Calls Tryz.prog 133 #[.pointer (some ⟨b, o, none⟩)] w fun e w' => e = .returned (.bool (n != 0)) ∧ w' = w := by
  have hl := run_call_load (P := Tryz.prog) Tryz.func153 (by kernel_rfl) (by kernel_rfl) (by kernel_rfl) .u32 (by kernel_rfl) hc
  clear hc
  go_enter Tryz.func133, Tryz.ntmps133
  go_wp2_with fail
  go_ret
  exact ⟨rfl, rfl⟩
theorem store_def (a : Addr) (x : Value) (u : FrameMode) (w : World) (hc : w.cell? a = some x) (hz : w.frozen? a = false) :
    CallsD Tryz.prog 156 #[.pointer (some a), .bool true] u w fun e u' w' => u' = u ∧ (e = .returned (.tuple #[]) ∧ w' = w.drew.setCell a (.int .u32 1)) := by
  have hc' : w.drew.cell? a = some x := by go_simp
  have hz' : w.drew.frozen? a = false := by go_simp
  have hst := run_call_store (P := Tryz.prog) Tryz.func165 (by kernel_rfl) (by kernel_rfl) (by kernel_rfl) (by kernel_rfl) (k := .u32) (y := 1) hc' hz'
  go_enter_d Tryz.func156, Tryz.ntmps156
  go_wp2
  go_region_calls
  all_goals (go_end0; exact ⟨rfl, rfl⟩)
theorem unlock_def (b o : Nat) (u : FrameMode) (w : World) (hc : w.cell? ⟨b, o, none⟩ = some (.int .i32 1)) (hz : w.frozen? ⟨b, o, none⟩ = false) :
    CallsD Tryz.prog 155 #[.pointer (some ⟨b, o, none⟩)] u w fun e u' w' => u' = u ∧ (e = .returned (.tuple #[]) ∧ w' = w.setCell ⟨b, o, none⟩ (.int .i32 0)) := by
  have hd := disable_1
  have he := enable_1
  have hr := releaseMerge_1
  have hadd := run_call_add (P := Tryz.prog) Tryz.func176 (by kernel_rfl) (by kernel_rfl) (by kernel_rfl) .i32 (by kernel_rfl) (y := -1) (s := 0) hc hz (by simp [go_sem]; rfl)
  have hcv := run_convert_to_unsafe (P := Tryz.prog) (src := 251) (dst := 255) Tryz.underlying251 Tryz.underlying255 (by kernel_rfl) hc
  go_enter_d Tryz.func155, Tryz.ntmps155
  go_wp2
  go_end0
  go_wp2
  go_end0
  exact ⟨rfl, rfl⟩
theorem lock_free (b o : Nat) (w : World) (hc : w.cell? ⟨b, o, none⟩ = some (.int .i32 0)) (hz : w.frozen? ⟨b, o, none⟩ = false) :
    Calls Tryz.prog 154 #[.pointer (some ⟨b, o, none⟩)] w fun e w' => e = .returned (.tuple #[]) ∧ w' = w.setCell ⟨b, o, none⟩ (.int .i32 1) := by
  have hd := disable_1
  have he := enable_1
  have ha := acquire_1
  have hcas := run_call_cas_hit (P := Tryz.prog) Tryz.func171 (by kernel_rfl) (by kernel_rfl) (by kernel_rfl) .i32 (by kernel_rfl) (y := 1) hc hz
  have hc' : (w.setCell ⟨b, o, none⟩ (.int .i32 1)).cell? ⟨b, o, none⟩ = some (.int .i32 1) := World.cell?_setCell_same w ⟨b, o, none⟩ _ hc
  have hcv := run_convert_to_unsafe (P := Tryz.prog) (src := 251) (dst := 255) Tryz.underlying251 Tryz.underlying255 (by kernel_rfl) hc'
  go_enter Tryz.func154, Tryz.ntmps154
  go_wp2
  first | go_end0 | (simp only [Exit.inBlock, Exit.then]; refine bodyPost_ret (results_none rfl _ _ _) rfl ?_) | refine bodyPost_ret (results_none rfl _ _ _) rfl ?_
  go_wp2
  go_end0
  exact ⟨rfl, rfl⟩
theorem do_done (b o : Nat) (f : Value) (w : World) (hc : w.cell? ⟨b, o, none⟩ = some (.int .u32 1)) :
    Calls Tryz.prog 94 #[.pointer (some ⟨b, o, none⟩), f] w fun e w' => e = .returned (.tuple #[]) ∧ w' = w := by
  have hl := bload_any b o 1 w hc
  clear hc
  go_enter Tryz.func94, Tryz.ntmps94
  go_wp2_with (go_at_call 133; (refine hl.mono ?_); (rintro e V1 ⟨rfl, rfl⟩))
  go_end0
  exact ⟨rfl, rfl⟩
set_option maxRecDepth 100000 in
set_option maxHeartbeats 1600000 in
theorem slow_any {R : World → Prop} (b o vb : Nat) (w : World)
    (h0 : w.cell? ⟨b, o, none⟩ = some (.int .u32 0)) (h1 : w.cell? ⟨b, o + 1, none⟩ = some (.int .i32 0)) (f1 : w.frozen? ⟨b, o + 1, none⟩ = false)
    (hF : Calls Tryz.prog 95 #[.pointer (some ⟨vb, 0, none⟩)] (w.setCell ⟨b, o + 1, none⟩ (.int .i32 1)) fun e w1 => e = .returned (.tuple #[]) ∧ R w1 ∧ w1.cell? ⟨b, o, none⟩ = some (.int .u32 0) ∧ w1.cell? ⟨b, o + 1, none⟩ = some (.int .i32 1) ∧ w1.frozen? ⟨b, o, none⟩ = false ∧ w1.frozen? ⟨b, o + 1, none⟩ = false) :
    Calls Tryz.prog 134 #[.pointer (some ⟨b, o, none⟩), .func (.func 95) #[.pointer (some ⟨vb, 0, none⟩)] #[]] w fun e w' => e = .returned (.tuple #[]) ∧
      ∃ w1, R w1 ∧ w' = (w1.drew.setCell ⟨b, o, none⟩ (.int .u32 1)).setCell ⟨b, o + 1, none⟩ (.int .i32 0) := by
  have hl := bload_any b o 0 (w.setCell ⟨b, o + 1, none⟩ (.int .i32 1)) ((World.cell?_setCell_other _ ⟨b, o + 1, none⟩ ⟨b, o, none⟩ _ (by simp)).trans h0)
  have HL := Lib.hid hl
  have HF := Lib.hid hF
  have HK := Lib.hid (lock_free b o.succ w h1 f1)
  clear hl hF h0 h1 f1
  go_enter_defers Tryz.func134, Tryz.ntmps134
  go_wp2_with (first | (go_at_call 154; refine HK.out.mono ?_; rintro e w' ⟨rfl, rfl⟩) | (go_at_call 133; refine HL.out.mono ?_; rintro e w' ⟨rfl, rfl⟩) | (go_at_call 95; refine HF.out.mono ?_; rintro e w1 ⟨rfl, hR, c0, c1, z0, z1⟩))
  refine leaves_cons (f := 156) (args := #[.pointer (some ⟨b, o, none⟩), .bool true]) (by simp) (by simp [go_sem]) ?_
  refine (store_def ⟨b, o, none⟩ (.int .u32 0) .returning _ c0 z0).mono ?_
  rintro e u' w'' ⟨rfl, rfl, rfl⟩
  refine leaves_cons (f := 155) (args := #[.pointer (some ⟨b, o + 1, none⟩)]) (by simp [settle]) (by simp [go_sem]) ?_
  refine (unlock_def b (o + 1) _ _ ?_ (by simp [z1])).mono ?_
  · refine (World.cell?_setCell_other _ ⟨b, o, none⟩ ⟨b, o + 1, none⟩ _ (by simp)).trans ?_
    rw [World.cell?_drew]
    exact c1
  rintro e u' w'' ⟨rfl, rfl, rfl⟩
  simp [Leaves, settle, results, Tryz.results134]
  exact ⟨_, hR, rfl⟩
set_option maxHeartbeats 1600000 in
theorem do_first {R : World → Prop} (b o vb : Nat) (w : World)
    (h0 : w.cell? ⟨b, o, none⟩ = some (.int .u32 0)) (h1 : w.cell? ⟨b, o + 1, none⟩ = some (.int .i32 0)) (f1 : w.frozen? ⟨b, o + 1, none⟩ = false)
    (hF : Calls Tryz.prog 95 #[.pointer (some ⟨vb, 0, none⟩)] (w.setCell ⟨b, o + 1, none⟩ (.int .i32 1)) fun e w1 => e = .returned (.tuple #[]) ∧ R w1 ∧ w1.cell? ⟨b, o, none⟩ = some (.int .u32 0) ∧ w1.cell? ⟨b, o + 1, none⟩ = some (.int .i32 1) ∧ w1.frozen? ⟨b, o, none⟩ = false ∧ w1.frozen? ⟨b, o + 1, none⟩ = false) :
    Calls Tryz.prog 94 #[.pointer (some ⟨b, o, none⟩), .func (.func 95) #[.pointer (some ⟨vb, 0, none⟩)] #[]] w fun e w' => e = .returned (.tuple #[]) ∧
      ∃ w1, R w1 ∧ w' = (w1.drew.setCell ⟨b, o, none⟩ (.int .u32 1)).setCell ⟨b, o + 1, none⟩ (.int .i32 0) := by
  have HL := Lib.hid (bload_any b o 0 w h0)
  have HS := Lib.hid (slow_any b o vb w h0 h1 f1 hF)
  clear h0 h1 f1 hF
  go_enter Tryz.func94, Tryz.ntmps94
  go_wp2_with (first | (go_at_call 133; refine HL.out.mono ?_; rintro e w' ⟨rfl, rfl⟩) | (go_at_call 134; refine HS.out.mono ?_; rintro e w' ⟨rfl, w1, hR, rfl⟩))
  go_end0
  exact ⟨rfl, w1, hR, rfl⟩
section
variable {w : World} {base vb : Nat} {s : SpecP} {T : List Ent} {A1 A2 A3 A4 A5 : Option Addr} {c1 c2 c3 c4 c5 tbase tb bk kbase mk : Nat} {sv : Value} {mb mp : Nat} {sv2 : Value} {mi mt : Nat} {l : Value} {dn st se us : Int}
theorem vtable_any (h : VocIs w base vb s T A1 A2 A3 A4 A5 c1 c2 c3 c4 c5 tbase tb bk kbase mk sv mb mp sv2 mi mt l dn st se us) : Calls Tryz.prog 65 #[.pointer (some ⟨vb, 0, none⟩)] w fun e w' => e = .returned (.pointer (some ⟨tb, 0, none⟩)) ∧ w' = w := by
  have c := blk_cell h.blk 6
  simp only [List.getElem?_toArray, List.getElem?_cons_zero, List.getElem?_cons_succ] at c
  clear h
  go_enter Tryz.func65, Tryz.ntmps65
  go_wp2_with fail
  go_ret
  exact ⟨rfl, rfl⟩
theorem vbounds_any (h : VocIs w base vb s T A1 A2 A3 A4 A5 c1 c2 c3 c4 c5 tbase tb bk kbase mk sv mb mp sv2 mi mt l dn st se us) : Calls Tryz.prog 98 #[.pointer (some ⟨vb, 0, none⟩)] w fun e w' => e = .returned (.pointer (some ⟨bk, 0, none⟩)) ∧ w' = w := by
  have c := blk_cell h.blk 7
  simp only [List.getElem?_toArray, List.getElem?_cons_zero, List.getElem?_cons_succ] at c
  clear h
  go_enter Tryz.func98, Tryz.ntmps98
  go_wp2_with fail
  go_ret
  exact ⟨rfl, rfl⟩
theorem vmarks_any (h : VocIs w base vb s T A1 A2 A3 A4 A5 c1 c2 c3 c4 c5 tbase tb bk kbase mk sv mb mp sv2 mi mt l dn st se us) : Calls Tryz.prog 68 #[.pointer (some ⟨vb, 0, none⟩)] w fun e w' => e = .returned (.pointer (some ⟨mk, 0, none⟩)) ∧ w' = w := by
  have c := blk_cell h.blk 8
  simp only [List.getElem?_toArray, List.getElem?_cons_zero, List.getElem?_cons_succ] at c
  clear h
  go_enter Tryz.func68, Tryz.ntmps68
  go_wp2_with fail
  go_ret
  exact ⟨rfl, rfl⟩
theorem vsize_any (h : VocIs w base vb s T A1 A2 A3 A4 A5 c1 c2 c3 c4 c5 tbase tb bk kbase mk sv mb mp sv2 mi mt l dn st se us) : Calls Tryz.prog 36 #[.pointer (some ⟨vb, 0, none⟩)] w fun e w' => e = .returned (.int .i64 (T.length : Nat)) ∧ w' = w := by
  have h1 := vtable_any h
  have h2 := len_tab h.tab
  clear h
  go_enter Tryz.func36, Tryz.ntmps36
  go_wp2_with (first | (go_at_call 65; (refine h1.mono ?_); (rintro e V1 ⟨rfl, rfl⟩)) | (go_at_call 66; (refine h2.mono ?_); (rintro e V1 ⟨rfl, rfl⟩)))
  go_ret
  exact ⟨rfl, rfl⟩
end
def aloneB (T : List Ent) (C : Nat → Int) (J : Nat → Nat → Bool) (id : Int) : Bool := decide (encT T T.length (bytesT T id) = [id]) && decide ((pcs (cutB C J) (bytesT T id)).length ≤ 1)
def aloneL (T : List Ent) (C : Nat → Int) (J : Nat → Nat → Bool) (k : Nat) : List Bool := (List.range T.length).map (fun (i : Nat) => decide (i < k) && aloneB T C J (i : Int))
theorem aloneL_len (T : List Ent) (C : Nat → Int) (J : Nat → Nat → Bool) (k : Nat) : (aloneL T C J k).length = T.length := by simp [aloneL]
theorem aloneL_zero (T : List Ent) (C : Nat → Int) (J : Nat → Nat → Bool) : aloneL T C J 0 = List.replicate T.length false := by
  apply List.ext_getElem
  · simp [aloneL]
  · intro i h1 h2
    simp [aloneL]
theorem aloneL_succ (T : List Ent) (C : Nat → Int) (J : Nat → Nat → Bool) (k : Nat) : aloneL T C J (k + 1) = (aloneL T C J k).set k (aloneB T C J (k : Int)) := by
  apply List.ext_getElem
  · simp [aloneL]
  · intro i h1 h2
    rw [List.getElem_set]
    by_cases h : k = i
    · subst h; simp [aloneL]
    · rw [if_neg h]
      have : (i < k + 1) ↔ (i < k) := by omega
      simp [aloneL, this]
theorem info_bool : (Tryz.prog.info? 4).map (fun i => (i.zero, i.size, i.bytes)) = some (some (.bool false), 1, 1) := by kernel_rfl
theorem made_false (n : Nat) : (madeCells (Value.bool false).cells (n * 1)).toList = (List.replicate n false).map Value.bool := by
  apply List.ext_getElem
  · simp [madeCells]
  · intro i h1 h2
    simp [madeCells, Value.cells, Nat.mod_one]
theorem make_bools (n : Nat) (w : World) (hn : n ≤ 100000) : ∃ w', (Instr.makeSlice 154 (.int .i64 (n : Int)) (.int .i64 (n : Int))).run Tryz.prog w = .ok (.slice (some ⟨w.heap.size, 0, none⟩) n n) w' ∧
    w'.ownsRow w.heap.size 4 1 (.slice (some ⟨w.heap.size, 0, none⟩) n n) n ((List.replicate n false).map Value.bool) ∧ Below w.heap.size w w' := by
  obtain ⟨i, hi, hz0, hz1, hz2⟩ := info_parts info_bool
  obtain ⟨w', h1, h2, h3⟩ := run_makeSlice_full (P := Tryz.prog) w w.heap.size 154 4 i (.bool false) 1 Tryz.underlying154 hi hz0 hz1 .i64 .i64 n (by omega) (by rw [hz2]; omega) (by unfold maxLen; omega) (Nat.le_refl _)
  rw [made_false] at h2
  exact ⟨w', h1, h2, (Keep.of_grown (F := fun _ => False) h3 (fun k hk => by cases hk)).below (Nat.le_refl _) (fun x hx => hx.elim)⟩
def nxtW (T : List Ent) (a b : Int) : Int × Int × Int := if b < 256 ∨ a > b then ((parT T a).2, b, a) else (a, (parT T b).1, b + 1)
def walkT (T : List Ent) : Nat → Int → Int → Int → Bool × Nat
  | 0, _, _, _ => (true, 0)
  | f + 1, a, b, lim =>
    if (pairB T lim a b).isSome then (false, 0)
    else if a < 256 ∧ b < 256 then (true, 0)
    else ((walkT T f (nxtW T a b).1 (nxtW T a b).2.1 (nxtW T a b).2.2).1, (walkT T f (nxtW T a b).1 (nxtW T a b).2.1 (nxtW T a b).2.2).2 + 1)
theorem born_iff {T : List Ent} (hT : OkT T) {a : Int} (h : hasT T a = true) : bornT T a = decide (256 ≤ a) := by
  obtain ⟨k, rfl, hk, _⟩ := hasT_at h
  by_cases h2 : 256 ≤ k
  · rw [(made_all hT h2 hk).1]
    symm
    simp; omega
  · have : bornT T (k : Int) = false := by
      unfold bornT
      rw [base_ent hT (by omega)]
      simp
    rw [this]
    symm
    simp; omega
theorem par_has {T : List Ent} (hT : OkT T) {a : Int} (h : hasT T a = true) (h2 : 256 ≤ a) : hasT T (parT T a).1 = true ∧ hasT T (parT T a).2 = true ∧ (parT T a).1 < a ∧ (parT T a).2 < a := by
  obtain ⟨k, rfl, hk, _⟩ := hasT_at h
  obtain ⟨_, q1, q2, _, _, _, _, _, q3, q4⟩ := made_all hT (i := k) (by omega) hk
  exact ⟨q1, q2, q3, q4⟩
theorem hasT_iff {T : List Ent} {a : Int} : hasT T a = true ↔ 0 ≤ a ∧ a < T.length := by simp [hasT]
theorem nxt_has {T : List Ent} (hT : OkT T) {a b : Int} (ha : hasT T a = true) (hb : hasT T b = true) (hn : ¬ (a < 256 ∧ b < 256)) :
    hasT T (nxtW T a b).1 = true ∧ hasT T (nxtW T a b).2.1 = true ∧ (nxtW T a b).1.toNat + (nxtW T a b).2.1.toNat < a.toNat + b.toNat := by
  unfold nxtW
  by_cases h : b < 256 ∨ a > b
  · rw [if_pos h]
    have h2 : 256 ≤ a := by omega
    obtain ⟨q1, q2, q3, q4⟩ := par_has hT ha h2
    have := hasT_iff.1 q2
    exact ⟨q2, hb, by simp only; omega⟩
  · rw [if_neg h]
    have h2 : 256 ≤ b := by omega
    obtain ⟨q1, q2, q3, q4⟩ := par_has hT hb h2
    have := hasT_iff.1 q1
    exact ⟨ha, q1, by simp only; omega⟩
theorem walk_more {T : List Ent} (hT : OkT T) : ∀ (f g : Nat) (a b lim : Int), hasT T a = true → hasT T b = true → a.toNat + b.toNat < f → f ≤ g → walkT T g a b lim = walkT T f a b lim
  | 0, _, _, _, _, _, _, h, _ => by omega
  | f + 1, 0, _, _, _, _, _, _, h => by omega
  | f + 1, g + 1, a, b, lim, ha, hb, hf, hg => by
    rw [walkT, walkT]
    split
    · rfl
    · split
      · rfl
      · rename_i hn
        obtain ⟨q1, q2, q3⟩ := nxt_has hT ha hb hn
        rw [walk_more hT f g _ _ _ q1 q2 (by omega) (by omega)]
def wlkT (T : List Ent) (a b lim : Int) : Bool × Nat := walkT T (a.toNat + b.toNat + 1) a b lim
theorem wlk_blocked {T : List Ent} {a b lim : Int} (h : (pairB T lim a b).isSome = true) : wlkT T a b lim = (false, 0) := by
  unfold wlkT; rw [walkT, if_pos h]
theorem wlk_bytes {T : List Ent} {a b lim : Int} (h : (pairB T lim a b).isSome = false) (hb : a < 256 ∧ b < 256) : wlkT T a b lim = (true, 0) := by
  unfold wlkT; rw [walkT, if_neg (by rw [h]; decide), if_pos hb]
theorem wlk_next {T : List Ent} (hT : OkT T) {a b lim : Int} (ha : hasT T a = true) (hb : hasT T b = true) (h : (pairB T lim a b).isSome = false) (hn : ¬ (a < 256 ∧ b < 256)) :
    wlkT T a b lim = ((wlkT T (nxtW T a b).1 (nxtW T a b).2.1 (nxtW T a b).2.2).1, (wlkT T (nxtW T a b).1 (nxtW T a b).2.1 (nxtW T a b).2.2).2 + 1) := by
  obtain ⟨q1, q2, q3⟩ := nxt_has hT ha hb hn
  unfold wlkT
  rw [walkT, if_neg (by rw [h]; decide), if_neg hn, walk_more hT _ _ _ _ _ q1 q2 (Nat.lt_succ_self _) (by omega)]
theorem pairB_all {T : List Ent} {lim : Int} (h : (T.length : Int) ≤ lim) (a b : Int) : pairB T lim a b = pairB T T.length a b := by
  unfold pairB
  cases hp : pairT T (a, b) with
  | none => rfl
  | some i =>
    have hlt : i < T.length := by
      unfold pairT at hp
      rw [List.findIdx?_eq_some_iff_getElem] at hp
      exact hp.1
    simp only [Option.bind_some]
    rw [if_pos (by omega), if_pos (by omega)]
theorem wlk_all {T : List Ent} {lim lim' : Int} (h : (T.length : Int) ≤ lim) (h' : (T.length : Int) ≤ lim') (a b : Int) : wlkT T a b lim = wlkT T a b lim' := by
  unfold wlkT
  rw [walkT, walkT, pairB_all h, pairB_all h']
structure VocP where
  (vb : Nat) (s : SpecP) (T : List Ent) (A1 A2 A3 A4 A5 : Option Addr) (c1 c2 c3 c4 c5 tbase tb bk kbase km : Nat) (sv : Value) (mb mp : Nat) (sv2 : Value) (mi mt : Nat)
def VocQ (w : World) (base : Nat) (p : VocP) (l : Value) (dn st se us : Int) : Prop :=
  VocIs w base p.vb p.s p.T p.A1 p.A2 p.A3 p.A4 p.A5 p.c1 p.c2 p.c3 p.c4 p.c5 p.tbase p.tb p.bk p.kbase p.km p.sv p.mb p.mp p.sv2 p.mi p.mt l dn st se us
section
variable {w w' : World} {base B : Nat} {p : VocP} {l : Value} {dn st se us : Int}
theorem VocQ.keep {F : Nat → Prop} (h : VocQ w base p l dn st se us) (k : Keep F w w') (hF : ∀ x, x ≤ p.vb → ¬ F x) : VocQ w' base p l dn st se us := by
  obtain ⟨V0, h1, h2, h3, h4, h5, h6⟩ := h.org
  exact ⟨k.blk h.blk (hF _ (Nat.le_refl _)), ⟨V0, h1, h2, h3, h4, h5, h6.trans (k.below h6.size (fun x hx => by
    apply Classical.byContradiction
    intro hn
    exact hF x (by omega) hx))⟩, h.lt⟩
theorem VocQ.lt_size (h : VocQ w base p l dn st se us) : p.vb < w.heap.size := blk_lt h.blk
theorem VocQ.below (h : VocQ w base p l dn st se us) (hb : Below B w w') (hB : w.heap.size ≤ B) : VocQ w' base p l dn st se us :=
  h.keep (F := fun x => B ≤ x) ⟨hb.os, hb.tape, hb.output, hb.size, fun x hx hf => hb.block x (by omega)⟩ (fun x hx hf => by have := h.lt_size; omega)
theorem VocQ.drew (h : VocQ w base p l dn st se us) : VocQ w.drew base p l dn st se us := h.below (B := w.heap.size) ⟨rfl, rfl, rfl, Nat.le_refl _, fun _ _ => rfl⟩ (Nat.le_refl _)
theorem VocQ.putL (h : VocQ w base p l dn st se us) (l' : Value) : VocQ (w.setCell ⟨p.vb, 12, none⟩ l') base p l' dn st se us := by
  obtain ⟨V0, h1, h2, h3, h4, h5, h6⟩ := h.org
  exact ⟨blk_set h.blk 12 l', ⟨V0, h1, h2, h3, h4, h5, h6.setCell h1 _⟩, h.lt⟩
theorem VocQ.putU (h : VocQ w base p l dn st se us) (u : Int) : VocQ (w.setCell ⟨p.vb, 13, none⟩ (.int .i64 u)) base p l dn st se u := by
  obtain ⟨V0, h1, h2, h3, h4, h5, h6⟩ := h.org
  exact ⟨blk_set h.blk 13 _, ⟨V0, h1, h2, h3, h4, h5, h6.setCell h1 _⟩, h.lt⟩
theorem VocQ.putD (h : VocQ w base p l dn st se us) (u : Int) : VocQ (w.setCell ⟨p.vb, 9, none⟩ (.int .u32 u)) base p l u st se us := by
  obtain ⟨V0, h1, h2, h3, h4, h5, h6⟩ := h.org
  exact ⟨blk_set h.blk 9 _, ⟨V0, h1, h2, h3, h4, h5, h6.setCell h1 _⟩, h.lt⟩
theorem VocQ.putS (h : VocQ w base p l dn st se us) (u : Int) : VocQ (w.setCell ⟨p.vb, 10, none⟩ (.int .i32 u)) base p l dn u se us := by
  obtain ⟨V0, h1, h2, h3, h4, h5, h6⟩ := h.org
  exact ⟨blk_set h.blk 10 _, ⟨V0, h1, h2, h3, h4, h5, h6.setCell h1 _⟩, h.lt⟩
theorem VocQ.cellL (h : VocQ w base p l dn st se us) : w.cell? ⟨p.vb, 12, none⟩ = some l := by have := blk_cell h.blk 12; simpa using this
theorem VocQ.cellD (h : VocQ w base p l dn st se us) : w.cell? ⟨p.vb, 9, none⟩ = some (.int .u32 dn) := by have := blk_cell h.blk 9; simpa using this
theorem VocQ.cellS (h : VocQ w base p l dn st se us) : w.cell? ⟨p.vb, 10, none⟩ = some (.int .i32 st) := by have := blk_cell h.blk 10; simpa using this
theorem VocQ.cellU (h : VocQ w base p l dn st se us) : w.cell? ⟨p.vb, 13, none⟩ = some (.int .i64 us) := by have := blk_cell h.blk 13; simpa using this
theorem VocQ.cellT (h : VocQ w base p l dn st se us) : w.cell? ⟨p.vb, 6, none⟩ = some (.pointer (some ⟨p.tb, 0, none⟩)) := by have := blk_cell h.blk 6; simpa using this
theorem VocQ.cellB (h : VocQ w base p l dn st se us) : w.cell? ⟨p.vb, 7, none⟩ = some (.pointer (some ⟨p.bk, 0, none⟩)) := by have := blk_cell h.blk 7; simpa using this
theorem VocQ.cellM (h : VocQ w base p l dn st se us) : w.cell? ⟨p.vb, 8, none⟩ = some (.pointer (some ⟨p.km, 0, none⟩)) := by have := blk_cell h.blk 8; simpa using this
theorem VocQ.froz (h : VocQ w base p l dn st se us) (i : Nat) : w.frozen? ⟨p.vb, i, none⟩ = false := blk_froz h.blk i
theorem VocQ.tab (h : VocQ w base p l dn st se us) : TabIs w p.tbase p.tb p.T p.sv p.mb p.mp := VocIs.tab h
theorem VocQ.bnd (h : VocQ w base p l dn st se us) : BTab w p.bk (Cof p.s.cs) (Jof p.s.js) := VocIs.bnd h
theorem VocQ.mrk (h : VocQ w base p l dn st se us) : MarkIs w p.kbase p.km p.s.xs p.sv2 p.mi p.mt := VocIs.mrk h
theorem VocQ.spec (h : VocQ w base p l dn st se us) : SpecAt w p.s p.A1 p.A2 p.A3 p.A4 p.A5 := VocIs.spec h
end
def VocP.cut (p : VocP) : Nat → Nat → Bool := cutB (Cof p.s.cs) (Jof p.s.js)
def VocP.al (p : VocP) (k : Nat) : List Bool := aloneL p.T (Cof p.s.cs) (Jof p.s.js) k
def VocAt (w : World) (base : Nat) (p : VocP) (g : Option Nat) : Prop :=
  ∃ l dn st se us, VocQ w base p l dn st se us ∧ ((g = none ∧ l = .slice none 0 0 ∧ dn = 0 ∧ st = 0) ∨
    ∃ r, g = some r ∧ p.vb < r ∧ l = .slice (some ⟨r, 0, none⟩) p.T.length p.T.length ∧ dn = 1 ∧ w.ownsRow r 4 1 (.slice (some ⟨r, 0, none⟩) p.T.length p.T.length) p.T.length ((p.al p.T.length).map Value.bool))
section
variable {w w' : World} {base B : Nat} {p : VocP} {g : Option Nat}
theorem VocAt.keep {F : Nat → Prop} (h : VocAt w base p g) (k : Keep F w w') (hF : ∀ x, x ≤ p.vb ∨ g = some x → ¬ F x) : VocAt w' base p g := by
  obtain ⟨l, dn, st, se, us, h1, h2⟩ := h
  refine ⟨l, dn, st, se, us, h1.keep k (fun x hx => hF x (.inl hx)), ?_⟩
  rcases h2 with h2 | ⟨r, h3, h4, h5, h6, h7⟩
  · exact .inl h2
  · refine .inr ⟨r, h3, h4, h5, h6, own_keep h7 k (fun x hx => ?_)⟩
    simp only [Value.ownBlock, Option.some.injEq] at hx
    subst hx
    exact hF _ (.inr h3)
theorem VocAt.lt_size (h : VocAt w base p g) : p.vb < w.heap.size := by
  obtain ⟨l, dn, st, se, us, h1, h2⟩ := h
  exact h1.lt_size
theorem VocAt.below (h : VocAt w base p g) (hb : Below B w w') (hB : w.heap.size ≤ B) : VocAt w' base p g := by
  obtain ⟨l, dn, st, se, us, h1, h2⟩ := h
  refine ⟨l, dn, st, se, us, h1.below hb hB, ?_⟩
  rcases h2 with h2 | ⟨r, h3, h4, h5, h6, h7⟩
  · exact .inl h2
  · exact .inr ⟨r, h3, h4, h5, h6, own_below h7 hb hB⟩
end
theorem CaseP.adds (c : CaseP) : AddsT c.T := addsT_grow c.l (min (c.l.length / 2) 30)
theorem CaseP.ok (c : CaseP) : OkT c.T := c.adds.1
theorem mrgs_right {T : List Ent} (hT : OkT T) : (mrgsT T).all mrgR = true := by
  rw [List.all_eq_true]
  intro m hm
  obtain ⟨k, hk, rfl⟩ := List.getElem_of_mem hm
  obtain ⟨_, h1, h2, h3, h4⟩ := mrgs_ok hT (List.getElem?_eq_getElem hk)
  have hs := hT.small
  have : 256 + k < T.length := by rw [mrgs_len] at hk; omega
  unfold mrgR inR
  simp only [Bool.and_eq_true, decide_eq_true_eq]
  omega
theorem CaseP.right (c : CaseP) : rightS c.spec = true := by
  have hT := c.ok
  have hs := hT.small
  have l0 : (mrgsT c.T).length ≤ 744 := by rw [mrgs_len]; omega
  have l1 := someX_len c.xs (min c.xs.length 6)
  have l2 := someC_len c.cs
  have l3 := someJ_len c.js
  have h1 : headR c.spec = true := rfl
  have h2 : (decide (((c.spec.ms.length : Nat) : Int) ≤ 744) && c.spec.ms.all mrgR) = true := by
    show (decide ((((mrgsT c.T).length : Nat) : Int) ≤ 744) && (mrgsT c.T).all mrgR) = true
    rw [mrgs_right hT]; simp; omega
  have h3 : (decide (((c.spec.ts.length : Nat) : Int) ≤ 744) && c.spec.ts.all txtL) = true := rfl
  have h4 : (decide (((c.spec.xs.length : Nat) : Int) ≤ 32) && c.spec.xs.all splL) = true := by
    rw [Bool.and_eq_true, decide_eq_true_eq, List.all_eq_true]
    refine ⟨by show (((someX c.xs (min c.xs.length 6)).length : Nat) : Int) ≤ 32; omega, fun x hx => ?_⟩
    obtain ⟨k, hk, rfl⟩ := List.getElem_of_mem hx
    have := ((okX_iff _).1 (someX_ok c.xs (min c.xs.length 6))).2 k hk
    have h5 := this.1
    unfold rightX at h5
    simp only [Bool.and_eq_true, decide_eq_true_eq] at h5
    have hk' : k < (someX c.xs (min c.xs.length 6)).length := hk
    show splR ((someX c.xs (min c.xs.length 6))[k].1, bs (someX c.xs (min c.xs.length 6))[k].2) = true
    unfold splR inR
    simp only [Bool.and_eq_true, decide_eq_true_eq, bs_size]
    omega
  have h5 : (decide (((c.spec.cs.length : Nat) : Int) ≤ 64) && c.spec.cs.all clsR) = true := by
    rw [Bool.and_eq_true, decide_eq_true_eq, List.all_eq_true]
    refine ⟨by show (((someC c.cs).length : Nat) : Int) ≤ 64; omega, fun x hx => ?_⟩
    have := List.all_eq_true.1 (someC_ok c.cs) x hx
    unfold spanB at this
    unfold clsR inR
    simp only [Bool.and_eq_true, decide_eq_true_eq] at this ⊢
    omega
  have h6 : (decide (((c.spec.js.length : Nat) : Int) ≤ 64) && c.spec.js.all jnR) = true := by
    rw [Bool.and_eq_true, decide_eq_true_eq, List.all_eq_true]
    refine ⟨by show (((someJ c.js).length : Nat) : Int) ≤ 64; omega, fun x hx => ?_⟩
    have := List.all_eq_true.1 (someJ_ok c.js) x hx
    unfold jnB clsB at this
    unfold jnR inR
    simp only [Bool.and_eq_true, decide_eq_true_eq] at this ⊢
    omega
  unfold rightS
  rw [h1, h2, h3, h4, h5, h6]
  rfl
section
variable {w : World} {A1 A3 A4 A5 : Option Addr} {c1 c3 c4 c5 : Nat}
theorem vnew_case (c : CaseP) (hs : SpecAt w c.spec A1 none A3 A4 A5) :
    Calls Tryz.prog 15 #[specW c.spec A1 none A3 A4 A5 c1 0 c3 c4 c5] w fun e w' => (∃ p, e = .returned (.tuple #[.pointer (some ⟨p.vb, 0, none⟩), .int .i64 0, .int .i64 0]) ∧ VocAt w' w.heap.size p none ∧ p.T = c.T ∧ p.s = c.spec) ∧ Below w.heap.size w w' := by
  have hT := c.ok
  have hsm := hT.small
  have l0 : (mrgsT c.T).length ≤ 744 := by rw [mrgs_len]; omega
  have hL : ∀ V, Below w.heap.size w V → Calls Tryz.prog 87 #[specW c.spec A1 none A3 A4 A5 c1 0 c3 c4 c5] V fun e w' => (∃ tb sv mb mp n, e = .returned (.tuple #[.pointer (some ⟨tb, 0, none⟩), .int .i64 n, .int .i64 0]) ∧ TabIs w' V.heap.size tb c.T sv mb mp) ∧ Below V.heap.size V w' := by
    intro V hV
    refine (load_false (R := fun x y z w' => (∃ tb sv mb mp n, x = .pointer (some ⟨tb, 0, none⟩) ∧ y = .int .i64 n ∧ z = .int .i64 0 ∧ TabIs w' V.heap.size tb c.T sv mb mp) ∧ Below V.heap.size V w') rfl (fun W hW => ?_)).mono ?_
    · refine (new_ok c.adds.2 A1 c1 W (hs.ms.below (hV.trans (hW.mono hV.size)) (Nat.le_refl _)) (by omega)).mono ?_
      rintro e w' ⟨tb, sv, mb, mp, rfl, _, ht, hb⟩
      exact ⟨_, _, _, rfl, ⟨tb, sv, mb, mp, _, rfl, rfl, rfl, ht.less hW.size⟩, hW.trans (hb.mono hW.size)⟩
    · rintro e w' ⟨x, y, z, rfl, ⟨tb, sv, mb, mp, n, rfl, rfl, rfl, ht⟩, hb⟩
      exact ⟨⟨tb, sv, mb, mp, n, rfl, ht⟩, hb⟩
  have hM : ∀ V, Below w.heap.size w V → Calls Tryz.prog 88 #[.slice A3 c.spec.xs.length c3] V fun e w' => (∃ mb sv mi mt n, e = .returned (.tuple #[.pointer (some ⟨mb, 0, none⟩), .int .i64 n, .int .i64 0]) ∧ MarkIs w' V.heap.size mb c.spec.xs sv mi mt) ∧ Below V.heap.size V w' := fun V hV =>
    mnew_any (someX c.xs (min c.xs.length 6)) A3 c3 V (hs.xs.below hV (Nat.le_refl _)) (someX_ok _ _)
  have hid : c.spec.xs.all (idB c.T) = true := by
    rw [List.all_eq_true]
    intro x hx
    have := someX_ids c.xs (min c.xs.length 6) x hx
    unfold idB
    simp
    omega
  have l1 := someX_len c.xs (min c.xs.length 6)
  have l2 := someC_len c.cs
  have l3 := someJ_len c.js
  refine (vnew_any (cM := c1) (cT := 0) (cX := c3) (cC := c4) (cJ := c5) hs c.right hL hM hid (by simp only [CaseP.spec, List.length_nil]; omega) (someC_ok _) (someJ_ok _)).mono ?_
  rintro e w' ⟨⟨vb, B1, B2, B3, B4, B5, d1, d2, d3, d4, d5, tbase, tb, bk, kbase, mk, sv, mb, mp, sv2, mi, mt, rfl, hv⟩, hb⟩
  exact ⟨⟨⟨vb, c.spec, c.T, B1, B2, B3, B4, B5, d1, d2, d3, d4, d5, tbase, tb, bk, kbase, mk, sv, mb, mp, sv2, mi, mt⟩, rfl, ⟨_, 0, 0, 0, 0, hv, .inl ⟨rfl, rfl, rfl, rfl⟩⟩, rfl, rfl⟩, hb⟩
end
theorem results_cell_tmp3 {fn : Func} {p u v x : Tmp} {ty : TypeId} (h : fn.results = #[.cell p ty, .tmp u, .tmp v, .tmp x]) (tmps : Array Value) (P : Program) (w : World) :
    (results fn tmps).run P w = ((asAddr (tmps.getD p undef)).run P w).andThen fun a w₁ => ((loadVar ty a).run P w₁).andThen fun y w₂ => .ok (.tuple #[y, tmps.getD u undef, tmps.getD v undef, tmps.getD x undef]) w₂ := by
  simp only [results, h]
  simp [Sem.run_bind, Result.andThen]
theorem load_voc {w : World} {r : Nat} {A1 A2 A3 A4 A5 : Option Addr} {n1 n2 n3 n4 n5 c1 c2 c3 c4 c5 : Nat} (h : w.heap[r]? = some (.cells #[.slice A1 n1 c1, .slice A2 n2 c2, .slice A3 n3 c3, .slice A4 n4 c4, .slice A5 n5 c5] 38)) :
    (loadVar 38 ⟨r, 0, none⟩).run Tryz.prog w = .ok (.agg #[.slice A1 n1 c1, .slice A2 n2 c2, .slice A3 n3 c3, .slice A4 n4 c4, .slice A5 n5 c5]) w := by
  have n0 := blk_cell h 0
  have n1 := blk_cell h 1
  have n2 := blk_cell h 2
  have n3 := blk_cell h 3
  have n4 := blk_cell h 4
  simp only [List.getElem?_toArray, List.getElem?_cons_zero, List.getElem?_cons_succ] at n0 n1 n2 n3 n4
  simp [go_sem, n0, n1, n2, n3, n4]
theorem ret_voc3 {fn : Func} {R : Ending → World → Prop} {tmps : Array Value} {w : World} {r : Nat} {A1 A2 A3 A4 A5 : Option Addr} {n1 n2 n3 n4 n5 c1 c2 c3 c4 c5 : Nat} {x y z : Value} {p q q' q2 : Tmp}
    (h : fn.results = #[.cell p 38, .tmp q, .tmp q', .tmp q2]) (hp : tmps.getD p undef = .pointer (some ⟨r, 0, none⟩)) (hq : tmps.getD q undef = x) (hq' : tmps.getD q' undef = y) (hq2 : tmps.getD q2 undef = z)
    (hl : w.heap[r]? = some (.cells #[.slice A1 n1 c1, .slice A2 n2 c2, .slice A3 n3 c3, .slice A4 n4 c4, .slice A5 n5 c5] 38))
    (hR : R (.returned (.tuple #[.agg #[.slice A1 n1 c1, .slice A2 n2 c2, .slice A3 n3 c3, .slice A4 n4 c4, .slice A5 n5 c5], x, y, z])) w) : bodyPost Tryz.prog fn R .ret ⟨tmps, []⟩ w := by
  refine bodyPost_ret (v := .tuple #[.agg #[.slice A1 n1 c1, .slice A2 n2 c2, .slice A3 n3 c3, .slice A4 n4 c4, .slice A5 n5 c5], x, y, z]) ?_ rfl hR
  rw [results_cell_tmp3 h, hp, hq, hq', hq2]
  simp [asAddr, load_voc hl, Result.andThen]
structure RVoc where
  (A1 A2 A3 A4 A5 : Option Addr) (c1 c2 c3 c4 c5 : Nat)
def RVoc.val (r : RVoc) (c : CaseP) : Value := .agg #[.slice r.A1 c.T.length r.c1, .slice r.A2 (mrgsT c.T).length r.c2, .slice r.A3 (someC c.cs).length r.c3, .slice r.A4 (someJ c.js).length r.c4, .slice r.A5 (someX c.xs (min c.xs.length 6)).length r.c5]
structure RVocIs (w : World) (base : Nat) (c : CaseP) (r : RVoc) : Prop where
  ref : RefIs w base c.T (.slice r.A1 c.T.length r.c1) (.slice r.A2 (mrgsT c.T).length r.c2)
  cs : Sl w r.A3 encCls 3 (someC c.cs)
  js : Sl w r.A4 encJn 2 (someJ c.js)
  xs : Sl w r.A5 encIS 2 (someX c.xs (min c.xs.length 6))
theorem RVocIs.below {w w' : World} {base B : Nat} {c : CaseP} {r : RVoc} (h : RVocIs w base c r) (hb : Below B w w') (hB : w.heap.size ≤ B) : RVocIs w' base c r :=
  ⟨h.ref.below hb hB, h.cs.below hb hB, h.js.below hb hB, h.xs.below hb hB⟩
theorem voc_done {w W : World} {base rb : Nat} {c : CaseP} {r : RVoc} (hb : Below w.heap.size w W) (hr : w.heap.size ≤ rb) (hlt : rb < base) (hn : W.heap[rb]? = some (.cells #[.slice none 0 0, .slice none 0 0, .slice none 0 0, .slice none 0 0, .slice none 0 0] 38))
    (href : RefIs W base c.T (.slice r.A1 c.T.length r.c1) (.slice r.A2 (mrgsT c.T).length r.c2)) (hcs : Sl w r.A3 encCls 3 (someC c.cs)) (hjs : Sl w r.A4 encJn 2 (someJ c.js)) (hxs : Sl w r.A5 encIS 2 (someX c.xs (min c.xs.length 6))) (v0 v1 v2 v3 v4 : Value) :
    (((((W.setCell ⟨rb, 0, none⟩ v0).setCell ⟨rb, 1, none⟩ v1).setCell ⟨rb, 2, none⟩ v2).setCell ⟨rb, 3, none⟩ v3).setCell ⟨rb, 4, none⟩ v4).heap[rb]? = some (.cells #[v0, v1, v2, v3, v4] 38) ∧
    RVocIs (((((W.setCell ⟨rb, 0, none⟩ v0).setCell ⟨rb, 1, none⟩ v1).setCell ⟨rb, 2, none⟩ v2).setCell ⟨rb, 3, none⟩ v3).setCell ⟨rb, 4, none⟩ v4) w.heap.size c r ∧
    Below w.heap.size w (((((W.setCell ⟨rb, 0, none⟩ v0).setCell ⟨rb, 1, none⟩ v1).setCell ⟨rb, 2, none⟩ v2).setCell ⟨rb, 3, none⟩ v3).setCell ⟨rb, 4, none⟩ v4) := by
  have b1 := blk_set (blk_set (blk_set (blk_set (blk_set hn 0 v0) 1 v1) 2 v2) 3 v3) 4 v4
  simp only [List.setIfInBounds_toArray, List.set_cons_zero, List.set_cons_succ] at b1
  have K := ((((Keep.refl (fun g => g = rb) W).setCell (p := ⟨rb, 0, none⟩) (Or.inl rfl) v0).setCell (p := ⟨rb, 1, none⟩) (Or.inl rfl) v1).setCell (p := ⟨rb, 2, none⟩) (Or.inl rfl) v2).setCell (p := ⟨rb, 3, none⟩) (Or.inl rfl) v3
  have K := K.setCell (p := ⟨rb, 4, none⟩) (Or.inl rfl) v4
  have hB := hb.trans (K.below hb.size (fun x hx => by omega))
  refine ⟨b1, ⟨(href.keep K (fun g hg => by omega)).less (by omega), hcs.below hB (Nat.le_refl _), hjs.below hB (Nat.le_refl _), hxs.below hB (Nat.le_refl _)⟩, hB⟩
section
variable {w : World} {A1 A3 A4 A5 : Option Addr} {c1 c3 c4 c5 : Nat}
theorem rload_case (c : CaseP) (AT AX AC AJ : Option Addr) (nT cT nX cX nC cC nJ cJ : Nat) (hs : Sl w A1 encM 2 (mrgsT c.T)) :
    Calls Tryz.prog 110 #[specV false A1 (mrgsT c.T).length c1 AT nT cT AX nX cX AC nC cC AJ nJ cJ] w fun e w' => (∃ B1 d1 B2 d2, e = .returned (.tuple #[.agg #[.slice B1 c.T.length d1, .slice B2 (mrgsT c.T).length d2], .int .i64 ((mrgsT c.T).length : Nat), .int .i64 0]) ∧ RefIs w' w.heap.size c.T (.slice B1 c.T.length d1) (.slice B2 (mrgsT c.T).length d2)) ∧ Below w.heap.size w w' := by
  have hsm := c.ok.small
  have hml : (mrgsT c.T).length < 9000000000000000000 := by rw [mrgs_len]; omega
  refine (rload_false (F := fun k T no => T = c.T ∧ no = 0 ∧ k = (mrgsT c.T).length) rfl (fun W hW => ?_)).mono ?_
  · refine (rnew_any (mrgsT c.T) A1 c1 W (hs.below hW (Nat.le_refl _)) hml).mono ?_
    rintro e w' ⟨hb, k, T, B1, n1, d1, B2, n2, d2, no, rfl, href, hok, ha, hk⟩
    refine ⟨hb, k, T, B1, n1, d1, B2, n2, d2, no, rfl, href, ?_⟩
    rcases hk with ⟨rfl, rfl⟩ | ⟨hk, h1, h2⟩
    · rw [List.take_length, c.adds.2] at ha
      injection ha with ha
      exact ⟨ha.symm, rfl, rfl⟩
    · exfalso
      have := adds_take (mrgsT c.T) baseT c.T k hk T c.adds.2 ha
      exact h2 (by rw [h1]; exact this)
  · rintro e w' ⟨hb, k, T, B1, n1, d1, B2, n2, d2, no, rfl, href, rfl, rfl, rfl⟩
    have hn2 : n2 = (mrgsT c.T).length := by obtain ⟨_, _, e⟩ := own_slice href.mrg; injection e
    have hn1 : n1 = c.T.length := by obtain ⟨_, _, e⟩ := own_slice href.row; injection e
    subst hn1
    subst hn2
    exact ⟨⟨B1, d1, B2, d2, rfl, href⟩, hb⟩
set_option maxHeartbeats 2000000 in
theorem rnew10_any (c : CaseP) (hs : SpecAt w c.spec A1 none A3 A4 A5) :
    Calls Tryz.prog 75 #[specW c.spec A1 none A3 A4 A5 c1 0 c3 c4 c5] w fun e w' => (∃ r, e = .returned (.tuple #[r.val c, .int .i64 0, .int .i64 0, .int .i64 0]) ∧ RVocIs w' w.heap.size c r ∧ r.A3 = A4 ∧ r.A4 = A5 ∧ r.A5 = A3) ∧ Below w.heap.size w w' := by
  have HL := Lib.hid (fun V (hV : Below w.heap.size w V) => rload_case (w := V) (A1 := A1) (c1 := c1) c none A3 A4 A5 0 0 (someX c.xs (min c.xs.length 6)).length c3 (someC c.cs).length c4 (someJ c.js).length c5 (hs.ms.below hV (Nat.le_refl _)))
  have HS := Lib.hid hs
  have HCK := Lib.hid (fun V (hV : Below w.heap.size w V) => rcheck_any (xs := someX c.xs (min c.xs.length 6)) (c := c3) (hs.xs.below hV (Nat.le_refl _)) (by have := someX_len c.xs (min c.xs.length 6); omega))
  have HOX := Lib.hid (someX_ok c.xs (min c.xs.length 6))
  have HXL := Lib.hid (someX_len c.xs (min c.xs.length 6))
  have HXI := Lib.hid (someX_ids c.xs (min c.xs.length 6))
  have HTS := Lib.hid c.ok.small
  clear hs
  unfold specW specV
  unfold specV at HL
  simp only [CaseP.spec, List.length_nil]
  obtain ⟨NX, hNX⟩ : ∃ n, someX c.xs (min c.xs.length 6) = n := ⟨_, rfl⟩
  have HNX := Lib.hid hNX
  rw [hNX] at HL HCK HOX HXL HXI ⊢
  clear hNX
  have b1 := (Below.refl w.heap.size w).alloc (Nat.le_refl _) (.cells #[.bool false, .slice A1 (mrgsT c.T).length c1, .slice none 0 0, .slice A3 NX.length c3, .slice A4 (someC c.cs).length c4, .slice A5 (someJ c.js).length c5] 48)
  have b2 := b1.alloc (by simp) (.cells #[.slice none 0 0, .slice none 0 0, .slice none 0 0, .slice none 0 0, .slice none 0 0] 38)
  have n1 := blk_alloc (blk_new w (.cells #[.bool false, .slice A1 (mrgsT c.T).length c1, .slice none 0 0, .slice A3 NX.length c3, .slice A4 (someC c.cs).length c4, .slice A5 (someJ c.js).length c5] 48)) (.cells #[.slice none 0 0, .slice none 0 0, .slice none 0 0, .slice none 0 0, .slice none 0 0] 38)
  have n2 := blk_new (w.alloc (.cells #[.bool false, .slice A1 (mrgsT c.T).length c1, .slice none 0 0, .slice A3 NX.length c3, .slice A4 (someC c.cs).length c4, .slice A5 (someJ c.js).length c5] 48)) (.cells #[.slice none 0 0, .slice none 0 0, .slice none 0 0, .slice none 0 0, .slice none 0 0] 38)
  rw [size_alloc] at n2
  obtain ⟨bs, hbs⟩ : ∃ b, w.heap.size = b := ⟨_, rfl⟩
  have HBS := Lib.hid (Nat.le_of_eq hbs)
  have HN1 : Hid (((w.alloc (.cells #[.bool false, .slice A1 (mrgsT c.T).length c1, .slice none 0 0, .slice A3 NX.length c3, .slice A4 (someC c.cs).length c4, .slice A5 (someJ c.js).length c5] 48)).alloc (.cells #[.slice none 0 0, .slice none 0 0, .slice none 0 0, .slice none 0 0, .slice none 0 0] 38)).heap[bs]? = some (.cells #[.bool false, .slice A1 (mrgsT c.T).length c1, .slice none 0 0, .slice A3 NX.length c3, .slice A4 (someC c.cs).length c4, .slice A5 (someJ c.js).length c5] 48)) := Lib.hid (by rw [← hbs]; exact n1)
  have HN2 : Hid (((w.alloc (.cells #[.bool false, .slice A1 (mrgsT c.T).length c1, .slice none 0 0, .slice A3 NX.length c3, .slice A4 (someC c.cs).length c4, .slice A5 (someJ c.js).length c5] 48)).alloc (.cells #[.slice none 0 0, .slice none 0 0, .slice none 0 0, .slice none 0 0, .slice none 0 0] 38)).heap[bs + 1]? = some (.cells #[.slice none 0 0, .slice none 0 0, .slice none 0 0, .slice none 0 0, .slice none 0 0] 38)) := Lib.hid (by rw [← hbs]; exact n2)
  have HB := Lib.hid b2
  clear b1 b2 n1 n2
  go_enter Tryz.func75, Tryz.ntmps75
  go_upto_region 1 with fail
  (try rw [hbs])
  clear hbs
  generalize (w.alloc (.cells #[.bool false, .slice A1 (mrgsT c.T).length c1, .slice none 0 0, .slice A3 NX.length c3, .slice A4 (someC c.cs).length c4, .slice A5 (someJ c.js).length c5] 48)).alloc (.cells #[.slice none 0 0, .slice none 0 0, .slice none 0 0, .slice none 0 0, .slice none 0 0] 38) = w1 at *
  have s0 := blk_cell HN1.out 0
  have s1 := blk_cell HN1.out 1
  have s2 := blk_cell HN1.out 2
  have s3 := blk_cell HN1.out 3
  have s4 := blk_cell HN1.out 4
  have s5 := blk_cell HN1.out 5
  simp only [List.getElem?_toArray, List.getElem?_cons_zero, List.getElem?_cons_succ] at s0 s1 s2 s3 s4 s5
  go_upto_region 2 with (go_at_call 110; refine (HL.out _ HB.out).mono ?_; rintro e w2 ⟨⟨B1, d1, B2, d2, rfl, href⟩, hb⟩; (have HREF := Lib.hid href); (have HB2 := Lib.hid hb); clear href hb s0 s1 s2 s3 s4 s5)
  have hb3 := (Below.refl w2.heap.size w2).alloc (Nat.le_refl _) (.cells #[.slice B1 c.T.length d1, .slice B2 (mrgsT c.T).length d2] 34)
  have HTV := Lib.hid (blk_new w2 (.cells #[.slice B1 c.T.length d1, .slice B2 (mrgsT c.T).length d2] 34))
  have HB3 := Lib.hid (HB2.out.trans (hb3.mono HB2.out.size))
  have HRF := Lib.hid (HREF.out.below hb3 (Nat.le_refl _))
  have HN13 := Lib.hid (blk_below HB3.out (blk_lt HN1.out) HN1.out)
  have HN23 := Lib.hid (blk_below HB3.out (blk_lt HN2.out) HN2.out)
  have HBW := Lib.hid (HB.out.trans (HB3.out.mono HB.out.size))
  have HTG := Lib.hid HB2.out.size
  clear hb3 HREF
  generalize w2.heap.size = tv at *
  generalize w2.alloc (.cells #[.slice B1 c.T.length d1, .slice B2 (mrgsT c.T).length d2] 34) = w3 at *
  have HCK3 := Lib.hid (HCK.out _ HBW.out)
  have HXS := Lib.hid (HS.out.below HBW.out (Nat.le_refl _))
  have s3 := blk_cell HN13.out 3
  simp only [List.getElem?_toArray, List.getElem?_cons_zero, List.getElem?_cons_succ] at s3
  go_upto_region 7 with (go_at_call 74; refine HCK3.out.mono ?_; rintro e w4 ⟨⟨n0, k0, rfl, hy1, hy2⟩, m, rfl⟩; obtain ⟨hk01, hk00⟩ := hy1 HOX.out; subst hk00; clear hy1 hy2 hk01 s3)
  go_wp2_with fail
  obtain ⟨N, hN⟩ : ∃ N, NX.length = N := ⟨_, rfl⟩
  have HNN := Lib.hid hN
  rw [hN] at HN13 HXL ⊢
  clear hN
  go_loopg [9] N (fun n i W => ∃ k : Nat, k + n = N ∧ i = .int .i64 (k : Int) ∧ ∃ m, W = w3.drewN m)
  case atStart => exact ⟨0, by omega, rfl, m, rfl⟩
  case round =>
    obtain ⟨k, hk, rfl, m2, hW⟩ := hrel
    subst hW
    have hn1 : (w3.drewN m2).heap[bs]? = _ := HN13.out
    have hn2 : (w3.drewN m2).heap[tv]? = _ := HTV.out
    have s3 := blk_cell hn1 3
    have t0 := blk_cell hn2 0
    simp only [List.getElem?_toArray, List.getElem?_cons_zero, List.getElem?_cons_succ] at s3 t0
    clear hn1 hn2
    by_cases hlt : k < N
    · have hlt' : (k : Int) < (N : Int) := by omega
      have q0 : (0 : Int) ≤ (k : Int) := by omega
      have ws : IntKind.i64.wrap ((k : Int) + 1) = (k : Int) + 1 := IntWalk.i64_in _ (by have := HXL.out; omega)
      have hk2 : k < NX.length := by rw [HNN.out]; exact hlt
      have hk3 : k < (someX c.xs (min c.xs.length 6)).length := by rw [HNX.out]; exact hk2
      obtain ⟨b, o, hA, hc⟩ := HXS.out.xs.at k hk3
      subst hA
      obtain ⟨x, hx⟩ : ∃ x, (someX c.xs (min c.xs.length 6))[k] = x := ⟨_, rfl⟩
      have e0 : (w3.drewN m2).cell? ⟨b, o + k * 2, none⟩ = some (.int .i64 x.1) := by rw [← hx]; exact hc 0 _ rfl
      have hge : ¬ x.1 < (c.T.length : Int) := by
        have h1 : x ∈ NX := by rw [← hx, ← HNX.out]; exact List.getElem_mem _
        have := HXI.out x h1
        have := HTS.out
        omega
      clear hc hx hk3
      go_upto_region 10 with fail
      refine wp_region_held_drew (S := fun V => V.cell? ⟨bs, 3, none⟩ = some (.slice (some ⟨b, o, none⟩) N c3) ∧ V.cell? ⟨tv, 0, none⟩ = some (.slice B1 c.T.length d1) ∧ V.cell? ⟨b, o + k * 2, none⟩ = some (.int .i64 x.1)) (by kernel_rfl) (by exact And.intro s3 (And.intro t0 e0)) (fun hHeld => ?_)
      refine tkH 0 39 ?_ rfl hHeld (.inl ⟨by rfl, ?_⟩) ?_; rotate_left; focus (intro w' hSw; (try dsimp only at hSw); go_simp; (try with_reducible rfl))
      try simp only [sIB, sC0, sCS]
      refine tkH 1 40 ?_ rfl hHeld (.inl ⟨by rfl, ?_⟩) ?_; rotate_left; focus (intro w' hSw; (try dsimp only at hSw); go_simp; (try with_reducible rfl))
      try simp only [sIB, sC0, sCS]
      refine tkH 2 41 ?_ rfl hHeld (.inl ⟨by rfl, ?_⟩) ?_; rotate_left; focus (intro w' hSw; (try dsimp only at hSw); go_simp; (try with_reducible rfl))
      try simp only [sIB, sC0, sCS]
      refine tkH 3 42 ?_ rfl hHeld (.inl ⟨by rfl, ?_⟩) ?_; rotate_left; focus (intro w' hSw; (try dsimp only at hSw); go_simp; (try with_reducible rfl))
      try simp only [sIB, sC0, sCS]
      refine tkH 4 43 ?_ rfl hHeld (.inl ⟨by rfl, ?_⟩) ?_; rotate_left; focus (intro w' hSw; (try dsimp only at hSw); go_simp; (try with_reducible rfl))
      try simp only [sIB, sC0, sCS]
      refine tkH 5 44 ?_ rfl hHeld (.inl ⟨by rfl, ?_⟩) ?_; rotate_left; focus (intro w' hSw; (try dsimp only at hSw); go_simp; (try with_reducible rfl))
      try simp only [sIB, sC0, sCS]
      refine tkH 6 45 ?_ rfl hHeld (.inl ⟨by rfl, ?_⟩) ?_; rotate_left; focus (intro w' hSw; (try dsimp only at hSw); go_simp; (try with_reducible rfl))
      try simp only [sIB, sC0, sCS]
      refine tkH 7 46 ?_ rfl hHeld (.inl ⟨by rfl, ?_⟩) ?_; rotate_left; focus (intro w' hSw; (try dsimp only at hSw); go_simp; (try with_reducible rfl))
      try simp only [sIB, sC0, sCS]
      refine tkH 8 47 ?_ rfl hHeld (.inl ⟨by rfl, ?_⟩) ?_; rotate_left; focus (intro w' hSw; (try dsimp only at hSw); go_simp; (try with_reducible rfl))
      try simp only [sIB, sC0, sCS]
      refine tkH 9 48 ?_ rfl hHeld (.inl ⟨by rfl, ?_⟩) ?_; rotate_left; focus (intro w' hSw; (try dsimp only at hSw); go_simp; (try with_reducible rfl))
      try simp only [sIB, sC0, sCS]
      refine wpAnyH_done (by kernel_rfl) ?_ _
      clear hHeld s3 t0 e0
      go_wp2_with fail
      go_roundg (gk - 1)
      case measure => omega
      case rel => exact ⟨k + 1, by omega, by simp, m2 + 1, rfl⟩
    · have hke : k = N := by omega
      subst hke
      have hlt' : ¬ ((k : Nat) : Int) < (k : Int) := by omega
      have hr1 : (w3.drewN m2).heap[bs + 1]? = _ := HN23.out
      have hn1 : (w3.drewN m2).heap[bs]? = _ := HN13.out
      have hn2 : (w3.drewN m2).heap[tv]? = _ := HTV.out
      have s4 := blk_cell hn1 4
      have s5 := blk_cell hn1 5
      have t1 := blk_cell hn2 1
      have g0 := blk_cell hr1 0
      have g1 := blk_cell hr1 1
      have g2 := blk_cell hr1 2
      have g3 := blk_cell hr1 3
      have g4 := blk_cell hr1 4
      have z0 := blk_froz hr1 0
      have z1 := blk_froz hr1 1
      have z2 := blk_froz hr1 2
      have z3 := blk_froz hr1 3
      have z4 := blk_froz hr1 4
      simp only [List.getElem?_toArray, List.getElem?_cons_zero, List.getElem?_cons_succ] at s4 s5 t1 g0 g1 g2 g3 g4
      clear hr1 hn1 hn2
      go_wp2_with fail
      have HD := voc_done (r := ⟨B1, B2, A4, A5, A3, d1, d2, c4, c5, c3⟩) (W := w3.drewN m2) (rb := bs + 1) (below_drewN HBW.out m2) (by have := HBS.out; omega) (blk_lt HN2.out) HN23.out (HRF.out.below (below_drewN (Below.refl w3.heap.size w3) m2) (Nat.le_refl _)) HS.out.cs HS.out.js HS.out.xs
        (.slice B1 c.T.length d1) (.slice B2 (mrgsT c.T).length d2) (.slice A4 (someC c.cs).length c4) (.slice A5 (someJ c.js).length c5) (.slice A3 k c3)
      refine ret_voc3 (r := bs + 1) rfl rfl rfl rfl rfl HD.1 ⟨⟨_, ?_, HD.2.1, rfl, rfl, rfl⟩, HD.2.2⟩
      rw [show k = (someX c.xs (min c.xs.length 6)).length from by rw [HNX.out, HNN.out]]
      rfl
end
section
variable {w : World} {A1 A3 A4 A5 : Option Addr} {c1 c3 c4 c5 : Nat}
theorem rof10_any (c : CaseP) (hs : SpecAt w c.spec A1 none A3 A4 A5) :
    Calls Tryz.prog 43 #[specW c.spec A1 none A3 A4 A5 c1 0 c3 c4 c5] w fun e w' => (∃ r, e = .returned (r.val c) ∧ RVocIs w' w.heap.size c r) ∧ Below w.heap.size w w' := by
  have HS := Lib.hid hs
  have HN := Lib.hid (fun V (hV : Below w.heap.size w V) => rnew10_any (w := V) (A1 := A1) (A3 := A3) (A4 := A4) (A5 := A5) (c1 := c1) (c3 := c3) (c4 := c4) (c5 := c5) c (hs.below hV (Nat.le_refl _)))
  clear hs
  unfold specW specV at HN ⊢
  simp only [CaseP.spec, List.length_nil] at HN ⊢
  have b2 := ((Below.refl w.heap.size w).alloc (Nat.le_refl _) (.cells #[.bool false, .slice A1 (mrgsT c.T).length c1, .slice none 0 0, .slice A3 (someX c.xs (min c.xs.length 6)).length c3, .slice A4 (someC c.cs).length c4, .slice A5 (someJ c.js).length c5] 48)).alloc (by simp) (.cells #[.slice none 0 0, .slice none 0 0, .slice none 0 0, .slice none 0 0, .slice none 0 0] 38)
  have n1 := blk_alloc (blk_new w (.cells #[.bool false, .slice A1 (mrgsT c.T).length c1, .slice none 0 0, .slice A3 (someX c.xs (min c.xs.length 6)).length c3, .slice A4 (someC c.cs).length c4, .slice A5 (someJ c.js).length c5] 48)) (.cells #[.slice none 0 0, .slice none 0 0, .slice none 0 0, .slice none 0 0, .slice none 0 0] 38)
  have n2 := blk_new (w.alloc (.cells #[.bool false, .slice A1 (mrgsT c.T).length c1, .slice none 0 0, .slice A3 (someX c.xs (min c.xs.length 6)).length c3, .slice A4 (someC c.cs).length c4, .slice A5 (someJ c.js).length c5] 48)) (.cells #[.slice none 0 0, .slice none 0 0, .slice none 0 0, .slice none 0 0, .slice none 0 0] 38)
  rw [size_alloc] at n2
  obtain ⟨bs, hbs⟩ : ∃ b, w.heap.size = b := ⟨_, rfl⟩
  have HBS := Lib.hid (Nat.le_of_eq hbs)
  have HN1 : Hid (((w.alloc (.cells #[.bool false, .slice A1 (mrgsT c.T).length c1, .slice none 0 0, .slice A3 (someX c.xs (min c.xs.length 6)).length c3, .slice A4 (someC c.cs).length c4, .slice A5 (someJ c.js).length c5] 48)).alloc (.cells #[.slice none 0 0, .slice none 0 0, .slice none 0 0, .slice none 0 0, .slice none 0 0] 38)).heap[bs]? = some (.cells #[.bool false, .slice A1 (mrgsT c.T).length c1, .slice none 0 0, .slice A3 (someX c.xs (min c.xs.length 6)).length c3, .slice A4 (someC c.cs).length c4, .slice A5 (someJ c.js).length c5] 48)) := Lib.hid (by rw [← hbs]; exact n1)
  have HN2 : Hid (((w.alloc (.cells #[.bool false, .slice A1 (mrgsT c.T).length c1, .slice none 0 0, .slice A3 (someX c.xs (min c.xs.length 6)).length c3, .slice A4 (someC c.cs).length c4, .slice A5 (someJ c.js).length c5] 48)).alloc (.cells #[.slice none 0 0, .slice none 0 0, .slice none 0 0, .slice none 0 0, .slice none 0 0] 38)).heap[bs + 1]? = some (.cells #[.slice none 0 0, .slice none 0 0, .slice none 0 0, .slice none 0 0, .slice none 0 0] 38)) := Lib.hid (by rw [← hbs]; exact n2)
  have HB := Lib.hid b2
  clear b2 n1 n2
  go_enter Tryz.func43, Tryz.ntmps43
  go_upto_region 1 with fail
  (try rw [hbs])
  clear hbs
  generalize (w.alloc (.cells #[.bool false, .slice A1 (mrgsT c.T).length c1, .slice none 0 0, .slice A3 (someX c.xs (min c.xs.length 6)).length c3, .slice A4 (someC c.cs).length c4, .slice A5 (someJ c.js).length c5] 48)).alloc (.cells #[.slice none 0 0, .slice none 0 0, .slice none 0 0, .slice none 0 0, .slice none 0 0] 38) = w1 at *
  have s0 := blk_cell HN1.out 0
  have s1 := blk_cell HN1.out 1
  have s2 := blk_cell HN1.out 2
  have s3 := blk_cell HN1.out 3
  have s4 := blk_cell HN1.out 4
  have s5 := blk_cell HN1.out 5
  simp only [List.getElem?_toArray, List.getElem?_cons_zero, List.getElem?_cons_succ] at s0 s1 s2 s3 s4 s5
  go_upto_region 2 with (go_at_call 75; refine (HN.out _ HB.out).mono ?_; rintro e w2 ⟨⟨r, rfl, hr, ha3, ha4, ha5⟩, hb⟩; (have HA3 := Lib.hid ha3); (have HA4 := Lib.hid ha4); (have HA5 := Lib.hid ha5); clear ha3 ha4 ha5; (unfold RVoc.val); (have HR := Lib.hid hr); (have HB2 := Lib.hid hb); clear hr hb s0 s1 s2 s3 s4 s5)
  have hb3 := (Below.refl w2.heap.size w2).alloc (Nat.le_refl _) (.cells #[.slice r.A1 c.T.length r.c1, .slice r.A2 (mrgsT c.T).length r.c2, .slice r.A3 (someC c.cs).length r.c3, .slice r.A4 (someJ c.js).length r.c4, .slice r.A5 (someX c.xs (min c.xs.length 6)).length r.c5] 38)
  have HTV := Lib.hid (blk_new w2 (.cells #[.slice r.A1 c.T.length r.c1, .slice r.A2 (mrgsT c.T).length r.c2, .slice r.A3 (someC c.cs).length r.c3, .slice r.A4 (someJ c.js).length r.c4, .slice r.A5 (someX c.xs (min c.xs.length 6)).length r.c5] 38))
  have HB3 := Lib.hid (HB2.out.trans (hb3.mono HB2.out.size))
  have HRF := Lib.hid (HR.out.below hb3 (Nat.le_refl _))
  have HN23 := Lib.hid (blk_below HB3.out (blk_lt HN2.out) HN2.out)
  have HBW := Lib.hid (HB.out.trans (HB3.out.mono HB.out.size))
  have HTG := Lib.hid HB2.out.size
  clear hb3 HR
  generalize w2.heap.size = tv at *
  generalize w2.alloc (.cells #[.slice r.A1 c.T.length r.c1, .slice r.A2 (mrgsT c.T).length r.c2, .slice r.A3 (someC c.cs).length r.c3, .slice r.A4 (someJ c.js).length r.c4, .slice r.A5 (someX c.xs (min c.xs.length 6)).length r.c5] 38) = w3 at *
  have t0 := blk_cell HTV.out 0
  have t1 := blk_cell HTV.out 1
  have t2 := blk_cell HTV.out 2
  have t3 := blk_cell HTV.out 3
  have t4 := blk_cell HTV.out 4
  have g0 := blk_cell HN23.out 0
  have g1 := blk_cell HN23.out 1
  have g2 := blk_cell HN23.out 2
  have g3 := blk_cell HN23.out 3
  have g4 := blk_cell HN23.out 4
  have z0 := blk_froz HN23.out 0
  have z1 := blk_froz HN23.out 1
  have z2 := blk_froz HN23.out 2
  have z3 := blk_froz HN23.out 3
  have z4 := blk_froz HN23.out 4
  simp only [List.getElem?_toArray, List.getElem?_cons_zero, List.getElem?_cons_succ] at t0 t1 t2 t3 t4 g0 g1 g2 g3 g4
  go_wp2_with fail
  have HD := voc_done (r := r) (W := w3) (rb := bs + 1) HBW.out (by have := HBS.out; omega) (blk_lt HN2.out) HN23.out HRF.out.ref (by rw [HA3.out]; exact HS.out.cs) (by rw [HA4.out]; exact HS.out.js) (by rw [HA5.out]; exact HS.out.xs)
    (.slice r.A1 c.T.length r.c1) (.slice r.A2 (mrgsT c.T).length r.c2) (.slice r.A3 (someC c.cs).length r.c3) (.slice r.A4 (someJ c.js).length r.c4) (.slice r.A5 (someX c.xs (min c.xs.length 6)).length r.c5)
  refine ret_cell1 (r := bs + 1) rfl rfl (load_voc HD.1) ?_
  exact ⟨⟨r, rfl, HD.2.1⟩, HD.2.2⟩
end
def AllSl (w : World) (g : Nat) : Prop := ∀ o v, w.cell? ⟨g, o, none⟩ = some v → ∃ A n c, v = .slice A n c
theorem Sl.keepS {α : Type} {w w' : World} {A : Option Addr} {enc : α → List Value} {sz g : Nat} {xs : List α} (h : Sl w A enc sz xs) (k : Keep (fun x => x = g) w w') (hg : AllSl w g) (he : ∀ (x : α) (j : Nat) (A : Option Addr) (n c : Nat), (enc x)[j]? ≠ some (Value.slice A n c)) : Sl w' A enc sz xs := by
  intro i x hx
  obtain ⟨b, o, e, hc⟩ := h i x hx
  refine ⟨b, o, e, fun j v hv => ?_⟩
  have h1 := hc j v hv
  have hb : b ≠ g := by
    intro hbg
    rw [hbg] at h1
    obtain ⟨A, n, c, rfl⟩ := hg _ _ h1
    exact he x j A n c hv
  have hlt : b < w.heap.size := by
    apply Classical.byContradiction
    intro hn
    have h0 : w.heap[b]? = none := by simp; omega
    simp [World.cell?, h0] at h1
  have hbk := k.block b hlt hb
  simp only [World.cell?] at h1 ⊢
  rw [hbk]
  exact h1
theorem encM_ns (x : Int × Int) (j : Nat) (A : Option Addr) (n c : Nat) : (encM x)[j]? ≠ some (.slice A n c) := by
  rcases j with _ | _ | j <;> simp [encM]
theorem encIS_ns (x : Int × List UInt8) (j : Nat) (A : Option Addr) (n c : Nat) : (encIS x)[j]? ≠ some (.slice A n c) := by
  rcases j with _ | _ | j <;> simp [encIS, strV]
theorem encCls_ns (x : Cls) (j : Nat) (A : Option Addr) (n c : Nat) : (encCls x)[j]? ≠ some (.slice A n c) := by
  rcases j with _ | _ | _ | j <;> simp [encCls]
theorem encJn_ns (x : Jn) (j : Nat) (A : Option Addr) (n c : Nat) : (encJn x)[j]? ≠ some (.slice A n c) := by
  rcases j with _ | _ | j <;> simp [encJn]
theorem RVocIs.keepS {w w' : World} {base g : Nat} {c : CaseP} {r : RVoc} (h : RVocIs w base c r) (k : Keep (fun x => x = g) w w') (hb : g < base) (hg : AllSl w g) : RVocIs w' base c r :=
  ⟨h.ref.keep k (fun x hx => by omega), Sl.keepS h.cs k hg encCls_ns, Sl.keepS h.js k hg encJn_ns, Sl.keepS h.xs k hg encIS_ns⟩
theorem Sl1.keepS {α : Type} {w w' : World} {A : Option Addr} {enc : α → Value} {g : Nat} {xs : List α} (h : Sl1 w A enc xs) (k : Keep (fun x => x = g) w w') (hg : AllSl w g) (he : ∀ (x : α) (A : Option Addr) (n c : Nat), enc x ≠ Value.slice A n c) : Sl1 w' A enc xs := by
  intro i x hx
  obtain ⟨b, o, e, h1⟩ := h i x hx
  refine ⟨b, o, e, ?_⟩
  have hb : b ≠ g := by
    intro hbg
    rw [hbg] at h1
    obtain ⟨A, n, c, h2⟩ := hg _ _ h1
    exact he x A n c h2
  have hlt : b < w.heap.size := by
    apply Classical.byContradiction
    intro hn
    have h0 : w.heap[b]? = none := by simp; omega
    simp [World.cell?, h0] at h1
  have hbk := k.block b hlt hb
  simp only [World.cell?] at h1 ⊢
  rw [hbk]
  exact h1
theorem SpecAt.keepS {w w' : World} {s : SpecP} {AM AT AX AC AJ : Option Addr} {g : Nat} (h : SpecAt w s AM AT AX AC AJ) (k : Keep (fun x => x = g) w w') (hg : AllSl w g) : SpecAt w' s AM AT AX AC AJ :=
  ⟨Sl.keepS h.ms k hg encM_ns, Sl1.keepS h.ts k hg (fun x A n c => by simp [strV]), Sl.keepS h.xs k hg encIS_ns, Sl.keepS h.cs k hg encCls_ns, Sl.keepS h.js k hg encJn_ns, h.len⟩
theorem keep_cut {V0 w w' : World} {g : Nat} (hb : Below V0.heap.size V0 w) (k : Keep (fun x => x = g) w w') : ∃ V' : World, V'.heap.size = V0.heap.size ∧ Keep (fun x => x = g) V0 V' ∧ Below V'.heap.size V' w' := by
  have h1 := hb.size
  have h2 := k.size
  have hs : (w'.heap.extract 0 V0.heap.size).size = V0.heap.size := by simp; omega
  have hx : ∀ i, i < V0.heap.size → (w'.heap.extract 0 V0.heap.size)[i]? = w'.heap[i]? := by
    intro i hi
    simp [Array.getElem?_extract, hi]
    intro _
    omega
  refine ⟨{ w' with heap := w'.heap.extract 0 V0.heap.size }, hs, ⟨k.os.trans hb.os, k.tape.trans hb.tape, k.output.trans hb.output, by simp only [hs]; exact Nat.le_refl _, fun i hi hf => ?_⟩, ⟨rfl, rfl, rfl, by simp only [hs]; omega, fun i hi => ?_⟩⟩
  · simp only [hx i hi]
    rw [k.block i (by omega) hf, hb.block i hi]
  · simp only [hs] at hi
    simp only [hx i hi]
theorem VocAt.keepS {w w' : World} {base g : Nat} {p : VocP} {a : Array Value} {fz : Nat × Nat} (h : VocAt w base p none) (k : Keep (fun x => x = g) w w') (hgb : g < base) (hg : AllSl w g) (hc : w.heap[g]? = some (.cells a 38 fz)) : VocAt w' base p none := by
  obtain ⟨l, dn, st, se, us, h1, h2⟩ := h
  refine ⟨l, dn, st, se, us, ?_, ?_⟩
  · obtain ⟨V0, a1, a2, a3, a4, a5, a6⟩ := h1.org
    obtain ⟨V', e1, e2, e3⟩ := keep_cut a6 k
    have hlt := h1.lt
    have hg0 : AllSl V0 g := fun o v hv => hg o v (below_cell a6 (Nat.le_refl _) hv)
    have hbk : p.bk ≠ g := by
      intro hbg
      have h3 := (VocQ.bnd h1).1
      rw [hbg, hc] at h3
      injection h3 with h3
      injection h3 with _ h3 _
      exact absurd h3 (by decide)
    refine ⟨k.blk h1.blk (by omega), ⟨V', by omega, a2.keepS e2 hg0, a3.keep e2 (fun x hx hf => ?_), ⟨e2.blk a4.1 hbk, a4.2⟩, ?_, e3⟩, h1.lt⟩
    · subst hf
      have hl := a3.lt
      rcases hx with hx | hx | hx | hx
      · omega
      · have := own_base a3.row _ hx
        omega
      · omega
      · omega
    · have hl := a5.lt
      exact ⟨e2.blk a5.blk (by omega), own_keep a5.row e2 (fun x hx hf => by have := own_base a5.row _ hx; omega), a5.ids.keep e2 (by omega), a5.txs.keep e2 (by omega), a5.ne, a5.lt⟩
  · rcases h2 with h2 | ⟨r, h3, _⟩
    · exact .inl h2
    · exact absurd h3 (by simp)
theorem VocAt.less {w : World} {b base : Nat} {p : VocP} {g : Option Nat} (h : VocAt w b p g) (hle : base ≤ b) : VocAt w base p g := by
  obtain ⟨l, dn, st, se, us, h1, h2⟩ := h
  have := h1.lt
  exact ⟨l, dn, st, se, us, ⟨h1.blk, h1.org, by omega⟩, h2⟩
theorem RVocIs.less {w : World} {b base : Nat} {c : CaseP} {r : RVoc} (h : RVocIs w b c r) (hle : base ≤ b) : RVocIs w base c r := ⟨h.ref.less hle, h.cs, h.js, h.xs⟩
theorem allSl_nil {w : World} {g : Nat} {t : TypeId} (h : w.heap[g]? = some (.cells #[.slice none 0 0, .slice none 0 0, .slice none 0 0, .slice none 0 0, .slice none 0 0] t)) : AllSl w g := by
  intro o v hv
  have h1 := blk_cell h o
  rw [hv] at h1
  rcases o with _ | _ | _ | _ | _ | o <;> simp at h1 <;> exact ⟨_, _, _, h1⟩
theorem results_tmp_vc {fn : Func} {p u : Tmp} {ty : TypeId} (h : fn.results = #[.tmp u, .cell p ty]) (tmps : Array Value) (P : Program) (w : World) :
    (results fn tmps).run P w = ((asAddr (tmps.getD p undef)).run P w).andThen fun a w₁ => ((loadVar ty a).run P w₁).andThen fun y w₂ => .ok (.tuple #[tmps.getD u undef, y]) w₂ := by
  simp only [results, h]
  simp [Sem.run_bind, Result.andThen]
theorem ret_voc1 {fn : Func} {R : Ending → World → Prop} {tmps : Array Value} {w : World} {r : Nat} {A1 A2 A3 A4 A5 : Option Addr} {n1 n2 n3 n4 n5 c1 c2 c3 c4 c5 : Nat} {x : Value} {p q : Tmp}
    (h : fn.results = #[.tmp q, .cell p 38]) (hp : tmps.getD p undef = .pointer (some ⟨r, 0, none⟩)) (hq : tmps.getD q undef = x)
    (hl : w.heap[r]? = some (.cells #[.slice A1 n1 c1, .slice A2 n2 c2, .slice A3 n3 c3, .slice A4 n4 c4, .slice A5 n5 c5] 38))
    (hR : R (.returned (.tuple #[x, .agg #[.slice A1 n1 c1, .slice A2 n2 c2, .slice A3 n3 c3, .slice A4 n4 c4, .slice A5 n5 c5]])) w) : bodyPost Tryz.prog fn R .ret ⟨tmps, []⟩ w := by
  refine bodyPost_ret (v := .tuple #[x, .agg #[.slice A1 n1 c1, .slice A2 n2 c2, .slice A3 n3 c3, .slice A4 n4 c4, .slice A5 n5 c5]]) ?_ rfl hR
  rw [results_tmp_vc h, hp, hq]
  simp [asAddr, load_voc hl, Result.andThen]
theorem of_done {W : World} {rb : Nat} {c : CaseP} {r : RVoc} {p : VocP} {b1 b2 : Nat} (h1 : rb < b1) (h2 : rb < b2) (hn : W.heap[rb]? = some (.cells #[.slice none 0 0, .slice none 0 0, .slice none 0 0, .slice none 0 0, .slice none 0 0] 38))
    (hv : VocAt W b1 p none) (hr : RVocIs W b2 c r) (v0 v1 v2 v3 v4 : Value) :
    (((((W.setCell ⟨rb, 0, none⟩ v0).setCell ⟨rb, 1, none⟩ v1).setCell ⟨rb, 2, none⟩ v2).setCell ⟨rb, 3, none⟩ v3).setCell ⟨rb, 4, none⟩ v4).heap[rb]? = some (.cells #[v0, v1, v2, v3, v4] 38) ∧
    VocAt (((((W.setCell ⟨rb, 0, none⟩ v0).setCell ⟨rb, 1, none⟩ v1).setCell ⟨rb, 2, none⟩ v2).setCell ⟨rb, 3, none⟩ v3).setCell ⟨rb, 4, none⟩ v4) b1 p none ∧
    RVocIs (((((W.setCell ⟨rb, 0, none⟩ v0).setCell ⟨rb, 1, none⟩ v1).setCell ⟨rb, 2, none⟩ v2).setCell ⟨rb, 3, none⟩ v3).setCell ⟨rb, 4, none⟩ v4) b2 c r ∧
    Keep (fun g => g = rb) W (((((W.setCell ⟨rb, 0, none⟩ v0).setCell ⟨rb, 1, none⟩ v1).setCell ⟨rb, 2, none⟩ v2).setCell ⟨rb, 3, none⟩ v3).setCell ⟨rb, 4, none⟩ v4) := by
  have b1 := blk_set (blk_set (blk_set (blk_set (blk_set hn 0 v0) 1 v1) 2 v2) 3 v3) 4 v4
  simp only [List.setIfInBounds_toArray, List.set_cons_zero, List.set_cons_succ] at b1
  have K := ((((Keep.refl (fun g => g = rb) W).setCell (p := ⟨rb, 0, none⟩) (Or.inl rfl) v0).setCell (p := ⟨rb, 1, none⟩) (Or.inl rfl) v1).setCell (p := ⟨rb, 2, none⟩) (Or.inl rfl) v2).setCell (p := ⟨rb, 3, none⟩) (Or.inl rfl) v3
  have K := K.setCell (p := ⟨rb, 4, none⟩) (Or.inl rfl) v4
  exact ⟨b1, hv.keepS K h1 (allSl_nil hn) hn, hr.keepS K h2 (allSl_nil hn), K⟩
section
variable {w : World} {c : CaseP} {AL AC AJ AX : Option Addr} {cL cC cJ cX : Nat}
theorem of12_any (h : CaseAt w c AL AC AJ AX cL cC cJ cX) (ho : CaseOk c) :
    Calls Tryz.prog 13 #[.agg #[.slice AL c.l.length cL, .slice AC c.cs.length cC, .slice AJ c.js.length cJ, .slice AX c.xs.length cX]] w fun e w' => (∃ p r, e = .returned (.tuple #[.pointer (some ⟨p.vb, 0, none⟩), r.val c]) ∧ VocAt w' w.heap.size p none ∧ p.T = c.T ∧ p.s = c.spec ∧ RVocIs w' w.heap.size c r) ∧ Below w.heap.size w w' := by
  have HS := Lib.hid (fun V (hV : Below w.heap.size w V) => some_any (h.below hV (Nat.le_refl _)) ho)
  have HV : Hid (∀ (W : World) (A1 A3 A4 A5 : Option Addr) (c1 c3 c4 c5 : Nat), SpecAt W c.spec A1 none A3 A4 A5 → _) := Lib.hid (fun W A1 A3 A4 A5 c1 c3 c4 c5 hs => vnew_case (w := W) (c1 := c1) (c3 := c3) (c4 := c4) (c5 := c5) c hs)
  have HO : Hid (∀ (W : World) (A1 A3 A4 A5 : Option Addr) (c1 c3 c4 c5 : Nat), SpecAt W c.spec A1 none A3 A4 A5 → _) := Lib.hid (fun W A1 A3 A4 A5 c1 c3 c4 c5 hs => rof10_any (w := W) (c1 := c1) (c3 := c3) (c4 := c4) (c5 := c5) c hs)
  clear h ho
  have b2 := ((Below.refl w.heap.size w).alloc (Nat.le_refl _) (.cells #[.slice AL c.l.length cL, .slice AC c.cs.length cC, .slice AJ c.js.length cJ, .slice AX c.xs.length cX] 27)).alloc (by simp) (.cells #[.slice none 0 0, .slice none 0 0, .slice none 0 0, .slice none 0 0, .slice none 0 0] 38)
  have n1 := blk_alloc (blk_new w (.cells #[.slice AL c.l.length cL, .slice AC c.cs.length cC, .slice AJ c.js.length cJ, .slice AX c.xs.length cX] 27)) (.cells #[.slice none 0 0, .slice none 0 0, .slice none 0 0, .slice none 0 0, .slice none 0 0] 38)
  have n2 := blk_new (w.alloc (.cells #[.slice AL c.l.length cL, .slice AC c.cs.length cC, .slice AJ c.js.length cJ, .slice AX c.xs.length cX] 27)) (.cells #[.slice none 0 0, .slice none 0 0, .slice none 0 0, .slice none 0 0, .slice none 0 0] 38)
  rw [size_alloc] at n2
  obtain ⟨bs, hbs⟩ : ∃ b, w.heap.size = b := ⟨_, rfl⟩
  have HBS := Lib.hid (Nat.le_of_eq hbs)
  have HN1 : Hid (((w.alloc (.cells #[.slice AL c.l.length cL, .slice AC c.cs.length cC, .slice AJ c.js.length cJ, .slice AX c.xs.length cX] 27)).alloc (.cells #[.slice none 0 0, .slice none 0 0, .slice none 0 0, .slice none 0 0, .slice none 0 0] 38)).heap[bs]? = some (.cells #[.slice AL c.l.length cL, .slice AC c.cs.length cC, .slice AJ c.js.length cJ, .slice AX c.xs.length cX] 27)) := Lib.hid (by rw [← hbs]; exact n1)
  have HN2 : Hid (((w.alloc (.cells #[.slice AL c.l.length cL, .slice AC c.cs.length cC, .slice AJ c.js.length cJ, .slice AX c.xs.length cX] 27)).alloc (.cells #[.slice none 0 0, .slice none 0 0, .slice none 0 0, .slice none 0 0, .slice none 0 0] 38)).heap[bs + 1]? = some (.cells #[.slice none 0 0, .slice none 0 0, .slice none 0 0, .slice none 0 0, .slice none 0 0] 38)) := Lib.hid (by rw [← hbs]; exact n2)
  have HB := Lib.hid b2
  clear b2 n1 n2
  unfold specW specV at HS HV HO
  simp only [CaseP.spec, List.length_nil] at HS HV HO
  go_enter Tryz.func13, Tryz.ntmps13
  go_upto_region 1 with fail
  (try rw [hbs])
  clear hbs
  generalize (w.alloc (.cells #[.slice AL c.l.length cL, .slice AC c.cs.length cC, .slice AJ c.js.length cJ, .slice AX c.xs.length cX] 27)).alloc (.cells #[.slice none 0 0, .slice none 0 0, .slice none 0 0, .slice none 0 0, .slice none 0 0] 38) = w1 at *
  have s0 := blk_cell HN1.out 0
  have s1 := blk_cell HN1.out 1
  have s2 := blk_cell HN1.out 2
  have s3 := blk_cell HN1.out 3
  simp only [List.getElem?_toArray, List.getElem?_cons_zero, List.getElem?_cons_succ] at s0 s1 s2 s3
  go_upto_region 2 with (go_at_call 42; refine (HS.out _ HB.out).mono ?_; rintro e w2 ⟨⟨A1, A3, A4, A5, c1, c3, c4, c5, rfl, hs⟩, hb⟩; (have HX := Lib.hid hs); (have HB2 := Lib.hid hb); clear hs hb s0 s1 s2 s3)
  have hb3 := (Below.refl w2.heap.size w2).alloc (Nat.le_refl _) (.cells #[.bool false, .slice A1 (mrgsT c.T).length c1, .slice none 0 0, .slice A3 (someX c.xs (min c.xs.length 6)).length c3, .slice A4 (someC c.cs).length c4, .slice A5 (someJ c.js).length c5] 48)
  have HTV := Lib.hid (blk_new w2 (.cells #[.bool false, .slice A1 (mrgsT c.T).length c1, .slice none 0 0, .slice A3 (someX c.xs (min c.xs.length 6)).length c3, .slice A4 (someC c.cs).length c4, .slice A5 (someJ c.js).length c5] 48))
  have HB3 := Lib.hid (HB2.out.trans (hb3.mono HB2.out.size))
  have HX3 := Lib.hid (HX.out.below hb3 (Nat.le_refl _))
  have HBW := Lib.hid (HB.out.trans (HB3.out.mono HB.out.size))
  have HTG := Lib.hid HB2.out.size
  clear hb3 HX
  generalize w2.heap.size = tv at *
  generalize w2.alloc (.cells #[.bool false, .slice A1 (mrgsT c.T).length c1, .slice none 0 0, .slice A3 (someX c.xs (min c.xs.length 6)).length c3, .slice A4 (someC c.cs).length c4, .slice A5 (someJ c.js).length c5] 48) = w3 at *
  have s0 := blk_cell HTV.out 0
  have s1 := blk_cell HTV.out 1
  have s2 := blk_cell HTV.out 2
  have s3 := blk_cell HTV.out 3
  have s4 := blk_cell HTV.out 4
  have s5 := blk_cell HTV.out 5
  simp only [List.getElem?_toArray, List.getElem?_cons_zero, List.getElem?_cons_succ] at s0 s1 s2 s3 s4 s5
  have HVN := Lib.hid (HV.out w3 A1 A3 A4 A5 c1 c3 c4 c5 HX3.out)
  go_upto_region 3 with (go_at_call 15; refine HVN.out.mono ?_; rintro e w4 ⟨⟨p, rfl, hva, hpT, hps⟩, hb⟩; (have HVA := Lib.hid hva); (have HPT := Lib.hid hpT); (have HPS := Lib.hid hps); (have HB4 := Lib.hid hb); clear hva hpT hps hb s0 s1 s2 s3 s4 s5)
  have HX4 := Lib.hid (HX3.out.below HB4.out (Nat.le_refl _))
  have HTV4 := Lib.hid (blk_below HB4.out (blk_lt HTV.out) HTV.out)
  have s0 := blk_cell HTV4.out 0
  have s1 := blk_cell HTV4.out 1
  have s2 := blk_cell HTV4.out 2
  have s3 := blk_cell HTV4.out 3
  have s4 := blk_cell HTV4.out 4
  have s5 := blk_cell HTV4.out 5
  simp only [List.getElem?_toArray, List.getElem?_cons_zero, List.getElem?_cons_succ] at s0 s1 s2 s3 s4 s5
  have HON := Lib.hid (HO.out w4 A1 A3 A4 A5 c1 c3 c4 c5 HX4.out)
  go_wp2_with (go_at_call 43; refine HON.out.mono ?_; rintro e w5 ⟨⟨r, rfl, hr⟩, hb⟩; (unfold RVoc.val); (have HR := Lib.hid hr); (have HB5 := Lib.hid hb); clear hr hb s0 s1 s2 s3 s4 s5; (have HN25 := Lib.hid (blk_below (HB3.out.trans ((HB4.out.trans (HB5.out.mono HB4.out.size)).mono HB3.out.size)) (blk_lt HN2.out) HN2.out)); (have g0 := blk_cell HN25.out 0); (have g1 := blk_cell HN25.out 1); (have g2 := blk_cell HN25.out 2); (have g3 := blk_cell HN25.out 3); (have g4 := blk_cell HN25.out 4); (have z0 := blk_froz HN25.out 0); (have z1 := blk_froz HN25.out 1); (have z2 := blk_froz HN25.out 2); (have z3 := blk_froz HN25.out 3); (have z4 := blk_froz HN25.out 4); (simp only [List.getElem?_toArray, List.getElem?_cons_zero, List.getElem?_cons_succ] at g0 g1 g2 g3 g4))
  have hbb := blk_lt HN2.out
  have hz3 := HB3.out.size
  have hz4 := HB4.out.size
  have hzb := HB.out.size
  have HD := of_done (W := w5) (rb := bs + 1) (b1 := w3.heap.size) (b2 := w4.heap.size) (by omega) (by omega) HN25.out (HVA.out.below HB5.out (Nat.le_refl _)) HR.out
    (.slice r.A1 c.T.length r.c1) (.slice r.A2 (mrgsT c.T).length r.c2) (.slice r.A3 (someC c.cs).length r.c3) (.slice r.A4 (someJ c.js).length r.c4) (.slice r.A5 (someX c.xs (min c.xs.length 6)).length r.c5)
  have hB : Below w.heap.size w w5 := HBW.out.trans ((HB4.out.trans (HB5.out.mono HB4.out.size)).mono HBW.out.size)
  refine ret_voc1 (r := bs + 1) rfl rfl rfl HD.1 ⟨⟨p, r, rfl, HD.2.1.less HBW.out.size, HPT.out, HPS.out, HD.2.2.1.less (by omega)⟩, hB.trans (HD.2.2.2.below hB.size (fun x hx => by have := HBS.out; omega))⟩
end
section
variable {w : World} {xs : List (Int × List UInt8)} {AL AC AJ AX : Option Addr} {cL cC cJ cX nl nc nj : Nat}
theorem great12_any (h : Sl w AX encIS 2 xs) (hl : xs.length ≤ 9223372036854775807) :
    Calls Tryz.prog 11 #[.agg #[.slice AL nl cL, .slice AC nc cC, .slice AJ nj cJ, .slice AX xs.length cX]] w fun e w' => e = .returned (.int .i64 (if (decide (60 < nl) || decide (20 < nc) || decide (20 < nj) || greatX xs) = true then 1 else 0)) ∧ Below w.heap.size w w' := by
  have HB := Lib.hid ((Below.refl w.heap.size w).alloc (Nat.le_refl _) (.cells #[.slice AL nl cL, .slice AC nc cC, .slice AJ nj cJ, .slice AX xs.length cX] 27))
  have HN1 := Lib.hid (blk_new w (.cells #[.slice AL nl cL, .slice AC nc cC, .slice AJ nj cJ, .slice AX xs.length cX] 27))
  have HG := Lib.hid (rgreat_any (nl := nl) (nc := nc) (nj := nj) (cL := cL) (cC := cC) (cJ := cJ) (AL := AL) (AC := AC) (AJ := AJ) (c := cX) (h.below HB.out (Nat.le_refl _)) hl)
  clear h hl
  obtain ⟨G, hG⟩ : ∃ G, (decide (60 < nl) || decide (20 < nc) || decide (20 < nj) || greatX xs) = G := ⟨_, rfl⟩
  rw [hG] at HG ⊢
  clear hG
  go_enter Tryz.func11, Tryz.ntmps11
  go_upto_region 1 with fail
  obtain ⟨bs, hbs⟩ : ∃ b, w.heap.size = b := ⟨_, rfl⟩
  rw [hbs] at HN1 ⊢
  generalize w.alloc (.cells #[.slice AL nl cL, .slice AC nc cC, .slice AJ nj cJ, .slice AX xs.length cX] 27) = w1 at *
  have s0 := blk_cell HN1.out 0
  have s1 := blk_cell HN1.out 1
  have s2 := blk_cell HN1.out 2
  have s3 := blk_cell HN1.out 3
  simp only [List.getElem?_toArray, List.getElem?_cons_zero, List.getElem?_cons_succ] at s0 s1 s2 s3
  cases G
  · go_wp2_with (go_at_call 41; refine HG.out.mono ?_; rintro e w2 ⟨rfl, rfl⟩)
    go_ret
    exact ⟨rfl, hbs ▸ HB.out⟩
  · go_wp2_with (go_at_call 41; refine HG.out.mono ?_; rintro e w2 ⟨rfl, rfl⟩)
    go_ret
    exact ⟨rfl, hbs ▸ HB.out⟩
end
def stg (T : List Ent) (k : Nat) (s : List UInt8) : List Int := seqE ((mrgsT T).take k) 256 (bysI s)
theorem encT_stg (T : List Ent) (bel : Int) (s : List UInt8) : encT T bel s = stg T (bel - 256).toNat s := rfl
theorem seqE_append : ∀ (M N : List (Int × Int)) (c : Int) (l : List Int), seqE (M ++ N) c l = seqE N (c + (M.length : Nat)) (seqE M c l)
  | [], N, c, l => by simp [seqE]
  | m :: M, N, c, l => by
    rw [List.cons_append, seqE, seqE, seqE_append M N (c + 1)]
    congr 1
    simp only [List.length_cons]; omega
theorem seqE_single : ∀ (M : List (Int × Int)) (c x : Int), seqE M c [x] = [x]
  | [], _, _ => rfl
  | m :: M, c, x => by rw [seqE]; exact seqE_single M (c + 1) x
theorem stg_succ {T : List Ent} {k : Nat} {m : Int × Int} (h : (mrgsT T)[k]? = some m) (s : List UInt8) : stg T (k + 1) s = rep m.1 m.2 (256 + k) (stg T k s) := by
  have hlt : k < (mrgsT T).length := (List.getElem?_eq_some_iff.1 h).1
  have e : (mrgsT T).take (k + 1) = (mrgsT T).take k ++ [m] := by rw [List.take_add_one, h]; rfl
  unfold stg
  rw [e, seqE_append, seqE, seqE, List.length_take, Nat.min_eq_left (Nat.le_of_lt hlt)]
theorem stg_more {T : List Ent} {k : Nat} (h : (mrgsT T)[k]? = none) (s : List UInt8) : stg T (k + 1) s = stg T k s := by
  have hlt : (mrgsT T).length ≤ k := List.getElem?_eq_none_iff.1 h
  unfold stg
  rw [List.take_of_length_le (by omega), List.take_of_length_le hlt]
theorem stg_later (T : List Ent) {j k : Nat} (h : j ≤ k) : ∃ M c, ∀ s, stg T k s = seqE M c (stg T j s) := by
  obtain ⟨N, hN⟩ : ∃ N, (mrgsT T).take k = (mrgsT T).take j ++ N := by
    refine ⟨((mrgsT T).take k).drop j, ?_⟩
    have h1 := List.take_append_drop j ((mrgsT T).take k)
    rw [List.take_take, Nat.min_eq_left h] at h1
    exact h1.symm
  refine ⟨N, 256 + ((((mrgsT T).take j).length : Nat) : Int), fun s => ?_⟩
  unfold stg
  rw [hN, seqE_append]
theorem stg_keep {T : List Ent} {j k : Nat} (h : j ≤ k) {s : List UInt8} {x : Int} (hs : stg T j s = [x]) : stg T k s = [x] := by
  obtain ⟨M, c, hM⟩ := stg_later T h
  rw [hM, hs, seqE_single]
theorem stg_enc {T : List Ent} (k : Nat) (s : List UInt8) : stg T k s = encT T (256 + (k : Int)) s := by
  rw [encT_stg]; congr 1; omega
theorem stg_cut {T : List Ent} (hT : OkT T) (k : Nat) (a b : List UInt8) {W1 W2 : List Int} (h : stg T k (a ++ b) = W1 ++ W2) (hl : (catT T W1).length = a.length) : W1 = stg T k a ∧ W2 = stg T k b := by
  rw [stg_enc] at h ⊢
  rw [stg_enc]
  exact encT_cut hT _ a b h hl
theorem stg_cat {T : List Ent} (hT : OkT T) (k : Nat) (s : List UInt8) : catT T (stg T k s) = s := by rw [stg_enc]; exact encT_cat hT _ s
theorem stg_has {T : List Ent} (hT : OkT T) (k : Nat) (s : List UInt8) : ∀ x ∈ stg T k s, hasT T x = true := by rw [stg_enc]; exact encT_has hT _ s
theorem bysI_lt (s : List UInt8) : ∀ x ∈ bysI s, 0 ≤ x ∧ x < 256 := by
  intro x hx
  unfold bysI at hx
  obtain ⟨c, _, rfl⟩ := List.mem_map.1 hx
  have := c.toNat_lt
  omega
theorem stg_lt (T : List Ent) (k : Nat) (s : List UInt8) : ∀ x ∈ stg T k s, x < 256 + (k : Int) := by
  unfold stg
  refine seqE_all (fun x => x < 256 + (k : Int)) _ _ _ (fun j hj => ?_) (fun x hx => ?_)
  · rw [List.length_take] at hj
    omega
  · have := bysI_lt s x hx
    omega
theorem rep_ne_nil (a b c : Int) : ∀ l : List Int, l ≠ [] → rep a b c l ≠ []
  | [], h => absurd rfl h
  | [x], _ => by simp [rep]
  | x :: y :: l, _ => by rw [rep]; split <;> simp
theorem last_cons {x : Int} {l : List Int} (h : l ≠ []) : (x :: l).getLast? = l.getLast? := by
  cases l with
  | nil => exact absurd rfl h
  | cons y l => rw [List.getLast?_cons_cons]
theorem rep_cat2 (a b c : Int) : ∀ l r : List Int, ¬ ((rep a b c l).getLast? = some a ∧ r.head? = some b) → rep a b c (l ++ r) = rep a b c l ++ rep a b c r
  | [], r, _ => rfl
  | [x], [], _ => rfl
  | [x], y :: r, h => by
    have h1 : ¬ (x = a ∧ y = b) := by simpa [rep] using h
    show rep a b c (x :: y :: r) = _
    rw [rep, if_neg h1]
    rfl
  | x :: y :: l, r, h => by
    show rep a b c (x :: y :: (l ++ r)) = _
    rw [rep] at h ⊢
    rw [rep]
    split
    · rename_i e
      rw [if_pos e] at h
      rw [rep_cat2 a b c l r ?_]
      · rfl
      · rintro ⟨h1, h2⟩
        refine h ⟨?_, h2⟩
        rw [last_cons (fun e => by rw [e] at h1; simp at h1)]
        exact h1
    · rename_i e
      rw [if_neg e] at h
      have ih := rep_cat2 a b c (y :: l) r ?_
      · have ih' : rep a b c (y :: (l ++ r)) = rep a b c (y :: l) ++ rep a b c r := ih
        rw [ih']
        rfl
      · rintro ⟨h1, h2⟩
        refine h ⟨?_, h2⟩
        rw [last_cons (rep_ne_nil _ _ _ _ (by simp))]
        exact h1
theorem rep_cross (a b c : Int) (hca : c ≠ a) : ∀ l r : List Int, (rep a b c l).getLast? = some a → ∃ p, rep a b c l = p ++ [a] ∧ rep a b c (l ++ b :: r) = p ++ c :: rep a b c r
  | [], r, h => by simp [rep] at h
  | [x], r, h => by
    have e : x = a := by simpa [rep] using h
    subst e
    refine ⟨[], rfl, ?_⟩
    show rep x b c (x :: b :: r) = _
    rw [rep, if_pos ⟨rfl, rfl⟩]
    rfl
  | x :: y :: l, r, h => by
    rw [rep] at h ⊢
    show ∃ p, _ ∧ rep a b c (x :: y :: (l ++ b :: r)) = _
    rw [rep]
    split
    · rename_i e
      rw [if_pos e] at h
      have h1 : (rep a b c l).getLast? = some a := by
        by_cases hn : rep a b c l = []
        · rw [hn] at h
          simp at h
          exact absurd h hca
        · rw [last_cons hn] at h; exact h
      obtain ⟨p, e1, e2⟩ := rep_cross a b c hca l r h1
      exact ⟨c :: p, by rw [e1]; rfl, by rw [e2]; rfl⟩
    · rename_i e
      rw [if_neg e, last_cons (rep_ne_nil _ _ _ _ (by simp))] at h
      obtain ⟨p, e1, e2⟩ := rep_cross a b c hca (y :: l) r h
      have e2' : rep a b c (y :: (l ++ b :: r)) = p ++ c :: rep a b c r := e2
      exact ⟨x :: p, by rw [e1]; rfl, by rw [e2']; rfl⟩
def NoX (T : List Ent) (L : Nat) (s u : List UInt8) : Prop := ∀ (k : Nat) m, k < L → (mrgsT T)[k]? = some m → ¬ ((stg T (k + 1) s).getLast? = some m.1 ∧ (stg T k u).head? = some m.2)
theorem stg_join {T : List Ent} {s u : List UInt8} : ∀ (L : Nat), NoX T L s u → stg T L (s ++ u) = stg T L s ++ stg T L u
  | 0, _ => by
    have e : ∀ s, stg T 0 s = bysI s := fun s => by unfold stg; simp [seqE]
    rw [e, e, e, bysI_append]
  | L + 1, h => by
    have ih := stg_join L (fun k m hk => h k m (by omega))
    cases hm : (mrgsT T)[L]? with
    | none => rw [stg_more hm, stg_more hm, stg_more hm, ih]
    | some m =>
      have h1 := h L m (by omega) hm
      rw [stg_succ hm] at h1
      rw [stg_succ hm, stg_succ hm, stg_succ hm, ih]
      exact rep_cat2 _ _ _ _ _ h1
theorem mrgs_ne {T : List Ent} (hT : OkT T) {k : Nat} {m : Int × Int} (h : (mrgsT T)[k]? = some m) : (256 : Int) + k ≠ m.1 := by
  have := mrgs_ok hT h
  omega
theorem stg_apart {T : List Ent} (hT : OkT T) {s u : List UInt8} {L : Nat} {W1 W2 : List Int} (h : stg T L (s ++ u) = W1 ++ W2) (hl : (catT T W1).length = s.length) : NoX T L s u := by
  have key : ∀ k, k ≤ L → stg T k (s ++ u) = stg T k s ++ stg T k u := by
    intro k hk
    obtain ⟨M, c, hM⟩ := stg_later T hk
    have h1 := hM (s ++ u)
    rw [h] at h1
    obtain ⟨U1, U2, e1, e2, e3⟩ := seqE_split _ _ _ _ _ h1.symm
    have hc := stg_cut hT L s u h hl
    have hb : stg T k (s ++ u) = U1 ++ U2 := e1
    have hlen : (catT T U1).length = s.length := by
      have hW : catT T W1 = s := by rw [hc.1, stg_cat hT]
      have hall := stg_cat hT k (s ++ u)
      rw [hb] at hall
      have hcat : catT T U1 ++ catT T U2 = s ++ u := by rw [← hall]; unfold catT; rw [List.flatMap_append]
      have hle : (catT T U1).length ≤ (s ++ u).length := by rw [← hcat, List.length_append]; omega
      have hU : catT T U1 = (s ++ u).take (catT T U1).length := by rw [← hcat]; simp
      have hV : catT T U2 = (s ++ u).drop (catT T U1).length := by rw [← hcat]; simp
      have hsp : (s ++ u).take (catT T U1).length ++ (s ++ u).drop (catT T U1).length = s ++ u := List.take_append_drop _ _
      have h2 := stg_cut hT k ((s ++ u).take (catT T U1).length) ((s ++ u).drop (catT T U1).length) (W1 := U1) (W2 := U2) (by rw [hsp]; exact hb) (by rw [List.length_take]; omega)
      have h3 := hM ((s ++ u).take (catT T U1).length)
      rw [← h2.1, ← e2] at h3
      have h4 := congrArg (catT T) h3
      rw [stg_cat hT, hW, ← hU] at h4
      rw [h4]
    have h5 := stg_cut hT k s u hb hlen
    rw [hb, ← h5.1, ← h5.2]
  intro k m hk hm ⟨h1, h2⟩
  have a1 := key k (by omega)
  have a2 := key (k + 1) (by omega)
  rw [stg_succ hm] at h1
  rw [stg_succ hm, stg_succ hm, stg_succ hm, a1] at a2
  cases hu : stg T k u with
  | nil => rw [hu] at h2; simp at h2
  | cons y r =>
    rw [hu] at h2 a2
    simp at h2
    subst h2
    obtain ⟨p, e1, e2⟩ := rep_cross m.1 m.2 (256 + k) (mrgs_ne hT hm) (stg T k s) r h1
    rw [e2, e1] at a2
    simp at a2
    exact absurd a2.1 (mrgs_ne hT hm)
inductive IsR (T : List Ent) : Int → Nat → Int → Prop
  | here {a : Int} {k : Nat} : a < 256 + (k : Int) → IsR T a k a
  | down {a : Int} {k : Nat} {r : Int} : 256 + (k : Int) ≤ a → IsR T (parT T a).2 k r → IsR T a k r
inductive IsL (T : List Ent) : Int → Nat → Int → Prop
  | here {a : Int} {k : Nat} : a < 256 + (k : Int) → IsL T a k a
  | down {a : Int} {k : Nat} {r : Int} : 256 + (k : Int) ≤ a → IsL T (parT T a).1 k r → IsL T a k r
theorem isR_here {T : List Ent} {a : Int} {k : Nat} {r : Int} (h : IsR T a k r) (ha : a < 256 + (k : Int)) : r = a := by
  cases h with
  | here _ => rfl
  | down h1 _ => omega
theorem isR_down {T : List Ent} {a : Int} {k : Nat} {r : Int} (h : IsR T a k r) (ha : 256 + (k : Int) ≤ a) : IsR T (parT T a).2 k r := by
  cases h with
  | here _ => omega
  | down _ h => exact h
theorem isL_here {T : List Ent} {a : Int} {k : Nat} {r : Int} (h : IsL T a k r) (ha : a < 256 + (k : Int)) : r = a := by
  cases h with
  | here _ => rfl
  | down h1 _ => omega
theorem isL_down {T : List Ent} {a : Int} {k : Nat} {r : Int} (h : IsL T a k r) (ha : 256 + (k : Int) ≤ a) : IsL T (parT T a).1 k r := by
  cases h with
  | here _ => omega
  | down _ h => exact h
theorem isR_ex {T : List Ent} (hT : OkT T) (k : Nat) : ∀ (n : Nat) (a : Int), a.toNat < n → hasT T a = true → ∃ r, IsR T a k r
  | 0, _, h, _ => absurd h (Nat.not_lt_zero _)
  | n + 1, a, h, ha => by
    by_cases hk : a < 256 + (k : Int)
    · exact ⟨a, .here hk⟩
    · obtain ⟨_, p2, _, p4⟩ := par_has hT ha (by omega)
      have := hasT_iff.1 p2
      have := hasT_iff.1 ha
      obtain ⟨r, hr⟩ := isR_ex hT k n (parT T a).2 (by omega) p2
      exact ⟨r, .down (by omega) hr⟩
theorem isL_ex {T : List Ent} (hT : OkT T) (k : Nat) : ∀ (n : Nat) (a : Int), a.toNat < n → hasT T a = true → ∃ r, IsL T a k r
  | 0, _, h, _ => absurd h (Nat.not_lt_zero _)
  | n + 1, a, h, ha => by
    by_cases hk : a < 256 + (k : Int)
    · exact ⟨a, .here hk⟩
    · obtain ⟨p2, _, p4, _⟩ := par_has hT ha (by omega)
      have := hasT_iff.1 p2
      have := hasT_iff.1 ha
      obtain ⟨r, hr⟩ := isL_ex hT k n (parT T a).1 (by omega) p2
      exact ⟨r, .down (by omega) hr⟩
def NC (T : List Ent) (a b lim : Int) : Prop := ∀ (k : Nat) (r l : Int), 256 + (k : Int) < lim → IsR T a (k + 1) r → IsL T b k l → (mrgsT T)[k]? ≠ some (r, l)
theorem pairB_at {T : List Ent} (hT : OkT T) {lim : Int} {k : Nat} {a b : Int} (hm : (mrgsT T)[k]? = some (a, b)) (hk : 256 + (k : Int) < lim) : (pairB T lim a b).isSome = true := by
  have : pairB T lim a b = some (256 + (k : Int)) := (pairB_iff hT lim a b _).2 ⟨k, by unfold mrgsB; rw [List.getElem?_take, if_pos (by omega)]; exact hm, rfl⟩
  rw [this]; rfl
theorem walk_nc {T : List Ent} (hT : OkT T) : ∀ (n : Nat) (a b lim : Int), a.toNat + b.toNat < n → hasT T a = true → hasT T b = true → a < lim → b < lim → ((wlkT T a b lim).1 = true ↔ NC T a b lim)
  | 0, _, _, _, h, _, _, _, _ => absurd h (Nat.not_lt_zero _)
  | n + 1, a, b, lim, h, ha, hb, hal, hbl => by
    cases hp : (pairB T lim a b).isSome with
    | true =>
      rw [wlk_blocked hp]
      constructor
      · intro h; simp at h
      · intro hn
        exfalso
        obtain ⟨r, hr⟩ := Option.isSome_iff_exists.1 hp
        obtain ⟨k, hk, rfl⟩ := (pairB_iff hT lim a b r).1 hr
        unfold mrgsB at hk
        rw [List.getElem?_take] at hk
        by_cases hlt : k < (lim - 256).toNat
        · rw [if_pos hlt] at hk
          obtain ⟨_, _, _, h3, h4⟩ := mrgs_ok hT hk
          simp only at h3 h4
          exact hn k a b (by omega) (.here (by omega)) (.here (by omega)) hk
        · rw [if_neg hlt] at hk; simp at hk
    | false =>
      have hnp : ∀ k : Nat, 256 + (k : Int) < lim → (mrgsT T)[k]? ≠ some (a, b) := fun k hk hm => by
        have := pairB_at hT hm hk
        rw [hp] at this; simp at this
      by_cases h2 : a < 256 ∧ b < 256
      · rw [wlk_bytes hp h2]
        refine ⟨fun _ => ?_, fun _ => rfl⟩
        intro k r l hk hr hl hm
        rw [isR_here hr (by omega), isL_here hl (by omega)] at hm
        exact hnp k hk hm
      · rw [wlk_next hT ha hb hp h2]
        obtain ⟨q1, q2, q3⟩ := nxt_has hT ha hb h2
        show (wlkT T (nxtW T a b).1 (nxtW T a b).2.1 (nxtW T a b).2.2).1 = true ↔ _
        unfold nxtW at q1 q2 q3 ⊢
        by_cases hc : b < 256 ∨ a > b
        · rw [if_pos hc] at q1 q2 q3 ⊢
          have ha2 : 256 ≤ a := by omega
          have hab : b < a := by omega
          obtain ⟨_, _, _, p4⟩ := par_has hT ha ha2
          rw [walk_nc hT n (parT T a).2 b a (by omega) q1 q2 p4 hab]
          constructor
          · intro hn k r l hk hr hl hm
            by_cases hka : 256 + (k : Int) < a
            · exact hn k r l hka (isR_down hr (by omega)) hl hm
            · rw [isR_here hr (by omega), isL_here hl (by omega)] at hm
              exact hnp k hk hm
          · intro hn k r l hk hr hl
            exact hn k r l (by omega) (.down (by omega) hr) hl
        · rw [if_neg hc] at q1 q2 q3 ⊢
          have hb2 : 256 ≤ b := by omega
          have hab : a ≤ b := by omega
          obtain ⟨_, _, p3, _⟩ := par_has hT hb hb2
          rw [walk_nc hT n a (parT T b).1 (b + 1) (by omega) q1 q2 (by omega) (by omega)]
          constructor
          · intro hn k r l hk hr hl hm
            by_cases hkb : 256 + (k : Int) ≤ b
            · exact hn k r l (by omega) hr (isL_down hl hkb) hm
            · rw [isR_here hr (by omega), isL_here hl (by omega)] at hm
              exact hnp k hk hm
          · intro hn k r l hk hr hl
            exact hn k r l (by omega) hr (.down (by omega) hl)
def Aln (T : List Ent) (a : Int) : Prop := encT T T.length (bytesT T a) = [a]
theorem mrgs_par {T : List Ent} (hT : OkT T) {k : Nat} {a : Int} (ha : hasT T a = true) (e : a = 256 + (k : Int)) : (mrgsT T)[k]? = some (parT T a) := by
  subst e
  have h1 := hasT_iff.1 ha
  have hk : 256 + k < T.length := by omega
  obtain ⟨q1, _⟩ := made_all hT (i := 256 + k) (by omega) hk
  have e2 : (256 : Int) + (k : Int) = ((256 + k : Nat) : Int) := by omega
  rw [e2]
  unfold parT
  rw [if_pos q1]
  unfold mrgsT
  rw [entT_nat _ _ hk]
  simp [List.getElem?_drop, hk]
theorem par_bytes {T : List Ent} (hT : OkT T) {a : Int} (ha : hasT T a = true) (h2 : 256 ≤ a) : bytesT T a = bytesT T (parT T a).1 ++ bytesT T (parT T a).2 := by
  obtain ⟨k, rfl, hk, _⟩ := hasT_at ha
  obtain ⟨_, _, _, _, q5, _⟩ := made_all hT (i := k) (by omega) hk
  exact q5
theorem bytes_pos {T : List Ent} (hT : OkT T) {a : Int} (ha : hasT T a = true) : 0 < (bytesT T a).length := by
  unfold bytesT
  rw [if_pos ha]
  obtain ⟨k, rfl, hk, e⟩ := hasT_at ha
  rw [e]
  exact (hT.len _ (List.getElem_mem hk)).1
theorem catT_nil {T : List Ent} (hT : OkT T) {l : List Int} (h : ∀ x ∈ l, hasT T x = true) (hc : catT T l = []) : l = [] := by
  cases l with
  | nil => rfl
  | cons x l =>
    exfalso
    have := bytes_pos hT (h x (by simp))
    unfold catT at hc
    rw [List.flatMap_cons, List.append_eq_nil_iff] at hc
    rw [hc.1] at this
    simp at this
theorem stg_byte {T : List Ent} (hT : OkT T) {a : Int} (ha : hasT T a = true) (h2 : a < 256) (k : Nat) : stg T k (bytesT T a) = [a] := by
  have := hasT_iff.1 ha
  obtain ⟨i, rfl⟩ := Int.eq_ofNat_of_zero_le this.1
  have hb := (byte_has hT (i := i) (by omega)).2
  unfold stg
  rw [hb]
  have : bysI [UInt8.ofNat i] = [(i : Int)] := by
    unfold bysI
    simp
    omega
  rw [this, seqE_single]
theorem len_mrgs {T : List Ent} : (mrgsT T).length = T.length - 256 := by unfold mrgsT; simp
theorem aln_stg {T : List Ent} {a : Int} : Aln T a ↔ stg T (mrgsT T).length (bytesT T a) = [a] := by
  unfold Aln
  rw [encT_stg, len_mrgs]
  have : ((T.length : Int) - 256).toNat = T.length - 256 := by omega
  rw [this]
theorem rep_in (a b c : Int) : ∀ l : List Int, c ∈ rep a b c l → c ∈ l ∨ Adj l a b
  | [], h => .inl h
  | [x], h => .inl h
  | x :: y :: l, h => by
    rw [rep] at h
    split at h
    · rename_i e
      refine .inr ?_
      rw [adj_cons2]
      exact .inl ⟨e.1, e.2⟩
    · rcases List.mem_cons.1 h with h | h
      · exact .inl (by simp [h])
      · rcases rep_in a b c (y :: l) h with h | h
        · exact .inl (List.mem_cons_of_mem _ h)
        · refine .inr ?_
          rw [adj_cons2]
          exact .inr h
theorem rep_mem (a b c : Int) : ∀ (l : List Int) (x : Int), x ∈ rep a b c l → x = c ∨ x ∈ l
  | [], x, h => .inr h
  | [z], x, h => .inr h
  | u :: v :: l, x, h => by
    rw [rep] at h
    split at h
    · rcases List.mem_cons.1 h with h | h
      · exact .inl h
      · rcases rep_mem a b c l x h with h | h
        · exact .inl h
        · exact .inr (by simp [h])
    · rcases List.mem_cons.1 h with h | h
      · exact .inr (by simp [h])
      · rcases rep_mem a b c (v :: l) x h with h | h
        · exact .inl h
        · exact .inr (List.mem_cons_of_mem _ h)
theorem stg_never {T : List Ent} {j : Nat} {s : List UInt8} (h : (256 + (j : Int)) ∉ stg T (j + 1) s) : ∀ k, j < k → (256 + (j : Int)) ∉ stg T k s
  | 0, hk => by omega
  | k + 1, hk => by
    by_cases e : k = j
    · subst e; exact h
    · have ih := stg_never h k (by omega)
      cases hm : (mrgsT T)[k]? with
      | none => rw [stg_more hm]; exact ih
      | some m =>
        rw [stg_succ hm]
        intro hx
        rcases rep_mem _ _ _ _ _ hx with hx | hx
        · omega
        · exact ih hx
theorem aln_iff {T : List Ent} (hT : OkT T) {a : Int} (ha : hasT T a = true) {j : Nat} (e : a = 256 + (j : Int)) : Aln T a ↔ stg T j (bytesT T a) = [(parT T a).1, (parT T a).2] := by
  have hm := mrgs_par hT ha e
  have hj : j < (mrgsT T).length := (List.getElem?_eq_some_iff.1 hm).1
  have h2 : 256 ≤ a := by omega
  obtain ⟨p1, p2, p3, p4⟩ := par_has hT ha h2
  rw [aln_stg]
  constructor
  · intro h
    have hin : (256 + (j : Int)) ∈ stg T (j + 1) (bytesT T a) := by
      apply Classical.byContradiction
      intro hn
      have := stg_never hn (mrgsT T).length hj
      rw [h] at this
      simp at this
      omega
    rw [stg_succ hm] at hin
    rcases rep_in _ _ _ _ hin with h1 | ⟨u, v, h1⟩
    · have := stg_lt T j _ _ h1
      omega
    · have hc := stg_cat hT j (bytesT T a)
      have hh := stg_has hT j (bytesT T a)
      rw [h1] at hc hh
      have hb := par_bytes hT ha h2
      have hl := congrArg List.length hc
      rw [hb] at hl
      unfold catT at hl
      rw [List.flatMap_append, List.flatMap_cons, List.flatMap_cons] at hl
      simp only [List.length_append] at hl
      have hu : u = [] := catT_nil hT (fun x hx => hh x (by simp [hx])) (List.eq_nil_of_length_eq_zero (by unfold catT; omega))
      have hv : v = [] := catT_nil hT (fun x hx => hh x (by simp [hx])) (List.eq_nil_of_length_eq_zero (by unfold catT; omega))
      rw [h1, hu, hv]
      rfl
  · intro h
    refine stg_keep (j := j + 1) hj ?_
    rw [stg_succ hm, h, rep, if_pos ⟨rfl, rfl⟩, e]
    rfl
theorem aln_from {T : List Ent} (hT : OkT T) {a : Int} (ha : hasT T a = true) (h : Aln T a) {k : Nat} (hk : a < 256 + (k : Int)) : stg T k (bytesT T a) = [a] := by
  by_cases h2 : a < 256
  · exact stg_byte hT ha h2 k
  · obtain ⟨j, hj⟩ : ∃ j : Nat, a = 256 + (j : Int) := ⟨(a - 256).toNat, by omega⟩
    have h1 := (aln_iff hT ha hj).1 h
    refine stg_keep (j := j + 1) (by omega) ?_
    rw [stg_succ (mrgs_par hT ha hj), h1, rep, if_pos ⟨rfl, rfl⟩, hj]
    rfl
theorem aln_par {T : List Ent} (hT : OkT T) {a : Int} (ha : hasT T a = true) {j : Nat} (e : a = 256 + (j : Int)) (h : Aln T a) :
    Aln T (parT T a).1 ∧ Aln T (parT T a).2 ∧ NoX T j (bytesT T (parT T a).1) (bytesT T (parT T a).2) := by
  have h1 := (aln_iff hT ha e).1 h
  rw [par_bytes hT ha (by omega)] at h1
  have hj : j < (mrgsT T).length := (List.getElem?_eq_some_iff.1 (mrgs_par hT ha e)).1
  have hl : (catT T [(parT T a).1]).length = (bytesT T (parT T a).1).length := by simp [catT]
  have h2 := stg_cut hT j _ _ (W1 := [(parT T a).1]) (W2 := [(parT T a).2]) h1 hl
  refine ⟨aln_stg.2 (stg_keep (Nat.le_of_lt hj) h2.1.symm), aln_stg.2 (stg_keep (Nat.le_of_lt hj) h2.2.symm), stg_apart hT (W1 := [(parT T a).1]) (W2 := [(parT T a).2]) h1 hl⟩
theorem stg_ne {T : List Ent} (hT : OkT T) (k : Nat) {s : List UInt8} (h : 0 < s.length) : stg T k s ≠ [] := by
  intro e
  have := stg_cat hT k s
  rw [e] at this
  rw [← this] at h
  simp [catT] at h
theorem last_append {l r : List Int} (h : r ≠ []) : (l ++ r).getLast? = r.getLast? := by
  rw [List.getLast?_append]
  cases hr : r.getLast? with
  | none => rw [List.getLast?_eq_none_iff] at hr; exact absurd hr h
  | some x => rfl
theorem head_append {l r : List Int} (h : l ≠ []) : (l ++ r).head? = l.head? := by
  cases l with
  | nil => exact absurd rfl h
  | cons x l => rfl
theorem nox_mono {T : List Ent} {L k : Nat} {s u : List UInt8} (h : NoX T L s u) (hk : k ≤ L) : NoX T k s u := fun j m hj => h j m (by omega)
theorem aln_last {T : List Ent} (hT : OkT T) {a : Int} {k : Nat} {r : Int} (hr : IsR T a k r) : hasT T a = true → Aln T a → (stg T k (bytesT T a)).getLast? = some r := by
  induction hr with
  | here h => intro ha hA; rw [aln_from hT ha hA h]; rfl
  | down h _ ih =>
    rename_i a k r _
    intro ha hA
    obtain ⟨j, hj⟩ : ∃ j : Nat, a = 256 + (j : Int) := ⟨(a - 256).toNat, by omega⟩
    obtain ⟨p1, p2, p3, p4⟩ := par_has hT ha (by omega)
    obtain ⟨_, h2, h3⟩ := aln_par hT ha hj hA
    rw [par_bytes hT ha (by omega), stg_join k (nox_mono h3 (by omega)), last_append (stg_ne hT k (bytes_pos hT p2))]
    exact ih p2 h2
theorem aln_head {T : List Ent} (hT : OkT T) {a : Int} {k : Nat} {r : Int} (hr : IsL T a k r) : hasT T a = true → Aln T a → (stg T k (bytesT T a)).head? = some r := by
  induction hr with
  | here h => intro ha hA; rw [aln_from hT ha hA h]; rfl
  | down h _ ih =>
    rename_i a k r _
    intro ha hA
    obtain ⟨j, hj⟩ : ∃ j : Nat, a = 256 + (j : Int) := ⟨(a - 256).toNat, by omega⟩
    obtain ⟨p1, p2, p3, p4⟩ := par_has hT ha (by omega)
    obtain ⟨h1, _, h3⟩ := aln_par hT ha hj hA
    rw [par_bytes hT ha (by omega), stg_join k (nox_mono h3 (by omega)), head_append (stg_ne hT k (bytes_pos hT p1))]
    exact ih p1 h1
theorem nox_nc {T : List Ent} (hT : OkT T) {a b : Int} (ha : hasT T a = true) (hb : hasT T b = true) (hA : Aln T a) (hB : Aln T b) (L : Nat) : NoX T L (bytesT T a) (bytesT T b) ↔ NC T a b (256 + (L : Int)) := by
  constructor
  · intro h k r l hk hr hl hm
    exact h k (r, l) (by omega) hm ⟨aln_last hT hr ha hA, aln_head hT hl hb hB⟩
  · intro h k m hk hm ⟨h1, h2⟩
    obtain ⟨r, hr⟩ := isR_ex hT (k + 1) (a.toNat + 1) a (Nat.lt_succ_self _) ha
    obtain ⟨l, hl⟩ := isL_ex hT k (b.toNat + 1) b (Nat.lt_succ_self _) hb
    rw [aln_last hT hr ha hA] at h1
    rw [aln_head hT hl hb hB] at h2
    simp at h1 h2
    exact h k r l (by omega) hr hl (by rw [hm, h1, h2])
theorem snoc_cases (l : List UInt8) : l = [] ∨ ∃ p d, l = p ++ [d] := by
  rcases List.eq_nil_or_concat l with h | ⟨p, d, h⟩
  · exact .inl h
  · exact .inr ⟨p, d, by simpa using h⟩
end Go.Proofs.YtbppaiejpgdbiaaGreat
