/- Texts of several layers, one behind the other: RevI, Spine0, ChainG, ChainH, ChainI, Lat0, Bound0, Bound1, Open, Open2, Right0, Right1, GrowG, Right2, Copy0, Copy1, Mark0, Mark1, Build0, Build1, Vocab0, Vocab2, Pieces, Bound2, Find0, Voc0, Count0, Count1, Count2, Chk0, Bound3, Some0, Some1, Some2, MarkA, MarkB, CaseA, CaseB, KeepS, Nat0, Nat1. -/
import Derived.Test.YtkkcekgbnloegaaGreatZZC1
import Derived.WalkKit
import Derived.KernelRfl
import Derived.Lib.Hide
import Derived.Deep.QuietTactic
import Derived.BigQuiet
import Derived.OwnWalk
import Derived.Lib.Strings
import Derived.Deep.DeepCutAuto
import Derived.Deep.RegionHeld3
import Derived.StillTailTactics
import Derived.Maps.OwnSet
import Derived.Maps.OwnOps
import Derived.DeepKeys4
import Derived.WideKeyEntry
import Derived.Maps.AppendAt
import Derived.Test.YtkkcekgbnloegaaGreatProg
import Derived.Laws.ResultCell
import Derived.Laws.AppendOwnNone
import Derived.Laws.IdiomStrings
import Derived.Lib.AppendStr
import Derived.Deep.Slices
import Derived.Deep.Fields
import Derived.ChangeSame
import Derived.SliceStrings
import Derived.OpenShut
import Derived.Laws.LoneSync
import Derived.Laws.OwnMore
import Derived.Laws.MakeOwn
import Derived.Laws.Bits64b
import Derived.Laws.BitsAllLaws
import Derived.Tactics
import Derived.Tactics2
import Derived.Defers
import Derived.Laws.Pointers
import Derived.RegionTactic
import Derived.RegionCalls
import Derived.ChangeAlike
import Derived.Test.YtkkcekgbnloegaaGreatRows
import Derived.ProofKit
import Derived.ShutString
import Derived.ChangeOld
import Derived.Below
import Derived.Lib.SmallJoins
set_option maxRecDepth 100000
set_option linter.unusedVariables false
set_option linter.unusedSimpArgs false
namespace Go.Proofs.YtkkcekgbnloegaaGreat
open Go.RowKit Go.Maps Go.WideMaps
theorem rown_at {w : World} {base n c g : Nat} {e : TypeId} {size : Nat} {xs : List Value} (h : w.ownsRow base e size (.slice (some ⟨g, 0, none⟩) n c) n xs) (j : Nat) (u : Value) (hj : xs[j]? = some u) : w.cell? ⟨g, j, none⟩ = some u ∧ w.frozen? ⟨g, j, none⟩ = false := by
  have hn : 0 < n := by
    cases n with
    | zero =>
      have := h.1
      have h2 := (List.getElem?_eq_some_iff.1 hj).1
      omega
    | succ n => omega
  obtain ⟨g', cap', e1, _, _, hc⟩ := own_open h hn
  injection e1 with e1 e2 e3
  injection e1 with e1
  injection e1 with e1
  subst e1
  exact hc j u hj
theorem rown_cells {w : World} {base n cap g : Nat} {e : TypeId} {size : Nat} {xs : List Value} (h : w.ownsRow base e size (.slice (some ⟨g, 0, none⟩) n cap) n xs) (hn : 0 < n) (j : Nat) (hj : j < n * size) : (∃ v, w.cell? ⟨g, j, none⟩ = some v) ∧ w.frozen? ⟨g, j, none⟩ = false := by
  have hl := h.1
  obtain ⟨h1, h2⟩ := rown_at h j xs[j] (List.getElem?_eq_getElem (by omega))
  exact ⟨⟨_, h1⟩, h2⟩
theorem rgen_set1 {K : Act → World → Prop} {a : Act} {W V : World} (hV : W = V) (h : ∀ W', W' = V → K a W') : K a W := by subst hV; exact h _ rfl
def atZ (l : List Int) (i : Nat) : Int := (l[i]?).getD 0
theorem atZ_get {l : List Int} {i : Nat} (h : i < l.length) : atZ l i = l[i] := by unfold atZ; rw [List.getElem?_eq_getElem h]; rfl
structure RevZ (xs out : List Int) (k : Nat) : Prop where
  len : out.length = xs.length
  at' : ∀ t, t < xs.length → atZ out t = if t < k ∨ xs.length - k ≤ t then atZ xs (xs.length - 1 - t) else atZ xs t
theorem RevZ.start (xs : List Int) : RevZ xs xs 0 := ⟨rfl, fun t ht => by rw [if_neg (by omega)]⟩
theorem atZ_set (l : List Int) (i : Nat) (x : Int) (t : Nat) (hi : i < l.length) : atZ (l.set i x) t = if t = i then x else atZ l t := by
  unfold atZ
  rw [List.getElem?_set]
  by_cases h : i = t
  · subst h; simp [hi]
  · rw [if_neg h, if_neg (fun e => h e.symm)]
theorem RevZ.next {xs out : List Int} {k : Nat} (h : RevZ xs out k) (hk : k + 1 + k < xs.length) : RevZ xs ((out.set k (atZ out (xs.length - 1 - k))).set (xs.length - 1 - k) (atZ out k)) (k + 1) := by
  refine ⟨by rw [List.length_set, List.length_set, h.len], fun t ht => ?_⟩
  have hl := h.len
  rw [atZ_set _ _ _ _ (by rw [List.length_set]; omega), atZ_set _ _ _ _ (by omega)]
  by_cases h1 : t = xs.length - 1 - k
  · rw [if_pos h1, if_pos (by omega), h.at' k (by omega), if_neg (by omega)]
    congr 1
    omega
  · rw [if_neg h1]
    by_cases h2 : t = k
    · rw [if_pos h2, if_pos (by omega), h.at' (xs.length - 1 - k) (by omega), if_neg (by omega)]
      congr 1
      omega
    · rw [if_neg h2, h.at' t ht]
      by_cases h3 : t < k ∨ xs.length - k ≤ t
      · rw [if_pos h3, if_pos (by omega)]
      · rw [if_neg h3, if_neg (by omega)]
theorem RevZ.done {xs out : List Int} {k : Nat} (h : RevZ xs out k) (hk : xs.length ≤ k + 1 + k) (hk2 : k ≤ xs.length) : out = xs.reverse := by
  apply List.ext_getElem
  · rw [h.len, List.length_reverse]
  · intro t h1 h2
    have h3 : t < xs.length := by rw [← h.len]; exact h1
    have := h.at' t h3
    rw [atZ_get h1] at this
    rw [this, List.getElem_reverse, atZ_get (by omega)]
    split
    · rfl
    · rw [atZ_get (by omega)]
      congr 1
      omega
set_option maxHeartbeats 4000000 in
theorem revI_any (xs : List Int) (base g c : Nat) (w : World) (h : w.ownsRow base 3 1 (.slice (some ⟨g, 0, none⟩) xs.length c) xs.length (xs.map (Value.int .i64))) (hg : base ≤ g) (hlen : xs.length < 1000000000000000000) :
    Calls Tryz.prog 71 #[.slice (some ⟨g, 0, none⟩) xs.length c] w fun e w' => e = .returned (.tuple #[]) ∧ w'.ownsRow base 3 1 (.slice (some ⟨g, 0, none⟩) xs.length c) xs.length (xs.reverse.map (Value.int .i64)) ∧ Keep (fun x => x = g) w w' := by
  have HO := Lib.hid h
  clear h
  have wl : IntKind.i64.wrap ((xs.length : Int) - 1) = (xs.length : Int) - 1 := IntWalk.i64_in _ (by omega)
  go_enter Tryz.func71, Tryz.ntmps71
  go_wp2_with fail
  clear wl
  go_loopg [2, 3] xs.length (fun n v2 v3 W => ∃ (k : Nat) (out : List Int), k + n = xs.length ∧ v2 = .int .i64 (k : Int) ∧ v3 = .int .i64 ((xs.length : Int) - 1 - (k : Int)) ∧ RevZ xs out k ∧ W.ownsRow base 3 1 (.slice (some ⟨g, 0, none⟩) xs.length c) xs.length (out.map (Value.int .i64)) ∧ Keep (fun x => x = g) w W)
  case atStart => exact ⟨0, xs, by omega, rfl, by simp, RevZ.start xs, HO.out, Keep.refl _ _⟩
  case round =>
    obtain ⟨k, out, hk, rfl, rfl, hR, hO, hK⟩ := hrel
    rename World => W
    have HRV := Lib.hid hR
    have HROW := Lib.hid (own_drew hO)
    have HK := Lib.hid hK.drew
    have HROW0 := Lib.hid hO
    have HK0 := Lib.hid hK
    clear HO hR hO hK
    by_cases hlt : k + 1 + k < xs.length
    · obtain ⟨j, hj⟩ : ∃ j, xs.length - 1 - k = j := ⟨_, rfl⟩
      rw [show (xs.length : Int) - 1 - (k : Int) = (j : Int) by omega]
      have hlt' : (k : Int) < (j : Int) := by omega
      have p0 : (0 : Int) ≤ (k : Int) := by omega
      have p1 : (k : Int) < (xs.length : Int) := by omega
      have p2 : (0 : Int) ≤ (j : Int) := by omega
      have p3 : (j : Int) < (xs.length : Int) := by omega
      have hkl : k < xs.length := by omega
      have hjl : j < xs.length := by omega
      have HNX := HRV.out.next hlt
      rw [hj] at HNX
      have hl := HRV.out.len
      obtain ⟨x, hx⟩ : ∃ x, atZ out k = x := ⟨_, rfl⟩
      obtain ⟨y, hy⟩ : ∃ y, atZ out j = y := ⟨_, rfl⟩
      rw [hx, hy] at HNX
      obtain ⟨a0, a1⟩ := rown_at HROW.out k (.int .i64 x) (by rw [List.getElem?_map, List.getElem?_eq_getElem (by omega), ← hx, atZ_get (by omega)]; rfl)
      obtain ⟨b0, b1⟩ := rown_at HROW.out j (.int .i64 y) (by rw [List.getElem?_map, List.getElem?_eq_getElem (by omega), ← hy, atZ_get (by omega)]; rfl)
      have HNXT := Lib.hid HNX
      have w1 : IntKind.i64.wrap ((k : Int) + 1) = (k : Int) + 1 := IntWalk.i64_in _ (by omega)
      have w2 : IntKind.i64.wrap ((j : Int) - 1) = (xs.length : Int) - 1 - ((k : Int) + 1) := by rw [IntWalk.i64_in _ (by omega)]; omega
      have HJ := Lib.hid hj
      clear hx hy hl HNX hj
      have hkj : k < j := by omega
      go_wp2_with fail
      refine wp_region_D (Ds := [13, 15]) (S := fun V => V.cell? ⟨g, k, none⟩ = some (.int .i64 x) ∧ V.cell? ⟨g, j, none⟩ = some (.int .i64 y)) (by kernel_rfl) (by exact ⟨a0, b0⟩) (fun hHeld => ?_)
      clear a0 a1 b0 b1
      generalize W.drew = W0 at *
      refine tkP 0 14 ?_ rfl (.inl ⟨by rfl, ?_⟩) ?_; rotate_left; focus (intro w' _; go_simp; (try with_reducible rfl))
      try simp only [sIB, sC0, sCS]
      refine tkP 1 15 ?_ rfl (.inl ⟨by rfl, ?_⟩) ?_; rotate_left; focus (intro w' _; go_simp; (try with_reducible rfl))
      try simp only [sIB, sC0, sCS]
      refine tkP 2 16 ?_ rfl (.inl ⟨by rfl, ?_⟩) ?_; rotate_left; focus (intro w' _; go_simp; (try with_reducible rfl))
      try simp only [sIB, sC0, sCS]
      refine tkP 3 17 ?_ rfl (.inl ⟨by rfl, ?_⟩) ?_; rotate_left; focus (intro w' _; go_simp; (try with_reducible rfl))
      try simp only [sIB, sC0, sCS]
      refine tkP 4 18 ?_ rfl (.inl ⟨by rfl, ?_⟩) ?_; rotate_left; focus (intro w' _; go_simp; (try with_reducible rfl))
      try simp only [sIB, sC0, sCS]
      refine tkP 5 19 ?_ rfl (.inl ⟨by rfl, ?_⟩) ?_; rotate_left; focus (intro w' _; go_simp; (try with_reducible rfl))
      try simp only [sIB, sC0, sCS]
      refine tkP 6 20 ?_ rfl (.inl ⟨by rfl, ?_⟩) ?_; rotate_left; focus (intro w' _; go_simp; (try with_reducible rfl))
      try simp only [sIB, sC0, sCS]
      refine tkP 8 22 ?_ rfl (.inl ⟨by rfl, ?_⟩) ?_; rotate_left; focus (intro w' _; go_simp; (try with_reducible rfl))
      try simp only [sIB, sC0, sCS]
      refine tkP 9 23 ?_ rfl (.inl ⟨by rfl, ?_⟩) ?_; rotate_left; focus (intro w' _; go_simp; (try with_reducible rfl))
      try simp only [sIB, sC0, sCS]
      refine tkP 10 24 ?_ rfl (.inl ⟨by rfl, ?_⟩) ?_; rotate_left; focus (intro w' _; go_simp; (try with_reducible rfl))
      try simp only [sIB, sC0, sCS]
      refine tkD 7 21 ?_ rfl hHeld (.inl ⟨by rfl, ?_⟩) ?_; rotate_left; focus (intro w' hSw; (try dsimp only at hSw); go_simp; (try with_reducible rfl))
      try simp only [sIB, sC0, sCS]
      refine tkD 11 25 ?_ rfl hHeld (.inl ⟨by rfl, ?_⟩) ?_; rotate_left; focus (intro w' hSw; (try dsimp only at hSw); go_simp; (try with_reducible rfl))
      try simp only [sIB, sC0, sCS]
      refine tkP 12 26 ?_ rfl (.inl ⟨by rfl, ?_⟩) ?_; rotate_left; focus (intro w' _; go_simp; (try with_reducible rfl))
      try simp only [sIB, sC0, sCS]
      refine wpAnyD_last (D := 13) (by decide) (by kernel_rfl) rfl (by rfl) (fun K hK => ?_)
      have q0 := rown_cells HROW.out (by omega) k (by omega); obtain ⟨⟨v0, c0⟩, f0⟩ := q0; clear hHeld; go_simp; have HROW := Lib.hid (own_set HROW.out k (.int .i64 y)); have HK := Lib.hid (HK.out.setCell (p := ⟨g, k, none⟩) (.inl rfl) (.int .i64 y)); refine rgen_set1 rfl (fun W' hW' => ?_); rw [← hW'] at HROW HK; clear hW' c0 f0
      refine hK.out _ _ ?_
      clear hK K
      try simp only [Act.put, sIB, sC0, sCS]
      refine tkP 14 27 ?_ rfl (.inl ⟨by rfl, ?_⟩) ?_; rotate_left; focus (intro w' _; go_simp; (try with_reducible rfl))
      try simp only [sIB, sC0, sCS]
      refine wpAnyD_last (D := 15) (by decide) (by kernel_rfl) rfl (by rfl) (fun K hK => ?_)
      have q0 := rown_cells HROW.out (by omega) j (by omega); obtain ⟨⟨v0, c0⟩, f0⟩ := q0; go_simp; have HROW := Lib.hid (own_set HROW.out j (.int .i64 x)); have HK := Lib.hid (HK.out.setCell (p := ⟨g, j, none⟩) (.inl rfl) (.int .i64 x)); refine rgen_set1 rfl (fun W' hW' => ?_); rw [← hW'] at HROW HK; clear hW' c0 f0
      refine hK.out _ _ ?_
      clear hK K
      try simp only [Act.put, sIB, sC0, sCS]
      refine wpAnyD_done (by kernel_rfl) ?_ _
      go_wp2_with fail
      go_roundg (gk - 1)
      case measure => omega
      case rel => exact ⟨k + 1, _, by omega, by simp, by simp, HNXT.out, by rw [List.map_set, List.map_set]; exact HROW.out, HK.out⟩
    · have hlt' : ¬ ((k : Int) < (xs.length : Int) - 1 - (k : Int)) := by omega
      have hd := HRV.out.done (by omega) (by omega)
      subst hd
      clear HROW HK
      go_wp2_with fail
      go_end0
      exact ⟨rfl, by rw [← List.map_reverse]; exact HROW0.out, HK0.out⟩
theorem hasT_iff {T : List Ent} {a : Int} : hasT T a = true ↔ 0 ≤ a ∧ a < T.length := by simp [hasT]
theorem results_tmp_cell {fn : Func} {p u : Tmp} {ty : TypeId} (h : fn.results = #[.tmp u, .cell p ty]) (tmps : Array Value) (P : Program) (w : World) :
    (results fn tmps).run P w = ((asAddr (tmps.getD p undef)).run P w).andThen fun a w₁ => ((loadVar ty a).run P w₁).andThen fun x w₂ => .ok (.tuple #[tmps.getD u undef, x]) w₂ := by
  simp only [results, h]
  simp [Sem.run_bind, Result.andThen]
theorem ret_tmp_cell {P : Program} {fn : Func} {R : Ending → World → Prop} {tmps : Array Value} {w : World} {r : Nat} {p u : Tmp} {ty : TypeId} {v x : Value}
    (h : fn.results = #[.tmp u, .cell p ty]) (hu : tmps.getD u undef = x) (hp : tmps.getD p undef = .pointer (some ⟨r, 0, none⟩))
    (hl : (loadVar ty ⟨r, 0, none⟩).run P w = .ok v w) (hR : R (.returned (.tuple #[x, v])) w) : bodyPost P fn R .ret ⟨tmps, []⟩ w := by
  refine bodyPost_ret (v := .tuple #[x, v]) ?_ rfl hR
  rw [results_tmp_cell h, hp, hu]
  simp [asAddr, hl, Result.andThen]
theorem adds_take (l : List (Int × Int)) : ∀ (T T' : List Ent) (k : Nat) (hk : k < l.length) (Tk : List Ent), addsT T l = some T' → addsT T (l.take k) = some Tk → (addT Tk l[k].1 l[k].2).2.1 = 0 := by
  induction l with
  | nil => intro T T' k hk; exact absurd hk (by simp)
  | cons a l ih =>
    intro T T' k hk Tk h1 h2
    simp only [addsT] at h1
    split at h1
    · rename_i h0
      match k, hk, h2 with
      | 0, _, h2 => simp only [List.take_zero, addsT, Option.some.injEq] at h2; subst h2; exact h0
      | k + 1, hk, h2 =>
        simp only [List.take_succ_cons, addsT, if_pos h0] at h2
        exact ih _ _ k (by simpa using hk) _ h1 h2
    · cases h1
structure BothIs (w w' : World) (T : List Ent) (tb : Nat) (sv : Value) (mb mp : Nat) (vb vm : Value) : Prop where
  tab : TabIs w' w.heap.size tb T sv mb mp
  ref : RefIs w' w.heap.size T vb vm
  bl : Below w.heap.size w w'
theorem BothIs.step {w w' w2 : World} {T : List Ent} {tb : Nat} {sv : Value} {mb mp : Nat} {vb vm : Value} (h : BothIs w w' T tb sv mb mp vb vm) (hb : Below w'.heap.size w' w2) : BothIs w w2 T tb sv mb mp vb vm :=
  ⟨h.tab.below hb (Nat.le_refl _), h.ref.below hb (Nat.le_refl _), h.bl.trans (hb.mono h.bl.size)⟩
theorem TabIs.less {w : World} {b base tb : Nat} {T : List Ent} {sv : Value} {mb mp : Nat} (h : TabIs w b tb T sv mb mp) (hle : base ≤ b) : TabIs w base tb T sv mb mp :=
  ⟨h.blk, own_less h.row hle, h.bys, h.prs, h.ne, by have := h.lt; omega⟩
theorem new_ok {l : List (Int × Int)} {T : List Ent} (hT : addsT baseT l = some T) (A : Option Addr) (c : Nat) (w : World) (hl : Sl w A encM 2 l) (hlen : l.length < 9000000000000000000) :
    Calls Tryz.prog 154 #[.slice A l.length c] w fun e w' => ∃ tb sv mb mp, e = .returned (.tuple #[.pointer (some ⟨tb, 0, none⟩), .int .i64 (l.length : Nat), .int .i64 0]) ∧ OkT T ∧ TabIs w' w.heap.size tb T sv mb mp ∧ Below w.heap.size w w' := by
  refine (new_any l A c w hl hlen).mono ?_
  rintro e w' ⟨hb, (⟨T', tb, sv, mb, mp, rfl, ha, hok, ht⟩ | ⟨k, hk, T', ha, hok, he, rfl⟩)⟩
  · rw [hT] at ha
    injection ha with ha
    subst ha
    exact ⟨tb, sv, mb, mp, rfl, hok, ht, hb⟩
  · exact absurd (adds_take l baseT T k hk T' hT ha) he
theorem sl_mrg {w : World} {g : Nat} {l : List (Int × Int)} (h : w.heap[g]? = some (.cells (l.flatMap encM).toArray 113)) : Sl w (some ⟨g, 0, none⟩) encM 2 l := by
  intro i x hx
  refine ⟨g, 0, rfl, fun j v hv => ?_⟩
  rw [blk_cell h, List.getElem?_toArray, Nat.zero_add]
  have key : ∀ (l : List (Int × Int)) (i : Nat), l[i]? = some x → (l.flatMap encM)[i * 2 + j]? = some v := by
    intro l
    induction l with
    | nil => intro i h; simp at h
    | cons y ys ih =>
      intro i hx
      have hj : j < 2 := (List.getElem?_eq_some_iff.1 hv).1
      cases i with
      | zero =>
        simp at hx
        subst hx
        rw [List.flatMap_cons, List.getElem?_append_left (by show 0 * 2 + j < 2; omega)]
        simpa using hv
      | succ i =>
        simp at hx
        rw [List.flatMap_cons, List.getElem?_append_right (by show 2 ≤ _; omega)]
        have := ih i hx
        rw [show (i + 1) * 2 + j - (encM y).length = i * 2 + j by show (i + 1) * 2 + j - 2 = _; omega]
        exact this
  exact key l i hx
theorem byte_has {T : List Ent} (hT : OkT T) {i : Nat} (hi : i < 256) : hasT T (i : Int) = true ∧ bytesT T (i : Int) = [UInt8.ofNat i] := by
  have h2 := okT_256 hT
  have hh : hasT T (i : Int) = true := by simp [hasT]; omega
  refine ⟨hh, ?_⟩
  unfold bytesT
  rw [if_pos hh, base_ent hT hi]
def atA (T : List Ent) (s : List UInt8) : List Int := (begT T s s.length).reverse
def lenT (T : List Ent) (id : Int) : Nat := (bytesT T id).length
def divL (T : List Ent) : Nat → List UInt8 → List (List Int)
  | 0, s => if s = [] then [[]] else []
  | f + 1, s => if s = [] then [[]] else (atA T s).flatMap (fun id => (divL T f (s.drop (lenT T id))).map (fun d => id :: d))
def divA (T : List Ent) (s : List UInt8) : List (List Int) := divL T s.length s
def cntA (T : List Ent) (s : List UInt8) : Nat := (divA T s).length
theorem findT_len {T : List Ent} (hT : OkT T) {s : List UInt8} {j : Nat} (h : findT T s = some j) : j < T.length ∧ hasT T (j : Int) = true ∧ bytesT T (j : Int) = s ∧ 0 < s.length ∧ s.length ≤ 64 := by
  obtain ⟨e, h1, h2⟩ := findT_at h
  obtain ⟨hlt, h3⟩ := List.getElem?_eq_some_iff.1 h1
  have hh : hasT T (j : Int) = true := hasT_iff.2 ⟨by omega, by omega⟩
  have hl := hT.len e (by rw [← h3]; exact List.getElem_mem hlt)
  rw [h2] at hl
  refine ⟨hlt, hh, ?_, hl⟩
  unfold bytesT
  rw [if_pos hh, entT_nat _ _ hlt, h3, h2]
theorem begT_mem {T : List Ent} {s : List UInt8} {i : Nat} {x : Int} (h : x ∈ begT T s i) : ∃ n j, n < i ∧ findT T (s.take (n + 1)) = some j ∧ x = (j : Int) := by
  unfold begT at h
  obtain ⟨n, hn, hx⟩ := List.mem_filterMap.1 h
  rw [Option.map_eq_some_iff] at hx
  obtain ⟨j, hj, e⟩ := hx
  exact ⟨n, j, List.mem_range.1 hn, hj, e.symm⟩
theorem atA_has {T : List Ent} (hT : OkT T) {s : List UInt8} {x : Int} (h : x ∈ atA T s) : hasT T x = true ∧ 0 < lenT T x ∧ lenT T x ≤ s.length ∧ s.take (lenT T x) = bytesT T x := by
  unfold atA at h
  obtain ⟨n, j, hn, hf, rfl⟩ := begT_mem (List.mem_reverse.1 h)
  obtain ⟨h1, h2, h3, h4, h5⟩ := findT_len hT hf
  have hl : lenT T (j : Int) = n + 1 := by unfold lenT; rw [h3, List.length_take]; omega
  rw [hl]
  exact ⟨h2, by omega, by omega, h3.symm⟩
theorem find_tok {T : List Ent} (hT : OkT T) {x : Int} (hx : hasT T x = true) : findT T (bytesT T x) = some x.toNat := by
  obtain ⟨k, rfl, hk, _⟩ := hasT_at hx
  have hb : bytesT T (k : Int) = T[k].1 := by unfold bytesT; rw [if_pos hx, entT_nat _ _ hk]
  have : findT T (bytesT T (k : Int)) = some k := by
    unfold findT
    rw [List.findIdx?_eq_some_iff_getElem]
    refine ⟨hk, by simp [hb], fun j hj => ?_⟩
    have hne : T[j].1 ≠ T[k].1 := by
      intro e
      have := hT.nodup j k (by omega) hk (by rw [entT_nat _ _ (by omega), entT_nat _ _ hk, e])
      omega
    simp [hb, hne]
  rw [this]; simp
theorem fm_congr {α β : Type} {f g : α → Option β} : ∀ {l : List α}, (∀ x ∈ l, f x = g x) → l.filterMap f = l.filterMap g
  | [], _ => rfl
  | a :: l, h => by
    rw [List.filterMap_cons, List.filterMap_cons, h a (by simp), fm_congr (fun x hx => h x (by simp [hx]))]
theorem beg_long {T : List Ent} (hT : OkT T) (s : List UInt8) (L : Nat) (hL : ∀ e ∈ T, e.1.length ≤ L) : begT T (s.take L) (s.take L).length = begT T s s.length := by
  have h1 : ∀ n, n ≤ (s.take L).length → begT T (s.take L) n = begT T s n := by
    intro n hn
    rw [List.length_take] at hn
    unfold begT
    apply fm_congr
    intro x hx
    have := List.mem_range.1 hx
    rw [List.take_take, Nat.min_eq_left (by omega)]
  rw [h1 _ (Nat.le_refl _)]
  have h2 : ∀ m, (s.take L).length ≤ m → m ≤ s.length → begT T s m = begT T s (s.take L).length := by
    intro m
    induction m with
    | zero => intro h _; rw [Nat.le_zero.1 h]
    | succ m ih =>
      intro h hm
      by_cases e : (s.take L).length = m + 1
      · rw [e]
      · have hlt : (s.take L).length ≤ m := by omega
        rw [begT_succ, ih hlt (by omega)]
        have : findT T (s.take (m + 1)) = none := by
          cases hf : findT T (s.take (m + 1)) with
          | none => rfl
          | some j =>
            exfalso
            obtain ⟨e1, q1, q2⟩ := findT_at hf
            have := hL e1 (List.mem_of_getElem? q1)
            rw [q2, List.length_take] at this
            rw [List.length_take] at hlt
            omega
        rw [this]
        simp
  exact (h2 s.length (by rw [List.length_take]; omega) (Nat.le_refl _)).symm
theorem divL_more {T : List Ent} (hT : OkT T) : ∀ (f g : Nat) (s : List UInt8), s.length ≤ f → f ≤ g → divL T g s = divL T f s
  | 0, 0, s, _, _ => rfl
  | 0, g + 1, s, h, _ => by
    have : s = [] := List.eq_nil_of_length_eq_zero (by omega)
    subst this
    simp [divL]
  | f + 1, 0, s, _, h => by omega
  | f + 1, g + 1, s, h, hg => by
    rw [divL, divL]
    by_cases e : s = []
    · rw [if_pos e, if_pos e]
    · rw [if_neg e, if_neg e]
      have key : ∀ l : List Int, (∀ x ∈ l, x ∈ atA T s) → l.flatMap (fun id => (divL T g (s.drop (lenT T id))).map (fun d => id :: d)) = l.flatMap (fun id => (divL T f (s.drop (lenT T id))).map (fun d => id :: d)) := by
        intro l
        induction l with
        | nil => intro _; rfl
        | cons a l ih =>
          intro hl
          have := atA_has hT (hl a (by simp))
          rw [List.flatMap_cons, List.flatMap_cons, ih (fun x hx => hl x (by simp [hx])), divL_more hT f g _ (by rw [List.length_drop]; omega) (by omega)]
      exact key _ (fun x hx => hx)
theorem divA_nil (T : List Ent) : divA T [] = [[]] := rfl
theorem divA_rec {T : List Ent} (hT : OkT T) {s : List UInt8} (h : s ≠ []) : divA T s = (atA T s).flatMap (fun id => (divA T (s.drop (lenT T id))).map (fun d => id :: d)) := by
  unfold divA
  obtain ⟨n, hn⟩ : ∃ n, s.length = n + 1 := ⟨s.length - 1, by have := List.length_pos_iff.2 h; omega⟩
  rw [hn, divL, if_neg h]
  have key : ∀ l : List Int, (∀ x ∈ l, x ∈ atA T s) → l.flatMap (fun id => (divL T n (s.drop (lenT T id))).map (fun d => id :: d)) = l.flatMap (fun id => (divL T (s.drop (lenT T id)).length (s.drop (lenT T id))).map (fun d => id :: d)) := by
    intro l
    induction l with
    | nil => intro _; rfl
    | cons a l ih =>
      intro hl
      have := atA_has hT (hl a (by simp))
      rw [List.flatMap_cons, List.flatMap_cons, ih (fun x hx => hl x (by simp [hx])), divL_more hT _ n _ (Nat.le_refl _) (by rw [List.length_drop]; omega)]
  exact key _ (fun x hx => hx)
def sumA (T : List Ent) (s : List UInt8) (l : List Int) : Nat := l.foldr (fun id n => cntA T (s.drop (lenT T id)) + n) 0
theorem sumA_app (T : List Ent) (s : List UInt8) (a b : List Int) : sumA T s (a ++ b) = sumA T s a + sumA T s b := by
  unfold sumA
  induction a with
  | nil => simp
  | cons x a ih => rw [List.cons_append, List.foldr_cons, List.foldr_cons, ih]; omega
theorem sumA_one (T : List Ent) (s : List UInt8) (x : Int) : sumA T s [x] = cntA T (s.drop (lenT T x)) := rfl
theorem cntA_nil (T : List Ent) : cntA T [] = 1 := rfl
theorem cntA_rec {T : List Ent} (hT : OkT T) {s : List UInt8} (h : s ≠ []) : cntA T s = sumA T s (atA T s) := by
  unfold cntA
  rw [divA_rec hT h]
  have key : ∀ l : List Int, (l.flatMap (fun id => (divA T (s.drop (lenT T id))).map (fun d => id :: d))).length = sumA T s l := by
    intro l
    induction l with
    | nil => rfl
    | cons a l ih =>
      rw [List.flatMap_cons, List.length_append, List.length_map, ih]
      rfl
  exact key _
theorem at_byte {T : List Ent} (hT : OkT T) {s : List UInt8} (h : s ≠ []) : ∃ l, atA T s = l ++ [((s.head h).toNat : Int)] := by
  obtain ⟨n, hn⟩ : ∃ n, s.length = n + 1 := ⟨s.length - 1, by have := List.length_pos_iff.2 h; omega⟩
  have h1 : findT T (s.take 1) = some (s.head h).toNat := by
    have hb := byte_has hT (i := (s.head h).toNat) (by have := (s.head h).toNat_lt; omega)
    have h2 := find_tok hT hb.1
    rw [hb.2] at h2
    cases s with
    | nil => exact absurd rfl h
    | cons c s => simpa using h2
  unfold atA begT
  rw [hn, List.range_succ_eq_map, List.filterMap_cons, h1]
  simp only [Option.map_some, List.reverse_cons]
  exact ⟨_, rfl⟩
open Go.RowKit
structure Cls where
  lo : Int
  hi : Int
  n : Int
structure Jn where
  a : Int
  b : Int
def encCls (c : Cls) : List Value := [.int .i64 c.lo, .int .i64 c.hi, .int .i64 c.n]
def encJn (c : Jn) : List Value := [.int .i64 c.a, .int .i64 c.b]
def tabCell (C : Nat → Int) (J : Nat → Nat → Bool) (i : Nat) : Value := if i < 256 then .int .i64 (C i) else .bool (J ((i - 256) / 16) ((i - 256) % 16))
def tabArr (C : Nat → Int) (J : Nat → Nat → Bool) : Array Value := Array.ofFn (n := 512) fun i => tabCell C J i
theorem zero_tab : Tryz.zeroCells266 = tabArr (fun _ => 0) (fun _ _ => false) := by
  have : Tryz.zeroCells266.toList = (tabArr (fun _ => 0) (fun _ _ => false)).toList := by
    unfold tabArr
    rw [Array.toList_ofFn]
    kernel_rfl
  exact Array.toList_inj.1 this
theorem tab_get (C : Nat → Int) (J : Nat → Nat → Bool) (i : Nat) (h : i < 512) : (tabArr C J)[i]? = some (tabCell C J i) := by
  simp [tabArr, h]
theorem tab_cls (C : Nat → Int) (J : Nat → Nat → Bool) (i : Nat) (h : i < 256) : (tabArr C J)[i]? = some (.int .i64 (C i)) := by
  rw [tab_get _ _ _ (by omega), tabCell, if_pos h]
theorem tab_jn (C : Nat → Int) (J : Nat → Nat → Bool) (x y : Nat) (hx : x < 16) (hy : y < 16) : (tabArr C J)[256 + x * 16 + y]? = some (.bool (J x y)) := by
  rw [tab_get _ _ _ (by omega), tabCell, if_neg (by omega)]
  have e1 : (256 + x * 16 + y - 256) / 16 = x := by omega
  have e2 : (256 + x * 16 + y - 256) % 16 = y := by omega
  rw [e1, e2]
theorem tab_setC (C : Nat → Int) (J : Nat → Nat → Bool) (i : Nat) (n : Int) (h : i < 256) : (tabArr C J).setIfInBounds i (.int .i64 n) = tabArr (fun j => if j = i then n else C j) J := by
  apply Array.ext_getElem?
  intro j
  rw [Array.getElem?_setIfInBounds]
  by_cases hj : j < 512
  · by_cases e : i = j
    · subst e
      rw [if_pos rfl, if_pos (by simp [tabArr]; omega), tab_cls _ _ _ h, if_pos rfl]
    · rw [if_neg e, tab_get _ _ _ hj, tab_get _ _ _ hj]
      unfold tabCell
      simp only [Option.some.injEq]
      split
      · rw [if_neg (by omega)]
      · rfl
  · have e : i ≠ j := by omega
    rw [if_neg e]
    simp [tabArr, hj]
theorem tab_setJ (C : Nat → Int) (J : Nat → Nat → Bool) (x y : Nat) (u : Bool) (hx : x < 16) (hy : y < 16) : (tabArr C J).setIfInBounds (256 + x * 16 + y) (.bool u) = tabArr C (fun a b => if a = x ∧ b = y then u else J a b) := by
  apply Array.ext_getElem?
  intro j
  rw [Array.getElem?_setIfInBounds]
  by_cases hj : j < 512
  · by_cases e : 256 + x * 16 + y = j
    · subst e
      rw [if_pos rfl, if_pos (by simp [tabArr]; omega), tab_jn _ _ _ _ hx hy, if_pos ⟨rfl, rfl⟩]
    · rw [if_neg e, tab_get _ _ _ hj, tab_get _ _ _ hj]
      unfold tabCell
      simp only [Option.some.injEq]
      split
      · rfl
      · rw [if_neg (by omega)]
  · have e : 256 + x * 16 + y ≠ j := by omega
    rw [if_neg e]
    simp [tabArr, hj]
def clsB (n : Int) : Bool := decide (0 ≤ n ∧ n < 16)
def spanB (c : Cls) : Bool := decide (0 ≤ c.lo ∧ c.lo ≤ c.hi ∧ c.hi < 256 ∧ 0 ≤ c.n ∧ c.n < 16)
def jnB (j : Jn) : Bool := clsB j.a && clsB j.b
theorem class_any (n : Int) (w : World) : Calls Tryz.prog 157 #[.int .i64 n] w fun e w' => e = .returned (.bool (clsB n)) ∧ w = w' := by
  by_cases h : 0 ≤ n
  · by_cases h2 : n < 16
    · have e : clsB n = true := by simp [clsB, h, h2]
      rw [e]
      go_enter Tryz.func157, Tryz.ntmps157
      go_wp2
      go_ret
      exact ⟨by simp, rfl⟩
    · have e : clsB n = false := by simp [clsB, h, h2]
      rw [e]
      go_enter Tryz.func157, Tryz.ntmps157
      go_wp2
      go_ret
      exact ⟨by simp, rfl⟩
  · have e : clsB n = false := by simp [clsB, h]
    rw [e]
    go_enter Tryz.func157, Tryz.ntmps157
    go_wp2
    go_ret
    exact ⟨by simp, rfl⟩
theorem span_yes (lo hi n : Int) (w : World) (h0 : 0 ≤ lo) (h1 : lo ≤ hi) (h2 : hi < 256) : Calls Tryz.prog 156 #[.agg #[.int .i64 lo, .int .i64 hi, .int .i64 n]] w fun e w' => e = .returned (.bool (clsB n)) ∧ Below w.heap.size w w' := by
  go_enter Tryz.func156, Tryz.ntmps156
  go_wp2_with (go_at_call 157; refine (class_any _ _).mono ?_; rintro e w' ⟨rfl, rfl⟩)
  go_ret
  exact ⟨by simp, (Below.refl _ _).alloc (Nat.le_refl _) _⟩
theorem span_no (lo hi n : Int) (w : World) (h : ¬ (0 ≤ lo ∧ lo ≤ hi ∧ hi < 256)) : Calls Tryz.prog 156 #[.agg #[.int .i64 lo, .int .i64 hi, .int .i64 n]] w fun e w' => e = .returned (.bool false) ∧ Below w.heap.size w w' := by
  by_cases h0 : 0 ≤ lo
  · by_cases h1 : lo ≤ hi
    · have h2 : decide (hi < 256) = false := by simp; omega
      clear h
      go_enter Tryz.func156, Tryz.ntmps156
      go_wp2
      go_ret
      exact ⟨by simp, (Below.refl _ _).alloc (Nat.le_refl _) _⟩
    · have h2 : decide (lo ≤ hi) = false := by simp; omega
      clear h h1
      go_enter Tryz.func156, Tryz.ntmps156
      go_wp2
      go_ret
      exact ⟨by simp, (Below.refl _ _).alloc (Nat.le_refl _) _⟩
  · have h2 : decide (0 ≤ lo) = false := by simp; omega
    clear h h0
    go_enter Tryz.func156, Tryz.ntmps156
    go_wp2
    go_ret
    exact ⟨by simp, (Below.refl _ _).alloc (Nat.le_refl _) _⟩
theorem span_any (c : Cls) (w : World) : Calls Tryz.prog 156 #[.agg #[.int .i64 c.lo, .int .i64 c.hi, .int .i64 c.n]] w fun e w' => e = .returned (.bool (spanB c)) ∧ Below w.heap.size w w' := by
  by_cases h : 0 ≤ c.lo ∧ c.lo ≤ c.hi ∧ c.hi < 256
  · refine (span_yes c.lo c.hi c.n w h.1 h.2.1 h.2.2).mono ?_
    rintro e w' ⟨rfl, hb⟩
    refine ⟨?_, hb⟩
    congr 2
    simp only [spanB, clsB, h.1, h.2.1, h.2.2, true_and]
  · refine (span_no c.lo c.hi c.n w h).mono ?_
    rintro e w' ⟨rfl, hb⟩
    refine ⟨?_, hb⟩
    congr 2
    simp only [spanB]
    symm
    rw [decide_eq_false_iff_not]
    omega
def BTab (w : World) (bk : Nat) (C : Nat → Int) (J : Nat → Nat → Bool) : Prop :=
  w.heap[bk]? = some (.cells (tabArr C J) 266 (0, 0)) ∧ ∀ i, 0 ≤ C i ∧ C i < 16
theorem BTab.below {B : Nat} {w w' : World} {bk : Nat} {C : Nat → Int} {J : Nat → Nat → Bool} (h : BTab w bk C J) (hb : Below B w w') (hB : bk < B) : BTab w' bk C J := ⟨blk_below hb hB h.1, h.2⟩
def cutB (C : Nat → Int) (J : Nat → Nat → Bool) (a b : Nat) : Bool := decide (C a ≠ C b) && !J (C a).toNat (C b).toNat
def putC (C : Nat → Int) (c : Cls) : Nat → Int := fun j => if c.lo ≤ (j : Int) ∧ (j : Int) ≤ c.hi then c.n else C j
def putJ (J : Nat → Nat → Bool) (j : Jn) : Nat → Nat → Bool := fun x y => if (x : Int) = j.a ∧ (y : Int) = j.b then true else J x y
def Cof (l : List Cls) : Nat → Int := l.foldl putC (fun _ => 0)
def Jof (l : List Jn) : Nat → Nat → Bool := l.foldl putJ (fun _ _ => false)
theorem Cof_snoc (l : List Cls) (c : Cls) : Cof (l ++ [c]) = putC (Cof l) c := by simp [Cof]
theorem Jof_snoc (l : List Jn) (c : Jn) : Jof (l ++ [c]) = putJ (Jof l) c := by simp [Jof]
theorem all_snoc {α : Type} (p : α → Bool) (l : List α) (c : α) : (l ++ [c]).all p = (l.all p && p c) := by simp
theorem all_false {α : Type} {p : α → Bool} {l : List α} {c : α} {k : Nat} (h : l[k]? = some c) (hp : p c = false) : l.all p = false := by
  rw [List.all_eq_false]
  exact ⟨c, List.mem_of_getElem? h, by simp [hp]⟩
def NewPost (cs : List Cls) (js : List Jn) (w : World) (e : Ending) (w' : World) : Prop :=
  Below w.heap.size w w' ∧
  if cs.all spanB && js.all jnB then ∃ bk, w.heap.size ≤ bk ∧ e = .returned (.tuple #[.pointer (some ⟨bk, 0, none⟩), .int .i64 0]) ∧ BTab w' bk (Cof cs) (Jof js)
  else e = .returned (.tuple #[.pointer none, .int .i64 1])
theorem Cof_small0 (l : List Cls) : ∀ C : Nat → Int, (∀ i, 0 ≤ C i ∧ C i < 16) → l.all spanB = true → ∀ i, 0 ≤ l.foldl putC C i ∧ l.foldl putC C i < 16 := by
  induction l with
  | nil => intro C h _ i; exact h i
  | cons c l ih =>
    intro C h ha i
    rw [List.all_cons, Bool.and_eq_true] at ha
    rw [List.foldl_cons]
    refine ih _ (fun j => ?_) ha.2 i
    unfold putC
    split
    · have := ha.1
      simp only [spanB, decide_eq_true_eq] at this
      omega
    · exact h j
theorem Cof_small (l : List Cls) (h : l.all spanB = true) (i : Nat) : 0 ≤ Cof l i ∧ Cof l i < 16 := Cof_small0 l _ (fun _ => by simp) h i
theorem new_bad {cs : List Cls} {js : List Jn} {w w' : World} (hb : Below w.heap.size w w') (h : cs.all spanB = false ∨ js.all jnB = false) : NewPost cs js w (.returned (.tuple #[.pointer none, .int .i64 1])) w' := by
  refine ⟨hb, ?_⟩
  rw [if_neg (by rcases h with h | h <;> simp [h])]
theorem new_good {cs : List Cls} {js : List Jn} {w w' : World} {bk : Nat} (hb : Below w.heap.size w w') (h : cs.all spanB = true) (h' : js.all jnB = true) (hbk : w.heap.size ≤ bk)
    (ht : w'.heap[bk]? = some (.cells (tabArr (Cof cs) (Jof js)) 266 (0, 0))) : NewPost cs js w (.returned (.tuple #[.pointer (some ⟨bk, 0, none⟩), .int .i64 0])) w' := by
  refine ⟨hb, ?_⟩
  rw [if_pos (by simp [h, h'])]
  exact ⟨bk, hbk, rfl, ht, Cof_small cs h⟩
def Half (cs : List Cls) (js : List Jn) (w : World) (k : Nat) (wr : World) : Prop :=
  Below w.heap.size w wr ∧ w.heap.size < wr.heap.size ∧ (js.take k).all jnB = true ∧ wr.heap[w.heap.size]? = some (.cells (tabArr (Cof cs) (Jof (js.take k))) 266 (0, 0))
def HalfC (cs : List Cls) (w : World) (k : Nat) (wr : World) : Prop :=
  Below w.heap.size w wr ∧ w.heap.size < wr.heap.size ∧ (cs.take k).all spanB = true ∧ wr.heap[w.heap.size]? = some (.cells (tabArr (Cof (cs.take k)) (fun _ _ => false)) 266 (0, 0))
theorem fill_step (C : Nat → Int) (lo q : Nat) (n : Int) (h : lo ≤ q) : (fun j => if j = q then n else if lo ≤ j ∧ j < q then n else C j) = (fun j => if lo ≤ j ∧ j < q + 1 then n else C j) := by
  funext j
  by_cases e : j = q
  · rw [if_pos e, if_pos (by omega)]
  · rw [if_neg e]
    by_cases f : lo ≤ j ∧ j < q
    · rw [if_pos f, if_pos (by omega)]
    · rw [if_neg f, if_neg (by omega)]
set_option maxHeartbeats 1000000 in
theorem bnew_any (cs : List Cls) (js : List Jn) (A B : Option Addr) (cA cB : Nat) (w : World) (hA : Sl w A encCls 3 cs) (hB : Sl w B encJn 2 js) (hcs : cs.length < 9000000000000000000) (hjs : js.length < 9000000000000000000) :
  Calls Tryz.prog 131 #[.slice A cs.length cA, .slice B js.length cB] w (NewPost cs js w) := by
  have HB := Lib.hid hB
  have HSA := Lib.hid hA
  clear hB hA
  go_enter Tryz.func131, Tryz.ntmps131
  go_wp2
  go_loopw [16] (fun i wr => ∃ k : Nat, k ≤ cs.length ∧ i = .int .i64 k ∧ HalfC cs w k wr) (fun i wr => cs.length - (intOf i).toNat)
  case atStart =>
    refine ⟨0, by omega, rfl, (Below.refl _ _).alloc (Nat.le_refl _) _, by simp, rfl, ?_⟩
    simp only [List.take_zero, List.foldl_nil, Cof]; rw [← zero_tab]; exact blk_new _ _
  case round =>
   obtain ⟨k, hk, rfl, hb, hsz, hall, hblk⟩ := hrel
   by_cases hlt : k < cs.length
   · have hck : cs[k]? = some cs[k] := by simp
     obtain ⟨b, o, rfl, hc0⟩ := HSA.out.at k hlt
     have g0 : wr.cell? ⟨b, o + k * 3, none⟩ = some (.int .i64 cs[k].lo) := below_cell hb (Nat.le_refl _) (hc0 0 _ rfl)
     have g1 : wr.cell? ⟨b, o + k * 3 + 1, none⟩ = some (.int .i64 cs[k].hi) := below_cell hb (Nat.le_refl _) (hc0 1 _ rfl)
     have g2 : wr.cell? ⟨b, o + k * 3 + 2, none⟩ = some (.int .i64 cs[k].n) := below_cell hb (Nat.le_refl _) (hc0 2 _ rfl)
     have HT := Lib.hid (take_snoc hlt)
     have HCK := Lib.hid hck
     generalize cs[k] = c at *
     have HA := Lib.hid hall
     have HK := Lib.hid hblk
     have HBE := Lib.hid hb
     clear hc0 hck hall hblk hb
     go_wp2_with fail
     refine (span_any c _).mono ?_
     rintro e w1 ⟨rfl, hb1⟩
     have hs1 := hb1.size
     rw [size_alloc] at hs1 hb1
     have hw1 : w1.heap[wr.heap.size]? = some (.cells #[.int .i64 c.lo, .int .i64 c.hi, .int .i64 c.n] 181 (0, 0)) := blk_below hb1 (by omega) (blk_new _ _)
     have hw2 : w1.heap[w.heap.size]? = some (.cells (tabArr (Cof (cs.take k)) (fun _ _ => false)) 266 (0, 0)) := blk_below hb1 (by omega) (blk_alloc HK.out _)
     have hb2 : Below w.heap.size w w1 := below_then (HBE.out.alloc HBE.out.size _) (by omega) hb1
     have c0 : w1.cell? ⟨wr.heap.size, 0, none⟩ = some (.int .i64 c.lo) := blk_cell hw1 0
     have c1 : w1.cell? ⟨wr.heap.size, 1, none⟩ = some (.int .i64 c.hi) := blk_cell hw1 1
     have c2 : w1.cell? ⟨wr.heap.size, 2, none⟩ = some (.int .i64 c.n) := blk_cell hw1 2
     have HB2 := Lib.hid hb2
     have HW2 := Lib.hid hw2
     have HW1 := Lib.hid hw1
     clear hb1 hb2 hw1 hw2 HBE HK g0 g1 g2
     cases hs : spanB c with
     | false =>
       have HF := Lib.hid (all_false HCK.out hs)
       clear hs
       go_wp2_with fail
       go_ret2
       exact new_bad HB2.out (.inl HF.out)
     | true =>
       have hsb := hs
       simp only [spanB, decide_eq_true_eq] at hsb
       obtain ⟨s0, s1, s2, s3, s4⟩ := hsb
       have HS := Lib.hid hs
       clear hs
       obtain ⟨lo, hi, n⟩ := c
       simp only at *
       obtain ⟨lo, rfl⟩ := Int.eq_ofNat_of_zero_le s0
       obtain ⟨hi, rfl⟩ := Int.eq_ofNat_of_zero_le (show 0 ≤ hi by omega)
       have HT2 := Lib.hid (show lo ≤ hi from by omega)
       go_wp2_with fail
       go_loopw [9] (fun i wi => ∃ q : Nat, lo ≤ q ∧ q ≤ hi + 1 ∧ i = .int .i64 q ∧ Below w.heap.size w wi ∧ wr.heap.size < wi.heap.size ∧
          wi.heap[wr.heap.size]? = some (.cells #[.int .i64 (lo : Int), .int .i64 (hi : Int), .int .i64 n] 181 (0, 0)) ∧
          wi.heap[w.heap.size]? = some (.cells (tabArr (fun j => if lo ≤ j ∧ j < q then n else Cof (cs.take k) j) (fun _ _ => false)) 266 (0, 0))) (fun i _ => hi + 1 - (intOf i).toNat)
       case atStart =>
         refine ⟨lo, Nat.le_refl _, by omega, rfl, HB2.out, by omega, HW1.out, ?_⟩
         rw [HW2.out]
         congr 3
         funext j
         rw [if_neg (by omega)]
       case round =>
         obtain ⟨q, q1, q2, rfl, k1, k2, k3, k4⟩ := hrel
         have H1 := Lib.hid k1
         have H3 := Lib.hid k3
         have H4 := Lib.hid k4
         clear c0 c1 c2
         rename World => wi
         have c1 : wi.cell? ⟨wr.heap.size, 1, none⟩ = some (.int .i64 (hi : Int)) := blk_cell k3 1
         have c2 : wi.cell? ⟨wr.heap.size, 2, none⟩ = some (.int .i64 n) := blk_cell k3 2
         clear k1 k3 k4
         by_cases hq : q ≤ hi
         · have d1 := blk_cell H4.out q
           rw [tab_cls _ _ _ (by omega)] at d1
           have d2 := blk_froz H4.out q
           go_wp2_with fail
           go_region
           go_wp2_with fail
           go_roundw
           case rel =>
             refine ⟨q + 1, by omega, by omega, by go_num, ?_, ?_, ?_, ?_⟩
             · exact ((H1.out.drew).setCell (Nat.le_refl _) _)
             · simpa using k2
             · exact blk_far H3.out (by simp; omega) _
             · refine (blk_set (w := wi.drew) H4.out q _).trans ?_
               rw [tab_setC _ _ _ _ (by omega), fill_step _ _ _ _ q1]
           case measure => simp [intOf]; omega
         · obtain rfl : q = hi + 1 := by omega
           go_wp2_with fail
           go_roundw
           case rel =>
             refine ⟨k + 1, by omega, by go_num, H1.out, by omega, ?_, ?_⟩
             · rw [HT.out, all_snoc, HA.out, HS.out]; rfl
             · rw [H4.out, HT.out, Cof_snoc]
               congr 3
               funext j
               unfold putC
               simp only
               congr 1
               simp only [eq_iff_iff]
               omega
           case measure => simp [intOf]; omega
   · obtain rfl : k = cs.length := by omega
     rw [List.take_length] at hall hblk
     have HA := Lib.hid hall
     have HBE := Lib.hid hb
     have HK := Lib.hid hblk
     clear hall hb hblk
     go_wp2_with fail
     go_loopw [41] (fun i wr => ∃ k : Nat, k ≤ js.length ∧ i = .int .i64 k ∧ Half cs js w k wr) (fun i wr => js.length - (intOf i).toNat)
     case atStart => exact ⟨0, by omega, rfl, HBE.out, hsz, rfl, HK.out⟩
     case round =>
      obtain ⟨k, hk, rfl, hb, hsz, hall, hblk⟩ := hrel
      clear HK HBE
      rename World => wj
      by_cases hlt : k < js.length
      · have hck : js[k]? = some js[k] := by simp
        obtain ⟨b, o, rfl, hc0⟩ := HB.out.at k hlt
        have g0 : wj.cell? ⟨b, o + k * 2, none⟩ = some (.int .i64 js[k].a) := below_cell hb (Nat.le_refl _) (hc0 0 _ rfl)
        have g1 : wj.cell? ⟨b, o + k * 2 + 1, none⟩ = some (.int .i64 js[k].b) := below_cell hb (Nat.le_refl _) (hc0 1 _ rfl)
        have HT := Lib.hid (take_snoc hlt)
        have HCK := Lib.hid hck
        generalize js[k] = c at *
        have HAJ := Lib.hid hall
        have HK := Lib.hid hblk
        have HBE := Lib.hid hb
        clear hc0 hck hall hblk hb
        cases ha : clsB c.a with
        | false =>
          have HF := Lib.hid (all_false (p := jnB) HCK.out (by simp [jnB, ha]))
          have HNA := Lib.hid ha
          clear ha
          go_wp2_with (go_at_call 157; refine (class_any _ _).mono ?_; rw [HNA.out]; rintro e w' ⟨rfl, rfl⟩)
          go_ret2
          exact new_bad (HBE.out.alloc HBE.out.size _) (.inr HF.out)
        | true =>
          have HNA := Lib.hid ha
          clear ha
          cases hb' : clsB c.b with
          | false =>
            have HF := Lib.hid (all_false (p := jnB) HCK.out (by simp [jnB, hb']))
            have HNB := Lib.hid hb'
            clear hb'
            go_wp2_with (go_at_call 157; refine (class_any _ _).mono ?_; (first | rw [HNA.out] | rw [HNB.out]); rintro e w' ⟨rfl, rfl⟩)
            go_ret2
            exact new_bad (HBE.out.alloc HBE.out.size _) (.inr HF.out)
          | true =>
            have HJ := Lib.hid (show jnB c = true by simp [jnB, HNA.out, hb'])
            have HNB := Lib.hid hb'
            clear hb'
            obtain ⟨ja, jb⟩ := c
            simp only at *
            have ba := HNA.out
            have bb := HNB.out
            simp only [clsB, decide_eq_true_eq] at ba bb
            obtain ⟨ba0, ba1⟩ := ba
            obtain ⟨bb0, bb1⟩ := bb
            obtain ⟨ja, rfl⟩ := Int.eq_ofNat_of_zero_le ba0
            obtain ⟨jb, rfl⟩ := Int.eq_ofNat_of_zero_le bb0
            have d1 := blk_cell HK.out (256 + ja * 16 + jb)
            rw [tab_jn _ _ _ _ (by omega) (by omega)] at d1
            have d2 := blk_froz HK.out (256 + ja * 16 + jb)
            have d1' : (wj.alloc (.cells #[.int .i64 (ja : Int), .int .i64 (jb : Int)] 182)).cell? ⟨w.heap.size, 256 + ja * 16 + jb, none⟩ = _ := below_cell ((Below.refl wj.heap.size wj).alloc (Nat.le_refl _) _) (Nat.le_refl _) d1
            have d2' : (wj.alloc (.cells #[.int .i64 (ja : Int), .int .i64 (jb : Int)] 182)).frozen? ⟨w.heap.size, 256 + ja * 16 + jb, none⟩ = false := blk_froz (blk_alloc HK.out _) _
            go_wp2_with (go_at_call 157; refine (class_any _ _).mono ?_; (first | rw [HNA.out] | rw [HNB.out]); rintro e w' ⟨rfl, rfl⟩)
            go_region
            go_wp2_with fail
            go_roundw
            case rel =>
              refine ⟨k + 1, by omega, by go_num, ?_, ?_, ?_, ?_⟩
              · exact (((HBE.out.setCell (p := ⟨w.heap.size, _, none⟩) (Nat.le_refl _) _).alloc (by have := HBE.out.size; simp; omega) _).drew)
              · simp; omega
              · rw [HT.out, all_snoc, HAJ.out, HJ.out]; rfl
              · refine (blk_drew (blk_alloc (blk_set HK.out _ _) _)).trans ?_
                rw [tab_setJ _ _ _ _ _ (by omega) (by omega), HT.out, Jof_snoc]
                congr 3
                funext x y
                unfold putJ
                simp only
                congr 1
                simp only [eq_iff_iff]
                omega
            case measure => simp [intOf]; omega
      · obtain rfl : k = js.length := by omega
        rw [List.take_length] at hall hblk
        have HAJ := Lib.hid hall
        have HBE := Lib.hid hb
        have HK := Lib.hid hblk
        clear hall hb hblk
        go_wp2_with fail
        go_ret2
        exact new_good HBE.out HA.out HAJ.out (Nat.le_refl _) HK.out
open Go.ChangeShapes Go.WideShapes Go.Deep
def RetTrue (w : World) (e : Ending) (w' : World) : Prop := e = .returned (.bool true) ∧ Go.RowKit.Below w.heap.size w w'
theorem addr_plain {w : World} {a : Addr} {v : Value} (h : w.cell? a = some v) : a = ⟨a.block, a.off, none⟩ := by
  have := World.cell?_spot h
  cases a
  simp_all
section
variable {H : Type} {enc : TypeId × Value → H} {P : Program} {w : World} {base : Nat} {spare : Nat → Bool} {held : Bool}
theorem arg_ints {t e : TypeId} {k : IntKind} {fuel : Nat} {A : Option Addr} {n c : Nat} {x : DataW H × List MemPlace} (ht : P.underlying t = some (.slice e)) (he : P.underlying e = some (.int k)) (hC : P.cellsOf e = 1)
    (h : DataW.trod enc P w base spare held fuel t [.slice A n c] = some x) :
    ∃ xs : List Int, xs.length = n ∧ n ≤ c ∧ c ≤ maxLen ∧ (∀ y ∈ xs, (Lit.int k y).wf = true) ∧ Sl1 w A (Value.int k) xs := by
  rcases open_slice1 ht hC h with ⟨h0, _⟩ | ⟨a, len, cap, m, f, V, D, Pl, hcs, hb, hl, hm, hmm, hx, hi⟩
  · cases h0
    exact ⟨[], rfl, Nat.le_refl _, Nat.zero_le _, by simp, Sl1.nil _ _ _⟩
  · cases hcs
    have hlm : n ≤ m := by rw [hmm]; split <;> omega
    obtain ⟨g, hg⟩ := choose_lt (α := Int) (p := fun i y => V i = .int k y ∧ (Lit.int k y).wf = true) (n := m) (fun i him => by
      obtain ⟨_, h2⟩ := hi i him
      obtain ⟨y, e1, _, e3⟩ := DataW.trod_int he h2
      exact ⟨y, by simpa using e1, e3⟩)
    refine ⟨(List.range n).map g, by simp, hl, hm, ?_, ?_⟩
    · intro y hy
      obtain ⟨i, hir, rfl⟩ := List.mem_map.1 hy
      rw [List.mem_range] at hir
      exact (hg i (by omega)).2
    · intro i y hy
      rw [List.getElem?_map, Option.map_eq_some_iff] at hy
      obtain ⟨i', hi', rfl⟩ := hy
      obtain ⟨hlt, hi''⟩ := List.getElem?_eq_some_iff.1 hi'
      rw [List.getElem_range] at hi''
      subst hi''
      rw [List.length_range] at hlt
      have hc := (hi i (by omega)).1
      rw [(hg i (by omega)).1] at hc
      have h0 := addr_plain (hi 0 (by omega)).1
      have ha : a = ⟨a.block, a.off, none⟩ := by
        have : a.add 0 = a := by unfold Addr.add; simp
        rwa [this] at h0
      refine ⟨a.block, a.off, by rw [← ha], ?_⟩
      rw [ha] at hc
      have hadd := add_plain a.block a.off i
      rwa [hadd] at hc
end
section
variable {H : Type} {enc : TypeId × Value → H} {P : Program} {w : World} {base : Nat} {spare : Nat → Bool} {held : Bool}
def encIS (x : Int × List UInt8) : List Value := [.int .i64 x.1, strV x.2]
end
def inR (n lo hi : Int) : Bool := decide (lo ≤ n) && decide (n ≤ hi)
def mrgR (x : Int × Int) : Bool := inR x.1 0 999 && inR x.2 0 999
def txtR (x : ByteArray) : Bool := inR x.size 2 64
def splR (x : Int × ByteArray) : Bool := inR x.1 0 1073741824 && inR x.2.size 1 64
def clsR (x : Cls) : Bool := inR x.lo 0 x.hi && decide (x.hi ≤ 255) && inR x.n 0 15
def jnR (x : Jn) : Bool := inR x.a 0 15 && inR x.b 0 15
theorem within_any (n lo hi : Int) (w : World) : Calls Tryz.prog 144 #[.int .i64 n, .int .i64 lo, .int .i64 hi] w fun e w' => e = .returned (.bool (inR n lo hi)) ∧ w' = w := by
  unfold inR
  by_cases h : lo ≤ n
  · rw [decide_eq_true h]
    go_enter Tryz.func144, Tryz.ntmps144
    go_wp2_with fail
    go_ret
    exact ⟨rfl, rfl⟩
  · rw [decide_eq_false h]
    go_enter Tryz.func144, Tryz.ntmps144
    go_wp2_with fail
    go_ret
    exact ⟨rfl, rfl⟩
theorem pred_Mrg (x : Int × Int) (w : World) : Calls Tryz.prog 118 #[.agg #[.int .i64 x.1, .int .i64 x.2]] w fun e w' => e = .returned (.bool (mrgR x)) ∧ Below w.heap.size w w' := by
  obtain ⟨x1, x2⟩ := x
  have HB := Lib.hid ((Below.refl w.heap.size w).alloc (Nat.le_refl _) (.cells #[.int .i64 x1, .int .i64 x2] 113))
  unfold mrgR
  (try simp only)
  obtain ⟨b0, hb0⟩ : ∃ b, (inR x1 0 999) = b := ⟨_, rfl⟩
  rw [hb0]
  have B0 := Lib.hid hb0
  clear hb0
  obtain ⟨b1, hb1⟩ : ∃ b, (inR x2 0 999) = b := ⟨_, rfl⟩
  rw [hb1]
  have B1 := Lib.hid hb1
  clear hb1
  rcases b0 with _ | _
  ·
    go_enter Tryz.func118, Tryz.ntmps118
    go_wp2_with (go_at_call 144; (refine (within_any _ _ _ _).mono ?_); (rintro e V1 ⟨rfl, rfl⟩); (try rw [B0.out]); (try rw [B1.out]))
    go_ret
    exact ⟨rfl, HB.out⟩
  ·
    rcases b1 with _ | _
    ·
      go_enter Tryz.func118, Tryz.ntmps118
      go_wp2_with (go_at_call 144; (refine (within_any _ _ _ _).mono ?_); (rintro e V1 ⟨rfl, rfl⟩); (try rw [B0.out]); (try rw [B1.out]))
      go_ret
      exact ⟨rfl, HB.out⟩
    ·
      go_enter Tryz.func118, Tryz.ntmps118
      go_wp2_with (go_at_call 144; (refine (within_any _ _ _ _).mono ?_); (rintro e V1 ⟨rfl, rfl⟩); (try rw [B0.out]); (try rw [B1.out]))
      go_ret
      exact ⟨rfl, HB.out⟩
theorem pred_Txt (x : ByteArray) (w : World) : Calls Tryz.prog 120 #[.string x] w fun e w' => e = .returned (.bool (txtR x)) ∧ Below w.heap.size w w' := by
  have HB := Lib.hid (Below.refl w.heap.size w)
  unfold txtR
  (try simp only)
  obtain ⟨b0, hb0⟩ : ∃ b, (inR x.size 2 64) = b := ⟨_, rfl⟩
  rw [hb0]
  have B0 := Lib.hid hb0
  clear hb0
  rcases b0 with _ | _
  ·
    go_enter Tryz.func120, Tryz.ntmps120
    go_wp2_with (go_at_call 144; (refine (within_any _ _ _ _).mono ?_); (rintro e V1 ⟨rfl, rfl⟩); (try rw [B0.out]))
    go_ret
    exact ⟨rfl, HB.out⟩
  ·
    go_enter Tryz.func120, Tryz.ntmps120
    go_wp2_with (go_at_call 144; (refine (within_any _ _ _ _).mono ?_); (rintro e V1 ⟨rfl, rfl⟩); (try rw [B0.out]))
    go_ret
    exact ⟨rfl, HB.out⟩
theorem pred_Spl (x : Int × ByteArray) (w : World) : Calls Tryz.prog 122 #[.agg #[.int .i64 x.1, .string x.2]] w fun e w' => e = .returned (.bool (splR x)) ∧ Below w.heap.size w w' := by
  obtain ⟨x1, x2⟩ := x
  have HB := Lib.hid ((Below.refl w.heap.size w).alloc (Nat.le_refl _) (.cells #[.int .i64 x1, .string x2] 170))
  unfold splR
  (try simp only)
  obtain ⟨b0, hb0⟩ : ∃ b, (inR x1 0 1073741824) = b := ⟨_, rfl⟩
  rw [hb0]
  have B0 := Lib.hid hb0
  clear hb0
  obtain ⟨b1, hb1⟩ : ∃ b, (inR x2.size 1 64) = b := ⟨_, rfl⟩
  rw [hb1]
  have B1 := Lib.hid hb1
  clear hb1
  rcases b0 with _ | _
  ·
    go_enter Tryz.func122, Tryz.ntmps122
    go_wp2_with (go_at_call 144; (refine (within_any _ _ _ _).mono ?_); (rintro e V1 ⟨rfl, rfl⟩); (try rw [B0.out]); (try rw [B1.out]))
    go_ret
    exact ⟨rfl, HB.out⟩
  ·
    rcases b1 with _ | _
    ·
      go_enter Tryz.func122, Tryz.ntmps122
      go_wp2_with (go_at_call 144; (refine (within_any _ _ _ _).mono ?_); (rintro e V1 ⟨rfl, rfl⟩); (try rw [B0.out]); (try rw [B1.out]))
      go_ret
      exact ⟨rfl, HB.out⟩
    ·
      go_enter Tryz.func122, Tryz.ntmps122
      go_wp2_with (go_at_call 144; (refine (within_any _ _ _ _).mono ?_); (rintro e V1 ⟨rfl, rfl⟩); (try rw [B0.out]); (try rw [B1.out]))
      go_ret
      exact ⟨rfl, HB.out⟩
theorem pred_Cls (x : Cls) (w : World) : Calls Tryz.prog 124 #[.agg #[.int .i64 x.lo, .int .i64 x.hi, .int .i64 x.n]] w fun e w' => e = .returned (.bool (clsR x)) ∧ Below w.heap.size w w' := by
  obtain ⟨x1, x2, x3⟩ := x
  have HB := Lib.hid ((Below.refl w.heap.size w).alloc (Nat.le_refl _) (.cells #[.int .i64 x1, .int .i64 x2, .int .i64 x3] 181))
  unfold clsR
  (try simp only)
  obtain ⟨b0, hb0⟩ : ∃ b, (inR x1 0 x2) = b := ⟨_, rfl⟩
  rw [hb0]
  have B0 := Lib.hid hb0
  clear hb0
  obtain ⟨b2, hb2⟩ : ∃ b, (inR x3 0 15) = b := ⟨_, rfl⟩
  rw [hb2]
  have B2 := Lib.hid hb2
  clear hb2
  rcases b0 with _ | _
  ·
    go_enter Tryz.func124, Tryz.ntmps124
    go_wp2_with (go_at_call 144; (refine (within_any _ _ _ _).mono ?_); (rintro e V1 ⟨rfl, rfl⟩); (try rw [B0.out]); (try rw [B2.out]))
    go_ret
    exact ⟨rfl, HB.out⟩
  ·
    by_cases g1 : x2 ≤ 255
    ·
      rw [decide_eq_true g1]
      rcases b2 with _ | _
      ·
        go_enter Tryz.func124, Tryz.ntmps124
        go_wp2_with (go_at_call 144; (refine (within_any _ _ _ _).mono ?_); (rintro e V1 ⟨rfl, rfl⟩); (try rw [B0.out]); (try rw [B2.out]))
        go_ret
        exact ⟨rfl, HB.out⟩
      ·
        go_enter Tryz.func124, Tryz.ntmps124
        go_wp2_with (go_at_call 144; (refine (within_any _ _ _ _).mono ?_); (rintro e V1 ⟨rfl, rfl⟩); (try rw [B0.out]); (try rw [B2.out]))
        go_ret
        exact ⟨rfl, HB.out⟩
    ·
      rw [decide_eq_false g1]
      go_enter Tryz.func124, Tryz.ntmps124
      go_wp2_with (go_at_call 144; (refine (within_any _ _ _ _).mono ?_); (rintro e V1 ⟨rfl, rfl⟩); (try rw [B0.out]); (try rw [B2.out]))
      go_ret
      exact ⟨rfl, HB.out⟩
theorem pred_Jns (x : Jn) (w : World) : Calls Tryz.prog 126 #[.agg #[.int .i64 x.a, .int .i64 x.b]] w fun e w' => e = .returned (.bool (jnR x)) ∧ Below w.heap.size w w' := by
  obtain ⟨x1, x2⟩ := x
  have HB := Lib.hid ((Below.refl w.heap.size w).alloc (Nat.le_refl _) (.cells #[.int .i64 x1, .int .i64 x2] 182))
  unfold jnR
  (try simp only)
  obtain ⟨b0, hb0⟩ : ∃ b, (inR x1 0 15) = b := ⟨_, rfl⟩
  rw [hb0]
  have B0 := Lib.hid hb0
  clear hb0
  obtain ⟨b1, hb1⟩ : ∃ b, (inR x2 0 15) = b := ⟨_, rfl⟩
  rw [hb1]
  have B1 := Lib.hid hb1
  clear hb1
  rcases b0 with _ | _
  ·
    go_enter Tryz.func126, Tryz.ntmps126
    go_wp2_with (go_at_call 144; (refine (within_any _ _ _ _).mono ?_); (rintro e V1 ⟨rfl, rfl⟩); (try rw [B0.out]); (try rw [B1.out]))
    go_ret
    exact ⟨rfl, HB.out⟩
  ·
    rcases b1 with _ | _
    ·
      go_enter Tryz.func126, Tryz.ntmps126
      go_wp2_with (go_at_call 144; (refine (within_any _ _ _ _).mono ?_); (rintro e V1 ⟨rfl, rfl⟩); (try rw [B0.out]); (try rw [B1.out]))
      go_ret
      exact ⟨rfl, HB.out⟩
    ·
      go_enter Tryz.func126, Tryz.ntmps126
      go_wp2_with (go_at_call 144; (refine (within_any _ _ _ _).mono ?_); (rintro e V1 ⟨rfl, rfl⟩); (try rw [B0.out]); (try rw [B1.out]))
      go_ret
      exact ⟨rfl, HB.out⟩
def txtL (x : List UInt8) : Bool := txtR (bs x)
def splL (x : Int × List UInt8) : Bool := splR (x.1, bs x.2)
theorem clo_Mrg (x : Int × Int) (w : World) (pb : Nat) (hp : w.cell? ⟨pb, 0, none⟩ = some (.func (.func 118) #[] #[])) : Calls Tryz.prog 143 #[.agg #[.int .i64 x.1, .int .i64 x.2], .pointer (some ⟨pb, 0, none⟩)] w fun e w' => e = .returned (.bool (!mrgR x)) ∧ Below w.heap.size w w' := by
  have P := Lib.hid (pred_Mrg x)
  obtain ⟨x1, x2⟩ := x
  obtain ⟨b, hb⟩ : ∃ b, mrgR ⟨x1, x2⟩ = b := ⟨_, rfl⟩
  (try simp only at P)
  skip
  skip
  rw [hb] at P ⊢
  have HB := Lib.hid ((Below.refl w.heap.size w).alloc (Nat.le_refl _) (.cells #[.int .i64 x1, .int .i64 x2] 113))
  have hp2 := below_cell HB.out (Nat.le_refl _) hp
  clear hb
  go_enter Tryz.func143, Tryz.ntmps143
  go_wp2_with (go_at_call 118; (refine (P.out (w.alloc (.cells #[.int .i64 x1, .int .i64 x2] 113))).mono ?_); (rintro e V1 ⟨rfl, hb⟩); (have HB1 := Lib.hid (HB.out.trans (hb.mono HB.out.size))); (clear hb))
  go_ret
  exact ⟨rfl, HB1.out⟩
set_option maxHeartbeats 1000000 in
theorem idx_Mrg (xs : List (Int × Int)) (A : Option Addr) (c pb : Nat) (w : World) (hA : Sl w A encM 2 xs) (hp : w.cell? ⟨pb, 0, none⟩ = some (.func (.func 118) #[] #[])) (hl : xs.length < 9000000000000000000) :
    Calls Tryz.prog 171 #[.slice A xs.length c, .func (.func 143) #[] #[.pointer (some ⟨pb, 0, none⟩)]] w fun e w' => (∃ r, e = .returned (.int .i64 r) ∧ decide (0 ≤ r) = !(xs.all mrgR)) ∧ Below w.heap.size w w' := by
  have HA := Lib.hid hA
  have HP := Lib.hid hp
  have HL := Lib.hid hl
  clear hA hp
  go_enter Tryz.func171, Tryz.ntmps171
  go_wp2_with fail
  go_loopg [8] xs.length (fun n i W => ∃ k : Nat, k + n = xs.length ∧ i = .int .i64 (k : Int) ∧ Below w.heap.size w W ∧ (xs.take k).all mrgR = true)
  case atStart => exact ⟨0, Nat.zero_add _, rfl, Below.refl _ _, rfl⟩
  case round =>
    obtain ⟨k, hk, rfl, hbl, hall⟩ := hrel
    rename World => W
    by_cases hlt : k < xs.length
    · have HT := Lib.hid (take_snoc hlt)
      have HG := Lib.hid (show xs[k]? = some xs[k] from by simp)
      have HC := Lib.hid (clo_Mrg xs[k] W pb (below_cell hbl (Nat.le_refl _) HP.out))
      obtain ⟨b, o, rfl, hc⟩ := HA.out.at k hlt
      have g0 : W.cell? ⟨b, o + k * 2, none⟩ = some (.int .i64 xs[k].1) := below_cell hbl (Nat.le_refl _) (hc 0 _ rfl)
      have g1 : W.cell? ⟨b, o + k * 2 + 1, none⟩ = some (.int .i64 xs[k].2) := below_cell hbl (Nat.le_refl _) (hc 1 _ rfl)
      generalize xs[k] = x at *
      have HK := Lib.hid hk
      have HBL := Lib.hid hbl
      have HALL := Lib.hid hall
      have w1 : IntKind.i64.wrap ((k : Int) + 1) = ((k + 1 : Nat) : Int) := IntWalk.i64_in _ (by omega)
      have k0 : (0 : Int) ≤ (k : Int) := by omega
      have k1 : (k : Int) < (xs.length : Int) := by omega
      obtain ⟨b2, hb2⟩ : ∃ b, mrgR x = b := ⟨_, rfl⟩
      rw [hb2] at HC
      have HB2 := Lib.hid hb2
      clear hk hbl hall hc hb2
      rcases b2 with _ | _
      · go_wp2_with (go_at_call 143; (refine HC.out.mono ?_); (rintro e V1 ⟨rfl, hb⟩); (have HB3 := Lib.hid (HBL.out.trans (hb.mono HBL.out.size))); (clear hb))
        go_ret
        refine ⟨⟨_, rfl, ?_⟩, HB3.out⟩
        rw [all_false HG.out HB2.out, decide_eq_true k0]
        rfl
      · go_wp2_with (go_at_call 143; (refine HC.out.mono ?_); (rintro e V1 ⟨rfl, hb⟩); (have HB3 := Lib.hid (HBL.out.trans (hb.mono HBL.out.size))); (clear hb))
        have hk := HK.out
        go_roundg (xs.length - (k + 1))
        · refine ⟨k + 1, by omega, rfl, HB3.out, ?_⟩
          rw [HT.out, all_snoc, HALL.out, HB2.out]
          rfl
        · omega
    · have hke : k = xs.length := by omega
      have HBL := Lib.hid hbl
      have HALL : Hid (xs.all mrgR = true) := Lib.hid (by rw [hke, List.take_length] at hall; exact hall)
      have k1 : ¬ (k : Int) < (xs.length : Int) := by omega
      clear hk hke hbl hall
      go_wp2_with fail
      go_ret
      exact ⟨⟨_, rfl, by rw [HALL.out]; rfl⟩, HBL.out⟩
theorem con_Mrg (xs : List (Int × Int)) (A : Option Addr) (c pb : Nat) (w : World) (hA : Sl w A encM 2 xs) (hp : w.cell? ⟨pb, 0, none⟩ = some (.func (.func 118) #[] #[])) (hl : xs.length < 9000000000000000000) :
    Calls Tryz.prog 142 #[.slice A xs.length c, .func (.func 143) #[] #[.pointer (some ⟨pb, 0, none⟩)]] w fun e w' => e = .returned (.bool (!(xs.all mrgR))) ∧ Below w.heap.size w w' := by
  have HI := Lib.hid (idx_Mrg xs A c pb w hA hp hl)
  clear hA hp hl
  go_enter Tryz.func142, Tryz.ntmps142
  go_wp2_with (go_at_call 171; (refine HI.out.mono ?_); (rintro e V1 ⟨⟨r, rfl, hr⟩, hb⟩); (have HR := Lib.hid hr); (have HB := Lib.hid hb); (clear hr hb))
  go_ret
  exact ⟨by first | rfl | (rw [HR.out]; rfl), HB.out⟩
theorem all_Mrg (xs : List (Int × Int)) (A : Option Addr) (c : Nat) (m : Int) (w : World) (hA : Sl w A encM 2 xs) (hl : xs.length < 9000000000000000000) :
    Calls Tryz.prog 117 #[.slice A xs.length c, .int .i64 m, .func (.func 118) #[] #[]] w fun e w' => e = .returned (.bool (decide ((xs.length : Int) ≤ m) && xs.all mrgR)) ∧ Below w.heap.size w w' := by
  obtain ⟨q, hq⟩ : ∃ q, (xs.all mrgR) = q := ⟨_, rfl⟩
  have HB := Lib.hid ((Below.refl w.heap.size w).alloc (Nat.le_refl _) (.cells #[.func (.func 118) #[] #[]] 220))
  have HC := Lib.hid (con_Mrg xs A c w.heap.size (w.alloc (.cells #[.func (.func 118) #[] #[]] 220)) (hA.below HB.out (Nat.le_refl _)) (blk_cell (blk_new w _) 0) hl)
  rw [hq] at HC ⊢
  clear hA hq
  by_cases g : (xs.length : Int) ≤ m
  · rw [decide_eq_true g]
    go_enter Tryz.func117, Tryz.ntmps117
    go_wp2_with (go_at_call 142; (refine HC.out.mono ?_); (rintro e V1 ⟨rfl, hb⟩); (have HB1 := Lib.hid (HB.out.trans (hb.mono HB.out.size))); (clear hb))
    go_ret
    exact ⟨by simp, HB1.out⟩
  · rw [decide_eq_false g]
    go_enter Tryz.func117, Tryz.ntmps117
    go_wp2_with fail
    go_ret
    exact ⟨by simp, HB.out⟩
theorem clo_Txt (x : List UInt8) (w : World) (pb : Nat) (hp : w.cell? ⟨pb, 0, none⟩ = some (.func (.func 120) #[] #[])) : Calls Tryz.prog 146 #[.string (bs x), .pointer (some ⟨pb, 0, none⟩)] w fun e w' => e = .returned (.bool (!txtL x)) ∧ Below w.heap.size w w' := by
  have P := Lib.hid (pred_Txt (bs x))
  obtain ⟨b, hb⟩ : ∃ b, txtL x = b := ⟨_, rfl⟩
  (try simp only at P)
  change txtR (bs x) = b at hb
  change Calls _ _ _ _ (fun e w1 => e = .returned (.bool (!txtR (bs x))) ∧ _)
  rw [hb] at P ⊢
  have HB := Lib.hid (Below.refl w.heap.size w)
  clear hb
  go_enter Tryz.func146, Tryz.ntmps146
  go_wp2_with (go_at_call 120; (refine (P.out w).mono ?_); (rintro e V1 ⟨rfl, hb⟩); (have HB1 := Lib.hid (HB.out.trans (hb.mono HB.out.size))); (clear hb))
  go_ret
  exact ⟨rfl, HB1.out⟩
set_option maxHeartbeats 1000000 in
theorem idx_Txt (xs : List (List UInt8)) (A : Option Addr) (c pb : Nat) (w : World) (hA : Sl1 w A strV xs) (hp : w.cell? ⟨pb, 0, none⟩ = some (.func (.func 120) #[] #[])) (hl : xs.length < 9000000000000000000) :
    Calls Tryz.prog 172 #[.slice A xs.length c, .func (.func 146) #[] #[.pointer (some ⟨pb, 0, none⟩)]] w fun e w' => (∃ r, e = .returned (.int .i64 r) ∧ decide (0 ≤ r) = !(xs.all txtL)) ∧ Below w.heap.size w w' := by
  have HA := Lib.hid hA
  have HP := Lib.hid hp
  have HL := Lib.hid hl
  clear hA hp
  go_enter Tryz.func172, Tryz.ntmps172
  go_wp2_with fail
  go_loopg [8] xs.length (fun n i W => ∃ k : Nat, k + n = xs.length ∧ i = .int .i64 (k : Int) ∧ Below w.heap.size w W ∧ (xs.take k).all txtL = true)
  case atStart => exact ⟨0, Nat.zero_add _, rfl, Below.refl _ _, rfl⟩
  case round =>
    obtain ⟨k, hk, rfl, hbl, hall⟩ := hrel
    rename World => W
    by_cases hlt : k < xs.length
    · have HT := Lib.hid (take_snoc hlt)
      have HG := Lib.hid (show xs[k]? = some xs[k] from by simp)
      have HC := Lib.hid (clo_Txt xs[k] W pb (below_cell hbl (Nat.le_refl _) HP.out))
      obtain ⟨b, o, rfl, hc⟩ := HA.out.at k hlt
      have g0 : W.cell? ⟨b, o + k, none⟩ = some (.string (bs xs[k])) := below_cell hbl (Nat.le_refl _) hc
      generalize xs[k] = x at *
      have HK := Lib.hid hk
      have HBL := Lib.hid hbl
      have HALL := Lib.hid hall
      have w1 : IntKind.i64.wrap ((k : Int) + 1) = ((k + 1 : Nat) : Int) := IntWalk.i64_in _ (by omega)
      have k0 : (0 : Int) ≤ (k : Int) := by omega
      have k1 : (k : Int) < (xs.length : Int) := by omega
      obtain ⟨b2, hb2⟩ : ∃ b, txtL x = b := ⟨_, rfl⟩
      rw [hb2] at HC
      have HB2 := Lib.hid hb2
      clear hk hbl hall hc hb2
      rcases b2 with _ | _
      · go_wp2_with (go_at_call 146; (refine HC.out.mono ?_); (rintro e V1 ⟨rfl, hb⟩); (have HB3 := Lib.hid (HBL.out.trans (hb.mono HBL.out.size))); (clear hb))
        go_ret
        refine ⟨⟨_, rfl, ?_⟩, HB3.out⟩
        rw [all_false HG.out HB2.out, decide_eq_true k0]
        rfl
      · go_wp2_with (go_at_call 146; (refine HC.out.mono ?_); (rintro e V1 ⟨rfl, hb⟩); (have HB3 := Lib.hid (HBL.out.trans (hb.mono HBL.out.size))); (clear hb))
        have hk := HK.out
        go_roundg (xs.length - (k + 1))
        · refine ⟨k + 1, by omega, rfl, HB3.out, ?_⟩
          rw [HT.out, all_snoc, HALL.out, HB2.out]
          rfl
        · omega
    · have hke : k = xs.length := by omega
      have HBL := Lib.hid hbl
      have HALL : Hid (xs.all txtL = true) := Lib.hid (by rw [hke, List.take_length] at hall; exact hall)
      have k1 : ¬ (k : Int) < (xs.length : Int) := by omega
      clear hk hke hbl hall
      go_wp2_with fail
      go_ret
      exact ⟨⟨_, rfl, by rw [HALL.out]; rfl⟩, HBL.out⟩
theorem con_Txt (xs : List (List UInt8)) (A : Option Addr) (c pb : Nat) (w : World) (hA : Sl1 w A strV xs) (hp : w.cell? ⟨pb, 0, none⟩ = some (.func (.func 120) #[] #[])) (hl : xs.length < 9000000000000000000) :
    Calls Tryz.prog 145 #[.slice A xs.length c, .func (.func 146) #[] #[.pointer (some ⟨pb, 0, none⟩)]] w fun e w' => e = .returned (.bool (!(xs.all txtL))) ∧ Below w.heap.size w w' := by
  have HI := Lib.hid (idx_Txt xs A c pb w hA hp hl)
  clear hA hp hl
  go_enter Tryz.func145, Tryz.ntmps145
  go_wp2_with (go_at_call 172; (refine HI.out.mono ?_); (rintro e V1 ⟨⟨r, rfl, hr⟩, hb⟩); (have HR := Lib.hid hr); (have HB := Lib.hid hb); (clear hr hb))
  go_ret
  exact ⟨by first | rfl | (rw [HR.out]; rfl), HB.out⟩
theorem all_Txt (xs : List (List UInt8)) (A : Option Addr) (c : Nat) (m : Int) (w : World) (hA : Sl1 w A strV xs) (hl : xs.length < 9000000000000000000) :
    Calls Tryz.prog 119 #[.slice A xs.length c, .int .i64 m, .func (.func 120) #[] #[]] w fun e w' => e = .returned (.bool (decide ((xs.length : Int) ≤ m) && xs.all txtL)) ∧ Below w.heap.size w w' := by
  obtain ⟨q, hq⟩ : ∃ q, (xs.all txtL) = q := ⟨_, rfl⟩
  have HB := Lib.hid ((Below.refl w.heap.size w).alloc (Nat.le_refl _) (.cells #[.func (.func 120) #[] #[]] 222))
  have HC := Lib.hid (con_Txt xs A c w.heap.size (w.alloc (.cells #[.func (.func 120) #[] #[]] 222)) (hA.below HB.out (Nat.le_refl _)) (blk_cell (blk_new w _) 0) hl)
  rw [hq] at HC ⊢
  clear hA hq
  by_cases g : (xs.length : Int) ≤ m
  · rw [decide_eq_true g]
    go_enter Tryz.func119, Tryz.ntmps119
    go_wp2_with (go_at_call 145; (refine HC.out.mono ?_); (rintro e V1 ⟨rfl, hb⟩); (have HB1 := Lib.hid (HB.out.trans (hb.mono HB.out.size))); (clear hb))
    go_ret
    exact ⟨by simp, HB1.out⟩
  · rw [decide_eq_false g]
    go_enter Tryz.func119, Tryz.ntmps119
    go_wp2_with fail
    go_ret
    exact ⟨by simp, HB.out⟩
theorem clo_Spl (x : Int × List UInt8) (w : World) (pb : Nat) (hp : w.cell? ⟨pb, 0, none⟩ = some (.func (.func 122) #[] #[])) : Calls Tryz.prog 148 #[.agg #[.int .i64 x.1, .string (bs x.2)], .pointer (some ⟨pb, 0, none⟩)] w fun e w' => e = .returned (.bool (!splL x)) ∧ Below w.heap.size w w' := by
  have P := Lib.hid (pred_Spl (x.1, bs x.2))
  obtain ⟨x1, x2⟩ := x
  obtain ⟨b, hb⟩ : ∃ b, splL ⟨x1, x2⟩ = b := ⟨_, rfl⟩
  (try simp only at P)
  change splR (x1, bs x2) = b at hb
  change Calls _ _ _ _ (fun e w1 => e = .returned (.bool (!splR (x1, bs x2))) ∧ _)
  rw [hb] at P ⊢
  have HB := Lib.hid ((Below.refl w.heap.size w).alloc (Nat.le_refl _) (.cells #[.int .i64 x1, .string (bs x2)] 170))
  have hp2 := below_cell HB.out (Nat.le_refl _) hp
  clear hb
  go_enter Tryz.func148, Tryz.ntmps148
  go_wp2_with (go_at_call 122; (refine (P.out (w.alloc (.cells #[.int .i64 x1, .string (bs x2)] 170))).mono ?_); (rintro e V1 ⟨rfl, hb⟩); (have HB1 := Lib.hid (HB.out.trans (hb.mono HB.out.size))); (clear hb))
  go_ret
  exact ⟨rfl, HB1.out⟩
set_option maxHeartbeats 1000000 in
theorem idx_Spl (xs : List (Int × List UInt8)) (A : Option Addr) (c pb : Nat) (w : World) (hA : Sl w A encIS 2 xs) (hp : w.cell? ⟨pb, 0, none⟩ = some (.func (.func 122) #[] #[])) (hl : xs.length < 9000000000000000000) :
    Calls Tryz.prog 129 #[.slice A xs.length c, .func (.func 148) #[] #[.pointer (some ⟨pb, 0, none⟩)]] w fun e w' => (∃ r, e = .returned (.int .i64 r) ∧ decide (0 ≤ r) = !(xs.all splL)) ∧ Below w.heap.size w w' := by
  have HA := Lib.hid hA
  have HP := Lib.hid hp
  have HL := Lib.hid hl
  clear hA hp
  go_enter Tryz.func129, Tryz.ntmps129
  go_wp2_with fail
  go_loopg [8] xs.length (fun n i W => ∃ k : Nat, k + n = xs.length ∧ i = .int .i64 (k : Int) ∧ Below w.heap.size w W ∧ (xs.take k).all splL = true)
  case atStart => exact ⟨0, Nat.zero_add _, rfl, Below.refl _ _, rfl⟩
  case round =>
    obtain ⟨k, hk, rfl, hbl, hall⟩ := hrel
    rename World => W
    by_cases hlt : k < xs.length
    · have HT := Lib.hid (take_snoc hlt)
      have HG := Lib.hid (show xs[k]? = some xs[k] from by simp)
      have HC := Lib.hid (clo_Spl xs[k] W pb (below_cell hbl (Nat.le_refl _) HP.out))
      obtain ⟨b, o, rfl, hc⟩ := HA.out.at k hlt
      have g0 : W.cell? ⟨b, o + k * 2, none⟩ = some (.int .i64 xs[k].1) := below_cell hbl (Nat.le_refl _) (hc 0 _ rfl)
      have g1 : W.cell? ⟨b, o + k * 2 + 1, none⟩ = some (.string (bs xs[k].2)) := below_cell hbl (Nat.le_refl _) (hc 1 _ rfl)
      generalize xs[k] = x at *
      have HK := Lib.hid hk
      have HBL := Lib.hid hbl
      have HALL := Lib.hid hall
      have w1 : IntKind.i64.wrap ((k : Int) + 1) = ((k + 1 : Nat) : Int) := IntWalk.i64_in _ (by omega)
      have k0 : (0 : Int) ≤ (k : Int) := by omega
      have k1 : (k : Int) < (xs.length : Int) := by omega
      obtain ⟨b2, hb2⟩ : ∃ b, splL x = b := ⟨_, rfl⟩
      rw [hb2] at HC
      have HB2 := Lib.hid hb2
      clear hk hbl hall hc hb2
      rcases b2 with _ | _
      · go_wp2_with (go_at_call 148; (refine HC.out.mono ?_); (rintro e V1 ⟨rfl, hb⟩); (have HB3 := Lib.hid (HBL.out.trans (hb.mono HBL.out.size))); (clear hb))
        go_ret
        refine ⟨⟨_, rfl, ?_⟩, HB3.out⟩
        rw [all_false HG.out HB2.out, decide_eq_true k0]
        rfl
      · go_wp2_with (go_at_call 148; (refine HC.out.mono ?_); (rintro e V1 ⟨rfl, hb⟩); (have HB3 := Lib.hid (HBL.out.trans (hb.mono HBL.out.size))); (clear hb))
        have hk := HK.out
        go_roundg (xs.length - (k + 1))
        · refine ⟨k + 1, by omega, rfl, HB3.out, ?_⟩
          rw [HT.out, all_snoc, HALL.out, HB2.out]
          rfl
        · omega
    · have hke : k = xs.length := by omega
      have HBL := Lib.hid hbl
      have HALL : Hid (xs.all splL = true) := Lib.hid (by rw [hke, List.take_length] at hall; exact hall)
      have k1 : ¬ (k : Int) < (xs.length : Int) := by omega
      clear hk hke hbl hall
      go_wp2_with fail
      go_ret
      exact ⟨⟨_, rfl, by rw [HALL.out]; rfl⟩, HBL.out⟩
theorem con_Spl (xs : List (Int × List UInt8)) (A : Option Addr) (c pb : Nat) (w : World) (hA : Sl w A encIS 2 xs) (hp : w.cell? ⟨pb, 0, none⟩ = some (.func (.func 122) #[] #[])) (hl : xs.length < 9000000000000000000) :
    Calls Tryz.prog 147 #[.slice A xs.length c, .func (.func 148) #[] #[.pointer (some ⟨pb, 0, none⟩)]] w fun e w' => e = .returned (.bool (!(xs.all splL))) ∧ Below w.heap.size w w' := by
  have HI := Lib.hid (idx_Spl xs A c pb w hA hp hl)
  clear hA hp hl
  go_enter Tryz.func147, Tryz.ntmps147
  go_wp2_with (go_at_call 129; (refine HI.out.mono ?_); (rintro e V1 ⟨⟨r, rfl, hr⟩, hb⟩); (have HR := Lib.hid hr); (have HB := Lib.hid hb); (clear hr hb))
  go_ret
  exact ⟨by first | rfl | (rw [HR.out]; rfl), HB.out⟩
theorem all_Spl (xs : List (Int × List UInt8)) (A : Option Addr) (c : Nat) (m : Int) (w : World) (hA : Sl w A encIS 2 xs) (hl : xs.length < 9000000000000000000) :
    Calls Tryz.prog 121 #[.slice A xs.length c, .int .i64 m, .func (.func 122) #[] #[]] w fun e w' => e = .returned (.bool (decide ((xs.length : Int) ≤ m) && xs.all splL)) ∧ Below w.heap.size w w' := by
  obtain ⟨q, hq⟩ : ∃ q, (xs.all splL) = q := ⟨_, rfl⟩
  have HB := Lib.hid ((Below.refl w.heap.size w).alloc (Nat.le_refl _) (.cells #[.func (.func 122) #[] #[]] 224))
  have HC := Lib.hid (con_Spl xs A c w.heap.size (w.alloc (.cells #[.func (.func 122) #[] #[]] 224)) (hA.below HB.out (Nat.le_refl _)) (blk_cell (blk_new w _) 0) hl)
  rw [hq] at HC ⊢
  clear hA hq
  by_cases g : (xs.length : Int) ≤ m
  · rw [decide_eq_true g]
    go_enter Tryz.func121, Tryz.ntmps121
    go_wp2_with (go_at_call 147; (refine HC.out.mono ?_); (rintro e V1 ⟨rfl, hb⟩); (have HB1 := Lib.hid (HB.out.trans (hb.mono HB.out.size))); (clear hb))
    go_ret
    exact ⟨by simp, HB1.out⟩
  · rw [decide_eq_false g]
    go_enter Tryz.func121, Tryz.ntmps121
    go_wp2_with fail
    go_ret
    exact ⟨by simp, HB.out⟩
theorem clo_Cls (x : Cls) (w : World) (pb : Nat) (hp : w.cell? ⟨pb, 0, none⟩ = some (.func (.func 124) #[] #[])) : Calls Tryz.prog 150 #[.agg #[.int .i64 x.lo, .int .i64 x.hi, .int .i64 x.n], .pointer (some ⟨pb, 0, none⟩)] w fun e w' => e = .returned (.bool (!clsR x)) ∧ Below w.heap.size w w' := by
  have P := Lib.hid (pred_Cls x)
  obtain ⟨x1, x2, x3⟩ := x
  obtain ⟨b, hb⟩ : ∃ b, clsR ⟨x1, x2, x3⟩ = b := ⟨_, rfl⟩
  (try simp only at P)
  skip
  skip
  rw [hb] at P ⊢
  have HB := Lib.hid ((Below.refl w.heap.size w).alloc (Nat.le_refl _) (.cells #[.int .i64 x1, .int .i64 x2, .int .i64 x3] 181))
  have hp2 := below_cell HB.out (Nat.le_refl _) hp
  clear hb
  go_enter Tryz.func150, Tryz.ntmps150
  go_wp2_with (go_at_call 124; (refine (P.out (w.alloc (.cells #[.int .i64 x1, .int .i64 x2, .int .i64 x3] 181))).mono ?_); (rintro e V1 ⟨rfl, hb⟩); (have HB1 := Lib.hid (HB.out.trans (hb.mono HB.out.size))); (clear hb))
  go_ret
  exact ⟨rfl, HB1.out⟩
set_option maxHeartbeats 1000000 in
theorem idx_Cls (xs : List (Cls)) (A : Option Addr) (c pb : Nat) (w : World) (hA : Sl w A encCls 3 xs) (hp : w.cell? ⟨pb, 0, none⟩ = some (.func (.func 124) #[] #[])) (hl : xs.length < 9000000000000000000) :
    Calls Tryz.prog 173 #[.slice A xs.length c, .func (.func 150) #[] #[.pointer (some ⟨pb, 0, none⟩)]] w fun e w' => (∃ r, e = .returned (.int .i64 r) ∧ decide (0 ≤ r) = !(xs.all clsR)) ∧ Below w.heap.size w w' := by
  have HA := Lib.hid hA
  have HP := Lib.hid hp
  have HL := Lib.hid hl
  clear hA hp
  go_enter Tryz.func173, Tryz.ntmps173
  go_wp2_with fail
  go_loopg [8] xs.length (fun n i W => ∃ k : Nat, k + n = xs.length ∧ i = .int .i64 (k : Int) ∧ Below w.heap.size w W ∧ (xs.take k).all clsR = true)
  case atStart => exact ⟨0, Nat.zero_add _, rfl, Below.refl _ _, rfl⟩
  case round =>
    obtain ⟨k, hk, rfl, hbl, hall⟩ := hrel
    rename World => W
    by_cases hlt : k < xs.length
    · have HT := Lib.hid (take_snoc hlt)
      have HG := Lib.hid (show xs[k]? = some xs[k] from by simp)
      have HC := Lib.hid (clo_Cls xs[k] W pb (below_cell hbl (Nat.le_refl _) HP.out))
      obtain ⟨b, o, rfl, hc⟩ := HA.out.at k hlt
      have g0 : W.cell? ⟨b, o + k * 3, none⟩ = some (.int .i64 xs[k].lo) := below_cell hbl (Nat.le_refl _) (hc 0 _ rfl)
      have g1 : W.cell? ⟨b, o + k * 3 + 1, none⟩ = some (.int .i64 xs[k].hi) := below_cell hbl (Nat.le_refl _) (hc 1 _ rfl)
      have g2 : W.cell? ⟨b, o + k * 3 + 2, none⟩ = some (.int .i64 xs[k].n) := below_cell hbl (Nat.le_refl _) (hc 2 _ rfl)
      generalize xs[k] = x at *
      have HK := Lib.hid hk
      have HBL := Lib.hid hbl
      have HALL := Lib.hid hall
      have w1 : IntKind.i64.wrap ((k : Int) + 1) = ((k + 1 : Nat) : Int) := IntWalk.i64_in _ (by omega)
      have k0 : (0 : Int) ≤ (k : Int) := by omega
      have k1 : (k : Int) < (xs.length : Int) := by omega
      obtain ⟨b2, hb2⟩ : ∃ b, clsR x = b := ⟨_, rfl⟩
      rw [hb2] at HC
      have HB2 := Lib.hid hb2
      clear hk hbl hall hc hb2
      rcases b2 with _ | _
      · go_wp2_with (go_at_call 150; (refine HC.out.mono ?_); (rintro e V1 ⟨rfl, hb⟩); (have HB3 := Lib.hid (HBL.out.trans (hb.mono HBL.out.size))); (clear hb))
        go_ret
        refine ⟨⟨_, rfl, ?_⟩, HB3.out⟩
        rw [all_false HG.out HB2.out, decide_eq_true k0]
        rfl
      · go_wp2_with (go_at_call 150; (refine HC.out.mono ?_); (rintro e V1 ⟨rfl, hb⟩); (have HB3 := Lib.hid (HBL.out.trans (hb.mono HBL.out.size))); (clear hb))
        have hk := HK.out
        go_roundg (xs.length - (k + 1))
        · refine ⟨k + 1, by omega, rfl, HB3.out, ?_⟩
          rw [HT.out, all_snoc, HALL.out, HB2.out]
          rfl
        · omega
    · have hke : k = xs.length := by omega
      have HBL := Lib.hid hbl
      have HALL : Hid (xs.all clsR = true) := Lib.hid (by rw [hke, List.take_length] at hall; exact hall)
      have k1 : ¬ (k : Int) < (xs.length : Int) := by omega
      clear hk hke hbl hall
      go_wp2_with fail
      go_ret
      exact ⟨⟨_, rfl, by rw [HALL.out]; rfl⟩, HBL.out⟩
theorem con_Cls (xs : List (Cls)) (A : Option Addr) (c pb : Nat) (w : World) (hA : Sl w A encCls 3 xs) (hp : w.cell? ⟨pb, 0, none⟩ = some (.func (.func 124) #[] #[])) (hl : xs.length < 9000000000000000000) :
    Calls Tryz.prog 149 #[.slice A xs.length c, .func (.func 150) #[] #[.pointer (some ⟨pb, 0, none⟩)]] w fun e w' => e = .returned (.bool (!(xs.all clsR))) ∧ Below w.heap.size w w' := by
  have HI := Lib.hid (idx_Cls xs A c pb w hA hp hl)
  clear hA hp hl
  go_enter Tryz.func149, Tryz.ntmps149
  go_wp2_with (go_at_call 173; (refine HI.out.mono ?_); (rintro e V1 ⟨⟨r, rfl, hr⟩, hb⟩); (have HR := Lib.hid hr); (have HB := Lib.hid hb); (clear hr hb))
  go_ret
  exact ⟨by first | rfl | (rw [HR.out]; rfl), HB.out⟩
theorem all_Cls (xs : List (Cls)) (A : Option Addr) (c : Nat) (m : Int) (w : World) (hA : Sl w A encCls 3 xs) (hl : xs.length < 9000000000000000000) :
    Calls Tryz.prog 123 #[.slice A xs.length c, .int .i64 m, .func (.func 124) #[] #[]] w fun e w' => e = .returned (.bool (decide ((xs.length : Int) ≤ m) && xs.all clsR)) ∧ Below w.heap.size w w' := by
  obtain ⟨q, hq⟩ : ∃ q, (xs.all clsR) = q := ⟨_, rfl⟩
  have HB := Lib.hid ((Below.refl w.heap.size w).alloc (Nat.le_refl _) (.cells #[.func (.func 124) #[] #[]] 226))
  have HC := Lib.hid (con_Cls xs A c w.heap.size (w.alloc (.cells #[.func (.func 124) #[] #[]] 226)) (hA.below HB.out (Nat.le_refl _)) (blk_cell (blk_new w _) 0) hl)
  rw [hq] at HC ⊢
  clear hA hq
  by_cases g : (xs.length : Int) ≤ m
  · rw [decide_eq_true g]
    go_enter Tryz.func123, Tryz.ntmps123
    go_wp2_with (go_at_call 149; (refine HC.out.mono ?_); (rintro e V1 ⟨rfl, hb⟩); (have HB1 := Lib.hid (HB.out.trans (hb.mono HB.out.size))); (clear hb))
    go_ret
    exact ⟨by simp, HB1.out⟩
  · rw [decide_eq_false g]
    go_enter Tryz.func123, Tryz.ntmps123
    go_wp2_with fail
    go_ret
    exact ⟨by simp, HB.out⟩
theorem clo_Jns (x : Jn) (w : World) (pb : Nat) (hp : w.cell? ⟨pb, 0, none⟩ = some (.func (.func 126) #[] #[])) : Calls Tryz.prog 152 #[.agg #[.int .i64 x.a, .int .i64 x.b], .pointer (some ⟨pb, 0, none⟩)] w fun e w' => e = .returned (.bool (!jnR x)) ∧ Below w.heap.size w w' := by
  have P := Lib.hid (pred_Jns x)
  obtain ⟨x1, x2⟩ := x
  obtain ⟨b, hb⟩ : ∃ b, jnR ⟨x1, x2⟩ = b := ⟨_, rfl⟩
  (try simp only at P)
  skip
  skip
  rw [hb] at P ⊢
  have HB := Lib.hid ((Below.refl w.heap.size w).alloc (Nat.le_refl _) (.cells #[.int .i64 x1, .int .i64 x2] 182))
  have hp2 := below_cell HB.out (Nat.le_refl _) hp
  clear hb
  go_enter Tryz.func152, Tryz.ntmps152
  go_wp2_with (go_at_call 126; (refine (P.out (w.alloc (.cells #[.int .i64 x1, .int .i64 x2] 182))).mono ?_); (rintro e V1 ⟨rfl, hb⟩); (have HB1 := Lib.hid (HB.out.trans (hb.mono HB.out.size))); (clear hb))
  go_ret
  exact ⟨rfl, HB1.out⟩
set_option maxHeartbeats 1000000 in
theorem idx_Jns (xs : List (Jn)) (A : Option Addr) (c pb : Nat) (w : World) (hA : Sl w A encJn 2 xs) (hp : w.cell? ⟨pb, 0, none⟩ = some (.func (.func 126) #[] #[])) (hl : xs.length < 9000000000000000000) :
    Calls Tryz.prog 174 #[.slice A xs.length c, .func (.func 152) #[] #[.pointer (some ⟨pb, 0, none⟩)]] w fun e w' => (∃ r, e = .returned (.int .i64 r) ∧ decide (0 ≤ r) = !(xs.all jnR)) ∧ Below w.heap.size w w' := by
  have HA := Lib.hid hA
  have HP := Lib.hid hp
  have HL := Lib.hid hl
  clear hA hp
  go_enter Tryz.func174, Tryz.ntmps174
  go_wp2_with fail
  go_loopg [8] xs.length (fun n i W => ∃ k : Nat, k + n = xs.length ∧ i = .int .i64 (k : Int) ∧ Below w.heap.size w W ∧ (xs.take k).all jnR = true)
  case atStart => exact ⟨0, Nat.zero_add _, rfl, Below.refl _ _, rfl⟩
  case round =>
    obtain ⟨k, hk, rfl, hbl, hall⟩ := hrel
    rename World => W
    by_cases hlt : k < xs.length
    · have HT := Lib.hid (take_snoc hlt)
      have HG := Lib.hid (show xs[k]? = some xs[k] from by simp)
      have HC := Lib.hid (clo_Jns xs[k] W pb (below_cell hbl (Nat.le_refl _) HP.out))
      obtain ⟨b, o, rfl, hc⟩ := HA.out.at k hlt
      have g0 : W.cell? ⟨b, o + k * 2, none⟩ = some (.int .i64 xs[k].a) := below_cell hbl (Nat.le_refl _) (hc 0 _ rfl)
      have g1 : W.cell? ⟨b, o + k * 2 + 1, none⟩ = some (.int .i64 xs[k].b) := below_cell hbl (Nat.le_refl _) (hc 1 _ rfl)
      generalize xs[k] = x at *
      have HK := Lib.hid hk
      have HBL := Lib.hid hbl
      have HALL := Lib.hid hall
      have w1 : IntKind.i64.wrap ((k : Int) + 1) = ((k + 1 : Nat) : Int) := IntWalk.i64_in _ (by omega)
      have k0 : (0 : Int) ≤ (k : Int) := by omega
      have k1 : (k : Int) < (xs.length : Int) := by omega
      obtain ⟨b2, hb2⟩ : ∃ b, jnR x = b := ⟨_, rfl⟩
      rw [hb2] at HC
      have HB2 := Lib.hid hb2
      clear hk hbl hall hc hb2
      rcases b2 with _ | _
      · go_wp2_with (go_at_call 152; (refine HC.out.mono ?_); (rintro e V1 ⟨rfl, hb⟩); (have HB3 := Lib.hid (HBL.out.trans (hb.mono HBL.out.size))); (clear hb))
        go_ret
        refine ⟨⟨_, rfl, ?_⟩, HB3.out⟩
        rw [all_false HG.out HB2.out, decide_eq_true k0]
        rfl
      · go_wp2_with (go_at_call 152; (refine HC.out.mono ?_); (rintro e V1 ⟨rfl, hb⟩); (have HB3 := Lib.hid (HBL.out.trans (hb.mono HBL.out.size))); (clear hb))
        have hk := HK.out
        go_roundg (xs.length - (k + 1))
        · refine ⟨k + 1, by omega, rfl, HB3.out, ?_⟩
          rw [HT.out, all_snoc, HALL.out, HB2.out]
          rfl
        · omega
    · have hke : k = xs.length := by omega
      have HBL := Lib.hid hbl
      have HALL : Hid (xs.all jnR = true) := Lib.hid (by rw [hke, List.take_length] at hall; exact hall)
      have k1 : ¬ (k : Int) < (xs.length : Int) := by omega
      clear hk hke hbl hall
      go_wp2_with fail
      go_ret
      exact ⟨⟨_, rfl, by rw [HALL.out]; rfl⟩, HBL.out⟩
theorem con_Jns (xs : List (Jn)) (A : Option Addr) (c pb : Nat) (w : World) (hA : Sl w A encJn 2 xs) (hp : w.cell? ⟨pb, 0, none⟩ = some (.func (.func 126) #[] #[])) (hl : xs.length < 9000000000000000000) :
    Calls Tryz.prog 151 #[.slice A xs.length c, .func (.func 152) #[] #[.pointer (some ⟨pb, 0, none⟩)]] w fun e w' => e = .returned (.bool (!(xs.all jnR))) ∧ Below w.heap.size w w' := by
  have HI := Lib.hid (idx_Jns xs A c pb w hA hp hl)
  clear hA hp hl
  go_enter Tryz.func151, Tryz.ntmps151
  go_wp2_with (go_at_call 174; (refine HI.out.mono ?_); (rintro e V1 ⟨⟨r, rfl, hr⟩, hb⟩); (have HR := Lib.hid hr); (have HB := Lib.hid hb); (clear hr hb))
  go_ret
  exact ⟨by first | rfl | (rw [HR.out]; rfl), HB.out⟩
theorem all_Jns (xs : List (Jn)) (A : Option Addr) (c : Nat) (m : Int) (w : World) (hA : Sl w A encJn 2 xs) (hl : xs.length < 9000000000000000000) :
    Calls Tryz.prog 125 #[.slice A xs.length c, .int .i64 m, .func (.func 126) #[] #[]] w fun e w' => e = .returned (.bool (decide ((xs.length : Int) ≤ m) && xs.all jnR)) ∧ Below w.heap.size w w' := by
  obtain ⟨q, hq⟩ : ∃ q, (xs.all jnR) = q := ⟨_, rfl⟩
  have HB := Lib.hid ((Below.refl w.heap.size w).alloc (Nat.le_refl _) (.cells #[.func (.func 126) #[] #[]] 228))
  have HC := Lib.hid (con_Jns xs A c w.heap.size (w.alloc (.cells #[.func (.func 126) #[] #[]] 228)) (hA.below HB.out (Nat.le_refl _)) (blk_cell (blk_new w _) 0) hl)
  rw [hq] at HC ⊢
  clear hA hq
  by_cases g : (xs.length : Int) ≤ m
  · rw [decide_eq_true g]
    go_enter Tryz.func125, Tryz.ntmps125
    go_wp2_with (go_at_call 151; (refine HC.out.mono ?_); (rintro e V1 ⟨rfl, hb⟩); (have HB1 := Lib.hid (HB.out.trans (hb.mono HB.out.size))); (clear hb))
    go_ret
    exact ⟨by simp, HB1.out⟩
  · rw [decide_eq_false g]
    go_enter Tryz.func125, Tryz.ntmps125
    go_wp2_with fail
    go_ret
    exact ⟨by simp, HB.out⟩
def specV (rk : Bool) (AM : Option Addr) (nM cM : Nat) (AT : Option Addr) (nT cT : Nat) (AX : Option Addr) (nX cX : Nat) (AC : Option Addr) (nC cC : Nat) (AJ : Option Addr) (nJ cJ : Nat) : Value :=
  .agg #[.bool rk, .slice AM nM cM, .slice AT nT cT, .slice AX nX cX, .slice AC nC cC, .slice AJ nJ cJ]
section
variable {w : World} {rk : Bool} {AM : Option Addr} {nM cM : Nat} {AT : Option Addr} {nT cT : Nat} {AX : Option Addr} {nX cX : Nat} {AC : Option Addr} {nC cC : Nat} {AJ : Option Addr} {nJ cJ : Nat}
theorem load_false {R : Value → Value → Value → World → Prop} (hR : rk = false) (h : ∀ W, Below w.heap.size w W → Calls Tryz.prog 154 #[.slice AM nM cM] W fun e w' => ∃ x y z, e = .returned (.tuple #[x, y, z]) ∧ R x y z w') :
    Calls Tryz.prog 127 #[specV rk AM nM cM AT nT cT AX nX cX AC nC cC AJ nJ cJ] w fun e w' => ∃ x y z, e = .returned (.tuple #[x, y, z]) ∧ R x y z w' := by
  subst hR
  have HI := Lib.hid (h _ ((Below.refl w.heap.size w).alloc (Nat.le_refl _) (.cells #[.bool false, .slice AM nM cM, .slice AT nT cT, .slice AX nX cX, .slice AC nC cC, .slice AJ nJ cJ] 115)))
  clear h
  unfold specV
  go_enter Tryz.func127, Tryz.ntmps127
  go_wp2_with fail
  refine HI.out.mono ?_
  rintro e w1 ⟨x, y, z, rfl, hr⟩
  have HRR := Lib.hid hr
  clear hr
  go_wp2_with fail
  exact bodyPost_ret (results_tmp3 rfl _ _ _) rfl ⟨x, y, z, rfl, HRR.out⟩
end
structure SpecP where
  rk : Bool
  ms : List (Int × Int)
  ts : List (List UInt8)
  xs : List (Int × List UInt8)
  cs : List Cls
  js : List Jn
structure SpecAt (w : World) (s : SpecP) (AM AT AX AC AJ : Option Addr) : Prop where
  ms : Sl w AM encM 2 s.ms
  ts : Sl1 w AT strV s.ts
  xs : Sl w AX encIS 2 s.xs
  cs : Sl w AC encCls 3 s.cs
  js : Sl w AJ encJn 2 s.js
  len : s.ms.length < 9000000000000000000 ∧ s.ts.length < 9000000000000000000 ∧ s.xs.length < 9000000000000000000 ∧ s.cs.length < 9000000000000000000 ∧ s.js.length < 9000000000000000000
theorem SpecAt.below {w w' : World} {s : SpecP} {AM AT AX AC AJ : Option Addr} (h : SpecAt w s AM AT AX AC AJ) {B : Nat} (hb : Below B w w') (hB : w.heap.size ≤ B) : SpecAt w' s AM AT AX AC AJ :=
  ⟨h.ms.below hb hB, h.ts.below hb hB, h.xs.below hb hB, h.cs.below hb hB, h.js.below hb hB, h.len⟩
def headR (s : SpecP) : Bool := if s.rk = true then decide (s.ms.length = 0) else decide (s.ts.length = 0)
def rightS (s : SpecP) : Bool := headR s && (decide ((s.ms.length : Int) ≤ 744) && s.ms.all mrgR) && (decide ((s.ts.length : Int) ≤ 744) && s.ts.all txtL) && (decide ((s.xs.length : Int) ≤ 32) && s.xs.all splL) && (decide ((s.cs.length : Int) ≤ 64) && s.cs.all clsR) && (decide ((s.js.length : Int) ≤ 64) && s.js.all jnR)
def specW (s : SpecP) (AM AT AX AC AJ : Option Addr) (cM cT cX cC cJ : Nat) : Value := specV s.rk AM s.ms.length cM AT s.ts.length cT AX s.xs.length cX AC s.cs.length cC AJ s.js.length cJ
section
variable {w : World} {s : SpecP} {AM AT AX AC AJ : Option Addr} {cM cT cX cC cJ nM nT nX nC nJ : Nat}
theorem right_bad_t (hd : 0 < nM) : Calls Tryz.prog 97 #[specV true AM nM cM AT nT cT AX nX cX AC nC cC AJ nJ cJ] w fun e w' => e = .returned (.bool false) ∧ Below w.heap.size w w' := by
  unfold specV
  have HB0 := Lib.hid ((Below.refl w.heap.size w).alloc (Nat.le_refl _) (.cells #[.bool true, .slice AM nM cM, .slice AT nT cT, .slice AX nX cX, .slice AC nC cC, .slice AJ nJ cJ] 115))
  have hd2 : decide (0 < nM) = true := decide_eq_true hd
  go_enter Tryz.func97, Tryz.ntmps97
  go_wp2_with fail
  go_ret
  exact ⟨rfl, HB0.out⟩
theorem right_bad_f (hd : 0 < nT) : Calls Tryz.prog 97 #[specV false AM nM cM AT nT cT AX nX cX AC nC cC AJ nJ cJ] w fun e w' => e = .returned (.bool false) ∧ Below w.heap.size w w' := by
  unfold specV
  have HB0 := Lib.hid ((Below.refl w.heap.size w).alloc (Nat.le_refl _) (.cells #[.bool false, .slice AM nM cM, .slice AT nT cT, .slice AX nX cX, .slice AC nC cC, .slice AJ nJ cJ] 115))
  have hd2 : decide (0 < nT) = true := decide_eq_true hd
  go_enter Tryz.func97, Tryz.ntmps97
  go_wp2_with fail
  go_ret
  exact ⟨rfl, HB0.out⟩
set_option maxHeartbeats 1000000 in
theorem right_t (q0 q1 q2 q3 q4 : Bool)
    (h0 : ∀ V, Below w.heap.size w V → Calls Tryz.prog 117 #[.slice AM 0 cM, .int .i64 744, .func (.func 118) #[] #[]] V fun e w' => e = .returned (.bool q0) ∧ Below V.heap.size V w')
    (h1 : ∀ V, Below w.heap.size w V → Calls Tryz.prog 119 #[.slice AT nT cT, .int .i64 744, .func (.func 120) #[] #[]] V fun e w' => e = .returned (.bool q1) ∧ Below V.heap.size V w')
    (h2 : ∀ V, Below w.heap.size w V → Calls Tryz.prog 121 #[.slice AX nX cX, .int .i64 32, .func (.func 122) #[] #[]] V fun e w' => e = .returned (.bool q2) ∧ Below V.heap.size V w')
    (h3 : ∀ V, Below w.heap.size w V → Calls Tryz.prog 123 #[.slice AC nC cC, .int .i64 64, .func (.func 124) #[] #[]] V fun e w' => e = .returned (.bool q3) ∧ Below V.heap.size V w')
    (h4 : ∀ V, Below w.heap.size w V → Calls Tryz.prog 125 #[.slice AJ nJ cJ, .int .i64 64, .func (.func 126) #[] #[]] V fun e w' => e = .returned (.bool q4) ∧ Below V.heap.size V w')
    : Calls Tryz.prog 97 #[specV true AM 0 cM AT nT cT AX nX cX AC nC cC AJ nJ cJ] w fun e w' => e = .returned (.bool (q0 && q1 && q2 && q3 && q4)) ∧ Below w.heap.size w w' := by
  unfold specV
  have H0 := Lib.hid h0
  have H1 := Lib.hid h1
  have H2 := Lib.hid h2
  have H3 := Lib.hid h3
  have H4 := Lib.hid h4
  have HB0 := Lib.hid ((Below.refl w.heap.size w).alloc (Nat.le_refl _) (.cells #[.bool true, .slice AM 0 cM, .slice AT nT cT, .slice AX nX cX, .slice AC nC cC, .slice AJ nJ cJ] 115))
  have HO0 := Lib.hid (blk_new w (.cells #[.bool true, .slice AM 0 cM, .slice AT nT cT, .slice AX nX cX, .slice AC nC cC, .slice AJ nJ cJ] 115))
  clear h0 h1 h2 h3 h4
  rcases q0 with _ | _
  · go_enter Tryz.func97, Tryz.ntmps97
    go_wp2_with (go_at_call 117; (refine (H0.out _ HB0.out).mono ?_); (rintro e V1 ⟨rfl, hb⟩); (have HB1 := Lib.hid (HB0.out.trans (hb.mono HB0.out.size))); (have HO1 := Lib.hid (blk_below hb (blk_lt HO0.out) HO0.out)); (have c1 := blk_cell HO1.out 2); (simp only [List.getElem?_toArray, List.getElem?_cons_zero, List.getElem?_cons_succ] at c1); (clear hb))
    go_ret
    exact ⟨rfl, HB1.out⟩
  ·
    rcases q1 with _ | _
    · go_enter Tryz.func97, Tryz.ntmps97
      go_wp2_with (first | (go_at_call 117; (refine (H0.out _ HB0.out).mono ?_); (rintro e V1 ⟨rfl, hb⟩); (have HB1 := Lib.hid (HB0.out.trans (hb.mono HB0.out.size))); (have HO1 := Lib.hid (blk_below hb (blk_lt HO0.out) HO0.out)); (have c1 := blk_cell HO1.out 2); (simp only [List.getElem?_toArray, List.getElem?_cons_zero, List.getElem?_cons_succ] at c1); (clear hb)) | (go_at_call 119; (refine (H1.out _ HB1.out).mono ?_); (rintro e V2 ⟨rfl, hb⟩); (have HB2 := Lib.hid (HB1.out.trans (hb.mono HB1.out.size))); (have HO2 := Lib.hid (blk_below hb (blk_lt HO1.out) HO1.out)); (have c2 := blk_cell HO2.out 3); (simp only [List.getElem?_toArray, List.getElem?_cons_zero, List.getElem?_cons_succ] at c2); (clear hb)))
      go_ret
      exact ⟨rfl, HB2.out⟩
    ·
      rcases q2 with _ | _
      · go_enter Tryz.func97, Tryz.ntmps97
        go_wp2_with (first | (go_at_call 117; (refine (H0.out _ HB0.out).mono ?_); (rintro e V1 ⟨rfl, hb⟩); (have HB1 := Lib.hid (HB0.out.trans (hb.mono HB0.out.size))); (have HO1 := Lib.hid (blk_below hb (blk_lt HO0.out) HO0.out)); (have c1 := blk_cell HO1.out 2); (simp only [List.getElem?_toArray, List.getElem?_cons_zero, List.getElem?_cons_succ] at c1); (clear hb)) | (go_at_call 119; (refine (H1.out _ HB1.out).mono ?_); (rintro e V2 ⟨rfl, hb⟩); (have HB2 := Lib.hid (HB1.out.trans (hb.mono HB1.out.size))); (have HO2 := Lib.hid (blk_below hb (blk_lt HO1.out) HO1.out)); (have c2 := blk_cell HO2.out 3); (simp only [List.getElem?_toArray, List.getElem?_cons_zero, List.getElem?_cons_succ] at c2); (clear hb)) | (go_at_call 121; (refine (H2.out _ HB2.out).mono ?_); (rintro e V3 ⟨rfl, hb⟩); (have HB3 := Lib.hid (HB2.out.trans (hb.mono HB2.out.size))); (have HO3 := Lib.hid (blk_below hb (blk_lt HO2.out) HO2.out)); (have c3 := blk_cell HO3.out 4); (simp only [List.getElem?_toArray, List.getElem?_cons_zero, List.getElem?_cons_succ] at c3); (clear hb)))
        go_ret
        exact ⟨rfl, HB3.out⟩
      ·
        rcases q3 with _ | _
        · go_enter Tryz.func97, Tryz.ntmps97
          go_wp2_with (first | (go_at_call 117; (refine (H0.out _ HB0.out).mono ?_); (rintro e V1 ⟨rfl, hb⟩); (have HB1 := Lib.hid (HB0.out.trans (hb.mono HB0.out.size))); (have HO1 := Lib.hid (blk_below hb (blk_lt HO0.out) HO0.out)); (have c1 := blk_cell HO1.out 2); (simp only [List.getElem?_toArray, List.getElem?_cons_zero, List.getElem?_cons_succ] at c1); (clear hb)) | (go_at_call 119; (refine (H1.out _ HB1.out).mono ?_); (rintro e V2 ⟨rfl, hb⟩); (have HB2 := Lib.hid (HB1.out.trans (hb.mono HB1.out.size))); (have HO2 := Lib.hid (blk_below hb (blk_lt HO1.out) HO1.out)); (have c2 := blk_cell HO2.out 3); (simp only [List.getElem?_toArray, List.getElem?_cons_zero, List.getElem?_cons_succ] at c2); (clear hb)) | (go_at_call 121; (refine (H2.out _ HB2.out).mono ?_); (rintro e V3 ⟨rfl, hb⟩); (have HB3 := Lib.hid (HB2.out.trans (hb.mono HB2.out.size))); (have HO3 := Lib.hid (blk_below hb (blk_lt HO2.out) HO2.out)); (have c3 := blk_cell HO3.out 4); (simp only [List.getElem?_toArray, List.getElem?_cons_zero, List.getElem?_cons_succ] at c3); (clear hb)) | (go_at_call 123; (refine (H3.out _ HB3.out).mono ?_); (rintro e V4 ⟨rfl, hb⟩); (have HB4 := Lib.hid (HB3.out.trans (hb.mono HB3.out.size))); (have HO4 := Lib.hid (blk_below hb (blk_lt HO3.out) HO3.out)); (have c4 := blk_cell HO4.out 5); (simp only [List.getElem?_toArray, List.getElem?_cons_zero, List.getElem?_cons_succ] at c4); (clear hb)))
          go_ret
          exact ⟨rfl, HB4.out⟩
        ·
          rcases q4 with _ | _
          · go_enter Tryz.func97, Tryz.ntmps97
            go_wp2_with (first | (go_at_call 117; (refine (H0.out _ HB0.out).mono ?_); (rintro e V1 ⟨rfl, hb⟩); (have HB1 := Lib.hid (HB0.out.trans (hb.mono HB0.out.size))); (have HO1 := Lib.hid (blk_below hb (blk_lt HO0.out) HO0.out)); (have c1 := blk_cell HO1.out 2); (simp only [List.getElem?_toArray, List.getElem?_cons_zero, List.getElem?_cons_succ] at c1); (clear hb)) | (go_at_call 119; (refine (H1.out _ HB1.out).mono ?_); (rintro e V2 ⟨rfl, hb⟩); (have HB2 := Lib.hid (HB1.out.trans (hb.mono HB1.out.size))); (have HO2 := Lib.hid (blk_below hb (blk_lt HO1.out) HO1.out)); (have c2 := blk_cell HO2.out 3); (simp only [List.getElem?_toArray, List.getElem?_cons_zero, List.getElem?_cons_succ] at c2); (clear hb)) | (go_at_call 121; (refine (H2.out _ HB2.out).mono ?_); (rintro e V3 ⟨rfl, hb⟩); (have HB3 := Lib.hid (HB2.out.trans (hb.mono HB2.out.size))); (have HO3 := Lib.hid (blk_below hb (blk_lt HO2.out) HO2.out)); (have c3 := blk_cell HO3.out 4); (simp only [List.getElem?_toArray, List.getElem?_cons_zero, List.getElem?_cons_succ] at c3); (clear hb)) | (go_at_call 123; (refine (H3.out _ HB3.out).mono ?_); (rintro e V4 ⟨rfl, hb⟩); (have HB4 := Lib.hid (HB3.out.trans (hb.mono HB3.out.size))); (have HO4 := Lib.hid (blk_below hb (blk_lt HO3.out) HO3.out)); (have c4 := blk_cell HO4.out 5); (simp only [List.getElem?_toArray, List.getElem?_cons_zero, List.getElem?_cons_succ] at c4); (clear hb)) | (go_at_call 125; (refine (H4.out _ HB4.out).mono ?_); (rintro e V5 ⟨rfl, hb⟩); (have HB5 := Lib.hid (HB4.out.trans (hb.mono HB4.out.size))); (clear hb)))
            go_ret
            exact ⟨rfl, HB5.out⟩
          ·
            go_enter Tryz.func97, Tryz.ntmps97
            go_wp2_with (first | (go_at_call 117; (refine (H0.out _ HB0.out).mono ?_); (rintro e V1 ⟨rfl, hb⟩); (have HB1 := Lib.hid (HB0.out.trans (hb.mono HB0.out.size))); (have HO1 := Lib.hid (blk_below hb (blk_lt HO0.out) HO0.out)); (have c1 := blk_cell HO1.out 2); (simp only [List.getElem?_toArray, List.getElem?_cons_zero, List.getElem?_cons_succ] at c1); (clear hb)) | (go_at_call 119; (refine (H1.out _ HB1.out).mono ?_); (rintro e V2 ⟨rfl, hb⟩); (have HB2 := Lib.hid (HB1.out.trans (hb.mono HB1.out.size))); (have HO2 := Lib.hid (blk_below hb (blk_lt HO1.out) HO1.out)); (have c2 := blk_cell HO2.out 3); (simp only [List.getElem?_toArray, List.getElem?_cons_zero, List.getElem?_cons_succ] at c2); (clear hb)) | (go_at_call 121; (refine (H2.out _ HB2.out).mono ?_); (rintro e V3 ⟨rfl, hb⟩); (have HB3 := Lib.hid (HB2.out.trans (hb.mono HB2.out.size))); (have HO3 := Lib.hid (blk_below hb (blk_lt HO2.out) HO2.out)); (have c3 := blk_cell HO3.out 4); (simp only [List.getElem?_toArray, List.getElem?_cons_zero, List.getElem?_cons_succ] at c3); (clear hb)) | (go_at_call 123; (refine (H3.out _ HB3.out).mono ?_); (rintro e V4 ⟨rfl, hb⟩); (have HB4 := Lib.hid (HB3.out.trans (hb.mono HB3.out.size))); (have HO4 := Lib.hid (blk_below hb (blk_lt HO3.out) HO3.out)); (have c4 := blk_cell HO4.out 5); (simp only [List.getElem?_toArray, List.getElem?_cons_zero, List.getElem?_cons_succ] at c4); (clear hb)) | (go_at_call 125; (refine (H4.out _ HB4.out).mono ?_); (rintro e V5 ⟨rfl, hb⟩); (have HB5 := Lib.hid (HB4.out.trans (hb.mono HB4.out.size))); (clear hb)))
            go_ret
            exact ⟨rfl, HB5.out⟩
set_option maxHeartbeats 1000000 in
theorem right_f (q0 q1 q2 q3 q4 : Bool)
    (h0 : ∀ V, Below w.heap.size w V → Calls Tryz.prog 117 #[.slice AM nM cM, .int .i64 744, .func (.func 118) #[] #[]] V fun e w' => e = .returned (.bool q0) ∧ Below V.heap.size V w')
    (h1 : ∀ V, Below w.heap.size w V → Calls Tryz.prog 119 #[.slice AT 0 cT, .int .i64 744, .func (.func 120) #[] #[]] V fun e w' => e = .returned (.bool q1) ∧ Below V.heap.size V w')
    (h2 : ∀ V, Below w.heap.size w V → Calls Tryz.prog 121 #[.slice AX nX cX, .int .i64 32, .func (.func 122) #[] #[]] V fun e w' => e = .returned (.bool q2) ∧ Below V.heap.size V w')
    (h3 : ∀ V, Below w.heap.size w V → Calls Tryz.prog 123 #[.slice AC nC cC, .int .i64 64, .func (.func 124) #[] #[]] V fun e w' => e = .returned (.bool q3) ∧ Below V.heap.size V w')
    (h4 : ∀ V, Below w.heap.size w V → Calls Tryz.prog 125 #[.slice AJ nJ cJ, .int .i64 64, .func (.func 126) #[] #[]] V fun e w' => e = .returned (.bool q4) ∧ Below V.heap.size V w')
    : Calls Tryz.prog 97 #[specV false AM nM cM AT 0 cT AX nX cX AC nC cC AJ nJ cJ] w fun e w' => e = .returned (.bool (q0 && q1 && q2 && q3 && q4)) ∧ Below w.heap.size w w' := by
  unfold specV
  have H0 := Lib.hid h0
  have H1 := Lib.hid h1
  have H2 := Lib.hid h2
  have H3 := Lib.hid h3
  have H4 := Lib.hid h4
  have HB0 := Lib.hid ((Below.refl w.heap.size w).alloc (Nat.le_refl _) (.cells #[.bool false, .slice AM nM cM, .slice AT 0 cT, .slice AX nX cX, .slice AC nC cC, .slice AJ nJ cJ] 115))
  have HO0 := Lib.hid (blk_new w (.cells #[.bool false, .slice AM nM cM, .slice AT 0 cT, .slice AX nX cX, .slice AC nC cC, .slice AJ nJ cJ] 115))
  clear h0 h1 h2 h3 h4
  rcases q0 with _ | _
  · go_enter Tryz.func97, Tryz.ntmps97
    go_wp2_with (go_at_call 117; (refine (H0.out _ HB0.out).mono ?_); (rintro e V1 ⟨rfl, hb⟩); (have HB1 := Lib.hid (HB0.out.trans (hb.mono HB0.out.size))); (have HO1 := Lib.hid (blk_below hb (blk_lt HO0.out) HO0.out)); (have c1 := blk_cell HO1.out 2); (simp only [List.getElem?_toArray, List.getElem?_cons_zero, List.getElem?_cons_succ] at c1); (clear hb))
    go_ret
    exact ⟨rfl, HB1.out⟩
  ·
    rcases q1 with _ | _
    · go_enter Tryz.func97, Tryz.ntmps97
      go_wp2_with (first | (go_at_call 117; (refine (H0.out _ HB0.out).mono ?_); (rintro e V1 ⟨rfl, hb⟩); (have HB1 := Lib.hid (HB0.out.trans (hb.mono HB0.out.size))); (have HO1 := Lib.hid (blk_below hb (blk_lt HO0.out) HO0.out)); (have c1 := blk_cell HO1.out 2); (simp only [List.getElem?_toArray, List.getElem?_cons_zero, List.getElem?_cons_succ] at c1); (clear hb)) | (go_at_call 119; (refine (H1.out _ HB1.out).mono ?_); (rintro e V2 ⟨rfl, hb⟩); (have HB2 := Lib.hid (HB1.out.trans (hb.mono HB1.out.size))); (have HO2 := Lib.hid (blk_below hb (blk_lt HO1.out) HO1.out)); (have c2 := blk_cell HO2.out 3); (simp only [List.getElem?_toArray, List.getElem?_cons_zero, List.getElem?_cons_succ] at c2); (clear hb)))
      go_ret
      exact ⟨rfl, HB2.out⟩
    ·
      rcases q2 with _ | _
      · go_enter Tryz.func97, Tryz.ntmps97
        go_wp2_with (first | (go_at_call 117; (refine (H0.out _ HB0.out).mono ?_); (rintro e V1 ⟨rfl, hb⟩); (have HB1 := Lib.hid (HB0.out.trans (hb.mono HB0.out.size))); (have HO1 := Lib.hid (blk_below hb (blk_lt HO0.out) HO0.out)); (have c1 := blk_cell HO1.out 2); (simp only [List.getElem?_toArray, List.getElem?_cons_zero, List.getElem?_cons_succ] at c1); (clear hb)) | (go_at_call 119; (refine (H1.out _ HB1.out).mono ?_); (rintro e V2 ⟨rfl, hb⟩); (have HB2 := Lib.hid (HB1.out.trans (hb.mono HB1.out.size))); (have HO2 := Lib.hid (blk_below hb (blk_lt HO1.out) HO1.out)); (have c2 := blk_cell HO2.out 3); (simp only [List.getElem?_toArray, List.getElem?_cons_zero, List.getElem?_cons_succ] at c2); (clear hb)) | (go_at_call 121; (refine (H2.out _ HB2.out).mono ?_); (rintro e V3 ⟨rfl, hb⟩); (have HB3 := Lib.hid (HB2.out.trans (hb.mono HB2.out.size))); (have HO3 := Lib.hid (blk_below hb (blk_lt HO2.out) HO2.out)); (have c3 := blk_cell HO3.out 4); (simp only [List.getElem?_toArray, List.getElem?_cons_zero, List.getElem?_cons_succ] at c3); (clear hb)))
        go_ret
        exact ⟨rfl, HB3.out⟩
      ·
        rcases q3 with _ | _
        · go_enter Tryz.func97, Tryz.ntmps97
          go_wp2_with (first | (go_at_call 117; (refine (H0.out _ HB0.out).mono ?_); (rintro e V1 ⟨rfl, hb⟩); (have HB1 := Lib.hid (HB0.out.trans (hb.mono HB0.out.size))); (have HO1 := Lib.hid (blk_below hb (blk_lt HO0.out) HO0.out)); (have c1 := blk_cell HO1.out 2); (simp only [List.getElem?_toArray, List.getElem?_cons_zero, List.getElem?_cons_succ] at c1); (clear hb)) | (go_at_call 119; (refine (H1.out _ HB1.out).mono ?_); (rintro e V2 ⟨rfl, hb⟩); (have HB2 := Lib.hid (HB1.out.trans (hb.mono HB1.out.size))); (have HO2 := Lib.hid (blk_below hb (blk_lt HO1.out) HO1.out)); (have c2 := blk_cell HO2.out 3); (simp only [List.getElem?_toArray, List.getElem?_cons_zero, List.getElem?_cons_succ] at c2); (clear hb)) | (go_at_call 121; (refine (H2.out _ HB2.out).mono ?_); (rintro e V3 ⟨rfl, hb⟩); (have HB3 := Lib.hid (HB2.out.trans (hb.mono HB2.out.size))); (have HO3 := Lib.hid (blk_below hb (blk_lt HO2.out) HO2.out)); (have c3 := blk_cell HO3.out 4); (simp only [List.getElem?_toArray, List.getElem?_cons_zero, List.getElem?_cons_succ] at c3); (clear hb)) | (go_at_call 123; (refine (H3.out _ HB3.out).mono ?_); (rintro e V4 ⟨rfl, hb⟩); (have HB4 := Lib.hid (HB3.out.trans (hb.mono HB3.out.size))); (have HO4 := Lib.hid (blk_below hb (blk_lt HO3.out) HO3.out)); (have c4 := blk_cell HO4.out 5); (simp only [List.getElem?_toArray, List.getElem?_cons_zero, List.getElem?_cons_succ] at c4); (clear hb)))
          go_ret
          exact ⟨rfl, HB4.out⟩
        ·
          rcases q4 with _ | _
          · go_enter Tryz.func97, Tryz.ntmps97
            go_wp2_with (first | (go_at_call 117; (refine (H0.out _ HB0.out).mono ?_); (rintro e V1 ⟨rfl, hb⟩); (have HB1 := Lib.hid (HB0.out.trans (hb.mono HB0.out.size))); (have HO1 := Lib.hid (blk_below hb (blk_lt HO0.out) HO0.out)); (have c1 := blk_cell HO1.out 2); (simp only [List.getElem?_toArray, List.getElem?_cons_zero, List.getElem?_cons_succ] at c1); (clear hb)) | (go_at_call 119; (refine (H1.out _ HB1.out).mono ?_); (rintro e V2 ⟨rfl, hb⟩); (have HB2 := Lib.hid (HB1.out.trans (hb.mono HB1.out.size))); (have HO2 := Lib.hid (blk_below hb (blk_lt HO1.out) HO1.out)); (have c2 := blk_cell HO2.out 3); (simp only [List.getElem?_toArray, List.getElem?_cons_zero, List.getElem?_cons_succ] at c2); (clear hb)) | (go_at_call 121; (refine (H2.out _ HB2.out).mono ?_); (rintro e V3 ⟨rfl, hb⟩); (have HB3 := Lib.hid (HB2.out.trans (hb.mono HB2.out.size))); (have HO3 := Lib.hid (blk_below hb (blk_lt HO2.out) HO2.out)); (have c3 := blk_cell HO3.out 4); (simp only [List.getElem?_toArray, List.getElem?_cons_zero, List.getElem?_cons_succ] at c3); (clear hb)) | (go_at_call 123; (refine (H3.out _ HB3.out).mono ?_); (rintro e V4 ⟨rfl, hb⟩); (have HB4 := Lib.hid (HB3.out.trans (hb.mono HB3.out.size))); (have HO4 := Lib.hid (blk_below hb (blk_lt HO3.out) HO3.out)); (have c4 := blk_cell HO4.out 5); (simp only [List.getElem?_toArray, List.getElem?_cons_zero, List.getElem?_cons_succ] at c4); (clear hb)) | (go_at_call 125; (refine (H4.out _ HB4.out).mono ?_); (rintro e V5 ⟨rfl, hb⟩); (have HB5 := Lib.hid (HB4.out.trans (hb.mono HB4.out.size))); (clear hb)))
            go_ret
            exact ⟨rfl, HB5.out⟩
          ·
            go_enter Tryz.func97, Tryz.ntmps97
            go_wp2_with (first | (go_at_call 117; (refine (H0.out _ HB0.out).mono ?_); (rintro e V1 ⟨rfl, hb⟩); (have HB1 := Lib.hid (HB0.out.trans (hb.mono HB0.out.size))); (have HO1 := Lib.hid (blk_below hb (blk_lt HO0.out) HO0.out)); (have c1 := blk_cell HO1.out 2); (simp only [List.getElem?_toArray, List.getElem?_cons_zero, List.getElem?_cons_succ] at c1); (clear hb)) | (go_at_call 119; (refine (H1.out _ HB1.out).mono ?_); (rintro e V2 ⟨rfl, hb⟩); (have HB2 := Lib.hid (HB1.out.trans (hb.mono HB1.out.size))); (have HO2 := Lib.hid (blk_below hb (blk_lt HO1.out) HO1.out)); (have c2 := blk_cell HO2.out 3); (simp only [List.getElem?_toArray, List.getElem?_cons_zero, List.getElem?_cons_succ] at c2); (clear hb)) | (go_at_call 121; (refine (H2.out _ HB2.out).mono ?_); (rintro e V3 ⟨rfl, hb⟩); (have HB3 := Lib.hid (HB2.out.trans (hb.mono HB2.out.size))); (have HO3 := Lib.hid (blk_below hb (blk_lt HO2.out) HO2.out)); (have c3 := blk_cell HO3.out 4); (simp only [List.getElem?_toArray, List.getElem?_cons_zero, List.getElem?_cons_succ] at c3); (clear hb)) | (go_at_call 123; (refine (H3.out _ HB3.out).mono ?_); (rintro e V4 ⟨rfl, hb⟩); (have HB4 := Lib.hid (HB3.out.trans (hb.mono HB3.out.size))); (have HO4 := Lib.hid (blk_below hb (blk_lt HO3.out) HO3.out)); (have c4 := blk_cell HO4.out 5); (simp only [List.getElem?_toArray, List.getElem?_cons_zero, List.getElem?_cons_succ] at c4); (clear hb)) | (go_at_call 125; (refine (H4.out _ HB4.out).mono ?_); (rintro e V5 ⟨rfl, hb⟩); (have HB5 := Lib.hid (HB4.out.trans (hb.mono HB4.out.size))); (clear hb)))
            go_ret
            exact ⟨rfl, HB5.out⟩
theorem sright_any (h : SpecAt w s AM AT AX AC AJ) : Calls Tryz.prog 97 #[specW s AM AT AX AC AJ cM cT cX cC cJ] w fun e w' => e = .returned (.bool (rightS s)) ∧ Below w.heap.size w w' := by
  obtain ⟨rk, ms, ts, xs, cs, js⟩ := s
  unfold specW rightS headR
  have k0 := fun V (hV : Below w.heap.size w V) => all_Mrg ms AM cM 744 V (h.ms.below hV (Nat.le_refl _)) h.len.1
  have k1 := fun V (hV : Below w.heap.size w V) => all_Txt ts AT cT 744 V (h.ts.below hV (Nat.le_refl _)) h.len.2.1
  have k2 := fun V (hV : Below w.heap.size w V) => all_Spl xs AX cX 32 V (h.xs.below hV (Nat.le_refl _)) h.len.2.2.1
  have k3 := fun V (hV : Below w.heap.size w V) => all_Cls cs AC cC 64 V (h.cs.below hV (Nat.le_refl _)) h.len.2.2.2.1
  have k4 := fun V (hV : Below w.heap.size w V) => all_Jns js AJ cJ 64 V (h.js.below hV (Nat.le_refl _)) h.len.2.2.2.2
  cases rk with
  | true =>
    by_cases hd : 0 < ms.length
    · have := right_bad_t (w := w) (AM := AM) (AT := AT) (AX := AX) (AC := AC) (AJ := AJ) (cM := cM) (cT := cT) (cX := cX) (cC := cC) (cJ := cJ) (nT := ts.length) (nX := xs.length) (nC := cs.length) (nJ := js.length) hd
      refine this.mono ?_
      rintro e w' ⟨rfl, hb⟩
      refine ⟨?_, hb⟩
      simp only [if_true]
      rw [decide_eq_false (show ¬ ms.length = 0 from by omega)]
      simp
    · obtain rfl : ms = [] := List.length_eq_zero_iff.1 (by omega)
      have := right_t _ _ _ _ _ k0 k1 k2 k3 k4
      refine this.mono ?_
      rintro e w' ⟨rfl, hb⟩
      refine ⟨?_, hb⟩
      simp only [if_true]
      simp only [List.length_nil, decide_true, Bool.true_and]
  | false =>
    by_cases hd : 0 < ts.length
    · have := right_bad_f (w := w) (AM := AM) (AT := AT) (AX := AX) (AC := AC) (AJ := AJ) (cM := cM) (cT := cT) (cX := cX) (cC := cC) (cJ := cJ) (nM := ms.length) (nX := xs.length) (nC := cs.length) (nJ := js.length) hd
      refine this.mono ?_
      rintro e w' ⟨rfl, hb⟩
      refine ⟨?_, hb⟩
      simp only [Bool.false_eq_true, if_false]
      rw [decide_eq_false (show ¬ ts.length = 0 from by omega)]
      simp
    · obtain rfl : ts = [] := List.length_eq_zero_iff.1 (by omega)
      have := right_f _ _ _ _ _ k0 k1 k2 k3 k4
      refine this.mono ?_
      rintro e w' ⟨rfl, hb⟩
      refine ⟨?_, hb⟩
      simp only [Bool.false_eq_true, if_false]
      simp only [List.length_nil, decide_true, Bool.true_and]
end
theorem flat_at {α : Type} {enc : α → List Value} {sz : Nat} (hsz : ∀ x, (enc x).length = sz) : ∀ (l : List α) (j : Nat) (u : Value), (l.flatMap enc)[j]? = some u → ∃ i x k, l[i]? = some x ∧ (enc x)[k]? = some u ∧ j = i * sz + k
  | [], j, u, h => by simp at h
  | a :: l, j, u, h => by
    rw [List.flatMap_cons] at h
    by_cases hj : j < sz
    · rw [List.getElem?_append_left (by rw [hsz]; exact hj)] at h
      exact ⟨0, a, j, rfl, h, by omega⟩
    · rw [List.getElem?_append_right (by rw [hsz]; omega), hsz] at h
      obtain ⟨i, x, k, h1, h2, h3⟩ := flat_at hsz l _ _ h
      exact ⟨i + 1, x, k, by simpa using h1, h2, by rw [Nat.succ_mul]; omega⟩
theorem flat_len {α : Type} {enc : α → List Value} {sz : Nat} (hsz : ∀ x, (enc x).length = sz) : ∀ l : List α, (l.flatMap enc).length = l.length * sz
  | [] => by simp
  | a :: l => by rw [List.flatMap_cons, List.length_append, hsz, flat_len hsz l, List.length_cons, Nat.succ_mul]; omega
theorem flat_one {α : Type} {enc : α → List Value} (h1 : ∀ x, ∀ u ∈ enc x, u.oneCell' = true) (l : List α) : ∀ u ∈ l.flatMap enc, u.oneCell' = true := by
  intro u hu
  obtain ⟨x, _, hx⟩ := List.mem_flatMap.1 hu
  exact h1 x u hx
def encS1 (x : List UInt8) : List Value := [strV x]
theorem sl_of1 {w : World} {A : Option Addr} {l : List (List UInt8)} (h : Sl1 w A strV l) : Sl w A encS1 1 l := by
  intro i x hx
  obtain ⟨b, o, e, hc⟩ := h i x hx
  refine ⟨b, o, e, fun j v hv => ?_⟩
  cases j with
  | zero => cases hv; simpa using hc
  | succ j => simp [encS1] at hv
theorem sl_to1 {w : World} {A : Option Addr} {l : List (List UInt8)} (h : Sl w A encS1 1 l) : Sl1 w A strV l := by
  intro i x hx
  obtain ⟨b, o, e, hc⟩ := h i x hx
  exact ⟨b, o, e, by simpa using hc 0 _ rfl⟩
theorem info_cMrg : (Tryz.prog.info? 113).map (fun i => (i.zero, i.size, i.bytes)) = some (some (.agg #[.int .i64 0, .int .i64 0]), 2, 16) := by kernel_rfl
theorem eql_cMrg (A : Option Addr) (n c : Nat) (w : World) : (binOp .eql 32 (.slice A n c) (.slice none 0 0)).run Tryz.prog w = .ok (.bool A.isNone) w := by
  cases A <;> kernel_rfl
theorem len_cMrg (x : Int × Int) : (encM x).length = 2 := rfl
theorem one_cMrg (x : Int × Int) : ∀ u ∈ encM x, u.oneCell' = true := by
  intro u hu
  simp [encM] at hu
  (try (rcases hu with rfl | rfl | rfl)) <;> (try (rcases hu with rfl | rfl)) <;> (try subst hu) <;> rfl
theorem clone_Mrg (l : List (Int × Int)) (A : Option Addr) (c : Nat) (w : World) (h : Sl w A encM 2 l) (hlen : l.length ≤ 1000000) :
    Calls Tryz.prog 158 #[.slice A l.length c] w fun e w' => ∃ A' c', e = .returned (.slice A' l.length c') ∧ Sl w' A' encM 2 l ∧ (∀ a, A' = some a → w.heap.size ≤ a.block) ∧ Below w.heap.size w w' := by
  have HL := Lib.hid h
  clear h
  cases A with
  | none =>
    have hl0 : l = [] := by
      rcases l with _ | ⟨x, l⟩
      · rfl
      · obtain ⟨b, o, e, _⟩ := HL.out 0 x rfl
        cases e
    subst hl0
    have heq := eql_cMrg none 0 c w
    simp only [Option.isNone_none] at heq
    go_enter Tryz.func158, Tryz.ntmps158
    go_wp2_with fail
    go_ret
    exact ⟨none, 0, rfl, Sl.nil _ _ _ _, fun a ha => (by cases ha), Below.refl _ _⟩
  | some a =>
    have heq := eql_cMrg (some a) l.length c w
    simp only [Option.isNone_some] at heq
    have HE : Hid ((w.alloc (.cells #[] 113)).ownsRow w.heap.size 113 2 (.slice (some ⟨w.heap.size, 0, none⟩) 0 0) 0 []) := Lib.hid ⟨by simp, .inr ⟨w.heap.size, 0, #[], rfl, Nat.le_refl _, blk_new w _, Nat.le_refl _, Nat.zero_le _, by simp, by simp⟩⟩
    have HN : Hid (∀ j u, (l.flatMap encM)[j]? = some u → (w.alloc (.cells #[] 113)).cell? (a.add j) = some u) := Lib.hid (by
      intro j u hu
      obtain ⟨i, x, k, h1, h2, rfl⟩ := flat_at len_cMrg l j u hu
      obtain ⟨b, o, e, hc⟩ := HL.out i x h1
      cases e
      rw [add_plain, ← Nat.add_assoc]
      exact below_cell ((Below.refl w.heap.size w).alloc (Nat.le_refl _) _) (Nat.le_refl _) (hc k u h2))
    have H1 := Lib.hid (flat_one one_cMrg l)
    have HLEN := Lib.hid (flat_len len_cMrg l)
    obtain ⟨i, hif, hz0, hz1, hz2⟩ := info_parts info_cMrg
    have HI := Lib.hid hif
    have HZ := Lib.hid (And.intro hz0 (And.intro hz1 hz2))
    clear hif hz0 hz1 hz2
    go_enter Tryz.func158, Tryz.ntmps158
    go_wp2_with (at_builtin; refine wpList_append_own_at _ rfl _ _ 32 rfl w.heap.size 113 i (.agg #[.int .i64 0, .int .i64 0]) 2 16 Tryz.underlying32 HI.out HZ.out.1 HZ.out.2.1 HZ.out.2.2 rfl (by decide) _ 0 [] rfl HE.out a l.length c _ rfl HLEN.out HN.out H1.out (by unfold maxLen; omega) (by omega) (by simp) ?_)
    intro v' w' r1 r2 _ _
    have hb : Below w.heap.size w w' := by
      have h0 := (Below.refl w.heap.size w).alloc (Nat.le_refl _) (.cells #[] 113)
      have hk : Keep (fun k => k = w.heap.size) (w.alloc (.cells #[] 113)) w' := Keep.of_grown r2 (fun k hk => by simpa [Value.ownBlock] using hk.symm)
      exact h0.trans (hk.below (by simp) (fun x hx => by omega))
    obtain ⟨A, c', rfl⟩ := own_slice r1
    have HB := Lib.hid hb
    have HR := Lib.hid r1
    clear r1 r2 hb
    go_wp2_with fail
    go_ret
    refine ⟨_, _, rfl, own_sl len_cMrg HR.out (by decide), fun a ha => ?_, HB.out⟩
    subst ha
    rcases HR.out.2 with ⟨h1, _⟩ | ⟨g, cap, cur, h1, hb, hg, _⟩
    · cases h1
    · cases h1; exact hb
theorem info_cTxt : (Tryz.prog.info? 9).map (fun i => (i.zero, i.size, i.bytes)) = some (some (.string ⟨#[]⟩), 1, 16) := by kernel_rfl
theorem eql_cTxt (A : Option Addr) (n c : Nat) (w : World) : (binOp .eql 31 (.slice A n c) (.slice none 0 0)).run Tryz.prog w = .ok (.bool A.isNone) w := by
  cases A <;> kernel_rfl
theorem len_cTxt (x : List UInt8) : (encS1 x).length = 1 := rfl
theorem one_cTxt (x : List UInt8) : ∀ u ∈ encS1 x, u.oneCell' = true := by
  intro u hu
  simp [encS1, strV] at hu
  (try (rcases hu with rfl | rfl | rfl)) <;> (try (rcases hu with rfl | rfl)) <;> (try subst hu) <;> rfl
theorem clone_Txt (l : List (List UInt8)) (A : Option Addr) (c : Nat) (w : World) (h : Sl w A encS1 1 l) (hlen : l.length ≤ 1000000) :
    Calls Tryz.prog 159 #[.slice A l.length c] w fun e w' => ∃ A' c', e = .returned (.slice A' l.length c') ∧ Sl w' A' encS1 1 l ∧ (∀ a, A' = some a → w.heap.size ≤ a.block) ∧ Below w.heap.size w w' := by
  have HL := Lib.hid h
  clear h
  cases A with
  | none =>
    have hl0 : l = [] := by
      rcases l with _ | ⟨x, l⟩
      · rfl
      · obtain ⟨b, o, e, _⟩ := HL.out 0 x rfl
        cases e
    subst hl0
    have heq := eql_cTxt none 0 c w
    simp only [Option.isNone_none] at heq
    go_enter Tryz.func159, Tryz.ntmps159
    go_wp2_with fail
    go_ret
    exact ⟨none, 0, rfl, Sl.nil _ _ _ _, fun a ha => (by cases ha), Below.refl _ _⟩
  | some a =>
    have heq := eql_cTxt (some a) l.length c w
    simp only [Option.isNone_some] at heq
    have HE : Hid ((w.alloc (.cells #[] 9)).ownsRow w.heap.size 9 1 (.slice (some ⟨w.heap.size, 0, none⟩) 0 0) 0 []) := Lib.hid ⟨by simp, .inr ⟨w.heap.size, 0, #[], rfl, Nat.le_refl _, blk_new w _, Nat.le_refl _, Nat.zero_le _, by simp, by simp⟩⟩
    have HN : Hid (∀ j u, (l.flatMap encS1)[j]? = some u → (w.alloc (.cells #[] 9)).cell? (a.add j) = some u) := Lib.hid (by
      intro j u hu
      obtain ⟨i, x, k, h1, h2, rfl⟩ := flat_at len_cTxt l j u hu
      obtain ⟨b, o, e, hc⟩ := HL.out i x h1
      cases e
      rw [add_plain, ← Nat.add_assoc]
      exact below_cell ((Below.refl w.heap.size w).alloc (Nat.le_refl _) _) (Nat.le_refl _) (hc k u h2))
    have H1 := Lib.hid (flat_one one_cTxt l)
    have HLEN := Lib.hid (flat_len len_cTxt l)
    obtain ⟨i, hif, hz0, hz1, hz2⟩ := info_parts info_cTxt
    have HI := Lib.hid hif
    have HZ := Lib.hid (And.intro hz0 (And.intro hz1 hz2))
    clear hif hz0 hz1 hz2
    go_enter Tryz.func159, Tryz.ntmps159
    go_wp2_with (at_builtin; refine wpList_append_own_at _ rfl _ _ 31 rfl w.heap.size 9 i (.string ⟨#[]⟩) 1 16 Tryz.underlying31 HI.out HZ.out.1 HZ.out.2.1 HZ.out.2.2 rfl (by decide) _ 0 [] rfl HE.out a l.length c _ rfl HLEN.out HN.out H1.out (by unfold maxLen; omega) (by omega) (by simp) ?_)
    intro v' w' r1 r2 _ _
    have hb : Below w.heap.size w w' := by
      have h0 := (Below.refl w.heap.size w).alloc (Nat.le_refl _) (.cells #[] 9)
      have hk : Keep (fun k => k = w.heap.size) (w.alloc (.cells #[] 9)) w' := Keep.of_grown r2 (fun k hk => by simpa [Value.ownBlock] using hk.symm)
      exact h0.trans (hk.below (by simp) (fun x hx => by omega))
    obtain ⟨A, c', rfl⟩ := own_slice r1
    have HB := Lib.hid hb
    have HR := Lib.hid r1
    clear r1 r2 hb
    go_wp2_with fail
    go_ret
    refine ⟨_, _, rfl, own_sl len_cTxt HR.out (by decide), fun a ha => ?_, HB.out⟩
    subst ha
    rcases HR.out.2 with ⟨h1, _⟩ | ⟨g, cap, cur, h1, hb, hg, _⟩
    · cases h1
    · cases h1; exact hb
theorem info_cSpl : (Tryz.prog.info? 170).map (fun i => (i.zero, i.size, i.bytes)) = some (some (.agg #[.int .i64 0, .string ⟨#[]⟩]), 2, 24) := by kernel_rfl
theorem eql_cSpl (A : Option Addr) (n c : Nat) (w : World) : (binOp .eql 25 (.slice A n c) (.slice none 0 0)).run Tryz.prog w = .ok (.bool A.isNone) w := by
  cases A <;> kernel_rfl
theorem len_cSpl (x : Int × List UInt8) : (encIS x).length = 2 := rfl
theorem one_cSpl (x : Int × List UInt8) : ∀ u ∈ encIS x, u.oneCell' = true := by
  intro u hu
  simp [encIS, strV] at hu
  (try (rcases hu with rfl | rfl | rfl)) <;> (try (rcases hu with rfl | rfl)) <;> (try subst hu) <;> rfl
theorem clone_Spl (l : List (Int × List UInt8)) (A : Option Addr) (c : Nat) (w : World) (h : Sl w A encIS 2 l) (hlen : l.length ≤ 1000000) :
    Calls Tryz.prog 160 #[.slice A l.length c] w fun e w' => ∃ A' c', e = .returned (.slice A' l.length c') ∧ Sl w' A' encIS 2 l ∧ (∀ a, A' = some a → w.heap.size ≤ a.block) ∧ Below w.heap.size w w' := by
  have HL := Lib.hid h
  clear h
  cases A with
  | none =>
    have hl0 : l = [] := by
      rcases l with _ | ⟨x, l⟩
      · rfl
      · obtain ⟨b, o, e, _⟩ := HL.out 0 x rfl
        cases e
    subst hl0
    have heq := eql_cSpl none 0 c w
    simp only [Option.isNone_none] at heq
    go_enter Tryz.func160, Tryz.ntmps160
    go_wp2_with fail
    go_ret
    exact ⟨none, 0, rfl, Sl.nil _ _ _ _, fun a ha => (by cases ha), Below.refl _ _⟩
  | some a =>
    have heq := eql_cSpl (some a) l.length c w
    simp only [Option.isNone_some] at heq
    have HE : Hid ((w.alloc (.cells #[] 170)).ownsRow w.heap.size 170 2 (.slice (some ⟨w.heap.size, 0, none⟩) 0 0) 0 []) := Lib.hid ⟨by simp, .inr ⟨w.heap.size, 0, #[], rfl, Nat.le_refl _, blk_new w _, Nat.le_refl _, Nat.zero_le _, by simp, by simp⟩⟩
    have HN : Hid (∀ j u, (l.flatMap encIS)[j]? = some u → (w.alloc (.cells #[] 170)).cell? (a.add j) = some u) := Lib.hid (by
      intro j u hu
      obtain ⟨i, x, k, h1, h2, rfl⟩ := flat_at len_cSpl l j u hu
      obtain ⟨b, o, e, hc⟩ := HL.out i x h1
      cases e
      rw [add_plain, ← Nat.add_assoc]
      exact below_cell ((Below.refl w.heap.size w).alloc (Nat.le_refl _) _) (Nat.le_refl _) (hc k u h2))
    have H1 := Lib.hid (flat_one one_cSpl l)
    have HLEN := Lib.hid (flat_len len_cSpl l)
    obtain ⟨i, hif, hz0, hz1, hz2⟩ := info_parts info_cSpl
    have HI := Lib.hid hif
    have HZ := Lib.hid (And.intro hz0 (And.intro hz1 hz2))
    clear hif hz0 hz1 hz2
    go_enter Tryz.func160, Tryz.ntmps160
    go_wp2_with (at_builtin; refine wpList_append_own_at _ rfl _ _ 25 rfl w.heap.size 170 i (.agg #[.int .i64 0, .string ⟨#[]⟩]) 2 24 Tryz.underlying25 HI.out HZ.out.1 HZ.out.2.1 HZ.out.2.2 rfl (by decide) _ 0 [] rfl HE.out a l.length c _ rfl HLEN.out HN.out H1.out (by unfold maxLen; omega) (by omega) (by simp) ?_)
    intro v' w' r1 r2 _ _
    have hb : Below w.heap.size w w' := by
      have h0 := (Below.refl w.heap.size w).alloc (Nat.le_refl _) (.cells #[] 170)
      have hk : Keep (fun k => k = w.heap.size) (w.alloc (.cells #[] 170)) w' := Keep.of_grown r2 (fun k hk => by simpa [Value.ownBlock] using hk.symm)
      exact h0.trans (hk.below (by simp) (fun x hx => by omega))
    obtain ⟨A, c', rfl⟩ := own_slice r1
    have HB := Lib.hid hb
    have HR := Lib.hid r1
    clear r1 r2 hb
    go_wp2_with fail
    go_ret
    refine ⟨_, _, rfl, own_sl len_cSpl HR.out (by decide), fun a ha => ?_, HB.out⟩
    subst ha
    rcases HR.out.2 with ⟨h1, _⟩ | ⟨g, cap, cur, h1, hb, hg, _⟩
    · cases h1
    · cases h1; exact hb
theorem info_cCls : (Tryz.prog.info? 181).map (fun i => (i.zero, i.size, i.bytes)) = some (some (.agg #[.int .i64 0, .int .i64 0, .int .i64 0]), 3, 24) := by kernel_rfl
theorem eql_cCls (A : Option Addr) (n c : Nat) (w : World) : (binOp .eql 23 (.slice A n c) (.slice none 0 0)).run Tryz.prog w = .ok (.bool A.isNone) w := by
  cases A <;> kernel_rfl
theorem len_cCls (x : Cls) : (encCls x).length = 3 := rfl
theorem one_cCls (x : Cls) : ∀ u ∈ encCls x, u.oneCell' = true := by
  intro u hu
  simp [encCls] at hu
  (try (rcases hu with rfl | rfl | rfl)) <;> (try (rcases hu with rfl | rfl)) <;> (try subst hu) <;> rfl
theorem clone_Cls (l : List (Cls)) (A : Option Addr) (c : Nat) (w : World) (h : Sl w A encCls 3 l) (hlen : l.length ≤ 1000000) :
    Calls Tryz.prog 161 #[.slice A l.length c] w fun e w' => ∃ A' c', e = .returned (.slice A' l.length c') ∧ Sl w' A' encCls 3 l ∧ (∀ a, A' = some a → w.heap.size ≤ a.block) ∧ Below w.heap.size w w' := by
  have HL := Lib.hid h
  clear h
  cases A with
  | none =>
    have hl0 : l = [] := by
      rcases l with _ | ⟨x, l⟩
      · rfl
      · obtain ⟨b, o, e, _⟩ := HL.out 0 x rfl
        cases e
    subst hl0
    have heq := eql_cCls none 0 c w
    simp only [Option.isNone_none] at heq
    go_enter Tryz.func161, Tryz.ntmps161
    go_wp2_with fail
    go_ret
    exact ⟨none, 0, rfl, Sl.nil _ _ _ _, fun a ha => (by cases ha), Below.refl _ _⟩
  | some a =>
    have heq := eql_cCls (some a) l.length c w
    simp only [Option.isNone_some] at heq
    have HE : Hid ((w.alloc (.cells #[] 181)).ownsRow w.heap.size 181 3 (.slice (some ⟨w.heap.size, 0, none⟩) 0 0) 0 []) := Lib.hid ⟨by simp, .inr ⟨w.heap.size, 0, #[], rfl, Nat.le_refl _, blk_new w _, Nat.le_refl _, Nat.zero_le _, by simp, by simp⟩⟩
    have HN : Hid (∀ j u, (l.flatMap encCls)[j]? = some u → (w.alloc (.cells #[] 181)).cell? (a.add j) = some u) := Lib.hid (by
      intro j u hu
      obtain ⟨i, x, k, h1, h2, rfl⟩ := flat_at len_cCls l j u hu
      obtain ⟨b, o, e, hc⟩ := HL.out i x h1
      cases e
      rw [add_plain, ← Nat.add_assoc]
      exact below_cell ((Below.refl w.heap.size w).alloc (Nat.le_refl _) _) (Nat.le_refl _) (hc k u h2))
    have H1 := Lib.hid (flat_one one_cCls l)
    have HLEN := Lib.hid (flat_len len_cCls l)
    obtain ⟨i, hif, hz0, hz1, hz2⟩ := info_parts info_cCls
    have HI := Lib.hid hif
    have HZ := Lib.hid (And.intro hz0 (And.intro hz1 hz2))
    clear hif hz0 hz1 hz2
    go_enter Tryz.func161, Tryz.ntmps161
    go_wp2_with (at_builtin; refine wpList_append_own_at _ rfl _ _ 23 rfl w.heap.size 181 i (.agg #[.int .i64 0, .int .i64 0, .int .i64 0]) 3 24 Tryz.underlying23 HI.out HZ.out.1 HZ.out.2.1 HZ.out.2.2 rfl (by decide) _ 0 [] rfl HE.out a l.length c _ rfl HLEN.out HN.out H1.out (by unfold maxLen; omega) (by omega) (by simp) ?_)
    intro v' w' r1 r2 _ _
    have hb : Below w.heap.size w w' := by
      have h0 := (Below.refl w.heap.size w).alloc (Nat.le_refl _) (.cells #[] 181)
      have hk : Keep (fun k => k = w.heap.size) (w.alloc (.cells #[] 181)) w' := Keep.of_grown r2 (fun k hk => by simpa [Value.ownBlock] using hk.symm)
      exact h0.trans (hk.below (by simp) (fun x hx => by omega))
    obtain ⟨A, c', rfl⟩ := own_slice r1
    have HB := Lib.hid hb
    have HR := Lib.hid r1
    clear r1 r2 hb
    go_wp2_with fail
    go_ret
    refine ⟨_, _, rfl, own_sl len_cCls HR.out (by decide), fun a ha => ?_, HB.out⟩
    subst ha
    rcases HR.out.2 with ⟨h1, _⟩ | ⟨g, cap, cur, h1, hb, hg, _⟩
    · cases h1
    · cases h1; exact hb
theorem info_cJns : (Tryz.prog.info? 182).map (fun i => (i.zero, i.size, i.bytes)) = some (some (.agg #[.int .i64 0, .int .i64 0]), 2, 16) := by kernel_rfl
theorem eql_cJns (A : Option Addr) (n c : Nat) (w : World) : (binOp .eql 24 (.slice A n c) (.slice none 0 0)).run Tryz.prog w = .ok (.bool A.isNone) w := by
  cases A <;> kernel_rfl
theorem len_cJns (x : Jn) : (encJn x).length = 2 := rfl
theorem one_cJns (x : Jn) : ∀ u ∈ encJn x, u.oneCell' = true := by
  intro u hu
  simp [encJn] at hu
  (try (rcases hu with rfl | rfl | rfl)) <;> (try (rcases hu with rfl | rfl)) <;> (try subst hu) <;> rfl
theorem clone_Jns (l : List (Jn)) (A : Option Addr) (c : Nat) (w : World) (h : Sl w A encJn 2 l) (hlen : l.length ≤ 1000000) :
    Calls Tryz.prog 162 #[.slice A l.length c] w fun e w' => ∃ A' c', e = .returned (.slice A' l.length c') ∧ Sl w' A' encJn 2 l ∧ (∀ a, A' = some a → w.heap.size ≤ a.block) ∧ Below w.heap.size w w' := by
  have HL := Lib.hid h
  clear h
  cases A with
  | none =>
    have hl0 : l = [] := by
      rcases l with _ | ⟨x, l⟩
      · rfl
      · obtain ⟨b, o, e, _⟩ := HL.out 0 x rfl
        cases e
    subst hl0
    have heq := eql_cJns none 0 c w
    simp only [Option.isNone_none] at heq
    go_enter Tryz.func162, Tryz.ntmps162
    go_wp2_with fail
    go_ret
    exact ⟨none, 0, rfl, Sl.nil _ _ _ _, fun a ha => (by cases ha), Below.refl _ _⟩
  | some a =>
    have heq := eql_cJns (some a) l.length c w
    simp only [Option.isNone_some] at heq
    have HE : Hid ((w.alloc (.cells #[] 182)).ownsRow w.heap.size 182 2 (.slice (some ⟨w.heap.size, 0, none⟩) 0 0) 0 []) := Lib.hid ⟨by simp, .inr ⟨w.heap.size, 0, #[], rfl, Nat.le_refl _, blk_new w _, Nat.le_refl _, Nat.zero_le _, by simp, by simp⟩⟩
    have HN : Hid (∀ j u, (l.flatMap encJn)[j]? = some u → (w.alloc (.cells #[] 182)).cell? (a.add j) = some u) := Lib.hid (by
      intro j u hu
      obtain ⟨i, x, k, h1, h2, rfl⟩ := flat_at len_cJns l j u hu
      obtain ⟨b, o, e, hc⟩ := HL.out i x h1
      cases e
      rw [add_plain, ← Nat.add_assoc]
      exact below_cell ((Below.refl w.heap.size w).alloc (Nat.le_refl _) _) (Nat.le_refl _) (hc k u h2))
    have H1 := Lib.hid (flat_one one_cJns l)
    have HLEN := Lib.hid (flat_len len_cJns l)
    obtain ⟨i, hif, hz0, hz1, hz2⟩ := info_parts info_cJns
    have HI := Lib.hid hif
    have HZ := Lib.hid (And.intro hz0 (And.intro hz1 hz2))
    clear hif hz0 hz1 hz2
    go_enter Tryz.func162, Tryz.ntmps162
    go_wp2_with (at_builtin; refine wpList_append_own_at _ rfl _ _ 24 rfl w.heap.size 182 i (.agg #[.int .i64 0, .int .i64 0]) 2 16 Tryz.underlying24 HI.out HZ.out.1 HZ.out.2.1 HZ.out.2.2 rfl (by decide) _ 0 [] rfl HE.out a l.length c _ rfl HLEN.out HN.out H1.out (by unfold maxLen; omega) (by omega) (by simp) ?_)
    intro v' w' r1 r2 _ _
    have hb : Below w.heap.size w w' := by
      have h0 := (Below.refl w.heap.size w).alloc (Nat.le_refl _) (.cells #[] 182)
      have hk : Keep (fun k => k = w.heap.size) (w.alloc (.cells #[] 182)) w' := Keep.of_grown r2 (fun k hk => by simpa [Value.ownBlock] using hk.symm)
      exact h0.trans (hk.below (by simp) (fun x hx => by omega))
    obtain ⟨A, c', rfl⟩ := own_slice r1
    have HB := Lib.hid hb
    have HR := Lib.hid r1
    clear r1 r2 hb
    go_wp2_with fail
    go_ret
    refine ⟨_, _, rfl, own_sl len_cJns HR.out (by decide), fun a ha => ?_, HB.out⟩
    subst ha
    rcases HR.out.2 with ⟨h1, _⟩ | ⟨g, cap, cur, h1, hb, hg, _⟩
    · cases h1
    · cases h1; exact hb
def Fr {α : Type} (W : World) (sb : Nat) (A : Option Addr) (enc : α → List Value) (sz : Nat) (l : List α) : Prop := Sl W A enc sz l ∧ ∀ a, A = some a → sb + 1 < a.block
theorem Fr.below {α : Type} {W V : World} {sb : Nat} {A : Option Addr} {enc : α → List Value} {sz : Nat} {l : List α} (h : Fr W sb A enc sz l) (hb : Below W.heap.size W V) : Fr V sb A enc sz l := ⟨h.1.below hb (Nat.le_refl _), h.2⟩
theorem Fr.keep {α : Type} {W V : World} {sb : Nat} {A : Option Addr} {enc : α → List Value} {sz : Nat} {l : List α} (h : Fr W sb A enc sz l) (hk : Keep (fun g => g = sb) W V) : Fr V sb A enc sz l := ⟨sl_keep h.1 hk (fun a ha e => by have := h.2 a ha; omega), h.2⟩
theorem Fr.keep1 {α : Type} {W V : World} {sb : Nat} {A : Option Addr} {enc : α → List Value} {sz : Nat} {l : List α} (h : Fr W sb A enc sz l) (hk : Keep (fun g => g = sb + 1) W V) : Sl V A enc sz l := sl_keep h.1 hk (fun a ha e => by have := h.2 a ha; omega)
structure CpIs (w W : World) (sb : Nat) (C : List Value) : Prop where
  bl : Below w.heap.size w W
  blk : W.heap[sb]? = some (.cells C.toArray 115)
  res : W.heap[sb + 1]? = some (.cells #[.bool false, .slice none 0 0, .slice none 0 0, .slice none 0 0, .slice none 0 0, .slice none 0 0] 115)
  lt : w.heap.size ≤ sb
theorem CpIs.below {w W V : World} {sb : Nat} {C : List Value} (h : CpIs w W sb C) (hb : Below W.heap.size W V) : CpIs w V sb C :=
  ⟨h.bl.trans (hb.mono h.bl.size), blk_below hb (blk_lt h.blk) h.blk, blk_below hb (blk_lt h.res) h.res, h.lt⟩
theorem CpIs.put {w W V : World} {sb : Nat} {C C' : List Value} (h : CpIs w W sb C) (hk : Keep (fun g => g = sb) W V) (hc : V.heap[sb]? = some (.cells C'.toArray 115)) : CpIs w V sb C' :=
  ⟨h.bl.trans (hk.below h.bl.size (fun x hx => by have := h.lt; omega)), hc, hk.blk h.res (by omega), h.lt⟩
theorem Fr.drew {α : Type} {W : World} {sb : Nat} {A : Option Addr} {enc : α → List Value} {sz : Nat} {l : List α} (h : Fr W sb A enc sz l) : Fr W.drew sb A enc sz l := h
theorem CpIs.drew {w W : World} {sb : Nat} {C : List Value} (h : CpIs w W sb C) : CpIs w W.drew sb C := ⟨h.bl.drew, h.blk, h.res, h.lt⟩
theorem CpIs.fresh {α : Type} {w W V : World} {sb : Nat} {C : List Value} {A : Option Addr} {enc : α → List Value} {sz : Nat} {l : List α} (h : CpIs w W sb C) (hs : Sl V A enc sz l) (hf : ∀ a, A = some a → W.heap.size ≤ a.block) : Fr V sb A enc sz l :=
  ⟨hs, fun a ha => by have := hf a ha; have := blk_lt h.res; omega⟩
theorem load_spec {w : World} {r : Nat} {rk : Bool} {AM AT AX AC AJ : Option Addr} {nM nT nX nC nJ cM cT cX cC cJ : Nat} (h : w.heap[r]? = some (.cells #[.bool rk, .slice AM nM cM, .slice AT nT cT, .slice AX nX cX, .slice AC nC cC, .slice AJ nJ cJ] 115)) :
    (loadVar 115 ⟨r, 0, none⟩).run Tryz.prog w = .ok (specV rk AM nM cM AT nT cT AX nX cX AC nC cC AJ nJ cJ) w := by
  have n0 := blk_cell h 0
  have n1 := blk_cell h 1
  have n2 := blk_cell h 2
  have n3 := blk_cell h 3
  have n4 := blk_cell h 4
  have n5 := blk_cell h 5
  simp only [List.getElem?_toArray, List.getElem?_cons_zero, List.getElem?_cons_succ] at n0 n1 n2 n3 n4 n5
  simp [go_sem, specV, n0, n1, n2, n3, n4, n5]
section
variable {w : World} {s : SpecP} {AM AT AX AC AJ : Option Addr} {cM cT cX cC cJ : Nat}
set_option maxHeartbeats 8000000 in
theorem copied_any (hs : SpecAt w s AM AT AX AC AJ) (hln : s.ms.length ≤ 1000000 ∧ s.ts.length ≤ 1000000 ∧ s.xs.length ≤ 1000000 ∧ s.cs.length ≤ 1000000 ∧ s.js.length ≤ 1000000) :
    Calls Tryz.prog 132 #[specW s AM AT AX AC AJ cM cT cX cC cJ] w fun e w' => (∃ A1 A2 A3 A4 A5 c1 c2 c3 c4 c5, e = .returned (specW s A1 A2 A3 A4 A5 c1 c2 c3 c4 c5) ∧ SpecAt w' s A1 A2 A3 A4 A5) ∧ Below w.heap.size w w' := by
  unfold specW specV
  have HS0 := Lib.hid hs
  have HLN := Lib.hid hln
  have hb1 := (Below.refl w.heap.size w).alloc (Nat.le_refl _) (.cells #[.bool s.rk, .slice AM s.ms.length cM, .slice AT s.ts.length cT, .slice AX s.xs.length cX, .slice AC s.cs.length cC, .slice AJ s.js.length cJ] 115)
  have hb2 := hb1.alloc (by simp) (.cells #[.bool false, .slice none 0 0, .slice none 0 0, .slice none 0 0, .slice none 0 0, .slice none 0 0] 115)
  have HC0 : Hid (CpIs w ((w.alloc (.cells #[.bool s.rk, .slice AM s.ms.length cM, .slice AT s.ts.length cT, .slice AX s.xs.length cX, .slice AC s.cs.length cC, .slice AJ s.js.length cJ] 115)).alloc (.cells #[.bool false, .slice none 0 0, .slice none 0 0, .slice none 0 0, .slice none 0 0, .slice none 0 0] 115)) w.heap.size [.bool s.rk, .slice AM s.ms.length cM, .slice AT s.ts.length cT, .slice AX s.xs.length cX, .slice AC s.cs.length cC, .slice AJ s.js.length cJ]) := Lib.hid ⟨hb2, blk_alloc (blk_new w _) _, by have := blk_new (w.alloc (.cells #[.bool s.rk, .slice AM s.ms.length cM, .slice AT s.ts.length cT, .slice AX s.xs.length cX, .slice AC s.cs.length cC, .slice AJ s.js.length cJ] 115)) (.cells #[.bool false, .slice none 0 0, .slice none 0 0, .slice none 0 0, .slice none 0 0, .slice none 0 0] 115); simpa using this, Nat.le_refl _⟩
  clear hs hln hb1 hb2
  go_enter Tryz.func132, Tryz.ntmps132
  go_upto_region 1 with fail
  obtain ⟨W0, hW0⟩ : ∃ W0, ((w.alloc (.cells #[.bool s.rk, .slice AM s.ms.length cM, .slice AT s.ts.length cT, .slice AX s.xs.length cX, .slice AC s.cs.length cC, .slice AJ s.js.length cJ] 115)).alloc (.cells #[.bool false, .slice none 0 0, .slice none 0 0, .slice none 0 0, .slice none 0 0, .slice none 0 0] 115)) = W0 := ⟨_, rfl⟩
  rw [hW0] at HC0 ⊢
  obtain ⟨sb, hsb⟩ : ∃ sb, w.heap.size = sb := ⟨_, rfl⟩
  have HC : Hid (CpIs w W0 sb [.bool s.rk, .slice AM s.ms.length cM, .slice AT s.ts.length cT, .slice AX s.xs.length cX, .slice AC s.cs.length cC, .slice AJ s.js.length cJ]) := Lib.hid (by rw [← hsb]; exact HC0.out)
  clear HC0 hW0
  refine wp_region_D (Ds := [10, 12, 14]) (S := fun V => V.cell? ⟨sb, 1, none⟩ = some (.slice AM s.ms.length cM) ∧ V.cell? ⟨sb, 2, none⟩ = some (.slice AT s.ts.length cT) ∧ V.cell? ⟨sb, 3, none⟩ = some (.slice AX s.xs.length cX)) (by kernel_rfl) (by (have q1 := blk_cell HC.out.blk 1); (have q2 := blk_cell HC.out.blk 2); (have q3 := blk_cell HC.out.blk 3); (simp only [List.getElem?_toArray, List.getElem?_cons_zero, List.getElem?_cons_succ] at q1 q2 q3); exact And.intro q1 (And.intro q2 q3)) (fun hHeld => ?_)
  (replace HC := Lib.hid HC.out.drew); generalize W0.drew = W1 at *
  refine tkP 0 3 ?_ rfl (.inl ⟨by rfl, ?_⟩) ?_; rotate_left; focus (intro w' _; go_simp; (try with_reducible rfl))
  try simp only [sIB, sC0, sCS]
  refine tkP 3 6 ?_ rfl (.inl ⟨by rfl, ?_⟩) ?_; rotate_left; focus (intro w' _; go_simp; (try with_reducible rfl))
  try simp only [sIB, sC0, sCS]
  refine tkP 6 9 ?_ rfl (.inl ⟨by rfl, ?_⟩) ?_; rotate_left; focus (intro w' _; go_simp; (try with_reducible rfl))
  try simp only [sIB, sC0, sCS]
  refine tkD 1 4 ?_ rfl hHeld (.inl ⟨by rfl, ?_⟩) ?_; rotate_left; focus (intro w' hSw; (try dsimp only at hSw); go_simp; (try with_reducible rfl))
  try simp only [sIB, sC0, sCS]
  refine tkD 4 7 ?_ rfl hHeld (.inl ⟨by rfl, ?_⟩) ?_; rotate_left; focus (intro w' hSw; (try dsimp only at hSw); go_simp; (try with_reducible rfl))
  try simp only [sIB, sC0, sCS]
  refine tkD 7 10 ?_ rfl hHeld (.inl ⟨by rfl, ?_⟩) ?_; rotate_left; focus (intro w' hSw; (try dsimp only at hSw); go_simp; (try with_reducible rfl))
  try simp only [sIB, sC0, sCS]
  refine wpAnyD_one (i := 2) (by kernel_rfl) rfl (by rfl) (fun K hK => ?_)
  go_simp; refine (clone_Mrg s.ms AM cM _ ((HS0.out.below HC.out.bl (Nat.le_refl _)).ms) (by have := HLN.out; omega)).mono ?_; rintro e V1 ⟨A1, c1, rfl, hsl, hfr, hb⟩; have HM0 := Lib.hid (HC.out.fresh hsl hfr); replace HC := Lib.hid (HC.out.below hb); clear hsl hfr hb; have q1 := blk_cell HC.out.blk 1; have q2 := blk_cell HC.out.blk 2; have q3 := blk_cell HC.out.blk 3; simp only [List.getElem?_toArray, List.getElem?_cons_zero, List.getElem?_cons_succ] at q1 q2 q3; have h := And.intro q1 (And.intro q2 (q3)); clear q1 q2 q3; go_simp
  refine hK.out _ _ h (fun hHeld => ?_)
  clear hK K
  try simp only [Act.put, sIB, sC0, sCS]
  refine tkP 9 12 ?_ rfl (.inl ⟨by rfl, ?_⟩) ?_; rotate_left; focus (intro w' _; go_simp; (try with_reducible rfl))
  try simp only [sIB, sC0, sCS]
  refine wpAnyD_one (i := 5) (by kernel_rfl) rfl (by rfl) (fun K hK => ?_)
  go_simp; refine (clone_Txt s.ts AT cT _ (sl_of1 (HS0.out.below HC.out.bl (Nat.le_refl _)).ts) (by have := HLN.out; omega)).mono ?_; rintro e V1 ⟨A2, c2, rfl, hsl, hfr, hb⟩; have HM1 := Lib.hid (HC.out.fresh hsl hfr); replace HC := Lib.hid (HC.out.below hb); replace HM0 := Lib.hid (HM0.out.below hb); clear hsl hfr hb; have q1 := blk_cell HC.out.blk 1; have q2 := blk_cell HC.out.blk 2; have q3 := blk_cell HC.out.blk 3; simp only [List.getElem?_toArray, List.getElem?_cons_zero, List.getElem?_cons_succ] at q1 q2 q3; have h := And.intro q1 (And.intro q2 (q3)); clear q1 q2 q3; go_simp
  refine hK.out _ _ h (fun hHeld => ?_)
  clear hK K
  try simp only [Act.put, sIB, sC0, sCS]
  refine wpAnyD_one (i := 8) (by kernel_rfl) rfl (by rfl) (fun K hK => ?_)
  go_simp; refine (clone_Spl s.xs AX cX _ ((HS0.out.below HC.out.bl (Nat.le_refl _)).xs) (by have := HLN.out; omega)).mono ?_; rintro e V1 ⟨A3, c3, rfl, hsl, hfr, hb⟩; have HM2 := Lib.hid (HC.out.fresh hsl hfr); replace HC := Lib.hid (HC.out.below hb); replace HM0 := Lib.hid (HM0.out.below hb); replace HM1 := Lib.hid (HM1.out.below hb); clear hsl hfr hb; have q1 := blk_cell HC.out.blk 1; have q2 := blk_cell HC.out.blk 2; have q3 := blk_cell HC.out.blk 3; simp only [List.getElem?_toArray, List.getElem?_cons_zero, List.getElem?_cons_succ] at q1 q2 q3; have h := And.intro q1 (And.intro q2 (q3)); clear q1 q2 q3; go_simp
  refine hK.out _ _ h (fun hHeld => ?_)
  clear hK K
  try simp only [Act.put, sIB, sC0, sCS]
  refine wpAnyD_last (D := 10) (by decide) (by kernel_rfl) rfl (by rfl) (fun K hK => ?_)
  have z0 := blk_froz HC.out.blk 1; have d0 := blk_cell HC.out.blk 1; simp only [List.getElem?_toArray, List.getElem?_cons_zero, List.getElem?_cons_succ] at d0; go_simp; have hk : Keep (fun g => g = sb) V1 (V1.setCell ⟨sb, 1, none⟩ (.slice A1 s.ms.length c1)) := (Keep.refl (fun g => g = sb) V1).setCell (p := ⟨sb, 1, none⟩) (.inl rfl) (.slice A1 s.ms.length c1); have hc := blk_set HC.out.blk 1 (.slice A1 s.ms.length c1); simp only [List.setIfInBounds_toArray, List.set_cons_zero, List.set_cons_succ] at hc; replace HC := Lib.hid (HC.out.put hk hc); replace HM0 := Lib.hid (HM0.out.keep hk); replace HM1 := Lib.hid (HM1.out.keep hk); replace HM2 := Lib.hid (HM2.out.keep hk); clear z0 d0 hk hc; generalize V1.setCell ⟨sb, 1, none⟩ (.slice A1 s.ms.length c1) = X1 at *
  refine hK.out _ _ ?_
  clear hK K
  try simp only [Act.put, sIB, sC0, sCS]
  refine tkP 11 13 ?_ rfl (.inl ⟨by rfl, ?_⟩) ?_; rotate_left; focus (intro w' _; go_simp; (try with_reducible rfl))
  try simp only [sIB, sC0, sCS]
  refine wpAnyD_last (D := 12) (by decide) (by kernel_rfl) rfl (by rfl) (fun K hK => ?_)
  have z0 := blk_froz HC.out.blk 2; have d0 := blk_cell HC.out.blk 2; simp only [List.getElem?_toArray, List.getElem?_cons_zero, List.getElem?_cons_succ] at d0; go_simp; have hk : Keep (fun g => g = sb) X1 (X1.setCell ⟨sb, 2, none⟩ (.slice A2 s.ts.length c2)) := (Keep.refl (fun g => g = sb) X1).setCell (p := ⟨sb, 2, none⟩) (.inl rfl) (.slice A2 s.ts.length c2); have hc := blk_set HC.out.blk 2 (.slice A2 s.ts.length c2); simp only [List.setIfInBounds_toArray, List.set_cons_zero, List.set_cons_succ] at hc; replace HC := Lib.hid (HC.out.put hk hc); replace HM0 := Lib.hid (HM0.out.keep hk); replace HM1 := Lib.hid (HM1.out.keep hk); replace HM2 := Lib.hid (HM2.out.keep hk); clear z0 d0 hk hc; generalize X1.setCell ⟨sb, 2, none⟩ (.slice A2 s.ts.length c2) = X2 at *
  refine hK.out _ _ ?_
  clear hK K
  try simp only [Act.put, sIB, sC0, sCS]
  refine tkP 13 14 ?_ rfl (.inl ⟨by rfl, ?_⟩) ?_; rotate_left; focus (intro w' _; go_simp; (try with_reducible rfl))
  try simp only [sIB, sC0, sCS]
  refine wpAnyD_last (D := 14) (by decide) (by kernel_rfl) rfl (by rfl) (fun K hK => ?_)
  have z0 := blk_froz HC.out.blk 3; have d0 := blk_cell HC.out.blk 3; simp only [List.getElem?_toArray, List.getElem?_cons_zero, List.getElem?_cons_succ] at d0; go_simp; have hk : Keep (fun g => g = sb) X2 (X2.setCell ⟨sb, 3, none⟩ (.slice A3 s.xs.length c3)) := (Keep.refl (fun g => g = sb) X2).setCell (p := ⟨sb, 3, none⟩) (.inl rfl) (.slice A3 s.xs.length c3); have hc := blk_set HC.out.blk 3 (.slice A3 s.xs.length c3); simp only [List.setIfInBounds_toArray, List.set_cons_zero, List.set_cons_succ] at hc; replace HC := Lib.hid (HC.out.put hk hc); replace HM0 := Lib.hid (HM0.out.keep hk); replace HM1 := Lib.hid (HM1.out.keep hk); replace HM2 := Lib.hid (HM2.out.keep hk); clear z0 d0 hk hc; generalize X2.setCell ⟨sb, 3, none⟩ (.slice A3 s.xs.length c3) = X3 at *
  refine hK.out _ _ ?_
  clear hK K
  try simp only [Act.put, sIB, sC0, sCS]
  refine wpAnyD_done (by kernel_rfl) ?_ _
  clear hHeld h
  go_upto_region 2 with fail
  refine wp_region_D (Ds := [7, 9]) (S := fun V => V.cell? ⟨sb, 4, none⟩ = some (.slice AC s.cs.length cC) ∧ V.cell? ⟨sb, 5, none⟩ = some (.slice AJ s.js.length cJ)) (by kernel_rfl) (by (have q4 := blk_cell HC.out.blk 4); (have q5 := blk_cell HC.out.blk 5); (simp only [List.getElem?_toArray, List.getElem?_cons_zero, List.getElem?_cons_succ] at q4 q5); exact And.intro q4 q5) (fun hHeld => ?_)
  (replace HC := Lib.hid HC.out.drew); (replace HM0 := Lib.hid HM0.out.drew); (replace HM1 := Lib.hid HM1.out.drew); (replace HM2 := Lib.hid HM2.out.drew); generalize X3.drew = Y0 at *
  refine tkP 0 15 ?_ rfl (.inl ⟨by rfl, ?_⟩) ?_; rotate_left; focus (intro w' _; go_simp; (try with_reducible rfl))
  try simp only [sIB, sC0, sCS]
  refine tkP 3 18 ?_ rfl (.inl ⟨by rfl, ?_⟩) ?_; rotate_left; focus (intro w' _; go_simp; (try with_reducible rfl))
  try simp only [sIB, sC0, sCS]
  refine tkD 1 16 ?_ rfl hHeld (.inl ⟨by rfl, ?_⟩) ?_; rotate_left; focus (intro w' hSw; (try dsimp only at hSw); go_simp; (try with_reducible rfl))
  try simp only [sIB, sC0, sCS]
  refine tkD 4 19 ?_ rfl hHeld (.inl ⟨by rfl, ?_⟩) ?_; rotate_left; focus (intro w' hSw; (try dsimp only at hSw); go_simp; (try with_reducible rfl))
  try simp only [sIB, sC0, sCS]
  refine wpAnyD_one (i := 2) (by kernel_rfl) rfl (by rfl) (fun K hK => ?_)
  go_simp; refine (clone_Cls s.cs AC cC _ ((HS0.out.below HC.out.bl (Nat.le_refl _)).cs) (by have := HLN.out; omega)).mono ?_; rintro e V1 ⟨A4, c4, rfl, hsl, hfr, hb⟩; have HM3 := Lib.hid (HC.out.fresh hsl hfr); replace HC := Lib.hid (HC.out.below hb); replace HM0 := Lib.hid (HM0.out.below hb); replace HM1 := Lib.hid (HM1.out.below hb); replace HM2 := Lib.hid (HM2.out.below hb); clear hsl hfr hb; have q4 := blk_cell HC.out.blk 4; have q5 := blk_cell HC.out.blk 5; simp only [List.getElem?_toArray, List.getElem?_cons_zero, List.getElem?_cons_succ] at q4 q5; have h := And.intro q4 (q5); clear q4 q5; go_simp
  refine hK.out _ _ h (fun hHeld => ?_)
  clear hK K
  try simp only [Act.put, sIB, sC0, sCS]
  refine tkP 6 21 ?_ rfl (.inl ⟨by rfl, ?_⟩) ?_; rotate_left; focus (intro w' _; go_simp; (try with_reducible rfl))
  try simp only [sIB, sC0, sCS]
  refine wpAnyD_one (i := 5) (by kernel_rfl) rfl (by rfl) (fun K hK => ?_)
  go_simp; refine (clone_Jns s.js AJ cJ _ ((HS0.out.below HC.out.bl (Nat.le_refl _)).js) (by have := HLN.out; omega)).mono ?_; rintro e V1 ⟨A5, c5, rfl, hsl, hfr, hb⟩; have HM4 := Lib.hid (HC.out.fresh hsl hfr); replace HC := Lib.hid (HC.out.below hb); replace HM0 := Lib.hid (HM0.out.below hb); replace HM1 := Lib.hid (HM1.out.below hb); replace HM2 := Lib.hid (HM2.out.below hb); replace HM3 := Lib.hid (HM3.out.below hb); clear hsl hfr hb; have q4 := blk_cell HC.out.blk 4; have q5 := blk_cell HC.out.blk 5; simp only [List.getElem?_toArray, List.getElem?_cons_zero, List.getElem?_cons_succ] at q4 q5; have h := And.intro q4 (q5); clear q4 q5; go_simp
  refine hK.out _ _ h (fun hHeld => ?_)
  clear hK K
  try simp only [Act.put, sIB, sC0, sCS]
  refine wpAnyD_last (D := 7) (by decide) (by kernel_rfl) rfl (by rfl) (fun K hK => ?_)
  have z0 := blk_froz HC.out.blk 4; have d0 := blk_cell HC.out.blk 4; simp only [List.getElem?_toArray, List.getElem?_cons_zero, List.getElem?_cons_succ] at d0; go_simp; have hk : Keep (fun g => g = sb) V1 (V1.setCell ⟨sb, 4, none⟩ (.slice A4 s.cs.length c4)) := (Keep.refl (fun g => g = sb) V1).setCell (p := ⟨sb, 4, none⟩) (.inl rfl) (.slice A4 s.cs.length c4); have hc := blk_set HC.out.blk 4 (.slice A4 s.cs.length c4); simp only [List.setIfInBounds_toArray, List.set_cons_zero, List.set_cons_succ] at hc; replace HC := Lib.hid (HC.out.put hk hc); replace HM0 := Lib.hid (HM0.out.keep hk); replace HM1 := Lib.hid (HM1.out.keep hk); replace HM2 := Lib.hid (HM2.out.keep hk); replace HM3 := Lib.hid (HM3.out.keep hk); replace HM4 := Lib.hid (HM4.out.keep hk); clear z0 d0 hk hc; generalize V1.setCell ⟨sb, 4, none⟩ (.slice A4 s.cs.length c4) = Z1 at *
  refine hK.out _ _ ?_
  clear hK K
  try simp only [Act.put, sIB, sC0, sCS]
  refine tkP 8 22 ?_ rfl (.inl ⟨by rfl, ?_⟩) ?_; rotate_left; focus (intro w' _; go_simp; (try with_reducible rfl))
  try simp only [sIB, sC0, sCS]
  refine wpAnyD_last (D := 9) (by decide) (by kernel_rfl) rfl (by rfl) (fun K hK => ?_)
  have z0 := blk_froz HC.out.blk 5; have d0 := blk_cell HC.out.blk 5; simp only [List.getElem?_toArray, List.getElem?_cons_zero, List.getElem?_cons_succ] at d0; go_simp; have hk : Keep (fun g => g = sb) Z1 (Z1.setCell ⟨sb, 5, none⟩ (.slice A5 s.js.length c5)) := (Keep.refl (fun g => g = sb) Z1).setCell (p := ⟨sb, 5, none⟩) (.inl rfl) (.slice A5 s.js.length c5); have hc := blk_set HC.out.blk 5 (.slice A5 s.js.length c5); simp only [List.setIfInBounds_toArray, List.set_cons_zero, List.set_cons_succ] at hc; replace HC := Lib.hid (HC.out.put hk hc); replace HM0 := Lib.hid (HM0.out.keep hk); replace HM1 := Lib.hid (HM1.out.keep hk); replace HM2 := Lib.hid (HM2.out.keep hk); replace HM3 := Lib.hid (HM3.out.keep hk); replace HM4 := Lib.hid (HM4.out.keep hk); clear z0 d0 hk hc; generalize Z1.setCell ⟨sb, 5, none⟩ (.slice A5 s.js.length c5) = Z2 at *
  refine hK.out _ _ ?_
  clear hK K
  try simp only [Act.put, sIB, sC0, sCS]
  refine wpAnyD_done (by kernel_rfl) ?_ _
  clear hHeld h
  have g0 := blk_cell HC.out.blk 0
  have g1 := blk_cell HC.out.blk 1
  have g2 := blk_cell HC.out.blk 2
  have g3 := blk_cell HC.out.blk 3
  have g4 := blk_cell HC.out.blk 4
  have g5 := blk_cell HC.out.blk 5
  simp only [List.getElem?_toArray, List.getElem?_cons_zero, List.getElem?_cons_succ] at g0 g1 g2 g3 g4 g5
  have d0 := blk_cell HC.out.res 0
  have d1 := blk_cell HC.out.res 1
  have d2 := blk_cell HC.out.res 2
  have d3 := blk_cell HC.out.res 3
  have d4 := blk_cell HC.out.res 4
  have d5 := blk_cell HC.out.res 5
  simp only [List.getElem?_toArray, List.getElem?_cons_zero, List.getElem?_cons_succ] at d0 d1 d2 d3 d4 d5
  have z0 := blk_froz HC.out.res 0
  have z1 := blk_froz HC.out.res 1
  have z2 := blk_froz HC.out.res 2
  have z3 := blk_froz HC.out.res 3
  have z4 := blk_froz HC.out.res 4
  have z5 := blk_froz HC.out.res 5
  go_wp2_with fail
  clear d0 d1 d2 d3 d4 d5 z0 z1 z2 z3 z4 z5 g0 g1 g2 g3 g4 g5
  have hc := (blk_set (blk_set (blk_set (blk_set (blk_set (blk_set HC.out.res 0 (.bool s.rk)) 1 (.slice A1 s.ms.length c1)) 2 (.slice A2 s.ts.length c2)) 3 (.slice A3 s.xs.length c3)) 4 (.slice A4 s.cs.length c4)) 5 (.slice A5 s.js.length c5))
  simp only [List.setIfInBounds_toArray, List.set_cons_zero, List.set_cons_succ] at hc
  have hk := (((((((Keep.refl (fun g => g = sb + 1) Z2).setCell (p := ⟨sb + 1, 0, none⟩) (.inl rfl) (.bool s.rk)).setCell (p := ⟨sb + 1, 1, none⟩) (.inl rfl) (.slice A1 s.ms.length c1)).setCell (p := ⟨sb + 1, 2, none⟩) (.inl rfl) (.slice A2 s.ts.length c2)).setCell (p := ⟨sb + 1, 3, none⟩) (.inl rfl) (.slice A3 s.xs.length c3)).setCell (p := ⟨sb + 1, 4, none⟩) (.inl rfl) (.slice A4 s.cs.length c4)).setCell (p := ⟨sb + 1, 5, none⟩) (.inl rfl) (.slice A5 s.js.length c5))
  refine ret_cell1 (r := sb + 1) rfl rfl (load_spec hc) ?_
  have hbf := hk.below HC.out.bl.size (fun x hx => by have := HC.out.lt; omega)
  exact ⟨⟨A1, A2, A3, A4, A5, c1, c2, c3, c4, c5, rfl, ⟨HM0.out.keep1 hk, sl_to1 (HM1.out.keep1 hk), HM2.out.keep1 hk, HM3.out.keep1 hk, HM4.out.keep1 hk, HS0.out.len⟩⟩, HC.out.bl.trans hbf⟩
end
def markC (sv : Value) (mi mt : Nat) (fs : Nat → Bool) (mo : Nat) (i : Nat) : Value := if i = 0 then sv else if i = 1 then .map (some mi) else if i = 2 then .map (some mt) else if i < 259 then .bool (fs (i - 3)) else .int .i64 (mo : Nat)
def markA (sv : Value) (mi mt : Nat) (fs : Nat → Bool) (mo : Nat) : Array Value := Array.ofFn (n := 260) fun i => markC sv mi mt fs mo i
theorem mark_get (sv : Value) (mi mt : Nat) (fs : Nat → Bool) (mo : Nat) (i : Nat) (h : i < 260) : (markA sv mi mt fs mo)[i]? = some (markC sv mi mt fs mo i) := by simp [markA, h]
def fndI (M : List (Int × List UInt8)) (id : Int) : Option Nat := M.findIdx? (fun x => x.1 == id)
def fndX (M : List (Int × List UInt8)) (s : List UInt8) : Option Nat := M.findIdx? (fun x => x.2 == s)
def firstB (M : List (Int × List UInt8)) (b : Nat) : Bool := M.any (fun x => match x.2 with | [] => false | c :: _ => c.toNat == b)
def mostM (M : List (Int × List UInt8)) : Nat := M.foldl (fun n x => max n x.2.length) 0
structure MarkIs (w : World) (base mb : Nat) (M : List (Int × List UInt8)) (sv : Value) (mi mt : Nat) : Prop where
  blk : w.heap[mb]? = some (.cells (markA sv mi mt (firstB M) (mostM M)) 260)
  row : w.ownsRow base 170 2 sv M.length (M.flatMap encIS)
  ids : MapOf Tryz.prog 3 3 (Value.int .i64) w mi M.length (fun i => (fndI M i).map Int.ofNat)
  txs : MapOf Tryz.prog 9 3 strV w mt M.length (fun s => (fndX M s).map Int.ofNat)
  ne : mi ≠ mt
  lt : base ≤ mb ∧ base ≤ mi ∧ base ≤ mt
theorem MarkIs.below {B : Nat} {w w' : World} {base mb : Nat} {M : List (Int × List UInt8)} {sv : Value} {mi mt : Nat} (h : MarkIs w base mb M sv mi mt) (hb : Below B w w') (hB : w.heap.size ≤ B) : MarkIs w' base mb M sv mi mt :=
  ⟨blk_below hb (Nat.lt_of_lt_of_le (blk_lt h.blk) hB) h.blk, own_below h.row hb hB, h.ids.below hb (Nat.lt_of_lt_of_le h.ids.lt hB), h.txs.below hb (Nat.lt_of_lt_of_le h.txs.lt hB), h.ne, h.lt⟩
def zeroC (i : Nat) : Value := if i = 0 then .slice none 0 0 else if i = 1 then .map none else if i = 2 then .map none else if i < 259 then .bool false else .int .i64 0
theorem zero_mark0 : Tryz.zeroCells260 = Array.ofFn (n := 260) fun i => zeroC i := by
  have : Tryz.zeroCells260.toList = (Array.ofFn (n := 260) fun i => zeroC i).toList := by
    rw [Array.toList_ofFn]
    kernel_rfl
  exact Array.toList_inj.1 this
theorem zero_mark (a b : Nat) : ((Tryz.zeroCells260.setIfInBounds 1 (.map (some a))).setIfInBounds 2 (.map (some b))) = markA (.slice none 0 0) a b (firstB []) (mostM []) := by
  rw [zero_mark0]
  apply Array.ext_getElem?
  intro j
  by_cases hj : j < 260
  · rw [mark_get _ _ _ _ _ _ hj]
    simp only [Array.getElem?_setIfInBounds, Array.size_setIfInBounds, Array.size_ofFn]
    by_cases h2 : 2 = j
    · subst h2; simp [markC]
    · rw [if_neg h2]
      by_cases h1 : 1 = j
      · subst h1; simp [markC]
      · rw [if_neg h1]
        simp only [Array.getElem?_ofFn, hj, dite_true, zeroC, markC]
        have n1 : ¬ j = 1 := fun e => h1 e.symm
        have n2 : ¬ j = 2 := fun e => h2 e.symm
        simp only [n1, n2, if_false, firstB, List.any_nil, mostM, List.foldl_nil]
        rfl
  · simp [markA, hj]
set_option maxHeartbeats 1000000 in
theorem mnew_nil (w : World) (c : Nat) : Calls Tryz.prog 128 #[.slice none 0 c] w fun e w' => (∃ mb sv mi mt, e = .returned (.tuple #[.pointer (some ⟨mb, 0, none⟩), .int .i64 0, .int .i64 0]) ∧ MarkIs w' w.heap.size mb [] sv mi mt) ∧ Below w.heap.size w w' := by
  have hmm := @run_makeMap Tryz.prog
  have HM : Hid (MarkIs (((w.alloc (.map #[] 0)).alloc (.map #[] 0)).alloc (.cells (markA (.slice none 0 0) w.heap.size (w.heap.size + 1) (firstB []) (mostM [])) 260)) w.heap.size (w.heap.size + 1 + 1) [] (.slice none 0 0) w.heap.size (w.heap.size + 1)) := Lib.hid (by
    refine ⟨?_, own_nil _ _ _ _, ?_, ?_, by omega, by omega, by omega, by omega⟩
    · have := blk_new ((w.alloc (.map #[] 0)).alloc (.map #[] 0)) (.cells (markA (.slice none 0 0) w.heap.size (w.heap.size + 1) (firstB []) (mostM [])) 260)
      simpa [size_alloc] using this
    · refine ((MapOf.made w Tryz.prog 3 3 (Value.int .i64)).keep (F := fun _ => False) ((Keep.refl _ _).alloc _ |>.alloc _) (fun h => h)).congr (fun a => rfl)
    · have := MapOf.made (w.alloc (.map #[] 0)) Tryz.prog 9 3 strV
      rw [size_alloc] at this
      exact (this.keep (F := fun _ => False) ((Keep.refl _ _).alloc _) (fun h => h)).congr (fun a => rfl))
  have HB := Lib.hid ((((Below.refl w.heap.size w).alloc (Nat.le_refl _) (.map #[] 0)).alloc (by simp) (.map #[] 0)).alloc (by simp; omega) (.cells (markA (.slice none 0 0) w.heap.size (w.heap.size + 1) (firstB []) (mostM [])) 260))
  go_enter Tryz.func128, Tryz.ntmps128
  go_upto_region 2 with fail
  rw [zero_mark]
  clear hmm
  obtain ⟨mb, hmb⟩ : ∃ mb, w.heap.size + 1 + 1 = mb := ⟨_, rfl⟩
  rw [hmb] at HM ⊢
  clear hmb
  go_wp2_with fail
  go_loopg [15] 0 (fun n i W => i = .int .i64 0 ∧ MarkIs W w.heap.size mb [] (.slice none 0 0) w.heap.size (w.heap.size + 1) ∧ Below w.heap.size w W)
  case atStart => exact ⟨rfl, HM.out, HB.out⟩
  case round =>
    obtain ⟨rfl, hm, hb⟩ := hrel
    clear HM HB
    have HM := Lib.hid hm
    have HB := Lib.hid hb
    clear hm hb
    go_wp2_with fail
    go_ret3
    exact ⟨⟨_, _, _, _, rfl, HM.out⟩, HB.out⟩
def idB (T : List Ent) (x : Int × List UInt8) : Bool := !decide (x.1 < (T.length : Int))
section
variable {tbase tb : Nat} {T : List Ent} {sv : Value} {mb mp : Nat}
theorem bclo_any (x : Int × List UInt8) (w : World) (pb : Nat) (hp : w.cell? ⟨pb, 0, none⟩ = some (.pointer (some ⟨tb, 0, none⟩))) (hT : TabIs w tbase tb T sv mb mp) :
    Calls Tryz.prog 130 #[.agg #[.int .i64 x.1, .string (bs x.2)], .pointer (some ⟨pb, 0, none⟩)] w fun e w' => e = .returned (.bool (!idB T x)) ∧ Below w.heap.size w w' := by
  obtain ⟨x1, x2⟩ := x
  have hr : (!idB T (x1, x2)) = decide (x1 < (T.length : Int)) := by simp [idB]
  rw [hr]
  have HB := Lib.hid ((Below.refl w.heap.size w).alloc (Nat.le_refl _) (.cells #[.int .i64 x1, .string (bs x2)] 170))
  have hp2 := below_cell HB.out (Nat.le_refl _) hp
  have n0 := blk_cell (blk_new w (.cells #[.int .i64 x1, .string (bs x2)] 170)) 0
  simp only [List.getElem?_toArray, List.getElem?_cons_zero, List.getElem?_cons_succ] at n0
  have HT := Lib.hid (hT.below HB.out (Nat.le_refl _)).drew
  clear hp hT hr
  go_enter Tryz.func130, Tryz.ntmps130
  go_upto_region 1 with fail
  generalize (w.alloc (.cells #[.int .i64 x1, .string (bs x2)] 170)) = W at *
  obtain ⟨nb, hnb⟩ : ∃ nb, w.heap.size = nb := ⟨_, rfl⟩
  have HB9 := Lib.hid HB.out
  rw [hnb] at n0 ⊢
  clear hnb
  refine wp_region_held_drew (S := fun V => V.cell? ⟨nb, 0, none⟩ = some (.int .i64 x1) ∧ V.cell? ⟨pb, 0, none⟩ = some (.pointer (some ⟨tb, 0, none⟩))) (by kernel_rfl) (by exact ⟨n0, hp2⟩) (fun hHeld => ?_)
  refine tkH 0 4 ?_ rfl hHeld (.inl ⟨by rfl, ?_⟩) ?_; rotate_left; focus (intro w' hSw; (try dsimp only at hSw); go_simp; (try with_reducible rfl))
  try simp only [sIB, sC0, sCS]
  refine tkH 1 5 ?_ rfl hHeld (.inl ⟨by rfl, ?_⟩) ?_; rotate_left; focus (intro w' hSw; (try dsimp only at hSw); go_simp; (try with_reducible rfl))
  try simp only [sIB, sC0, sCS]
  refine tkH 2 6 ?_ rfl hHeld (.inl ⟨by rfl, ?_⟩) ?_; rotate_left; focus (intro w' hSw; (try dsimp only at hSw); go_simp; (try with_reducible rfl))
  try simp only [sIB, sC0, sCS]
  refine wpAnyH_ready (rs := [3]) (by kernel_rfl) (by simp) ?_
  refine AllReadyH.cons rfl (fun K hK => ?_) AllReadyH.nil
  (try go_simp)
  refine (len_tab HT.out).mono ?_; rintro e V1 ⟨rfl, rfl⟩; have h := hHeld; go_simp
  go_wp2_with fail
  refine hK.out _ _ h (fun hHeld => ?_)
  clear hK K
  try simp only [Act.put, sIB, sC0, sCS]
  refine tkH 4 8 ?_ rfl hHeld (.inl ⟨by rfl, ?_⟩) ?_; rotate_left; focus (intro w' hSw; (try dsimp only at hSw); go_simp; (try with_reducible rfl))
  try simp only [sIB, sC0, sCS]
  refine tkH 5 3 ?_ rfl hHeld (.inl ⟨by rfl, ?_⟩) ?_; rotate_left; focus (intro w' hSw; (try dsimp only at hSw); go_simp; (try with_reducible rfl))
  try simp only [sIB, sC0, sCS]
  refine wpAnyH_done (by kernel_rfl) ?_ _
  go_wp2_with fail
  go_ret
  exact ⟨rfl, HB.out.drew⟩
set_option maxHeartbeats 1000000 in
theorem bidx_any (xs : List (Int × List UInt8)) (A : Option Addr) (c pb : Nat) (w : World) (hA : Sl w A encIS 2 xs) (hp : w.cell? ⟨pb, 0, none⟩ = some (.pointer (some ⟨tb, 0, none⟩))) (hT : TabIs w tbase tb T sv mb mp) (hl : xs.length < 9000000000000000000) :
    Calls Tryz.prog 129 #[.slice A xs.length c, .func (.func 130) #[] #[.pointer (some ⟨pb, 0, none⟩)]] w fun e w' => (∃ r, e = .returned (.int .i64 r) ∧ decide (0 ≤ r) = !(xs.all (idB T))) ∧ Below w.heap.size w w' := by
  have HA := Lib.hid hA
  have HP := Lib.hid hp
  have HL := Lib.hid hl
  have HTT := Lib.hid hT
  clear hA hp hT
  go_enter Tryz.func129, Tryz.ntmps129
  go_wp2_with fail
  go_loopg [8] xs.length (fun n i W => ∃ k : Nat, k + n = xs.length ∧ i = .int .i64 (k : Int) ∧ Below w.heap.size w W ∧ (xs.take k).all (idB T) = true)
  case atStart => exact ⟨0, Nat.zero_add _, rfl, Below.refl _ _, rfl⟩
  case round =>
    obtain ⟨k, hk, rfl, hbl, hall⟩ := hrel
    rename World => W
    by_cases hlt : k < xs.length
    · have HT := Lib.hid (take_snoc hlt)
      have HG := Lib.hid (show xs[k]? = some xs[k] from by simp)
      have HC := Lib.hid (bclo_any xs[k] W pb (below_cell hbl (Nat.le_refl _) HP.out) (HTT.out.below hbl (Nat.le_refl _)))
      obtain ⟨b, o, rfl, hc⟩ := HA.out.at k hlt
      have g0 : W.cell? ⟨b, o + k * 2, none⟩ = some (.int .i64 xs[k].1) := below_cell hbl (Nat.le_refl _) (hc 0 _ rfl)
      have g1 : W.cell? ⟨b, o + k * 2 + 1, none⟩ = some (.string (bs xs[k].2)) := below_cell hbl (Nat.le_refl _) (hc 1 _ rfl)
      generalize xs[k] = x at *
      have HK := Lib.hid hk
      have HBL := Lib.hid hbl
      have HALL := Lib.hid hall
      have w1 : IntKind.i64.wrap ((k : Int) + 1) = ((k + 1 : Nat) : Int) := IntWalk.i64_in _ (by omega)
      have k0 : (0 : Int) ≤ (k : Int) := by omega
      have k1 : (k : Int) < (xs.length : Int) := by omega
      obtain ⟨b2, hb2⟩ : ∃ b, (idB T) x = b := ⟨_, rfl⟩
      rw [hb2] at HC
      have HB2 := Lib.hid hb2
      clear hk hbl hall hc hb2
      rcases b2 with _ | _
      · go_wp2_with (go_at_call 130; (refine HC.out.mono ?_); (rintro e V1 ⟨rfl, hb⟩); (have HB3 := Lib.hid (HBL.out.trans (hb.mono HBL.out.size))); (clear hb))
        go_ret
        refine ⟨⟨_, rfl, ?_⟩, HB3.out⟩
        rw [all_false HG.out HB2.out, decide_eq_true k0]
        rfl
      · go_wp2_with (go_at_call 130; (refine HC.out.mono ?_); (rintro e V1 ⟨rfl, hb⟩); (have HB3 := Lib.hid (HBL.out.trans (hb.mono HBL.out.size))); (clear hb))
        have hk := HK.out
        go_roundg (xs.length - (k + 1))
        · refine ⟨k + 1, by omega, rfl, HB3.out, ?_⟩
          rw [HT.out, all_snoc, HALL.out, HB2.out]
          rfl
        · omega
    · have hke : k = xs.length := by omega
      have HBL := Lib.hid hbl
      have HALL : Hid (xs.all (idB T) = true) := Lib.hid (by rw [hke, List.take_length] at hall; exact hall)
      have k1 : ¬ (k : Int) < (xs.length : Int) := by omega
      clear hk hke hbl hall
      go_wp2_with fail
      go_ret
      exact ⟨⟨_, rfl, by rw [HALL.out]; rfl⟩, HBL.out⟩
end
theorem results_tm4 {fn : Func} {a b c d : Tmp} (h : fn.results = #[.tmp a, .tmp b, .tmp c, .tmp d]) (tmps : Array Value) (P : Program) (w : World) :
    (results fn tmps).run P w = .ok (.tuple #[tmps.getD a undef, tmps.getD b undef, tmps.getD c undef, tmps.getD d undef]) w := by
  simp only [results, h]
  simp [Sem.run_bind, Result.andThen]
structure VocIs (w : World) (base vb : Nat) (s : SpecP) (T : List Ent) (A1 A2 A3 A4 A5 : Option Addr) (c1 c2 c3 c4 c5 tbase tb bk kbase mk : Nat) (sv : Value) (mb mp : Nat) (sv2 : Value) (mi mt : Nat) (l : Value) (dn st se us : Int) : Prop where
  blk : w.heap[vb]? = some (.cells #[.bool s.rk, .slice A1 s.ms.length c1, .slice A2 s.ts.length c2, .slice A3 s.xs.length c3, .slice A4 s.cs.length c4, .slice A5 s.js.length c5, .pointer (some ⟨tb, 0, none⟩), .pointer (some ⟨bk, 0, none⟩), .pointer (some ⟨mk, 0, none⟩), .int .u32 dn, .int .i32 st, .int .u32 se, l, .int .i64 us] 202)
  org : ∃ V0 : World, V0.heap.size ≤ vb ∧ SpecAt V0 s A1 A2 A3 A4 A5 ∧ TabIs V0 tbase tb T sv mb mp ∧ BTab V0 bk (Cof s.cs) (Jof s.js) ∧ MarkIs V0 kbase mk s.xs sv2 mi mt ∧ Below V0.heap.size V0 w
  lt : base ≤ vb ∧ base ≤ tbase ∧ base ≤ kbase
section
variable {w : World} {base vb : Nat} {s : SpecP} {T : List Ent} {A1 A2 A3 A4 A5 : Option Addr} {c1 c2 c3 c4 c5 tbase tb bk kbase mk : Nat} {sv : Value} {mb mp : Nat} {sv2 : Value} {mi mt : Nat} {l : Value} {dn st se us : Int}
theorem VocIs.spec (h : VocIs w base vb s T A1 A2 A3 A4 A5 c1 c2 c3 c4 c5 tbase tb bk kbase mk sv mb mp sv2 mi mt l dn st se us) : SpecAt w s A1 A2 A3 A4 A5 := by obtain ⟨V0, _, a, b, c, d, e⟩ := h.org; exact a.below e (Nat.le_refl _)
theorem VocIs.tab (h : VocIs w base vb s T A1 A2 A3 A4 A5 c1 c2 c3 c4 c5 tbase tb bk kbase mk sv mb mp sv2 mi mt l dn st se us) : TabIs w tbase tb T sv mb mp := by obtain ⟨V0, _, a, b, c, d, e⟩ := h.org; exact b.below e (Nat.le_refl _)
theorem VocIs.bnd (h : VocIs w base vb s T A1 A2 A3 A4 A5 c1 c2 c3 c4 c5 tbase tb bk kbase mk sv mb mp sv2 mi mt l dn st se us) : BTab w bk (Cof s.cs) (Jof s.js) := by obtain ⟨V0, _, a, b, c, d, e⟩ := h.org; exact c.below e (blk_lt c.1)
end
theorem BTab.lt {w : World} {bk : Nat} {C : Nat → Int} {J : Nat → Nat → Bool} (h : BTab w bk C J) : bk < w.heap.size := blk_lt h.1
section
variable {w : World} {s : SpecP} {T : List Ent} {AM AT AX AC AJ : Option Addr} {cM cT cX cC cJ : Nat}
set_option maxHeartbeats 2000000 in
theorem build_any (hs : SpecAt w s AM AT AX AC AJ)
    (hL : ∀ V, Below w.heap.size w V → Calls Tryz.prog 127 #[specW s AM AT AX AC AJ cM cT cX cC cJ] V fun e w' => (∃ tb sv mb mp n, e = .returned (.tuple #[.pointer (some ⟨tb, 0, none⟩), .int .i64 n, .int .i64 0]) ∧ TabIs w' V.heap.size tb T sv mb mp) ∧ Below V.heap.size V w')
    (hM : ∀ V, Below w.heap.size w V → Calls Tryz.prog 128 #[.slice AX s.xs.length cX] V fun e w' => (∃ mb sv mi mt n, e = .returned (.tuple #[.pointer (some ⟨mb, 0, none⟩), .int .i64 n, .int .i64 0]) ∧ MarkIs w' V.heap.size mb s.xs sv mi mt) ∧ Below V.heap.size V w')
    (hid : s.xs.all (idB T) = true) (hln : s.ms.length ≤ 1000000 ∧ s.ts.length ≤ 1000000 ∧ s.xs.length ≤ 1000000 ∧ s.cs.length ≤ 1000000 ∧ s.js.length ≤ 1000000) (hcs : s.cs.all spanB = true) (hjs : s.js.all jnB = true) :
    Calls Tryz.prog 98 #[specW s AM AT AX AC AJ cM cT cX cC cJ] w fun e w' => (∃ vb A1 A2 A3 A4 A5 c1 c2 c3 c4 c5 tbase tb bk kbase mk sv mb mp sv2 mi mt, e = .returned (.tuple #[.pointer (some ⟨vb, 0, none⟩), .int .i64 0, .int .i64 0, .int .i64 0]) ∧ VocIs w' w.heap.size vb s T A1 A2 A3 A4 A5 c1 c2 c3 c4 c5 tbase tb bk kbase mk sv mb mp sv2 mi mt (.slice none 0 0) 0 0 0 0) ∧ Below w.heap.size w w' := by
  unfold specW specV at hL ⊢
  have HS := Lib.hid hs
  have HL := Lib.hid hL
  have HM := Lib.hid hM
  have HI := Lib.hid hid
  have HLN := Lib.hid hln
  have HC := Lib.hid hcs
  have HJ := Lib.hid hjs
  have HB0 := Lib.hid ((Below.refl w.heap.size w).alloc (Nat.le_refl _) (.cells #[.bool s.rk, .slice AM s.ms.length cM, .slice AT s.ts.length cT, .slice AX s.xs.length cX, .slice AC s.cs.length cC, .slice AJ s.js.length cJ] 115))
  have HO0 := Lib.hid (blk_new w (.cells #[.bool s.rk, .slice AM s.ms.length cM, .slice AT s.ts.length cT, .slice AX s.xs.length cX, .slice AC s.cs.length cC, .slice AJ s.js.length cJ] 115))
  obtain ⟨sb, hsb⟩ : ∃ sb, w.heap.size = sb := ⟨_, rfl⟩
  have HO0 : Hid ((w.alloc (.cells #[.bool s.rk, .slice AM s.ms.length cM, .slice AT s.ts.length cT, .slice AX s.xs.length cX, .slice AC s.cs.length cC, .slice AJ s.js.length cJ] 115)).heap[sb]? = some (.cells #[.bool s.rk, .slice AM s.ms.length cM, .slice AT s.ts.length cT, .slice AX s.xs.length cX, .slice AC s.cs.length cC, .slice AJ s.js.length cJ] 115)) := Lib.hid (by rw [← hsb]; exact HO0.out)
  clear hs hL hM hid hln hcs hjs
  go_enter Tryz.func98, Tryz.ntmps98
  go_upto_region 13 with (first
    | (go_at_call 127; (refine (HL.out _ HB0.out).mono ?_); (rintro e V1 ⟨⟨tb, sv, mb, mp, n1, rfl, ht⟩, hb⟩); (have HB1 := Lib.hid ((HB0.out.trans (hb.mono HB0.out.size)).trans (((Below.refl V1.heap.size V1).alloc (Nat.le_refl _) (.cells #[.pointer (some ⟨tb, 0, none⟩)] 124)).mono (HB0.out.trans (hb.mono HB0.out.size)).size))); (have HO1 := Lib.hid (blk_alloc (blk_below hb (blk_lt HO0.out) HO0.out) (.cells #[.pointer (some ⟨tb, 0, none⟩)] 124))); (have HP1 := Lib.hid (blk_new V1 (.cells #[.pointer (some ⟨tb, 0, none⟩)] 124))); (have HT1 := Lib.hid (ht.below ((Below.refl V1.heap.size V1).alloc (Nat.le_refl _) (.cells #[.pointer (some ⟨tb, 0, none⟩)] 124)) (Nat.le_refl _))); (have a1 := blk_cell HO1.out 3); (simp only [List.getElem?_toArray, List.getElem?_cons_zero, List.getElem?_cons_succ] at a1); (clear ht hb))
    | (go_at_call 128; (obtain ⟨pb, hpb⟩ : ∃ pb, V1.heap.size = pb := ⟨_, rfl⟩); (have HP1 := Lib.hid HP1.out); (rw [hpb] at HP1 ⊢); (generalize hX : V1.alloc (.cells #[.pointer (some ⟨tb, 0, none⟩)] 124) = X at *); (clear hX hpb); (refine (HM.out X HB1.out).mono ?_); (rintro e V2 ⟨⟨mk, sv2, mi, mt, n2, rfl, hm⟩, hb⟩); (have HB2 := Lib.hid (HB1.out.trans (hb.mono HB1.out.size))); (have HO2 := Lib.hid (blk_below hb (blk_lt HO1.out) HO1.out)); (have HP2 := Lib.hid (blk_below hb (blk_lt HP1.out) HP1.out)); (have HT2 := Lib.hid (HT1.out.below hb (Nat.le_refl _))); (have HK2 := Lib.hid hm); (have a2 := blk_cell HO2.out 3); (simp only [List.getElem?_toArray, List.getElem?_cons_zero, List.getElem?_cons_succ] at a2); (clear hm hb))
    | (go_at_call 129; (refine (bidx_any s.xs AX cX pb V2 (HS.out.xs.below HB2.out (Nat.le_refl _)) (blk_cell HP2.out 0) HT2.out HS.out.len.2.2.1).mono ?_); (rintro e V3 ⟨⟨r, rfl, hr⟩, hb⟩); (rw [HI.out] at hr); (have r0 : ¬ (0 : Int) ≤ r := of_decide_eq_false hr); (have HB3 := Lib.hid (HB2.out.trans (hb.mono HB2.out.size))); (have HO3 := Lib.hid (blk_below hb (blk_lt HO2.out) HO2.out)); (have HP3 := Lib.hid (blk_below hb (blk_lt HP2.out) HP2.out)); (have HT3 := Lib.hid (HT2.out.below hb (Nat.le_refl _))); (have HK3 := Lib.hid (HK2.out.below hb (Nat.le_refl _))); (have a3 := blk_cell HO3.out 4); (have a4 := blk_cell HO3.out 5); (simp only [List.getElem?_toArray, List.getElem?_cons_zero, List.getElem?_cons_succ] at a3 a4); (clear hr hb))
    | (go_at_call 131; (refine (bnew_any s.cs s.js AC AJ cC cJ V3 (HS.out.cs.below HB3.out (Nat.le_refl _)) (HS.out.js.below HB3.out (Nat.le_refl _)) HS.out.len.2.2.2.1 HS.out.len.2.2.2.2).mono ?_); (rintro e V4 ⟨hb, hn⟩); (rw [if_pos (by rw [HC.out, HJ.out]; rfl)] at hn); (obtain ⟨bk, hbk, rfl, hbt, hbs⟩ := hn); (have HB4 := Lib.hid (HB3.out.trans (hb.mono HB3.out.size))); (have HO4 := Lib.hid (blk_below hb (blk_lt HO3.out) HO3.out)); (have HP4 := Lib.hid (blk_below hb (blk_lt HP3.out) HP3.out)); (have HT4 := Lib.hid (HT3.out.below hb (Nat.le_refl _))); (have HK4 := Lib.hid (HK3.out.below hb (Nat.le_refl _))); (have HN4 : Hid (BTab V4 bk (Cof s.cs) (Jof s.js)) := Lib.hid ⟨hbt, hbs⟩); (clear hb hbk hbt hbs)))
  clear a1 a2 a3 a4 r0
  refine wp_region_D (Ds := []) (S := fun V => V.cell? ⟨sb, 0, none⟩ = some (.bool s.rk) ∧ V.cell? ⟨sb, 1, none⟩ = some (.slice AM s.ms.length cM) ∧ V.cell? ⟨sb, 2, none⟩ = some (.slice AT s.ts.length cT) ∧ V.cell? ⟨sb, 3, none⟩ = some (.slice AX s.xs.length cX) ∧ V.cell? ⟨sb, 4, none⟩ = some (.slice AC s.cs.length cC) ∧ V.cell? ⟨sb, 5, none⟩ = some (.slice AJ s.js.length cJ) ∧ V.cell? ⟨pb, 0, none⟩ = some (.pointer (some ⟨tb, 0, none⟩))) (by kernel_rfl) (by (have q0 := blk_cell HO4.out 0); (have q1 := blk_cell HO4.out 1); (have q2 := blk_cell HO4.out 2); (have q3 := blk_cell HO4.out 3); (have q4 := blk_cell HO4.out 4); (have q5 := blk_cell HO4.out 5); (have q6 := blk_cell HP4.out 0); (simp only [List.getElem?_toArray, List.getElem?_cons_zero, List.getElem?_cons_succ] at q0 q1 q2 q3 q4 q5 q6); exact And.intro q0 (And.intro q1 (And.intro q2 (And.intro q3 (And.intro q4 (And.intro q5 (q6))))))) (fun hHeld => ?_)
  (have hd : Below V4.heap.size V4 V4.drew := ⟨rfl, rfl, rfl, Nat.le_refl _, fun _ _ => rfl⟩); (replace HB4 := Lib.hid HB4.out.drew); (replace HO4 := Lib.hid (blk_below hd (blk_lt HO4.out) HO4.out)); (replace HP4 := Lib.hid (blk_below hd (blk_lt HP4.out) HP4.out)); (replace HT4 := Lib.hid (HT4.out.below hd (Nat.le_refl _))); (replace HK4 := Lib.hid (HK4.out.below hd (Nat.le_refl _))); (replace HN4 := Lib.hid (HN4.out.below hd (blk_lt HN4.out.1))); clear hd; generalize V4.drew = X4 at *
  refine tkP 3 54 ?_ rfl (.inl ⟨by rfl, ?_⟩) ?_; rotate_left; focus (intro w' _; go_simp; (try with_reducible rfl))
  try simp only [sIB, sC0, sCS]
  refine tkP 4 55 ?_ rfl (.inl ⟨by rfl, ?_⟩) ?_; rotate_left; focus (intro w' _; go_simp; (try with_reducible rfl))
  try simp only [sIB, sC0, sCS]
  refine tkD 0 51 ?_ rfl hHeld (.inl ⟨by rfl, ?_⟩) ?_; rotate_left; focus (intro w' hSw; (try dsimp only at hSw); go_simp; (try with_reducible rfl))
  try simp only [sIB, sC0, sCS]
  refine tkD 2 53 ?_ rfl hHeld (.inl ⟨by rfl, ?_⟩) ?_; rotate_left; focus (intro w' hSw; (try dsimp only at hSw); go_simp; (try with_reducible rfl))
  try simp only [sIB, sC0, sCS]
  refine wpAnyD_one (i := 1) (by kernel_rfl) rfl (by rfl) (fun K hK => ?_)
  go_simp; refine (copied_any (s := s) (HS.out.below HB4.out (Nat.le_refl _)) (by have := HLN.out; omega)).mono ?_; rintro e V5 ⟨⟨A1, A2, A3, A4, A5, c1, c2, c3, c4, c5, rfl, hsp⟩, hb⟩; have HB5 := Lib.hid (HB4.out.trans (hb.mono HB4.out.size)); have HO5 := Lib.hid (blk_below hb (blk_lt HO4.out) HO4.out); have HP5 := Lib.hid (blk_below hb (blk_lt HP4.out) HP4.out); have HT5 := Lib.hid (HT4.out.below hb (Nat.le_refl _)); have HK5 := Lib.hid (HK4.out.below hb (Nat.le_refl _)); have HN5 := Lib.hid (HN4.out.below hb (blk_lt HN4.out.1)); have HS5 := Lib.hid hsp; clear hsp hb; have q0 := blk_cell HO5.out 0; have q1 := blk_cell HO5.out 1; have q2 := blk_cell HO5.out 2; have q3 := blk_cell HO5.out 3; have q4 := blk_cell HO5.out 4; have q5 := blk_cell HO5.out 5; have q6 := blk_cell HP5.out 0; simp only [List.getElem?_toArray, List.getElem?_cons_zero, List.getElem?_cons_succ] at q0 q1 q2 q3 q4 q5 q6; have h := And.intro q0 (And.intro q1 (And.intro q2 (And.intro q3 (And.intro q4 (And.intro q5 (q6)))))); clear q0 q1 q2 q3 q4 q5 q6; unfold specW specV; go_simp
  refine hK.out _ _ h (fun hHeld => ?_)
  clear hK K
  try simp only [Act.put, sIB, sC0, sCS]
  refine tkP 5 56 ?_ rfl (.inl ⟨by rfl, ?_⟩) ?_; rotate_left; focus (intro w' _; go_simp; (try with_reducible rfl))
  try simp only [sIB, sC0, sCS]
  refine tkP 6 57 ?_ rfl (.inl ⟨by rfl, ?_⟩) ?_; rotate_left; focus (intro w' _; go_simp; (try with_reducible rfl))
  try simp only [sIB, sC0, sCS]
  refine wpAnyD_one (i := 7) (by kernel_rfl) rfl (by rfl) (fun K hK => ?_)
  go_simp; have hal := ((Below.refl V5.heap.size V5).alloc (Nat.le_refl _) (.cells #[.bool s.rk, .slice A1 s.ms.length c1, .slice A2 s.ts.length c2, .slice A3 s.xs.length c3, .slice A4 s.cs.length c4, .slice A5 s.js.length c5, .pointer (some ⟨tb, 0, none⟩), .pointer (some ⟨bk, 0, none⟩), .pointer (some ⟨mk, 0, none⟩), .int .u32 0, .int .i32 0, .int .u32 0, .slice none 0 0, .int .i64 0] 202)); have HV := Lib.hid (blk_new V5 (.cells #[.bool s.rk, .slice A1 s.ms.length c1, .slice A2 s.ts.length c2, .slice A3 s.xs.length c3, .slice A4 s.cs.length c4, .slice A5 s.js.length c5, .pointer (some ⟨tb, 0, none⟩), .pointer (some ⟨bk, 0, none⟩), .pointer (some ⟨mk, 0, none⟩), .int .u32 0, .int .i32 0, .int .u32 0, .slice none 0 0, .int .i64 0] 202)); have HB6 := Lib.hid (HB5.out.trans (hal.mono HB5.out.size)); have HO6 := Lib.hid (blk_below hal (blk_lt HO5.out) HO5.out); have HP6 := Lib.hid (blk_below hal (blk_lt HP5.out) HP5.out); have HT6 := Lib.hid (HT5.out.below hal (Nat.le_refl _)); have HK6 := Lib.hid (HK5.out.below hal (Nat.le_refl _)); have HN6 := Lib.hid (HN5.out.below hal (blk_lt HN5.out.1)); have HS6 := Lib.hid (HS5.out.below hal (Nat.le_refl _)); have HVL := Lib.hid HB5.out.size; have HAL := Lib.hid hal; clear hal; obtain ⟨vb, hvb⟩ : ∃ vb, V5.heap.size = vb := ⟨_, rfl⟩; have HVB : Hid (V5.heap.size ≤ vb) := Lib.hid (Nat.le_of_eq hvb); rw [hvb] at HV HVL ⊢; clear hvb; generalize V5.alloc (.cells #[.bool s.rk, .slice A1 s.ms.length c1, .slice A2 s.ts.length c2, .slice A3 s.xs.length c3, .slice A4 s.cs.length c4, .slice A5 s.js.length c5, .pointer (some ⟨tb, 0, none⟩), .pointer (some ⟨bk, 0, none⟩), .pointer (some ⟨mk, 0, none⟩), .int .u32 0, .int .i32 0, .int .u32 0, .slice none 0 0, .int .i64 0] 202) = V6 at *; have q0 := blk_cell HO6.out 0; have q1 := blk_cell HO6.out 1; have q2 := blk_cell HO6.out 2; have q3 := blk_cell HO6.out 3; have q4 := blk_cell HO6.out 4; have q5 := blk_cell HO6.out 5; have q6 := blk_cell HP6.out 0; simp only [List.getElem?_toArray, List.getElem?_cons_zero, List.getElem?_cons_succ] at q0 q1 q2 q3 q4 q5 q6; have h := And.intro q0 (And.intro q1 (And.intro q2 (And.intro q3 (And.intro q4 (And.intro q5 (q6)))))); clear q0 q1 q2 q3 q4 q5 q6
  refine hK.out _ _ h (fun hHeld => ?_)
  clear hK K
  try simp only [Act.put, sIB, sC0, sCS]
  refine tkP 8 2 ?_ rfl (.inl ⟨by rfl, ?_⟩) ?_; rotate_left; focus (intro w' _; go_simp; (try with_reducible rfl))
  try simp only [sIB, sC0, sCS]
  refine tkP 9 3 ?_ rfl (.inl ⟨by rfl, ?_⟩) ?_; rotate_left; focus (intro w' _; go_simp; (try with_reducible rfl))
  try simp only [sIB, sC0, sCS]
  refine tkP 10 4 ?_ rfl (.inl ⟨by rfl, ?_⟩) ?_; rotate_left; focus (intro w' _; go_simp; (try with_reducible rfl))
  try simp only [sIB, sC0, sCS]
  refine tkP 11 5 ?_ rfl (.inl ⟨by rfl, ?_⟩) ?_; rotate_left; focus (intro w' _; go_simp; (try with_reducible rfl))
  try simp only [sIB, sC0, sCS]
  refine wpAnyD_done (by kernel_rfl) ?_ _
  go_wp2_with fail
  refine bodyPost_ret (results_tm4 rfl _ _ _) rfl ?_
  exact ⟨⟨vb, A1, A2, A3, A4, A5, c1, c2, c3, c4, c5, _, tb, bk, _, mk, _, _, _, _, _, _, rfl, HV.out, ⟨V5, HVB.out, HS5.out, HT5.out, HN5.out, HK5.out, HAL.out⟩, HVL.out, HB0.out.size, HB1.out.size⟩, HB6.out⟩
end
section
variable {w : World} {s : SpecP} {T : List Ent} {AM AT AX AC AJ : Option Addr} {cM cT cX cC cJ : Nat}
set_option maxHeartbeats 2000000 in
theorem vnew_any (hs : SpecAt w s AM AT AX AC AJ) (hR : rightS s = true)
    (hL : ∀ V, Below w.heap.size w V → Calls Tryz.prog 127 #[specW s AM AT AX AC AJ cM cT cX cC cJ] V fun e w' => (∃ tb sv mb mp n, e = .returned (.tuple #[.pointer (some ⟨tb, 0, none⟩), .int .i64 n, .int .i64 0]) ∧ TabIs w' V.heap.size tb T sv mb mp) ∧ Below V.heap.size V w')
    (hM : ∀ V, Below w.heap.size w V → Calls Tryz.prog 128 #[.slice AX s.xs.length cX] V fun e w' => (∃ mb sv mi mt n, e = .returned (.tuple #[.pointer (some ⟨mb, 0, none⟩), .int .i64 n, .int .i64 0]) ∧ MarkIs w' V.heap.size mb s.xs sv mi mt) ∧ Below V.heap.size V w')
    (hid : s.xs.all (idB T) = true) (hln : s.ms.length ≤ 1000000 ∧ s.ts.length ≤ 1000000 ∧ s.xs.length ≤ 1000000 ∧ s.cs.length ≤ 1000000 ∧ s.js.length ≤ 1000000) (hcs : s.cs.all spanB = true) (hjs : s.js.all jnB = true) :
    Calls Tryz.prog 62 #[specW s AM AT AX AC AJ cM cT cX cC cJ] w fun e w' => (∃ vb A1 A2 A3 A4 A5 c1 c2 c3 c4 c5 tbase tb bk kbase mk sv mb mp sv2 mi mt, e = .returned (.tuple #[.pointer (some ⟨vb, 0, none⟩), .int .i64 0, .int .i64 0]) ∧ VocIs w' w.heap.size vb s T A1 A2 A3 A4 A5 c1 c2 c3 c4 c5 tbase tb bk kbase mk sv mb mp sv2 mi mt (.slice none 0 0) 0 0 0 0) ∧ Below w.heap.size w w' := by
  have HB0 := Lib.hid ((Below.refl w.heap.size w).alloc (Nat.le_refl _) (.cells #[.bool s.rk, .slice AM s.ms.length cM, .slice AT s.ts.length cT, .slice AX s.xs.length cX, .slice AC s.cs.length cC, .slice AJ s.js.length cJ] 115))
  have HO0 := Lib.hid (blk_new w (.cells #[.bool s.rk, .slice AM s.ms.length cM, .slice AT s.ts.length cT, .slice AX s.xs.length cX, .slice AC s.cs.length cC, .slice AJ s.js.length cJ] 115))
  have HRI := Lib.hid (fun V (hV : Below w.heap.size w V) => sright_any (cM := cM) (cT := cT) (cX := cX) (cC := cC) (cJ := cJ) (hs.below hV (Nat.le_refl _)))
  rw [hR] at HRI
  have HBU := Lib.hid (fun V (hV : Below w.heap.size w V) => build_any (cM := cM) (cT := cT) (cX := cX) (cC := cC) (cJ := cJ) (hs.below hV (Nat.le_refl _)) (fun U hU => hL U (hV.trans (hU.mono hV.size))) (fun U hU => hM U (hV.trans (hU.mono hV.size))) hid hln hcs hjs)
  clear hs hR hL hM hid hln hcs hjs
  unfold specW specV at *
  go_enter Tryz.func62, Tryz.ntmps62
  go_wp2_with (first
    | (go_at_call 97; (refine (HRI.out _ HB0.out).mono ?_); (rintro e V1 ⟨rfl, hb⟩); (have HB1 := Lib.hid (HB0.out.trans (hb.mono HB0.out.size))); (have HO1 := Lib.hid (blk_below hb (blk_lt HO0.out) HO0.out)); (have q0 := blk_cell HO1.out 0); (have q1 := blk_cell HO1.out 1); (have q2 := blk_cell HO1.out 2); (have q3 := blk_cell HO1.out 3); (have q4 := blk_cell HO1.out 4); (have q5 := blk_cell HO1.out 5); (simp only [List.getElem?_toArray, List.getElem?_cons_zero, List.getElem?_cons_succ] at q0 q1 q2 q3 q4 q5); (clear hb))
    | (go_at_call 98; (refine (HBU.out V1 HB1.out).mono ?_); (rintro e V2 ⟨⟨vb, A1, A2, A3, A4, A5, c1, c2, c3, c4, c5, tbase, tb, bk, kbase, mk, sv, mb, mp, sv2, mi, mt, rfl, hv⟩, hb⟩); (have HV := Lib.hid hv); (have HB2 := Lib.hid (HB1.out.trans (hb.mono HB1.out.size))); (clear hv hb)))
  go_ret3
  have hv := HV.out
  have hz := HB1.out.size
  exact ⟨⟨vb, A1, A2, A3, A4, A5, c1, c2, c3, c4, c5, tbase, tb, bk, kbase, mk, sv, mb, mp, sv2, mi, mt, rfl, ⟨hv.blk, hv.org, Nat.le_trans hz hv.lt.1, Nat.le_trans hz hv.lt.2.1, Nat.le_trans hz hv.lt.2.2⟩⟩, HB2.out⟩
end
section
variable {w : World} {base vb : Nat} {s : SpecP} {T : List Ent} {A1 A2 A3 A4 A5 : Option Addr} {c1 c2 c3 c4 c5 tbase tb bk kbase mk : Nat} {sv : Value} {mb mp : Nat} {sv2 : Value} {mi mt : Nat} {l : Value} {dn st se us : Int}
theorem vtable_any (h : VocIs w base vb s T A1 A2 A3 A4 A5 c1 c2 c3 c4 c5 tbase tb bk kbase mk sv mb mp sv2 mi mt l dn st se us) : Calls Tryz.prog 68 #[.pointer (some ⟨vb, 0, none⟩)] w fun e w' => e = .returned (.pointer (some ⟨tb, 0, none⟩)) ∧ w' = w := by
  have c := blk_cell h.blk 6
  simp only [List.getElem?_toArray, List.getElem?_cons_zero, List.getElem?_cons_succ] at c
  clear h
  go_enter Tryz.func68, Tryz.ntmps68
  go_wp2_with fail
  go_ret
  exact ⟨rfl, rfl⟩
end
def cutLast (cut : Nat → Nat → Bool) (p : List UInt8) (c : UInt8) : Bool := match p.getLast? with | none => false | some d => cut d.toNat c.toNat
def addByte (cut : Nat → Nat → Bool) (acc : List (List UInt8)) (c : UInt8) : List (List UInt8) :=
  match acc.getLast? with
  | none => [[c]]
  | some p => if cutLast cut p c then acc ++ [[c]] else acc.dropLast ++ [p ++ [c]]
def pcs (cut : Nat → Nat → Bool) (l : List UInt8) : List (List UInt8) := l.foldl (addByte cut) []
def TP (w : World) (p : Option Addr) (cut : Nat → Nat → Bool) : Prop :=
  (p = none ∧ cut = fun _ _ => false) ∨ ∃ bk C J, p = some ⟨bk, 0, none⟩ ∧ BTab w bk C J ∧ cut = cutB C J
theorem TP.below {B : Nat} {w w' : World} {p : Option Addr} {cut : Nat → Nat → Bool} (h : TP w p cut) (hb : Below B w w') (hB : w.heap.size ≤ B) : TP w' p cut := by
  rcases h with h | ⟨bk, C, J, h1, h2, h3⟩
  · exact .inl h
  · exact .inr ⟨bk, C, J, h1, h2.below hb (Nat.lt_of_lt_of_le (blk_lt h2.1) hB), h3⟩
theorem TP.drewN {w : World} {p : Option Addr} {cut : Nat → Nat → Bool} (h : TP w p cut) (n : Nat) : TP (w.drewN n) p cut := h
def aloneB (T : List Ent) (C : Nat → Int) (J : Nat → Nat → Bool) (id : Int) : Bool := decide (encT T T.length (bytesT T id) = [id]) && decide ((pcs (cutB C J) (bytesT T id)).length ≤ 1)
def aloneL (T : List Ent) (C : Nat → Int) (J : Nat → Nat → Bool) (k : Nat) : List Bool := (List.range T.length).map (fun (i : Nat) => decide (i < k) && aloneB T C J (i : Int))
structure VocP where
  (vb : Nat) (s : SpecP) (T : List Ent) (A1 A2 A3 A4 A5 : Option Addr) (c1 c2 c3 c4 c5 tbase tb bk kbase km : Nat) (sv : Value) (mb mp : Nat) (sv2 : Value) (mi mt : Nat)
def VocQ (w : World) (base : Nat) (p : VocP) (l : Value) (dn st se us : Int) : Prop :=
  VocIs w base p.vb p.s p.T p.A1 p.A2 p.A3 p.A4 p.A5 p.c1 p.c2 p.c3 p.c4 p.c5 p.tbase p.tb p.bk p.kbase p.km p.sv p.mb p.mp p.sv2 p.mi p.mt l dn st se us
section
variable {w w' : World} {base B : Nat} {p : VocP} {l : Value} {dn st se us : Int}
theorem VocQ.keep {F : Nat → Prop} (h : VocQ w base p l dn st se us) (k : Keep F w w') (hF : ∀ x, x ≤ p.vb → ¬ F x) : VocQ w' base p l dn st se us := by
  obtain ⟨V0, h1, h2, h3, h4, h5, h6⟩ := h.org
  exact ⟨k.blk h.blk (hF _ (Nat.le_refl _)), ⟨V0, h1, h2, h3, h4, h5, h6.trans (k.below h6.size (fun x hx => by
    apply Classical.byContradiction
    intro hn
    exact hF x (by omega) hx))⟩, h.lt⟩
theorem VocQ.lt_size (h : VocQ w base p l dn st se us) : p.vb < w.heap.size := blk_lt h.blk
theorem VocQ.below (h : VocQ w base p l dn st se us) (hb : Below B w w') (hB : w.heap.size ≤ B) : VocQ w' base p l dn st se us :=
  h.keep (F := fun x => B ≤ x) ⟨hb.os, hb.tape, hb.output, hb.size, fun x hx hf => hb.block x (by omega)⟩ (fun x hx hf => by have := h.lt_size; omega)
theorem VocQ.drew (h : VocQ w base p l dn st se us) : VocQ w.drew base p l dn st se us := h.below (B := w.heap.size) ⟨rfl, rfl, rfl, Nat.le_refl _, fun _ _ => rfl⟩ (Nat.le_refl _)
theorem VocQ.tab (h : VocQ w base p l dn st se us) : TabIs w p.tbase p.tb p.T p.sv p.mb p.mp := VocIs.tab h
theorem VocQ.bnd (h : VocQ w base p l dn st se us) : BTab w p.bk (Cof p.s.cs) (Jof p.s.js) := VocIs.bnd h
theorem VocQ.spec (h : VocQ w base p l dn st se us) : SpecAt w p.s p.A1 p.A2 p.A3 p.A4 p.A5 := VocIs.spec h
end
def VocP.cut (p : VocP) : Nat → Nat → Bool := cutB (Cof p.s.cs) (Jof p.s.js)
def VocP.al (p : VocP) (k : Nat) : List Bool := aloneL p.T (Cof p.s.cs) (Jof p.s.js) k
def VocAt (w : World) (base : Nat) (p : VocP) (g : Option Nat) : Prop :=
  ∃ l dn st se us, VocQ w base p l dn st se us ∧ ((g = none ∧ l = .slice none 0 0 ∧ dn = 0 ∧ st = 0) ∨
    ∃ r, g = some r ∧ p.vb < r ∧ l = .slice (some ⟨r, 0, none⟩) p.T.length p.T.length ∧ dn = 1 ∧ w.ownsRow r 4 1 (.slice (some ⟨r, 0, none⟩) p.T.length p.T.length) p.T.length ((p.al p.T.length).map Value.bool))
section
variable {w w' : World} {base B : Nat} {p : VocP} {g : Option Nat}
theorem VocAt.keep {F : Nat → Prop} (h : VocAt w base p g) (k : Keep F w w') (hF : ∀ x, x ≤ p.vb ∨ g = some x → ¬ F x) : VocAt w' base p g := by
  obtain ⟨l, dn, st, se, us, h1, h2⟩ := h
  refine ⟨l, dn, st, se, us, h1.keep k (fun x hx => hF x (.inl hx)), ?_⟩
  rcases h2 with h2 | ⟨r, h3, h4, h5, h6, h7⟩
  · exact .inl h2
  · refine .inr ⟨r, h3, h4, h5, h6, own_keep h7 k (fun x hx => ?_)⟩
    simp only [Value.ownBlock, Option.some.injEq] at hx
    subst hx
    exact hF _ (.inr h3)
theorem VocAt.lt_size (h : VocAt w base p g) : p.vb < w.heap.size := by
  obtain ⟨l, dn, st, se, us, h1, h2⟩ := h
  exact h1.lt_size
theorem VocAt.below (h : VocAt w base p g) (hb : Below B w w') (hB : w.heap.size ≤ B) : VocAt w' base p g := by
  obtain ⟨l, dn, st, se, us, h1, h2⟩ := h
  refine ⟨l, dn, st, se, us, h1.below hb hB, ?_⟩
  rcases h2 with h2 | ⟨r, h3, h4, h5, h6, h7⟩
  · exact .inl h2
  · exact .inr ⟨r, h3, h4, h5, h6, own_below h7 hb hB⟩
end
def atP (T : List Ent) (s : List UInt8) (i : Nat) : List Int := atA T (s.drop i)
structure LatIs (w : World) (base lb tr vb : Nat) (T : List Ent) (s : List UInt8) (k : Nat) (A : Option Addr) (c : Nat) (dn st se : Int) (fv : Value) (vals : List Value) : Prop where
  blk : w.heap[lb]? = some (.cells #[.pointer (some ⟨tr, 0, none⟩), .pointer (some ⟨vb, 0, none⟩), .string (bs s), .slice A k c, .int .u32 dn, .int .i32 st, .int .u32 se, fv] 142)
  row : w.ownsRow base 48 1 (.slice A k c) k vals
  ids : ∀ i, i < k → ∃ v, vals[i]? = some v ∧ w.ownsRow base 3 1 v (atP T s i).length ((atP T s i).map (Value.int .i64))
  lo : base ≤ lb
theorem row_tag {w : World} {base n size : Nat} {e : TypeId} {v : Value} {xs : List Value} (h : w.ownsRow base e size v n xs) {g : Nat} (hg : v.ownBlock = some g) : ∃ cs fz, w.heap[g]? = some (.cells cs e fz) := by
  rcases h.2 with ⟨h1, _⟩ | ⟨g', cap, cur, h1, h2, h3, _⟩
  · rw [h1] at hg; simp [Value.ownBlock] at hg
  · rw [h1] at hg
    simp only [Value.ownBlock, Option.some.injEq] at hg
    subst hg
    exact ⟨_, _, h3⟩
theorem row_off {w : World} {base n size : Nat} {e t : TypeId} {v : Value} {xs : List Value} (h : w.ownsRow base e size v n xs) {b : Nat} {cs : Array Value} {fz : Nat × Nat} (hb : w.heap[b]? = some (.cells cs t fz)) (ht : e ≠ t) : ∀ g, v.ownBlock = some g → g ≠ b := by
  intro g hg e0
  obtain ⟨cs', fz', h1⟩ := row_tag h hg
  rw [e0, hb] at h1
  injection h1 with h1
  injection h1 with _ h1 _
  exact ht h1.symm
section
variable {w w' W : World} {base lb tr vb : Nat} {T : List Ent} {s : List UInt8} {k : Nat} {A : Option Addr} {c : Nat} {dn st se : Int} {fv : Value} {vals : List Value}
theorem LatIs.below (h : LatIs w base lb tr vb T s k A c dn st se fv vals) (hb : Below w.heap.size w w') : LatIs w' base lb tr vb T s k A c dn st se fv vals :=
  ⟨blk_below hb (blk_lt h.blk) h.blk, own_below h.row hb (Nat.le_refl _), fun i hi => by
    obtain ⟨v, h1, h2⟩ := h.ids i hi
    exact ⟨v, h1, own_below h2 hb (Nat.le_refl _)⟩, h.lo⟩
theorem LatIs.drew (h : LatIs w base lb tr vb T s k A c dn st se fv vals) : LatIs w.drew base lb tr vb T s k A c dn st se fv vals := h.below (Below.refl _ _).drew
theorem LatIs.drewN (h : LatIs w base lb tr vb T s k A c dn st se fv vals) (m : Nat) : LatIs (w.drewN m) base lb tr vb T s k A c dn st se fv vals := h.below (below_drewN (Below.refl _ _) m)
theorem LatIs.keepT (h : LatIs w base lb tr vb T s k A c dn st se fv vals) {b : Nat} {cs : Array Value} {t : TypeId} {fz : Nat × Nat} (hb : w.heap[b]? = some (.cells cs t fz)) (h1 : t ≠ 142) (h2 : t ≠ 48) (h3 : t ≠ 3) (hk : Keep (fun x => x = b) w w') : LatIs w' base lb tr vb T s k A c dn st se fv vals :=
  ⟨hk.blk h.blk (fun e => by
    subst e
    have := h.blk
    rw [hb] at this
    injection this with this
    injection this with _ this _
    exact h1 this), own_keep h.row hk (row_off h.row hb (fun e => h2 e.symm)), fun i hi => by
    obtain ⟨v, q1, q2⟩ := h.ids i hi
    exact ⟨v, q1, own_keep q2 hk (row_off q2 hb (fun e => h3 e.symm))⟩, h.lo⟩
theorem LatIs.put (h : LatIs w base lb tr vb T s k A c dn st se fv vals) {dn' st' : Int} {fv' : Value} (hk : Keep (fun x => x = lb) w w')
    (hb : w'.heap[lb]? = some (.cells #[.pointer (some ⟨tr, 0, none⟩), .pointer (some ⟨vb, 0, none⟩), .string (bs s), .slice A k c, .int .u32 dn', .int .i32 st', .int .u32 se, fv'] 142)) : LatIs w' base lb tr vb T s k A c dn' st' se fv' vals :=
  ⟨hb, own_keep h.row hk (row_off h.row h.blk (by decide)), fun i hi => by
    obtain ⟨v, q1, q2⟩ := h.ids i hi
    exact ⟨v, q1, own_keep q2 hk (row_off q2 h.blk (by decide))⟩, h.lo⟩
theorem LatIs.lt (h : LatIs w base lb tr vb T s k A c dn st se fv vals) : lb < w.heap.size := blk_lt h.blk
theorem LatIs.c0 (h : LatIs w base lb tr vb T s k A c dn st se fv vals) : w.cell? ⟨lb, 0, none⟩ = some (.pointer (some ⟨tr, 0, none⟩)) := by have := blk_cell h.blk 0; simpa using this
theorem LatIs.c1 (h : LatIs w base lb tr vb T s k A c dn st se fv vals) : w.cell? ⟨lb, 1, none⟩ = some (.pointer (some ⟨vb, 0, none⟩)) := by have := blk_cell h.blk 1; simpa using this
theorem LatIs.c2 (h : LatIs w base lb tr vb T s k A c dn st se fv vals) : w.cell? ⟨lb, 2, none⟩ = some (.string (bs s)) := by have := blk_cell h.blk 2; simpa using this
theorem LatIs.c3 (h : LatIs w base lb tr vb T s k A c dn st se fv vals) : w.cell? ⟨lb, 3, none⟩ = some (.slice A k c) := by have := blk_cell h.blk 3; simpa using this
theorem LatIs.c7 (h : LatIs w base lb tr vb T s k A c dn st se fv vals) : w.cell? ⟨lb, 7, none⟩ = some fv := by have := blk_cell h.blk 7; simpa using this
theorem LatIs.z (h : LatIs w base lb tr vb T s k A c dn st se fv vals) (i : Nat) : w.frozen? ⟨lb, i, none⟩ = false := blk_froz h.blk i
end
theorem VocAt.tbl {w : World} {base : Nat} {p : VocP} {g : Option Nat} (h : VocAt w base p g) : Calls Tryz.prog 68 #[.pointer (some ⟨p.vb, 0, none⟩)] w fun e w' => e = .returned (.pointer (some ⟨p.tb, 0, none⟩)) ∧ w' = w := by
  obtain ⟨l, dn, st, se, us, h1, _⟩ := h
  exact vtable_any h1
theorem VocAt.tabs {w : World} {base : Nat} {p : VocP} {g : Option Nat} (h : VocAt w base p g) : TabIs w p.tbase p.tb p.T p.sv p.mb p.mp := by
  obtain ⟨l, dn, st, se, us, h1, _⟩ := h
  exact h1.tab
theorem long_le {T : List Ent} : ∀ e ∈ T, e.1.length ≤ longT T := by
  have key : ∀ (l : List Ent) (n : Nat), n ≤ l.foldl (fun n e => max n e.1.length) n ∧ ∀ e ∈ l, e.1.length ≤ l.foldl (fun n e => max n e.1.length) n := by
    intro l
    induction l with
    | nil => intro n; exact ⟨Nat.le_refl _, by simp⟩
    | cons a l ih =>
      intro n
      obtain ⟨h1, h2⟩ := ih (max n a.1.length)
      rw [List.foldl_cons]
      refine ⟨by omega, fun e he => ?_⟩
      rcases List.mem_cons.1 he with rfl | he
      · omega
      · exact h2 e he
  exact (key T 1).2
theorem long_small {T : List Ent} (hT : OkT T) : 1 ≤ longT T ∧ longT T ≤ 64 := by
  have key : ∀ (l : List Ent) (n : Nat), (∀ e ∈ l, e.1.length ≤ 64) → n ≤ 64 → n ≤ l.foldl (fun n e => max n e.1.length) n ∧ l.foldl (fun n e => max n e.1.length) n ≤ 64 := by
    intro l
    induction l with
    | nil => intro n _ hn; exact ⟨Nat.le_refl _, hn⟩
    | cons a l ih =>
      intro n hl hn
      have := hl a (by simp)
      obtain ⟨h1, h2⟩ := ih (max n a.1.length) (fun e he => hl e (by simp [he])) (by omega)
      rw [List.foldl_cons]
      exact ⟨by omega, h2⟩
  exact key T 1 (fun e he => (hT.len e he).2) (by omega)
theorem beg_sub {T : List Ent} (hT : OkT T) (s : List UInt8) (i : Nat) : (begT T ((s.drop i).take (longT T)) ((s.drop i).take (longT T)).length).reverse = atP T s i := by
  rw [beg_long hT _ _ long_le]
  rfl
theorem atP_len (T : List Ent) (s : List UInt8) (i : Nat) : (atP T s i).length ≤ s.length := by
  unfold atP atA
  have := begT_le T (s.drop i) (s.drop i).length
  rw [List.length_drop] at this
  rw [List.length_reverse, List.length_drop]
  omega
theorem sub_bs (s : List UInt8) (i L : Nat) (h : i ≤ s.length) : (bs s).extract i (min (i + L) s.length) = bs ((s.drop i).take L) := by
  rw [extract_bs]
  congr 1
  show ((s.drop i).take (min (i + L) s.length - i)) = _
  by_cases h2 : i + L ≤ s.length
  · rw [Nat.min_eq_left h2, Nat.add_sub_cancel_left]
  · rw [Nat.min_eq_right (by omega), List.take_of_length_le (by rw [List.length_drop]; omega), List.take_of_length_le (by rw [List.length_drop]; omega)]
theorem slice_strB (Z : ByteArray) (a b : Nat) (w : World) (h1 : a ≤ b) (h2 : b ≤ Z.size) : (Instr.slice 9 (.string Z) (some (.int .i64 (a : Int))) (some (.int .i64 (b : Int))) none).run Tryz.prog w = .ok (.string (Z.extract a b)) w := by
  have h3 : (b : Int) ≤ (Z.size : Int) := by omega
  have h4 : (a : Int) ≤ (b : Int) := by omega
  have h5 : ¬ (Z.size : Int) < (b : Int) := by omega
  have h6 : ¬ (b : Int) < (a : Int) := by omega
  simp [go_sem, h1, h2, h3, h4, h5, h6]
theorem TrieIs.keepT2 {F : Nat → Prop} {w w' : World} {base rb : Nat} {N : List TN} {B : List (Nat × Nat)} (h : TrieIs w base rb N B) (k : Keep F w w') {t : TypeId} (ho : ∀ g, F g → ∃ cs fz, w.heap[g]? = some (.cells cs t fz)) (h1 : t ≠ 189) (h2 : t ≠ 210) : TrieIs w' base rb N B := by
  obtain ⟨r0, m0, q1, q2⟩ := h.top
  refine ⟨h.ok, h.len, ⟨r0, m0, q1, k.blk q2 (fun hf => ?_)⟩, fun i x b m hx hb => ?_, h.lo, h.inj⟩
  · obtain ⟨cs, fz, e⟩ := ho _ hf
    rw [q2] at e
    injection e with e
    injection e with _ e _
    exact h1 e.symm
  · obtain ⟨h3, h4⟩ := h.nod i x b m hx hb
    refine ⟨k.blk h3 (fun hf => ?_), h4.keep k (fun hf => ?_)⟩
    · obtain ⟨cs, fz, e⟩ := ho _ hf
      rw [h3] at e
      injection e with e
      injection e with _ e _
      exact h2 e.symm
    · obtain ⟨cs, fz, e⟩ := ho _ hf
      obtain ⟨es, cl, e3⟩ := h4.isMap
      rw [e] at e3
      cases e3
structure CntB (w W : World) (lb rb vb : Nat) (T : List Ent) (s : List UInt8) (k : Nat) (A : Option Addr) (c : Nat) (vals : List Value) (B : List (Nat × Nat)) : Prop where
  lat : LatIs W w.heap.size lb rb vb T s k A c 0 0 0 (.slice none 0 0) vals
  tri : TrieIs W w.heap.size rb (trieT T T.length) B
  blw : Below w.heap.size w W
theorem CntB.below {w W W' : World} {lb rb vb : Nat} {T : List Ent} {s : List UInt8} {k : Nat} {A : Option Addr} {c : Nat} {vals : List Value} {B : List (Nat × Nat)} (h : CntB w W lb rb vb T s k A c vals B) (hb : Below W.heap.size W W') : CntB w W' lb rb vb T s k A c vals B :=
  ⟨h.lat.below hb, h.tri.below hb (Nat.le_refl _), h.blw.trans (hb.mono h.blw.size)⟩
theorem CntB.drew {w W : World} {lb rb vb : Nat} {T : List Ent} {s : List UInt8} {k : Nat} {A : Option Addr} {c : Nat} {vals : List Value} {B : List (Nat × Nat)} (h : CntB w W lb rb vb T s k A c vals B) : CntB w W.drew lb rb vb T s k A c vals B := h.below (Below.refl _ _).drew
theorem info_si : (Tryz.prog.info? 48).map (fun i => (i.zero, i.size, i.bytes)) = some (some (.slice none 0 0), 1, 24) := by kernel_rfl
theorem CntB.step {w W7 W8 : World} {lb rb vb : Nat} {T : List Ent} {s : List UInt8} {k : Nat} {A : Option Addr} {c : Nat} {vals : List Value} {B : List (Nat × Nat)} (h : CntB w W7 lb rb vb T s k A c vals B) {vid : Value}
    (hid : W7.ownsRow w.heap.size 3 1 vid (atP T s k).length ((atP T s k).map (Value.int .i64))) {A' : Option Addr} {c' : Nat} (hrow : W8.ownsRow w.heap.size 48 1 (.slice A' (k + 1) c') (k + 1) (vals ++ [vid])) (hg : W7.grownBy W8 (Value.slice A k c).ownBlock) :
    W8.cell? ⟨lb, 3, none⟩ = some (.slice A k c) ∧ W8.frozen? ⟨lb, 3, none⟩ = false ∧ CntB w (W8.setCell ⟨lb, 3, none⟩ (.slice A' (k + 1) c')) lb rb vb T s (k + 1) A' c' (vals ++ [vid]) B := by
  have hk : Keep (fun g => (Value.slice A k c).ownBlock = some g) W7 W8 := Keep.of_grown hg (fun g hg => hg)
  have hbl := hk.blk h.lat.blk (fun e => row_off h.lat.row h.lat.blk (by decide) _ e rfl)
  have hk2 : Keep (fun g => g = lb) W8 (W8.setCell ⟨lb, 3, none⟩ (.slice A' (k + 1) c')) := (Keep.refl (fun g => g = lb) W8).setCell (p := ⟨lb, 3, none⟩) (.inl rfl) _
  have hb2 := blk_set hbl 3 (.slice A' (k + 1) c')
  simp only [List.setIfInBounds_toArray, List.set_cons_zero, List.set_cons_succ] at hb2
  have hlen : vals.length = k := by have := h.lat.row.1; omega
  have hids : ∀ (v : Value) (n : Nat) (L : List Value), W7.ownsRow w.heap.size 3 1 v n L → (W8.setCell ⟨lb, 3, none⟩ (.slice A' (k + 1) c')).ownsRow w.heap.size 3 1 v n L := by
    intro v n L hv
    have h1 := own_keep hv hk (fun g hg hf => by
      obtain ⟨cs, fz, e1⟩ := row_tag h.lat.row hf
      exact row_off hv e1 (by decide) g hg rfl)
    exact own_keep h1 hk2 (row_off h1 hbl (by decide))
  refine ⟨by have := blk_cell hbl 3; simpa using this, blk_froz hbl 3, ⟨hb2, own_keep hrow hk2 (row_off hrow hbl (by decide)), fun i hi => ?_, h.lat.lo⟩, ?_, ?_⟩
  · by_cases e : i < k
    · obtain ⟨v, q1, q2⟩ := h.lat.ids i e
      exact ⟨v, by rw [List.getElem?_append_left (by omega)]; exact q1, hids _ _ _ q2⟩
    · have e2 : i = k := by omega
      subst e2
      refine ⟨vid, ?_, hids _ _ _ hid⟩
      rw [List.getElem?_append_right (by omega), hlen]
      simp
  · have h1 := TrieIs.keepT2 h.tri hk (fun g hg => row_tag h.lat.row hg) (by decide) (by decide)
    exact TrieIs.keepT2 h1 hk2 (fun g hg => by subst hg; exact ⟨_, _, hbl⟩) (by decide) (by decide)
  · exact (h.blw.trans (hk.below h.blw.size (fun x hx => own_base h.lat.row x hx))).trans (hk2.below (by have := h.blw.size; have := hk.size; omega) (fun x hx => by subst hx; exact h.lat.lo))
section
variable {w w' W : World} {base : Nat} {p : VocP} {g : Option Nat}
set_option maxHeartbeats 4000000 in
theorem count_new (h : VocAt w base p g) (hT : OkT p.T) (s : List UInt8) (hs : s.length ≤ 4000) :
    Calls Tryz.prog 24 #[.pointer (some ⟨p.vb, 0, none⟩), .string (bs s)] w fun e w' => (∃ lb tr A c vals, e = .returned (.tuple #[.pointer (some ⟨lb, 0, none⟩), .int .i64 0]) ∧ LatIs w' w.heap.size lb tr p.vb p.T s s.length A c 0 0 0 (.slice none 0 0) vals) ∧ Below w.heap.size w w' := by
  have HVT : Hid (∀ V, Below w.heap.size w V → Calls Tryz.prog 68 #[.pointer (some ⟨p.vb, 0, none⟩)] V fun e w' => e = .returned (.pointer (some ⟨p.tb, 0, none⟩)) ∧ w' = V) := Lib.hid (fun V hV => (h.below hV (Nat.le_refl _)).tbl)
  have HTN : Hid (∀ V, Below w.heap.size w V → Calls Tryz.prog 67 #[.pointer (some ⟨p.tb, 0, none⟩)] V fun e w' => (∃ rb B, e = .returned (.pointer (some ⟨rb, 0, none⟩)) ∧ TrieIs w' V.heap.size rb (trieT p.T p.T.length) B) ∧ Below V.heap.size V w') := Lib.hid (fun V hV => tnew_any (h.below hV (Nat.le_refl _)).tabs hT)
  have HLG : Hid (∀ V, Below w.heap.size w V → Calls Tryz.prog 69 #[.pointer (some ⟨p.tb, 0, none⟩)] V fun e w' => e = .returned (.int .i64 (longT p.T : Nat)) ∧ w' = V) := Lib.hid (fun V hV => longest_tab (h.below hV (Nat.le_refl _)).tabs)
  have HT := Lib.hid hT
  have HLS := Lib.hid (long_small hT)
  have HSL := Lib.hid hs
  have HDZ : Hid ((bs s).size = s.length) := Lib.hid (bs_size s)
  have hsz : ¬ (4000 : Int) < ((bs s).size : Int) := by rw [bs_size]; omega
  clear h hT hs
  go_enter Tryz.func24, Tryz.ntmps24
  go_upto_region 6 with (first
    | (go_at_call 68; refine (HVT.out _ (Below.refl _ _)).mono ?_; rintro e w1 ⟨rfl, hw⟩; rw [hw]; clear hw w1)
    | (go_at_call 67; refine (HTN.out _ (Below.refl _ _)).mono ?_; rintro e w2 ⟨⟨rb, B, rfl, ht⟩, hb⟩; (have HTR := Lib.hid ht); (have HB2 := Lib.hid hb); clear ht hb))
  have hb3 := (Below.refl w2.heap.size w2).alloc (Nat.le_refl _) (.cells #[.pointer (some ⟨rb, 0, none⟩), .pointer (some ⟨p.vb, 0, none⟩), .string (bs s), .slice none 0 0, .int .u32 0, .int .i32 0, .int .u32 0, .slice none 0 0] 142)
  have HST : Hid (CntB w (w2.alloc (.cells #[.pointer (some ⟨rb, 0, none⟩), .pointer (some ⟨p.vb, 0, none⟩), .string (bs s), .slice none 0 0, .int .u32 0, .int .i32 0, .int .u32 0, .slice none 0 0] 142)) w2.heap.size rb p.vb p.T s 0 none 0 [] B) := Lib.hid ⟨⟨blk_new _ _, own_nil _ _ _ _, fun i hi => by omega, HB2.out.size⟩, HTR.out.below hb3 (Nat.le_refl _), HB2.out.trans (hb3.mono HB2.out.size)⟩
  clear hb3 HTR HB2
  obtain ⟨lb, hlb⟩ : ∃ l, w2.heap.size = l := ⟨_, rfl⟩
  rw [hlb] at HST ⊢
  clear hlb
  generalize w2.alloc (.cells #[.pointer (some ⟨rb, 0, none⟩), .pointer (some ⟨p.vb, 0, none⟩), .string (bs s), .slice none 0 0, .int .u32 0, .int .i32 0, .int .u32 0, .slice none 0 0] 142) = w3 at *
  go_wp2_with (first
    | (go_at_call 68; refine (HVT.out _ HST.out.blw).mono ?_; rintro e w1 ⟨rfl, hw⟩; rw [hw]; clear hw w1)
    | (go_at_call 69; refine (HLG.out _ HST.out.blw).mono ?_; rintro e w1 ⟨rfl, hw⟩; rw [hw]; clear hw w1))
  clear HTN HVT HLG
  obtain ⟨L, hL⟩ : ∃ L, longT p.T = L := ⟨_, rfl⟩
  have HL := Lib.hid hL
  rw [hL] at HLS ⊢
  clear hL
  obtain ⟨Z, hZ⟩ : ∃ Z, bs s = Z := ⟨_, rfl⟩
  have HZ := Lib.hid hZ
  rw [hZ] at HDZ hsz ⊢
  clear hZ
  go_loopg [29] Z.size (fun n i W => ∃ (k : Nat) (A : Option Addr) (c : Nat) (vals : List Value), k + n = Z.size ∧ i = .int .i64 (k : Int) ∧ CntB w W lb rb p.vb p.T s k A c vals B)
  case atStart => exact ⟨0, none, 0, [], by omega, rfl, HST.out⟩
  case round =>
    obtain ⟨k, A, c, vals, hk, rfl, hst⟩ := hrel
    clear HST
    rename World => W
    have HK := Lib.hid hk
    have HST := Lib.hid hst
    clear hk hst
    by_cases hlt : k < Z.size
    · have p0 : (0 : Int) ≤ (k : Int) := by omega
      have p1 : (k : Int) < (Z.size : Int) := by omega
      have p1' : (k : Int) ≤ (Z.size : Int) := by omega
      have w2' : IntKind.i64.wrap ((k : Int) + 1) = (k : Int) + 1 := IntWalk.i64_in _ (by have := HSL.out; have := HDZ.out; omega)
      have w3' : IntKind.i64.wrap ((k : Int) + (L : Int)) = (k : Int) + (L : Int) := IntWalk.i64_in _ (by have := HSL.out; have := HDZ.out; have := HLS.out; omega)
      have e0 := HST.out.lat.c0
      obtain ⟨M, hMd⟩ : ∃ M, min (k + L) Z.size = M := ⟨_, rfl⟩
      have hM : (if (Z.size : Int) < (k : Int) + (L : Int) then (Z.size : Int) else (k : Int) + (L : Int)) = (M : Int) := by split <;> omega
      have hsl : ∀ V, (Instr.slice 9 (.string Z) (some (.int .i64 (k : Int))) (some (.int .i64 (M : Int))) none).run Tryz.prog V = .ok (.string (bs ((s.drop k).take L))) V := fun V => by
        rw [slice_strB Z k M V (by omega) (by omega), ← hMd, ← HZ.out, HZ.out, HDZ.out, ← HZ.out, sub_bs s k L (by have := HDZ.out; omega)]
      have hbg := fun V (hV : CntB w V lb rb p.vb p.T s k A c vals B) => tbegin_any hV.tri HT.out ((s.drop k).take L) (by have := HSL.out; rw [List.length_take, List.length_drop]; omega)
      have HBG := Lib.hid hbg
      have HRV : Hid ((begT p.T ((s.drop k).take L) ((s.drop k).take L).length).reverse = atP p.T s k) := Lib.hid (by rw [← HL.out]; exact beg_sub HT.out s k)
      generalize begT p.T ((s.drop k).take L) ((s.drop k).take L).length = G at *
      generalize bs ((s.drop k).take L) = Y at *
      clear hMd hbg
      go_upto_region 10 with fail
      refine wp_region_D (Ds := []) (S := fun V => V.cell? ⟨lb, 0, none⟩ = some (.pointer (some ⟨rb, 0, none⟩))) (by kernel_rfl) (by exact e0) (fun hHeld => ?_)
      (replace HST := Lib.hid HST.out.drew); clear e0; generalize W.drew = W5 at *
      refine tkP 0 32 ?_ rfl (.inl ⟨by rfl, ?_⟩) ?_; rotate_left; focus (intro w' _; go_simp; (try with_reducible rfl))
      try simp only [sIB, sC0, sCS]
      refine tkP 1 33 ?_ rfl (.inl ⟨by rfl, ?_⟩) ?_; rotate_left; focus (intro w' _; go_simp; (try with_reducible rfl))
      try simp only [sIB, sC0, sCS]
      refine tkP 2 34 ?_ rfl (.inl ⟨by rfl, ?_⟩) ?_; rotate_left; focus (intro w' _; go_simp; (try with_reducible rfl))
      try simp only [sIB, sC0, sCS]
      refine tkP 4 36 ?_ rfl (.inl ⟨by rfl, ?_⟩) ?_; rotate_left; focus (intro w' _; go_simp; (try with_reducible rfl))
      try simp only [sIB, sC0, sCS]
      refine tkP 5 37 ?_ rfl (.inl ⟨by rfl, ?_⟩) ?_; rotate_left; focus (intro w' _; go_simp; (try with_reducible rfl))
      try simp only [sIB, sC0, sCS]
      refine tkP 6 38 ?_ rfl (.inl ⟨by rfl, ?_⟩) ?_; rotate_left; focus (intro w' _; go_simp; (try with_reducible rfl))
      try simp only [sIB, sC0, sCS]
      refine tkP 7 39 ?_ rfl (.inl ⟨by rfl, ?_⟩) ?_; rotate_left; focus (intro w' _; go_simp; (try with_reducible rfl))
      try simp only [sIB, sC0, sCS]
      refine tkP 8 40 ?_ rfl (.inl ⟨by rfl, ?_⟩) ?_; rotate_left; focus (intro w' _; go_simp; (try with_reducible rfl))
      try simp only [sIB, sC0, sCS]
      refine tkP 9 41 ?_ rfl (.inl ⟨by rfl, ?_⟩) ?_; rotate_left; focus (intro w' _; go_simp; (try with_reducible rfl))
      try simp only [sIB, sC0, sCS]
      refine tkD 3 35 ?_ rfl hHeld (.inl ⟨by rfl, ?_⟩) ?_; rotate_left; focus (intro w' hSw; (try dsimp only at hSw); go_simp; (try with_reducible rfl))
      try simp only [sIB, sC0, sCS]
      refine tkD 10 42 ?_ rfl hHeld (.inl ⟨by rfl, ?_⟩) ?_; rotate_left; focus (intro w' hSw; (try dsimp only at hSw); go_simp; (try with_reducible rfl))
      try simp only [sIB, sC0, sCS]
      refine tkD 11 43 ?_ rfl hHeld (.inl ⟨by rfl, ?_⟩) ?_; rotate_left; focus (intro w' hSw; (try dsimp only at hSw); go_simp; (try with_reducible rfl))
      try simp only [sIB, sC0, sCS]
      refine tkD 12 44 ?_ rfl hHeld (.inl ⟨by rfl, ?_⟩) ?_; rotate_left; focus (intro w' hSw; (try dsimp only at hSw); go_simp; (try with_reducible rfl))
      try simp only [sIB, sC0, sCS]
      refine wpAnyD_one (i := 13) (by kernel_rfl) rfl (by rfl) (fun K hK => ?_)
      go_simp; refine (HBG.out _ HST.out).mono ?_; rintro e W6 ⟨⟨v6, rfl, A6, c6, rfl, hv6⟩, hb'⟩; have HV6 := Lib.hid hv6; have HB6 := Lib.hid hb'; have h := below_cell hb' (Nat.le_refl _) hHeld; clear hv6 hb'; go_simp
      refine hK.out _ _ h (fun hHeld => ?_)
      clear hK K
      try simp only [Act.put, sIB, sC0, sCS]
      refine tkP 14 9 ?_ rfl (.inl ⟨by rfl, ?_⟩) ?_; rotate_left; focus (intro w' _; go_simp; (try with_reducible rfl))
      try simp only [sIB, sC0, sCS]
      refine wpAnyD_done (by kernel_rfl) ?_ _
      clear h hHeld hsl hM
      have hpos : 0 < G.length := by
        have h1 := HRV.out
        have hne : s.drop k ≠ [] := by
          intro e
          have h7 : (s.drop k).length = 0 := by rw [e]; rfl
          rw [List.length_drop] at h7
          have := HDZ.out
          omega
        obtain ⟨l, hl⟩ := at_byte HT.out hne
        have h2 := congrArg List.length h1
        unfold atP at h2
        rw [hl, List.length_reverse, List.length_append] at h2
        simp at h2
        omega
      obtain ⟨g6, cap6, he6, hg6, _, _⟩ := own_open HV6.out hpos
      injection he6 with he6 he7 he8
      subst he6
      have HGB := Lib.hid hg6
      have HGL : Hid (G.length < 1000000000000000000) := Lib.hid (by
        have h1 := congrArg List.length HRV.out
        have h2 := atP_len p.T s k
        have h3 := HSL.out
        rw [List.length_reverse] at h1
        omega)
      have HRI := Lib.hid (revI_any G W5.heap.size g6 c6 W6 HV6.out hg6 HGL.out)
      clear hpos hg6 he7 he8
      go_upto_region 12 with (go_at_call 71; refine HRI.out.mono ?_; rintro e W7 ⟨rfl, hr7, hk7⟩; (have HR7 := Lib.hid hr7); (have HB7 := Lib.hid (HB6.out.trans (hk7.below HB6.out.size (fun x hx => by subst hx; exact HGB.out)))); clear hr7 hk7)
      have HST7 := Lib.hid (HST.out.below HB7.out)
      rw [HRV.out] at HR7
      have hGl : G.length = (atP p.T s k).length := by rw [← HRV.out, List.length_reverse]
      have HRW : Hid (W7.ownsRow w.heap.size 3 1 (.slice (some ⟨g6, 0, none⟩) G.length c6) (atP p.T s k).length ((atP p.T s k).map (Value.int .i64))) := Lib.hid (by
        have := own_less HR7.out HST.out.blw.size
        rw [hGl] at this ⊢
        exact this)
      have c3 := HST7.out.lat.c3
      have hsz : w.heap.size ≤ W7.heap.size := HST7.out.blw.size
      have hkl : k ≤ 4000 := by have := HSL.out; have := HDZ.out; omega
      clear hGl HR7 HRI HV6 HB6 HST
      go_wp2_with (at_builtin; refine app_new w.heap.size 41 48 (.slice none 0 0) 1 24 [_] 1 _ _ rfl rfl Tryz.underlying41 info_si rfl (by decide) _ _ _ rfl rfl rfl (by intro u hu; simp at hu; subst hu; rfl) HST7.out.lat.row (by omega) (by omega) (by exact hsz) ?_)
      intro v' W8 hown hg8 hnew
      obtain ⟨A8, c8, rfl⟩ := own_slice hown
      have HST8 := Lib.hid (HST7.out.step HRW.out hown hg8)
      have d3 := HST8.out.1
      have z3 := HST8.out.2.1
      clear hown hg8 hnew c3 hsz hkl
      go_wp2_with fail
      go_roundg (gk - 1)
      case measure => have := HK.out; omega
      case rel => exact ⟨k + 1, A8, c8, _, by have := HK.out; omega, by simp, HST8.out.2.2⟩
    · have hke : k = s.length := by have := HK.out; have := HDZ.out; omega
      have p1 : ¬ (k : Int) < (Z.size : Int) := by have := HK.out; omega
      have HFIN : Hid (LatIs W w.heap.size lb rb p.vb p.T s s.length A c 0 0 0 (.slice none 0 0) vals) := Lib.hid (by rw [← hke]; exact HST.out.lat)
      clear hke
      go_wp2_with fail
      go_ret2
      first | exact ⟨⟨lb, rb, A, c, vals, rfl, HFIN.out⟩, HST.out.blw⟩ | exact ⟨⟨lb, rfl, rb, A, c, vals, HFIN.out⟩, HST.out.blw⟩
end
theorem lbytes_nil (w : World) : Calls Tryz.prog 30 #[.pointer none] w fun e w' => e = .returned (.string ⟨#[]⟩) ∧ w' = w := by
  go_enter Tryz.func30, Tryz.ntmps30
  go_wp2_with fail
  go_ret
  exact ⟨rfl, rfl⟩
theorem eql_cInt (A : Option Addr) (n c : Nat) (w : World) : (binOp .eql 48 (.slice A n c) (.slice none 0 0)).run Tryz.prog w = .ok (.bool A.isNone) w := by
  cases A <;> kernel_rfl
theorem clone_int (l : List Int) (A : Option Addr) (c : Nat) (w : World) (h : Sl1 w A (Value.int .i64) l) (hlen : l.length ≤ 1000000) :
    Calls Tryz.prog 75 #[.slice A l.length c] w fun e w' => (∃ v, e = .returned v ∧ IntsIs w' w.heap.size v l) ∧ Below w.heap.size w w' := by
  have HL := Lib.hid h
  clear h
  cases A with
  | none =>
    have hl0 : l = [] := by
      rcases l with _ | ⟨x, l⟩
      · rfl
      · obtain ⟨b, o, e, _⟩ := HL.out 0 x rfl
        cases e
    subst hl0
    have heq := eql_cInt none 0 c w
    simp only [Option.isNone_none] at heq
    go_enter Tryz.func75, Tryz.ntmps75
    go_wp2_with fail
    go_ret
    exact ⟨⟨_, rfl, none, 0, rfl, own_nil _ _ _ _⟩, Below.refl _ _⟩
  | some a =>
    have heq := eql_cInt (some a) l.length c w
    simp only [Option.isNone_some] at heq
    have HE : Hid ((w.alloc (.cells #[] 3)).ownsRow w.heap.size 3 1 (.slice (some ⟨w.heap.size, 0, none⟩) 0 0) 0 []) := Lib.hid ⟨by simp, .inr ⟨w.heap.size, 0, #[], rfl, Nat.le_refl _, blk_new w _, Nat.le_refl _, Nat.zero_le _, by simp, by simp⟩⟩
    have HN : Hid (∀ j u, (l.map (Value.int .i64))[j]? = some u → (w.alloc (.cells #[] 3)).cell? (a.add j) = some u) := Lib.hid (by
      intro j u hu
      rw [List.getElem?_map, Option.map_eq_some_iff] at hu
      obtain ⟨x, h1, h2⟩ := hu
      subst h2
      obtain ⟨b, o, e, hc⟩ := HL.out j x h1
      cases e
      rw [add_plain]
      exact below_cell ((Below.refl w.heap.size w).alloc (Nat.le_refl _) _) (Nat.le_refl _) hc)
    have H1 : Hid (∀ u ∈ l.map (Value.int .i64), u.oneCell' = true) := Lib.hid (by intro u hu; obtain ⟨x, _, rfl⟩ := List.mem_map.1 hu; rfl)
    have HLEN : Hid ((l.map (Value.int .i64)).length = l.length * 1) := Lib.hid (by simp)
    obtain ⟨i, hif, hz0, hz1, hz2⟩ := info_parts info_int5
    have HI := Lib.hid hif
    have HZ := Lib.hid (And.intro hz0 (And.intro hz1 hz2))
    clear hif hz0 hz1 hz2
    go_enter Tryz.func75, Tryz.ntmps75
    go_wp2_with (at_builtin; refine wpList_append_own_at _ rfl _ _ 48 rfl w.heap.size 3 i (.int .i64 0) 1 8 Tryz.underlying48 HI.out HZ.out.1 HZ.out.2.1 HZ.out.2.2 rfl (by decide) _ 0 [] rfl HE.out a l.length c _ rfl HLEN.out HN.out H1.out (by unfold maxLen; omega) (by omega) (by simp) ?_)
    intro v' w' r1 r2 _ _
    have hb : Below w.heap.size w w' := by
      have h0 := (Below.refl w.heap.size w).alloc (Nat.le_refl _) (.cells #[] 3)
      have hk : Keep (fun k => k = w.heap.size) (w.alloc (.cells #[] 3)) w' := Keep.of_grown r2 (fun k hk => by simpa [Value.ownBlock] using hk.symm)
      exact h0.trans (hk.below (by simp) (fun x hx => by omega))
    obtain ⟨A, c', rfl⟩ := own_slice r1
    have HB := Lib.hid hb
    have HR := Lib.hid r1
    clear r1 r2 hb
    go_wp2_with fail
    go_ret
    exact ⟨⟨_, rfl, A, c', by simp, HR.out⟩, HB.out⟩
section
variable {w w' W : World} {base lb tr vb : Nat} {T : List Ent} {s : List UInt8} {A : Option Addr} {c : Nat} {dn st se : Int} {fv : Value} {vals : List Value}
theorem lvocab_any (h : LatIs w base lb tr vb T s s.length A c dn st se fv vals) : Calls Tryz.prog 33 #[.pointer (some ⟨lb, 0, none⟩)] w fun e w' => e = .returned (.pointer (some ⟨vb, 0, none⟩)) ∧ w' = w := by
  have c1 := h.c1
  clear h
  go_enter Tryz.func33, Tryz.ntmps33
  go_wp2_with fail
  go_ret
  exact ⟨rfl, rfl⟩
theorem lbytes_any (h : LatIs w base lb tr vb T s s.length A c dn st se fv vals) : Calls Tryz.prog 30 #[.pointer (some ⟨lb, 0, none⟩)] w fun e w' => e = .returned (.string (bs s)) ∧ w' = w := by
  have c2 := h.c2
  clear h
  generalize bs s = Z at *
  go_enter Tryz.func30, Tryz.ntmps30
  go_wp2_with fail
  go_ret
  exact ⟨rfl, rfl⟩
theorem lsize_any {b0 : Nat} {p : VocP} {g : Option Nat} (h : LatIs w base lb tr p.vb T s s.length A c dn st se fv vals) (hv : VocAt w b0 p g) (id : Int) : Calls Tryz.prog 31 #[.pointer (some ⟨lb, 0, none⟩), .int .i64 id] w fun e w' => e = .returned (.int .i64 (lenT p.T id : Nat)) ∧ w' = w := by
  have H1 := Lib.hid (lvocab_any h)
  have H2 := Lib.hid hv.tbl
  have H3 := Lib.hid (bytes_tab id hv.tabs)
  have HZ : Hid ((bs (bytesT p.T id)).size = lenT p.T id) := Lib.hid (by rw [bs_size]; rfl)
  clear h hv
  unfold strV at H3
  generalize bs (bytesT p.T id) = Z at *
  go_enter Tryz.func31, Tryz.ntmps31
  go_wp2_with (first
    | (go_at_call 33; refine H1.out.mono ?_; rintro e w1 ⟨rfl, hw⟩; rw [hw]; clear hw w1)
    | (go_at_call 68; refine H2.out.mono ?_; rintro e w1 ⟨rfl, hw⟩; rw [hw]; clear hw w1)
    | (go_at_call 76; refine H3.out.mono ?_; rintro e w1 ⟨rfl, hw⟩; rw [hw]; clear hw w1))
  go_ret
  exact ⟨by simp [HZ.out], rfl⟩
theorem lat_out (h : LatIs w base lb tr vb T s s.length A c dn st se fv vals) (i : Int) (hi : ¬ (0 ≤ i ∧ i < s.length)) : Calls Tryz.prog 29 #[.pointer (some ⟨lb, 0, none⟩), .int .i64 i] w fun e w' => e = .returned (.slice none 0 0) ∧ w' = w := by
  have H1 := Lib.hid (lbytes_any h)
  have hz : (bs s).size = s.length := bs_size s
  clear h
  generalize bs s = Z at *
  by_cases h0 : i < 0
  · go_enter Tryz.func29, Tryz.ntmps29
    go_wp2_with fail
    go_ret
    exact ⟨rfl, rfl⟩
  · have h2 : i ≥ 0 := by omega
    have h3 : (Z.size : Int) ≤ i := by omega
    clear hz hi
    go_enter Tryz.func29, Tryz.ntmps29
    go_wp2_with (go_at_call 30; refine H1.out.mono ?_; rintro e w1 ⟨rfl, hw⟩; rw [hw]; clear hw w1)
    go_ret
    exact ⟨rfl, rfl⟩
theorem lat_any (h : LatIs w base lb tr vb T s s.length A c dn st se fv vals) (i : Nat) (hi : i < s.length) (hs : s.length ≤ 1000000) : Calls Tryz.prog 29 #[.pointer (some ⟨lb, 0, none⟩), .int .i64 (i : Int)] w fun e w' => (∃ v, e = .returned v ∧ IntsIs w' w.heap.size v (atP T s i)) ∧ Below w.heap.size w w' := by
  have H1 := Lib.hid (lbytes_any h)
  have HZ : Hid ((bs s).size = s.length) := Lib.hid (bs_size s)
  have c3 := h.c3
  obtain ⟨v, hv1, hv2⟩ := h.ids i hi
  obtain ⟨A2, c2, rfl⟩ := own_slice hv2
  obtain ⟨g, cap, e1, _, _, hc⟩ := own_open h.row (by omega)
  injection e1 with e1 e2 e3
  subst e1
  have d0 := (hc i _ hv1).1
  have HC := Lib.hid (clone_int (atP T s i) A2 c2 w (own_sl1 hv2) (by have := atP_len T s i; omega))
  have p0 : (0 : Int) ≤ (i : Int) := by omega
  have p1 : ¬ (i : Int) < 0 := by omega
  have HSI := Lib.hid hi
  clear h hv1 hv2 hc e2 e3 hs
  obtain ⟨N, hN⟩ : ∃ N, s.length = N := ⟨_, rfl⟩
  rw [hN] at c3 HSI HZ
  clear hN
  generalize bs s = Z at *
  have p2 : (i : Int) < (Z.size : Int) := by have := HZ.out; have := HSI.out; omega
  have p3 : (i : Int) < (N : Int) := by have := HSI.out; omega
  clear hi
  go_enter Tryz.func29, Tryz.ntmps29
  go_wp2_with (first
    | (go_at_call 30; refine H1.out.mono ?_; rintro e w1 ⟨rfl, hw⟩; rw [hw]; clear hw w1)
    | (go_at_call 75; refine HC.out.mono ?_; rintro e w2 ⟨⟨v, rfl, A4, c4, rfl, hv⟩, hb⟩; (have HV := Lib.hid hv); (have HB := Lib.hid hb); clear hv hb))
  go_ret
  exact ⟨⟨_, rfl, A4, c4, rfl, HV.out⟩, HB.out⟩
end
abbrev Spl := Int × List UInt8
def longX (xs : List Spl) : Bool := xs.any (fun x => decide (100 < x.2.length))
def greatX (xs : List Spl) : Bool := longX xs || decide (40 < xs.length)
def rightX (x : Spl) : Bool := decide (0 ≤ x.1) && decide (x.1 ≤ 1073741824) && decide (1 ≤ x.2.length) && decide (x.2.length ≤ 64)
def freshX (l : List Spl) (x : Spl) : Bool := l.all (fun y => decide (y.1 ≠ x.1) && decide (y.2 ≠ x.2))
def okX (xs : List Spl) : Bool := decide (xs.length ≤ 32) && (List.range xs.length).all (fun i => rightX (xs.getD i (0, [])) && freshX (xs.take i) (xs.getD i (0, [])))
theorem okX_iff (xs : List Spl) : okX xs = true ↔ xs.length ≤ 32 ∧ ∀ i (h : i < xs.length), rightX xs[i] = true ∧ freshX (xs.take i) xs[i] = true := by
  unfold okX
  rw [Bool.and_eq_true, decide_eq_true_eq, List.all_eq_true]
  constructor
  · rintro ⟨h1, h2⟩
    refine ⟨h1, fun i h => ?_⟩
    have := h2 i (List.mem_range.2 h)
    rw [Bool.and_eq_true, List.getD_eq_getElem?_getD, List.getElem?_eq_getElem h] at this
    exact this
  · rintro ⟨h1, h2⟩
    refine ⟨h1, fun i hi => ?_⟩
    have h := List.mem_range.1 hi
    rw [Bool.and_eq_true, List.getD_eq_getElem?_getD, List.getElem?_eq_getElem h]
    exact h2 i h
structure BRTab (w0 : World) (cs : List Cls) (js : List Jn) (A B : Option Addr) (w : World) : Prop where
  below : Below w0.heap.size w0 w
  cl0 : Sl w0 A encCls 3 cs
  jn0 : Sl w0 B encJn 2 js
theorem BRTab.cl {w0 w : World} {cs : List Cls} {js : List Jn} {A B : Option Addr} (h : BRTab w0 cs js A B w) : Sl w A encCls 3 cs := h.cl0.below h.below (Nat.le_refl _)
theorem BRTab.keep {w0 w w' : World} {cs : List Cls} {js : List Jn} {A B : Option Addr} (h : BRTab w0 cs js A B w) (hb : Below w0.heap.size w w') : BRTab w0 cs js A B w' := ⟨h.1.trans hb, h.2, h.3⟩
theorem BRTab.step {w0 w w' : World} {cs : List Cls} {js : List Jn} {A B : Option Addr} (h : BRTab w0 cs js A B w) (hb : Below w.heap.size w w') : BRTab w0 cs js A B w' :=
  ⟨below_then h.1 h.1.size hb, h.2, h.3⟩
theorem BRTab.drew {w0 w : World} {cs : List Cls} {js : List Jn} {A B : Option Addr} (h : BRTab w0 cs js A B w) : BRTab w0 cs js A B w.drew := ⟨h.1.drew, h.2, h.3⟩
def someC (cs : List Cls) : List Cls := (cs.take 8).filter spanB
def someJ (js : List Jn) : List Jn := (js.take 8).filter jnB
def someX (xs : List Spl) : Nat → List Spl
  | 0 => []
  | k + 1 => if okX (someX xs k ++ [(1000 + (k : Int), (xs.getD k (0, [])).2)]) then someX xs k ++ [(1000 + (k : Int), (xs.getD k (0, [])).2)] else someX xs k
theorem someX_ok (xs : List Spl) : ∀ k, okX (someX xs k) = true
  | 0 => rfl
  | k + 1 => by
    rw [someX]
    split
    · assumption
    · exact someX_ok xs k
theorem someX_len (xs : List Spl) : ∀ k, (someX xs k).length ≤ k
  | 0 => Nat.le_refl _
  | k + 1 => by
    have := someX_len xs k
    rw [someX]
    split
    · rw [List.length_append]; simp; omega
    · omega
theorem someC_ok (cs : List Cls) : (someC cs).all spanB = true := by
  unfold someC
  rw [List.all_eq_true]
  intro x hx
  exact (List.mem_filter.1 hx).2
theorem someJ_ok (js : List Jn) : (someJ js).all jnB = true := by
  unfold someJ
  rw [List.all_eq_true]
  intro x hx
  exact (List.mem_filter.1 hx).2
theorem someC_len (cs : List Cls) : (someC cs).length ≤ 8 := by
  unfold someC
  refine Nat.le_trans (List.length_filter_le _ _) ?_
  rw [List.length_take]; omega
theorem someJ_len (js : List Jn) : (someJ js).length ≤ 8 := by
  unfold someJ
  refine Nat.le_trans (List.length_filter_le _ _) ?_
  rw [List.length_take]; omega
structure FldIs (W0 W : World) (sb : Nat) (t : TypeId) (cells : Array Value) (e : TypeId) (size : Nat) (v : Value) (n : Nat) (xs : List Value) : Prop where
  blk : W.heap[sb]? = some (.cells cells t)
  row : W.ownsRow W0.heap.size e size v n xs
  keep : Keep (fun x => x = sb) W0 W
  lt : sb < W0.heap.size
section
variable {W0 W W' : World} {sb n m i : Nat} {t e : TypeId} {cells : Array Value} {size : Nat} {v v' : Value} {xs ys : List Value}
theorem FldIs.below (h : FldIs W0 W sb t cells e size v n xs) (hb : Below W.heap.size W W') : FldIs W0 W' sb t cells e size v n xs :=
  ⟨blk_below hb (blk_lt h.blk) h.blk, own_below h.row hb (Nat.le_refl _), h.keep.trans (G := fun _ => False) ⟨hb.os, hb.tape, hb.output, hb.size, fun x hx _ => hb.block x hx⟩ (fun x hx => hx.elim), h.lt⟩
theorem FldIs.drew (h : FldIs W0 W sb t cells e size v n xs) : FldIs W0 W.drew sb t cells e size v n xs := h.below ⟨rfl, rfl, rfl, Nat.le_refl _, fun _ _ => rfl⟩
theorem FldIs.put (h : FldIs W0 W sb t cells e size v n xs) (hk : Keep (fun g => v.ownBlock = some g) W W') (ho : W'.ownsRow W0.heap.size e size v' m ys) (i : Nat) :
    FldIs W0 (W'.setCell ⟨sb, i, none⟩ v') sb t (cells.setIfInBounds i v') e size v' m ys := by
  have hne : ∀ g, v.ownBlock = some g → g ≠ sb := fun g hg he => by have := own_base h.row g hg; have := h.lt; omega
  have hk2 : Keep (fun x => x = sb) W' (W'.setCell ⟨sb, i, none⟩ v') := (Keep.refl (fun x => x = sb) W').setCell (p := ⟨sb, i, none⟩) (.inl rfl) _
  have hb := hk.blk h.blk (fun hg => hne sb hg rfl)
  refine ⟨blk_set hb i v', own_keep ho hk2 (fun g hg he => ?_), ?_, h.lt⟩
  · have := own_base ho g hg; have := h.lt; omega
  · exact (h.keep.trans hk (fun x hx => .inr (own_base h.row x hx))).trans hk2 (fun x hx => .inl hx)
end
theorem Keep.keepCell {F : Nat → Prop} {w w' : World} (k : Keep F w w') {a : Addr} {v : Value} (h : w.cell? a = some v) (hf : ¬ F a.block := by intro _; contradiction) : w'.cell? a = some v :=
  (World.cell?_of_block (w := w) (k.block a.block (World.block_lt_of_cell? w a h) hf)).trans h
theorem own_addr {w : World} {base n m c : Nat} {e : TypeId} {size : Nat} {A : Option Addr} {xs : List Value} (h : w.ownsRow base e size (.slice A m c) n xs) : ∀ a, A = some a → base ≤ a.block := by
  intro a ha
  rcases h.2 with ⟨h1, _⟩ | ⟨g, cap, cur, h1, hb, _⟩
  · injection h1 with h1 _ _
    rw [ha] at h1; cases h1
  · injection h1 with h1 _ _
    rw [ha] at h1
    injection h1 with h1
    rw [h1]; exact hb
structure CaseP where
  (l : List Nat) (cs : List Cls) (js : List Jn) (xs : List Spl)
structure CaseAt (w : World) (c : CaseP) (AL AC AJ AX : Option Addr) (cL cC cJ cX : Nat) : Prop where
  l : Sl1 w AL (fun x : Nat => .int .u16 (x : Int)) c.l
  cs : Sl w AC encCls 3 c.cs
  js : Sl w AJ encJn 2 c.js
  xs : Sl w AX encIS 2 c.xs
  cap : c.cs.length ≤ cC ∧ c.js.length ≤ cJ
theorem CaseAt.below {w w' : World} {c : CaseP} {AL AC AJ AX : Option Addr} {cL cC cJ cX : Nat} (h : CaseAt w c AL AC AJ AX cL cC cJ cX) {B : Nat} (hb : Below B w w') (hB : w.heap.size ≤ B) : CaseAt w' c AL AC AJ AX cL cC cJ cX :=
  ⟨h.l.below hb hB, h.cs.below hb hB, h.js.below hb hB, h.xs.below hb hB, h.cap⟩
structure CaseOk (c : CaseP) : Prop where
  sm : ∀ x ∈ c.l, x < 65536
  len : c.l.length ≤ 60
  cs : c.cs.length ≤ 20
  js : c.js.length ≤ 20
  xs : c.xs.length ≤ 40
  tx : ∀ x ∈ c.xs, x.2.length ≤ 100
def CaseP.T (c : CaseP) : List Ent := growT c.l (min (c.l.length / 2) 30)
def CaseP.spec (c : CaseP) : SpecP := ⟨false, mrgsT c.T, [], someX c.xs (min c.xs.length 6), someC c.cs, someJ c.js⟩
theorem MapOf.look {α : Type} {P : Program} {K E : TypeId} {kv : α → Value} {w : World} {b n : Nat} {f : α → Option Int} (h : MapOf P K E kv w b n f) (law : Keyed P K) {t : TypeId} (ht : P.underlying t = some (.map K E)) (he : P.underlying E = some (.int .i64)) (hz : (zeroValue E).run P w = .ok (.int .i64 0) w) (y : α) (hkey : ∃ l, keyOf P K (kv y) = some l) :
    (Instr.lookup t (.map (some b)) (kv y) true).run P w = .ok (.tuple #[.int .i64 ((f y).getD 0), .bool (f y).isSome]) w := by
  obtain ⟨D, hown, hD, hf⟩ := h
  obtain ⟨l, hl⟩ := hkey
  obtain ⟨h1, h2⟩ := hf y l hl
  have hw0 : (Lit.int .i64 0).wf = true := by decide
  obtain ⟨v, ps, hrun, hv⟩ := hown.look_ok law ht hz (plainElem_int he hw0) hl
  obtain ⟨c, rfl, hc, hwc⟩ := plainElem_int_inv he hv
  rw [hrun, h1]
  simp only [Prod.mk.injEq] at hc
  have hc := hc.1
  cases hy : f y with
  | none =>
    rw [hy] at h1
    have := atKey_of_not_has (by rw [h1]; rfl) (.lit (.int .i64 0) : DataW Unit)
    rw [this] at hc
    cases hc
    rfl
  | some v =>
    rw [h2 v hy] at hc
    cases hc
    rfl
structure MkIs (w W : World) (base mb mi mt : Nat) (sv : Value) (fs : Nat → Bool) (mo : Nat) (M : List Spl) (id : Int) (tx : List UInt8) (z : ByteArray) (bx : Nat) : Prop where
  blk : W.heap[mb]? = some (.cells (markA sv mi mt fs mo) 260)
  box : W.heap[bx]? = some (.cells #[.int .i64 id, .string z] 170)
  row : W.ownsRow base 170 2 sv M.length (M.flatMap encIS)
  ids : MapOf Tryz.prog 3 3 (Value.int .i64) W mi (M.length + 1) (fun x => if x = id then some (M.length : Int) else (fndI M x).map Int.ofNat)
  txs : MapOf Tryz.prog 9 3 strV W mt (M.length + 1) (fun x => if x = tx then some (M.length : Int) else (fndX M x).map Int.ofNat)
  keep : Keep (fun g => base ≤ g) w W
  lt : base ≤ mb ∧ base ≤ mi ∧ base ≤ mt
  ne : mi ≠ mt
section
variable {w W W' : World} {base mb mi mt : Nat} {sv : Value} {fs : Nat → Bool} {mo : Nat} {M : List Spl} {id : Int} {tx : List UInt8} {z : ByteArray} {bx : Nat}
theorem MkIs.keepF {F : Nat → Prop} (h : MkIs w W base mb mi mt sv fs mo M id tx z bx) (k : Keep F W W') (h1 : ¬ F mb) (h2 : ¬ F bx) (h3 : ¬ F mi) (h4 : ¬ F mt) (h5 : ∀ g, sv.ownBlock = some g → ¬ F g) (h6 : ∀ x, F x → base ≤ x ∨ w.heap.size ≤ x) : MkIs w W' base mb mi mt sv fs mo M id tx z bx :=
  ⟨k.blk h.blk h1, k.blk h.box h2, own_keep h.row k h5, h.ids.keep k h3, h.txs.keep k h4, h.keep.trans k h6, h.lt, h.ne⟩
theorem MkIs.drew (h : MkIs w W base mb mi mt sv fs mo M id tx z bx) : MkIs w W.drew base mb mi mt sv fs mo M id tx z bx :=
  h.keepF ((Keep.refl (fun _ => False) W).drew) (fun h => h) (fun h => h) (fun h => h) (fun h => h) (fun _ _ h => h) (fun _ h => h.elim)
theorem MkIs.ne_box (h : MkIs w W base mb mi mt sv fs mo M id tx z bx) : bx ≠ mb := by
  intro e
  have h1 := h.box
  rw [e, h.blk] at h1
  simp at h1
theorem MkIs.put (h : MkIs w W base mb mi mt sv fs mo M id tx z bx) (i : Nat) (v : Value) {sv' : Value} {fs' : Nat → Bool} {mo' : Nat} (he : (markA sv mi mt fs mo).setIfInBounds i v = markA sv' mi mt fs' mo') :
    (W.setCell ⟨mb, i, none⟩ v).heap[mb]? = some (.cells (markA sv' mi mt fs' mo') 260) ∧ (W.setCell ⟨mb, i, none⟩ v).heap[bx]? = some (.cells #[.int .i64 id, .string z] 170) ∧
    (W.setCell ⟨mb, i, none⟩ v).ownsRow base 170 2 sv M.length (M.flatMap encIS) ∧
    MapOf Tryz.prog 3 3 (Value.int .i64) (W.setCell ⟨mb, i, none⟩ v) mi (M.length + 1) (fun x => if x = id then some (M.length : Int) else (fndI M x).map Int.ofNat) ∧
    MapOf Tryz.prog 9 3 strV (W.setCell ⟨mb, i, none⟩ v) mt (M.length + 1) (fun x => if x = tx then some (M.length : Int) else (fndX M x).map Int.ofNat) ∧ Keep (fun g => base ≤ g) w (W.setCell ⟨mb, i, none⟩ v) := by
  have k : Keep (fun g => g = mb) W (W.setCell ⟨mb, i, none⟩ v) := (Keep.refl (fun g => g = mb) W).setCell (p := ⟨mb, i, none⟩) (.inl rfl) v
  refine ⟨?_, k.blk h.box h.ne_box, own_keep h.row k (fun g hg e => row_ne h.row h.blk (by decide) (by rw [hg, e])), h.ids.keep k (h.ids.blk_ne h.blk), h.txs.keep k (h.txs.blk_ne h.blk), h.keep.trans k (fun x hx => .inl (by rw [hx]; exact h.lt.1))⟩
  have := blk_set h.blk i v
  rw [he] at this
  exact this
end
theorem CaseP.adds (c : CaseP) : AddsT c.T := addsT_grow c.l (min (c.l.length / 2) 30)
theorem CaseP.ok (c : CaseP) : OkT c.T := c.adds.1
theorem mrgs_right {T : List Ent} (hT : OkT T) : (mrgsT T).all mrgR = true := by
  rw [List.all_eq_true]
  intro m hm
  obtain ⟨k, hk, rfl⟩ := List.getElem_of_mem hm
  obtain ⟨_, h1, h2, h3, h4⟩ := mrgs_ok hT (List.getElem?_eq_getElem hk)
  have hs := hT.small
  have : 256 + k < T.length := by rw [mrgs_len] at hk; omega
  unfold mrgR inR
  simp only [Bool.and_eq_true, decide_eq_true_eq]
  omega
theorem CaseP.right (c : CaseP) : rightS c.spec = true := by
  have hT := c.ok
  have hs := hT.small
  have l0 : (mrgsT c.T).length ≤ 744 := by rw [mrgs_len]; omega
  have l1 := someX_len c.xs (min c.xs.length 6)
  have l2 := someC_len c.cs
  have l3 := someJ_len c.js
  have h1 : headR c.spec = true := rfl
  have h2 : (decide (((c.spec.ms.length : Nat) : Int) ≤ 744) && c.spec.ms.all mrgR) = true := by
    show (decide ((((mrgsT c.T).length : Nat) : Int) ≤ 744) && (mrgsT c.T).all mrgR) = true
    rw [mrgs_right hT]; simp; omega
  have h3 : (decide (((c.spec.ts.length : Nat) : Int) ≤ 744) && c.spec.ts.all txtL) = true := rfl
  have h4 : (decide (((c.spec.xs.length : Nat) : Int) ≤ 32) && c.spec.xs.all splL) = true := by
    rw [Bool.and_eq_true, decide_eq_true_eq, List.all_eq_true]
    refine ⟨by show (((someX c.xs (min c.xs.length 6)).length : Nat) : Int) ≤ 32; omega, fun x hx => ?_⟩
    obtain ⟨k, hk, rfl⟩ := List.getElem_of_mem hx
    have := ((okX_iff _).1 (someX_ok c.xs (min c.xs.length 6))).2 k hk
    have h5 := this.1
    unfold rightX at h5
    simp only [Bool.and_eq_true, decide_eq_true_eq] at h5
    have hk' : k < (someX c.xs (min c.xs.length 6)).length := hk
    show splR ((someX c.xs (min c.xs.length 6))[k].1, bs (someX c.xs (min c.xs.length 6))[k].2) = true
    unfold splR inR
    simp only [Bool.and_eq_true, decide_eq_true_eq, bs_size]
    omega
  have h5 : (decide (((c.spec.cs.length : Nat) : Int) ≤ 64) && c.spec.cs.all clsR) = true := by
    rw [Bool.and_eq_true, decide_eq_true_eq, List.all_eq_true]
    refine ⟨by show (((someC c.cs).length : Nat) : Int) ≤ 64; omega, fun x hx => ?_⟩
    have := List.all_eq_true.1 (someC_ok c.cs) x hx
    unfold spanB at this
    unfold clsR inR
    simp only [Bool.and_eq_true, decide_eq_true_eq] at this ⊢
    omega
  have h6 : (decide (((c.spec.js.length : Nat) : Int) ≤ 64) && c.spec.js.all jnR) = true := by
    rw [Bool.and_eq_true, decide_eq_true_eq, List.all_eq_true]
    refine ⟨by show (((someJ c.js).length : Nat) : Int) ≤ 64; omega, fun x hx => ?_⟩
    have := List.all_eq_true.1 (someJ_ok c.js) x hx
    unfold jnB clsB at this
    unfold jnR inR
    simp only [Bool.and_eq_true, decide_eq_true_eq] at this ⊢
    omega
  unfold rightS
  rw [h1, h2, h3, h4, h5, h6]
  rfl
structure RVoc where
  (A1 A2 A3 A4 A5 : Option Addr) (c1 c2 c3 c4 c5 : Nat)
def RVoc.val (r : RVoc) (c : CaseP) : Value := .agg #[.slice r.A1 c.T.length r.c1, .slice r.A2 (mrgsT c.T).length r.c2, .slice r.A3 (someC c.cs).length r.c3, .slice r.A4 (someJ c.js).length r.c4, .slice r.A5 (someX c.xs (min c.xs.length 6)).length r.c5]
structure RVocIs (w : World) (base : Nat) (c : CaseP) (r : RVoc) : Prop where
  ref : RefIs w base c.T (.slice r.A1 c.T.length r.c1) (.slice r.A2 (mrgsT c.T).length r.c2)
  cs : Sl w r.A3 encCls 3 (someC c.cs)
  js : Sl w r.A4 encJn 2 (someJ c.js)
  xs : Sl w r.A5 encIS 2 (someX c.xs (min c.xs.length 6))
theorem RVocIs.below {w w' : World} {base B : Nat} {c : CaseP} {r : RVoc} (h : RVocIs w base c r) (hb : Below B w w') (hB : w.heap.size ≤ B) : RVocIs w' base c r :=
  ⟨h.ref.below hb hB, h.cs.below hb hB, h.js.below hb hB, h.xs.below hb hB⟩
def AllSl (w : World) (g : Nat) : Prop := ∀ o v, w.cell? ⟨g, o, none⟩ = some v → ∃ A n c, v = .slice A n c
theorem Sl.keepS {α : Type} {w w' : World} {A : Option Addr} {enc : α → List Value} {sz g : Nat} {xs : List α} (h : Sl w A enc sz xs) (k : Keep (fun x => x = g) w w') (hg : AllSl w g) (he : ∀ (x : α) (j : Nat) (A : Option Addr) (n c : Nat), (enc x)[j]? ≠ some (Value.slice A n c)) : Sl w' A enc sz xs := by
  intro i x hx
  obtain ⟨b, o, e, hc⟩ := h i x hx
  refine ⟨b, o, e, fun j v hv => ?_⟩
  have h1 := hc j v hv
  have hb : b ≠ g := by
    intro hbg
    rw [hbg] at h1
    obtain ⟨A, n, c, rfl⟩ := hg _ _ h1
    exact he x j A n c hv
  have hlt : b < w.heap.size := by
    apply Classical.byContradiction
    intro hn
    have h0 : w.heap[b]? = none := by simp; omega
    simp [World.cell?, h0] at h1
  have hbk := k.block b hlt hb
  simp only [World.cell?] at h1 ⊢
  rw [hbk]
  exact h1
theorem encM_ns (x : Int × Int) (j : Nat) (A : Option Addr) (n c : Nat) : (encM x)[j]? ≠ some (.slice A n c) := by
  rcases j with _ | _ | j <;> simp [encM]
theorem encIS_ns (x : Int × List UInt8) (j : Nat) (A : Option Addr) (n c : Nat) : (encIS x)[j]? ≠ some (.slice A n c) := by
  rcases j with _ | _ | j <;> simp [encIS, strV]
theorem encCls_ns (x : Cls) (j : Nat) (A : Option Addr) (n c : Nat) : (encCls x)[j]? ≠ some (.slice A n c) := by
  rcases j with _ | _ | _ | j <;> simp [encCls]
theorem encJn_ns (x : Jn) (j : Nat) (A : Option Addr) (n c : Nat) : (encJn x)[j]? ≠ some (.slice A n c) := by
  rcases j with _ | _ | j <;> simp [encJn]
theorem RVocIs.keepS {w w' : World} {base g : Nat} {c : CaseP} {r : RVoc} (h : RVocIs w base c r) (k : Keep (fun x => x = g) w w') (hb : g < base) (hg : AllSl w g) : RVocIs w' base c r :=
  ⟨h.ref.keep k (fun x hx => by omega), Sl.keepS h.cs k hg encCls_ns, Sl.keepS h.js k hg encJn_ns, Sl.keepS h.xs k hg encIS_ns⟩
theorem Sl1.keepS {α : Type} {w w' : World} {A : Option Addr} {enc : α → Value} {g : Nat} {xs : List α} (h : Sl1 w A enc xs) (k : Keep (fun x => x = g) w w') (hg : AllSl w g) (he : ∀ (x : α) (A : Option Addr) (n c : Nat), enc x ≠ Value.slice A n c) : Sl1 w' A enc xs := by
  intro i x hx
  obtain ⟨b, o, e, h1⟩ := h i x hx
  refine ⟨b, o, e, ?_⟩
  have hb : b ≠ g := by
    intro hbg
    rw [hbg] at h1
    obtain ⟨A, n, c, h2⟩ := hg _ _ h1
    exact he x A n c h2
  have hlt : b < w.heap.size := by
    apply Classical.byContradiction
    intro hn
    have h0 : w.heap[b]? = none := by simp; omega
    simp [World.cell?, h0] at h1
  have hbk := k.block b hlt hb
  simp only [World.cell?] at h1 ⊢
  rw [hbk]
  exact h1
theorem SpecAt.keepS {w w' : World} {s : SpecP} {AM AT AX AC AJ : Option Addr} {g : Nat} (h : SpecAt w s AM AT AX AC AJ) (k : Keep (fun x => x = g) w w') (hg : AllSl w g) : SpecAt w' s AM AT AX AC AJ :=
  ⟨Sl.keepS h.ms k hg encM_ns, Sl1.keepS h.ts k hg (fun x A n c => by simp [strV]), Sl.keepS h.xs k hg encIS_ns, Sl.keepS h.cs k hg encCls_ns, Sl.keepS h.js k hg encJn_ns, h.len⟩
theorem keep_cut {V0 w w' : World} {g : Nat} (hb : Below V0.heap.size V0 w) (k : Keep (fun x => x = g) w w') : ∃ V' : World, V'.heap.size = V0.heap.size ∧ Keep (fun x => x = g) V0 V' ∧ Below V'.heap.size V' w' := by
  have h1 := hb.size
  have h2 := k.size
  have hs : (w'.heap.extract 0 V0.heap.size).size = V0.heap.size := by simp; omega
  have hx : ∀ i, i < V0.heap.size → (w'.heap.extract 0 V0.heap.size)[i]? = w'.heap[i]? := by
    intro i hi
    simp [Array.getElem?_extract, hi]
    intro _
    omega
  refine ⟨{ w' with heap := w'.heap.extract 0 V0.heap.size }, hs, ⟨k.os.trans hb.os, k.tape.trans hb.tape, k.output.trans hb.output, by simp only [hs]; exact Nat.le_refl _, fun i hi hf => ?_⟩, ⟨rfl, rfl, rfl, by simp only [hs]; omega, fun i hi => ?_⟩⟩
  · simp only [hx i hi]
    rw [k.block i (by omega) hf, hb.block i hi]
  · simp only [hs] at hi
    simp only [hx i hi]
theorem VocAt.keepS {w w' : World} {base g : Nat} {p : VocP} {a : Array Value} {fz : Nat × Nat} (h : VocAt w base p none) (k : Keep (fun x => x = g) w w') (hgb : g < base) (hg : AllSl w g) (hc : w.heap[g]? = some (.cells a 38 fz)) : VocAt w' base p none := by
  obtain ⟨l, dn, st, se, us, h1, h2⟩ := h
  refine ⟨l, dn, st, se, us, ?_, ?_⟩
  · obtain ⟨V0, a1, a2, a3, a4, a5, a6⟩ := h1.org
    obtain ⟨V', e1, e2, e3⟩ := keep_cut a6 k
    have hlt := h1.lt
    have hg0 : AllSl V0 g := fun o v hv => hg o v (below_cell a6 (Nat.le_refl _) hv)
    have hbk : p.bk ≠ g := by
      intro hbg
      have h3 := (VocQ.bnd h1).1
      rw [hbg, hc] at h3
      injection h3 with h3
      injection h3 with _ h3 _
      exact absurd h3 (by decide)
    refine ⟨k.blk h1.blk (by omega), ⟨V', by omega, a2.keepS e2 hg0, a3.keep e2 (fun x hx hf => ?_), ⟨e2.blk a4.1 hbk, a4.2⟩, ?_, e3⟩, h1.lt⟩
    · subst hf
      have hl := a3.lt
      rcases hx with hx | hx | hx | hx
      · omega
      · have := own_base a3.row _ hx
        omega
      · omega
      · omega
    · have hl := a5.lt
      exact ⟨e2.blk a5.blk (by omega), own_keep a5.row e2 (fun x hx hf => by have := own_base a5.row _ hx; omega), a5.ids.keep e2 (by omega), a5.txs.keep e2 (by omega), a5.ne, a5.lt⟩
  · rcases h2 with h2 | ⟨r, h3, _⟩
    · exact .inl h2
    · exact absurd h3 (by simp)
theorem VocAt.less {w : World} {b base : Nat} {p : VocP} {g : Option Nat} (h : VocAt w b p g) (hle : base ≤ b) : VocAt w base p g := by
  obtain ⟨l, dn, st, se, us, h1, h2⟩ := h
  have := h1.lt
  exact ⟨l, dn, st, se, us, ⟨h1.blk, h1.org, by omega⟩, h2⟩
theorem RVocIs.less {w : World} {b base : Nat} {c : CaseP} {r : RVoc} (h : RVocIs w b c r) (hle : base ≤ b) : RVocIs w base c r := ⟨h.ref.less hle, h.cs, h.js, h.xs⟩
def dg (b n : Nat) : List Nat := if h : 1 < b ∧ 0 < n then n % b :: dg b (n / b) else []
termination_by n
decreasing_by exact Nat.div_lt_self h.2 h.1
def vl (b : Nat) : List Nat → Nat
  | [] => 0
  | x :: l => x + b * vl b l
def atL (l : List Nat) (i : Nat) : Nat := l[i]?.getD 0
theorem dg_zero (b : Nat) : dg b 0 = [] := by rw [dg]; simp
theorem dg_pos {b n : Nat} (hb : 1 < b) (h : 0 < n) : dg b n = n % b :: dg b (n / b) := by rw [dg, dif_pos ⟨hb, h⟩]
theorem vl_dg {b : Nat} (hb : 1 < b) (n : Nat) : vl b (dg b n) = n := by
  induction n using Nat.strongRecOn with
  | ind n ih =>
    rcases Nat.eq_zero_or_pos n with rfl | h
    · rw [dg_zero]; rfl
    · rw [dg_pos hb h, vl, ih _ (Nat.div_lt_self h hb)]
      exact Nat.mod_add_div n b
theorem dg_lt {b : Nat} (hb : 1 < b) (n : Nat) : ∀ x ∈ dg b n, x < b := by
  induction n using Nat.strongRecOn with
  | ind n ih =>
    rcases Nat.eq_zero_or_pos n with rfl | h
    · rw [dg_zero]; intro x hx; simp at hx
    · rw [dg_pos hb h]
      intro x hx
      rcases List.mem_cons.1 hx with rfl | hx
      · exact Nat.mod_lt _ (by omega)
      · exact ih _ (Nat.div_lt_self h hb) x hx
theorem atL_lt {b : Nat} {l : List Nat} (hb : 0 < b) (h : ∀ x ∈ l, x < b) (i : Nat) : atL l i < b := by
  unfold atL
  rcases Nat.lt_or_ge i l.length with hi | hi
  · rw [List.getElem?_eq_getElem hi]; exact h _ (List.getElem_mem _)
  · rw [List.getElem?_eq_none hi]; exact hb
theorem atL_get {l : List Nat} {i : Nat} (h : i < l.length) : atL l i = l[i] := by unfold atL; rw [List.getElem?_eq_getElem h]; rfl
theorem atL_ge {l : List Nat} {i : Nat} (h : l.length ≤ i) : atL l i = 0 := by unfold atL; rw [List.getElem?_eq_none h]; rfl
theorem atL_succ (x : Nat) (l : List Nat) (i : Nat) : atL (x :: l) (i + 1) = atL l i := rfl
theorem vl_zero {b : Nat} {l : List Nat} (h : ∀ i, atL l i = 0) : vl b l = 0 := by
  induction l with
  | nil => rfl
  | cons x l ih =>
    have h0 : x = 0 := h 0
    rw [vl, h0, ih (fun i => h (i + 1))]; simp
theorem vl_take_succ (b : Nat) (l : List Nat) (i : Nat) : vl b (l.take (i + 1)) = vl b (l.take i) + b ^ i * atL l i := by
  induction l generalizing i with
  | nil => simp [vl, atL]
  | cons x l ih =>
    cases i with
    | zero => simp [vl, atL]
    | succ i =>
      rw [List.take_succ_cons, List.take_succ_cons, vl, vl, ih, atL_succ, Nat.mul_add, ← Nat.add_assoc, Nat.pow_succ]
      congr 1
      rw [← Nat.mul_assoc, Nat.mul_comm (b ^ i) b]
theorem vl_take_drop (b : Nat) (l : List Nat) (i : Nat) (h : i ≤ l.length) : vl b l = vl b (l.take i) + b ^ i * vl b (l.drop i) := by
  induction l generalizing i with
  | nil => simp at h; subst h; simp [vl]
  | cons x l ih =>
    cases i with
    | zero => simp [vl]
    | succ i =>
      rw [List.take_succ_cons, List.drop_succ_cons, vl, vl, ih i (by simpa using h), Nat.mul_add, ← Nat.add_assoc, Nat.pow_succ]
      congr 1
      rw [← Nat.mul_assoc, Nat.mul_comm (b ^ i) b]
theorem vl_drop (b : Nat) (l : List Nat) (i : Nat) (h : i < l.length) : vl b (l.drop i) = atL l i + b * vl b (l.drop (i + 1)) := by
  rw [List.drop_eq_getElem_cons h, vl, atL_get h]
theorem vl_lt {b : Nat} {l : List Nat} (hb : 0 < b) (h : ∀ x ∈ l, x < b) : vl b l < b ^ l.length := by
  induction l with
  | nil => simp [vl]
  | cons x l ih =>
    have h1 := ih (fun y hy => h y (List.mem_cons_of_mem _ hy))
    have h2 := h x (List.mem_cons_self ..)
    rw [vl, List.length_cons, Nat.pow_succ]
    have h3 : b * (vl b l + 1) ≤ b * b ^ l.length := Nat.mul_le_mul_left _ h1
    rw [Nat.mul_add, Nat.mul_one] at h3
    rw [Nat.mul_comm (b ^ l.length) b]
    omega
theorem vl_append (b : Nat) (l r : List Nat) : vl b (l ++ r) = vl b l + b ^ l.length * vl b r := by
  have := vl_take_drop b (l ++ r) l.length (by simp)
  simpa using this
theorem vl_snoc (b : Nat) (l : List Nat) (x : Nat) : vl b (l ++ [x]) = vl b l + b ^ l.length * x := by
  rw [vl_append]; simp [vl]
theorem trim_dg {b : Nat} (hb : 1 < b) (l : List Nat) (h : ∀ x ∈ l, x < b) (n : Nat) (hn : n ≤ l.length) (h0 : ∀ i, n ≤ i → atL l i = 0) (h1 : n = 0 ∨ atL l (n - 1) ≠ 0) : dg b (vl b l) = l.take n := by
  induction l generalizing n with
  | nil => simp at hn; subst hn; simp [vl, dg_zero]
  | cons x l ih =>
    cases n with
    | zero => rw [vl_zero (fun i => h0 i (Nat.zero_le _)), dg_zero]; simp
    | succ m =>
      have hx := h x (List.mem_cons_self ..)
      have hl := fun y hy => h y (List.mem_cons_of_mem _ hy)
      have hm : m = 0 ∨ atL l (m - 1) ≠ 0 := by
        rcases Nat.eq_zero_or_pos m with h2 | h2
        · exact Or.inl h2
        · right
          rcases h1 with h1 | h1
          · omega
          · rw [show m + 1 - 1 = (m - 1) + 1 by omega, atL_succ] at h1; exact h1
      have e := ih hl m (by simpa using hn) (fun i hi => by have := h0 (i + 1) (by omega); rwa [atL_succ] at this) hm
      have hpos : 0 < x + b * vl b l := by
        rcases Nat.eq_zero_or_pos m with h2 | h2
        · subst h2
          rcases h1 with h1 | h1
          · omega
          · have : x ≠ 0 := h1
            omega
        · have : vl b l ≠ 0 := by
            intro hv
            rw [hv, dg_zero] at e
            have := congrArg List.length e
            rw [List.length_take] at this
            have : m ≤ l.length := by simpa using hn
            simp at *
            omega
          have : 0 < b * vl b l := Nat.mul_pos (by omega) (Nat.pos_of_ne_zero this)
          omega
      rw [vl, dg_pos hb hpos, Nat.add_mul_mod_self_left, Nat.mod_eq_of_lt hx, Nat.add_mul_div_left _ _ (by omega), Nat.div_eq_of_lt hx, Nat.zero_add, e, List.take_succ_cons]
theorem dg_last {b : Nat} (hb : 1 < b) (n : Nat) : dg b n = [] ∨ atL (dg b n) ((dg b n).length - 1) ≠ 0 := by
  induction n using Nat.strongRecOn with
  | ind n ih =>
    rcases Nat.eq_zero_or_pos n with rfl | h
    · left; exact dg_zero b
    · right
      rw [dg_pos hb h]
      rcases ih _ (Nat.div_lt_self h hb) with e | e
      · rw [e]
        have h0 : n / b = 0 := by have := vl_dg hb (n / b); rw [e] at this; exact this.symm
        have : n < b := by rcases Nat.div_eq_zero_iff.1 h0 with h | h <;> omega
        simp [atL, Nat.mod_eq_of_lt this]; omega
      · cases hd : dg b (n / b) with
        | nil => rw [hd] at e; exact absurd rfl e
        | cons y l =>
          rw [hd] at e
          simpa [atL] using e
theorem dg_ne_nil {b n : Nat} (hb : 1 < b) (h : 0 < n) : dg b n ≠ [] := by rw [dg_pos hb h]; simp
theorem dg_len_zero {b n : Nat} (hb : 1 < b) : (dg b n).length = 0 ↔ n = 0 := by
  constructor
  · intro h
    have := vl_dg hb n
    rw [List.eq_nil_of_length_eq_zero h] at this
    exact this.symm
  · rintro rfl; rw [dg_zero]; rfl
theorem pow_le_of_dg {b n : Nat} (hb : 1 < b) (h : 0 < n) : b ^ ((dg b n).length - 1) ≤ n := by
  have hl : 0 < (dg b n).length := List.length_pos_iff.2 (dg_ne_nil hb h)
  rcases dg_last hb n with e | e
  · exact absurd e (dg_ne_nil hb h)
  · have := vl_take_succ b (dg b n) ((dg b n).length - 1)
    rw [show (dg b n).length - 1 + 1 = (dg b n).length by omega, List.take_length, vl_dg hb] at this
    have h2 : b ^ ((dg b n).length - 1) * 1 ≤ b ^ ((dg b n).length - 1) * atL (dg b n) ((dg b n).length - 1) := Nat.mul_le_mul_left _ (Nat.pos_of_ne_zero e)
    omega
theorem lt_pow_dg {b : Nat} (hb : 1 < b) (n : Nat) : n < b ^ (dg b n).length := by
  have := vl_lt (by omega) (dg_lt hb n)
  rwa [vl_dg hb] at this
theorem dg_len_lt {b m n : Nat} (hb : 1 < b) (h : (dg b m).length < (dg b n).length) : m < n := by
  have h1 := lt_pow_dg hb m
  have hn : 0 < n := by
    rcases Nat.eq_zero_or_pos n with rfl | h2
    · rw [dg_zero] at h; simp at h
    · exact h2
  have h2 := pow_le_of_dg hb hn
  have h3 : b ^ (dg b m).length ≤ b ^ ((dg b n).length - 1) := Nat.pow_le_pow_right (by omega) (by omega)
  omega
theorem dg_len_le {b n k : Nat} (hb : 1 < b) (h : n < b ^ k) : (dg b n).length ≤ k := by
  rcases Nat.eq_zero_or_pos n with rfl | hn
  · rw [dg_zero]; exact Nat.zero_le _
  · have h2 := pow_le_of_dg hb hn
    have h3 : b ^ ((dg b n).length - 1) < b ^ k := by omega
    have := (Nat.pow_lt_pow_iff_right hb).1 h3
    omega
theorem vl_lt_at {b : Nat} {l r : List Nat} {i : Nat} (hb : 1 < b) (hl : ∀ x ∈ l, x < b) (hr : ∀ x ∈ r, x < b) (h1 : i < l.length) (h2 : i < r.length) (he : vl b (l.drop (i + 1)) = vl b (r.drop (i + 1))) (hi : atL l i < atL r i) : vl b l < vl b r := by
  rw [vl_take_drop b l i (by omega), vl_take_drop b r i (by omega), vl_drop b l i h1, vl_drop b r i h2, he]
  have h3 : vl b (l.take i) < b ^ i := by
    have := vl_lt (b := b) (l := l.take i) (by omega) (fun x hx => hl x (List.mem_of_mem_take hx))
    rwa [List.length_take, Nat.min_eq_left (by omega)] at this
  have h4 : b ^ i * (atL l i + 1) ≤ b ^ i * atL r i := Nat.mul_le_mul_left _ hi
  rw [Nat.mul_add, Nat.mul_one] at h4
  rw [Nat.mul_add, Nat.mul_add]
  omega
abbrev B32 : Nat := 4294967296
def u32V (x : Nat) : Value := .int .u32 (x : Int)
def NatIs (w : World) (v : Value) (n : Nat) : Prop := ∃ A c, v = .agg #[.slice A (dg B32 n).length c] ∧ Sl1 w A u32V (dg B32 n) ∧ (dg B32 n).length ≤ c
theorem NatIs.below {w w' : World} {v : Value} {n : Nat} (h : NatIs w v n) {B : Nat} (hb : Below B w w') (hB : w.heap.size ≤ B) : NatIs w' v n := by
  obtain ⟨A, c, rfl, h1, h2⟩ := h
  exact ⟨A, c, rfl, h1.below hb hB, h2⟩
theorem info_u32 : (Tryz.prog.info? 129).map (fun i => (i.zero, i.size, i.bytes)) = some (some (.int .u32 0), 1, 4) := by kernel_rfl
theorem load_nat {w : World} {r : Nat} {v : Value} {t : TypeId} (h : w.heap[r]? = some (.cells #[v] t)) : (loadVar 59 ⟨r, 0, none⟩).run Tryz.prog w = .ok (.agg #[v]) w := by
  have n0 := blk_cell h 0
  simp only [List.getElem?_toArray, List.getElem?_cons_zero] at n0
  simp [go_sem, n0]
theorem Sl1.take {α : Type} {w : World} {A : Option Addr} {enc : α → Value} {xs : List α} (h : Sl1 w A enc xs) (k : Nat) : Sl1 w A enc (xs.take k) := by
  intro i x hx
  rw [List.getElem?_take] at hx
  split at hx
  · exact h i x hx
  · cases hx
theorem trim_at (l : List Nat) (A : Option Addr) (c : Nat) (w : World) (h : Sl1 w A u32V l) (hc : l.length ≤ c) (hb : ∀ x ∈ l, x < B32) (hlen : l.length < 1000000000) :
    Calls Tryz.prog 90 #[.slice A l.length c] w fun e w' => ∃ v, e = .returned v ∧ NatIs w' v (vl B32 l) ∧ Below w.heap.size w w' ∧ ∃ n c', v = .agg #[.slice A n c'] := by
  have HL := Lib.hid h
  have HB := Lib.hid hb
  clear h hb
  go_enter Tryz.func90, Tryz.ntmps90
  go_wp2_with fail
  have HBEL := Lib.hid ((Below.refl w.heap.size w).alloc (Nat.le_refl _) (.cells #[.slice none 0 0] 59))
  have HN := Lib.hid (blk_new w (.cells #[.slice none 0 0] 59))
  generalize hW : w.alloc (.cells #[.slice none 0 0] 59) = W0 at *
  obtain ⟨r, hr⟩ : ∃ r, w.heap.size = r := ⟨_, rfl⟩
  rw [hr]
  have HR := Lib.hid hr
  clear hW hr
  have f0 : W0.cell? ⟨r, 0, none⟩ = some (.slice none 0 0) := by have := blk_cell HN.out 0; rw [HR.out] at this; simpa using this
  have f1 : W0.frozen? ⟨r, 0, none⟩ = false := by have := blk_froz HN.out 0; rwa [HR.out] at this
  go_loopg [3] l.length (fun m v W => ∃ k : Nat, k = m ∧ v = .int .i64 (k : Int) ∧ k ≤ l.length ∧ (∀ i, k ≤ i → atL l i = 0) ∧ W = W0)
  case atStart => exact ⟨l.length, rfl, rfl, Nat.le_refl _, fun i hi => atL_ge hi, rfl⟩
  case round =>
    obtain ⟨k, rfl, rfl, hk, hz, rfl⟩ := hrel
    rename World => W1
    have HZ := Lib.hid hz
    clear hz
    have HNX : Hid (∀ v, (W1.setCell ⟨r, 0, none⟩ v).heap[r]? = some (.cells #[v] 59)) := Lib.hid (fun v => by have := blk_set HN.out 0 v; rw [HR.out] at this; simpa using this)
    have HBX : Hid (∀ v, Below w.heap.size w (W1.setCell ⟨r, 0, none⟩ v)) := Lib.hid (fun v => HBEL.out.setCell (p := ⟨r, 0, none⟩) (by rw [HR.out]; exact Nat.le_refl _) v)
    rcases Nat.eq_zero_or_pos k with rfl | hk0
    · have hE : (dg B32 (vl B32 l)) = [] := by rw [trim_dg (by decide) l HB.out 0 (Nat.zero_le _) HZ.out (Or.inl rfl)]; rfl
      have HE := Lib.hid hE
      clear hE
      have hcc : (0 : Int) ≤ (c : Int) := by omega
      go_wp2_with fail
      refine ret_cell1 rfl rfl (load_nat (HNX.out _)) ?_
      refine ⟨_, rfl, ⟨A, 0, by rw [HE.out]; rfl, by rw [HE.out]; exact Sl1.nil _ _ _, by rw [HE.out]; exact Nat.le_refl _⟩, HBX.out _, _, _, rfl⟩
    · obtain ⟨j, rfl⟩ : ∃ j, k = j + 1 := ⟨k - 1, by omega⟩
      obtain ⟨b, o, rfl, hcell⟩ := HL.out.at j (by omega)
      have j0 : (0 : Int) ≤ (j : Int) := by omega
      have j1 : (j : Int) < (l.length : Int) := by omega
      have wk : IntKind.i64.wrap ((j : Int) + 1 - 1) = (j : Int) := by rw [IntWalk.i64_in _ (by omega)]; omega
      have hcell' : W1.cell? ⟨b, o + j, none⟩ = some (.int .u32 (l[j] : Int)) := below_cell HBEL.out (Nat.le_refl _) hcell
      have HAJ := Lib.hid (atL_get (l := l) (i := j) (by omega))
      clear hcell
      generalize l[j] = x at *
      by_cases hx : x = 0
      · subst hx
        go_wp2_with fail
        go_roundg j
        case measure => omega
        case rel => exact ⟨j, rfl, rfl, by omega, fun i hi => by
          rcases Nat.eq_or_lt_of_le hi with e | e
          · rw [← e]; exact HAJ.out
          · exact HZ.out i (by omega), rfl⟩
      · have hx' : ¬ (x : Int) = 0 := by omega
        have HE : Hid (dg B32 (vl B32 l) = l.take (j + 1)) := Lib.hid (trim_dg (by decide) l HB.out (j + 1) hk HZ.out (Or.inr (by rw [Nat.add_sub_cancel, HAJ.out]; exact hx)))
        have hkc : ((j : Int) + 1) ≤ (c : Int) := by omega
        go_wp2_with fail
        refine ret_cell1 rfl rfl (load_nat (HNX.out _)) ?_
        have hln : (l.take (j + 1)).length = j + 1 := by rw [List.length_take, Nat.min_eq_left hk]
        refine ⟨_, rfl, ⟨some ⟨b, o, none⟩, j + 1, by rw [HE.out, hln], by rw [HE.out]; exact (HL.out.below (HBX.out _) (Nat.le_refl _)).take _, by rw [HE.out, hln]; exact Nat.le_refl _⟩, HBX.out _, _, _, rfl⟩
theorem trim_any (l : List Nat) (A : Option Addr) (c : Nat) (w : World) (h : Sl1 w A u32V l) (hc : l.length ≤ c) (hb : ∀ x ∈ l, x < B32) (hlen : l.length < 1000000000) :
    Calls Tryz.prog 90 #[.slice A l.length c] w fun e w' => ∃ v, e = .returned v ∧ NatIs w' v (vl B32 l) ∧ Below w.heap.size w w' := by
  refine (trim_at l A c w h hc hb hlen).mono ?_
  rintro e w1 ⟨v, h1, h2, h3, _⟩
  exact ⟨v, h1, h2, h3⟩
theorem own_len {w : World} {base n c : Nat} {e : TypeId} {size : Nat} {A : Option Addr} {xs : List Value} (h : w.ownsRow base e size (.slice A n c) n xs) : n ≤ c := by
  rcases h.2 with ⟨h1, h2⟩ | ⟨g', cap', cur, h1, hb, hg, hc1, hc2, hc3, ht⟩
  · omega
  · cases h1; exact hc1
theorem sl1_ne {V : World} {r : Nat} {A : Option Addr} {l : List Nat} {s : Value} {t : TypeId} (h : V.heap[r]? = some (.cells #[s] t)) (hs : ∀ x : Nat, s ≠ u32V x) (hl : Sl1 V A u32V l) (hne : l ≠ []) : ∀ a, A = some a → a.block ≠ r := by
  intro a ha e
  obtain ⟨x, l', rfl⟩ := List.exists_cons_of_ne_nil hne
  obtain ⟨b, o, hA, hc⟩ := hl 0 x rfl
  rw [hA] at ha
  cases ha
  simp only at e
  subst e
  rw [blk_cell h, Nat.add_zero] at hc
  rcases o with _ | o
  · simp at hc; exact hs _ hc
  · simp at hc
theorem sl1_put {V : World} {r : Nat} {A : Option Addr} {l : List Nat} {s : Value} {t : TypeId} (h : V.heap[r]? = some (.cells #[s] t)) (hs : ∀ x : Nat, s ≠ u32V x) (hl : Sl1 V A u32V l) (u : Value) : Sl1 (V.setCell ⟨r, 0, none⟩ u) A u32V l := by
  by_cases hne : l = []
  · subst hne; exact Sl1.nil _ _ _
  · exact sl1_keep hl (Keep.setCell (F := fun g => g = r) (p := ⟨r, 0, none⟩) (Keep.refl _ _) (Or.inl rfl) u) (sl1_ne h hs hl hne)
theorem NatIs.put {V : World} {r : Nat} {v : Value} {n : Nat} {s : Value} {t : TypeId} (hl : NatIs V v n) (h : V.heap[r]? = some (.cells #[s] t)) (hs : ∀ x : Nat, s ≠ u32V x) (u : Value) : NatIs (V.setCell ⟨r, 0, none⟩ u) v n := by
  obtain ⟨A, c, rfl, h1, h2⟩ := hl
  exact ⟨A, c, rfl, sl1_put h hs h1 u, h2⟩
theorem sl_ne_u32 (A : Option Addr) (n c : Nat) : ∀ x : Nat, Value.slice A n c ≠ u32V x := by intro x; unfold u32V; simp
theorem cell_facts {V : World} {r : Nat} {s : Value} {t : TypeId} (h : V.heap[r]? = some (.cells #[s] t)) : V.cell? ⟨r, 0, none⟩ = some s ∧ V.frozen? ⟨r, 0, none⟩ = false := by
  refine ⟨?_, blk_froz h 0⟩
  have := blk_cell h 0
  simpa using this
theorem cell_put {V : World} {r : Nat} {s : Value} {t : TypeId} (h : V.heap[r]? = some (.cells #[s] t)) (u : Value) : (V.setCell ⟨r, 0, none⟩ u).heap[r]? = some (.cells #[u] t) := by
  simpa using blk_set h 0 u
end Go.Proofs.YtkkcekgbnloegaaGreat
