/- Texts of several layers, one behind the other: Count8, Count9, Lat2, Ask0, Place0, Place1, AppU, Ask1, Place2, Place3, Place4, Place5, Place6, Lat3, PlaceB0, Lat4, PlaceE0, More, PlaceLawE. -/
import Derived.Test.YtkkcekgbnloegaaGreatZZE4
import Derived.WalkKit
import Derived.KernelRfl
import Derived.Lib.Hide
import Derived.Deep.QuietTactic
import Derived.BigQuiet
import Derived.OwnWalk
import Derived.Lib.Strings
import Derived.Deep.DeepCutAuto
import Derived.Deep.RegionHeld3
import Derived.StillTailTactics
import Derived.Maps.OwnSet
import Derived.Maps.OwnOps
import Derived.DeepKeys4
import Derived.WideKeyEntry
import Derived.Maps.AppendAt
import Derived.Test.YtkkcekgbnloegaaGreatProg
import Derived.Laws.ResultCell
import Derived.Laws.AppendOwnNone
import Derived.Laws.IdiomStrings
import Derived.Lib.AppendStr
import Derived.Deep.Slices
import Derived.Deep.Fields
import Derived.ChangeSame
import Derived.SliceStrings
import Derived.OpenShut
import Derived.Laws.LoneSync
import Derived.Laws.OwnMore
import Derived.Laws.MakeOwn
import Derived.Laws.Bits64b
import Derived.Laws.BitsAllLaws
import Derived.Tactics
import Derived.Tactics2
import Derived.Defers
import Derived.Laws.Pointers
import Derived.RegionTactic
import Derived.RegionCalls
import Derived.ChangeAlike
import Derived.Test.YtkkcekgbnloegaaGreatRows
import Derived.ProofKit
import Derived.ShutString
import Derived.ChangeOld
import Derived.Below
import Derived.Lib.SmallJoins
set_option maxRecDepth 100000
set_option linter.unusedVariables false
set_option linter.unusedSimpArgs false
namespace Go.Proofs.YtkkcekgbnloegaaGreat
open Go.RowKit Go.Maps Go.WideMaps
section
variable {w w' W W' : World} {base lb tr vb k c bx lx sb B0 : Nat} {p : VocP} {T : List Ent} {s s' : List UInt8} {A : Option Addr} {dn st se : Int} {fv : Value} {vals : List Value}
theorem LatIs.keepO (h : LatIs w base lb tr vb T s k A c dn st se fv vals) {b : Nat} {cs : Array Value} {t : TypeId} {fz : Nat × Nat} (hb : w.heap[b]? = some (.cells cs t fz)) (h1 : b ≠ lb) (h2 : t ≠ 48) (h3 : t ≠ 3) (hk : Keep (fun x => x = b) w w') : LatIs w' base lb tr vb T s k A c dn st se fv vals :=
  ⟨hk.blk h.blk (fun e => h1 e.symm), own_keep h.row hk (row_off h.row hb (fun e => h2 e.symm)), fun i hi => by
    obtain ⟨v, q1, q2⟩ := h.ids i hi
    exact ⟨v, q1, own_keep q2 hk (row_off q2 hb (fun e => h3 e.symm))⟩, h.lo⟩
structure LatF (w : World) (base lb : Nat) (p : VocP) (s : List UInt8) : Prop where
  lat : ∃ tr A c vals, LatIs w base lb tr p.vb p.T s s.length A c 0 0 0 (.slice none 0 0) vals
  voc : ∃ b0, VocAt w b0 p none
  lt : p.vb < lb
theorem LatF.latV (h : LatF w base lb p s) : LatV w base lb p s := by
  obtain ⟨tr, A, c, vals, h1⟩ := h.lat
  exact ⟨⟨tr, A, c, 0, 0, 0, _, vals, h1, .inl ⟨rfl, rfl, rfl⟩⟩, h.voc, h.lt⟩
theorem LatF.below (h : LatF w base lb p s) (hb : Below w.heap.size w w') : LatF w' base lb p s := by
  obtain ⟨tr, A, c, vals, h1⟩ := h.lat
  obtain ⟨b0, hv⟩ := h.voc
  exact ⟨⟨tr, A, c, vals, h1.below hb⟩, ⟨b0, hv.below hb (Nat.le_refl _)⟩, h.lt⟩
theorem LatF.keepO (h : LatF w base lb p s) {b : Nat} {cs : Array Value} {t : TypeId} {fz : Nat × Nat} (hb : w.heap[b]? = some (.cells cs t fz)) (h1 : b ≠ lb) (h2 : t ≠ 48) (h3 : t ≠ 3) (h4 : p.vb < b) (hk : Keep (fun x => x = b) w w') : LatF w' base lb p s := by
  obtain ⟨tr, A, c, vals, h0⟩ := h.lat
  obtain ⟨b0, hv⟩ := h.voc
  refine ⟨⟨tr, A, c, vals, h0.keepO hb h1 h2 h3 hk⟩, ⟨b0, hv.keep hk (fun x hx e => ?_)⟩, h.lt⟩
  rcases hx with hx | hx
  · omega
  · cases hx
theorem LatV.tag (h : LatV w base lb p s) : ∃ cs fz, w.heap[lb]? = some (.cells cs 142 fz) := by
  obtain ⟨tr, A, c, dn, st, se, fv, vals, h1, _⟩ := h.lat
  exact ⟨_, _, h1.blk⟩
theorem LatV.lt_size (h : LatV w base lb p s) : lb < w.heap.size := by
  obtain ⟨cs, fz, h1⟩ := h.tag
  exact blk_lt h1
theorem LatV.size (h : LatV w base lb p s) (id : Int) : Calls Tryz.prog 31 #[.pointer (some ⟨lb, 0, none⟩), .int .i64 id] w fun e w' => e = .returned (.int .i64 (lenT p.T id : Nat)) ∧ w' = w := by
  obtain ⟨tr, A, c, dn, st, se, fv, vals, h1, _⟩ := h.lat
  obtain ⟨b0, hv⟩ := h.voc
  exact lsize_any h1 hv id
theorem LatV.ats (h : LatV w base lb p s) (i : Nat) (hi : i < s.length) (hs : s.length ≤ 1000000) : Calls Tryz.prog 29 #[.pointer (some ⟨lb, 0, none⟩), .int .i64 (i : Int)] w fun e w' => (∃ v, e = .returned v ∧ IntsIs w' w.heap.size v (atP p.T s i)) ∧ Below w.heap.size w w' := by
  obtain ⟨tr, A, c, dn, st, se, fv, vals, h1, _⟩ := h.lat
  exact lat_any h1 i hi hs
structure SumV (w W : World) (base lb bx lx : Nat) (p : VocP) (s s' : List UInt8) : Prop where
  one : LatV W base lb p s
  two : LatF W bx lx p s'
  ne : lb ≠ lx
  blw : Below w.heap.size w W
  lo : w.heap.size ≤ lb
  lo2 : w.heap.size ≤ lx
theorem SumV.below (h : SumV w W base lb bx lx p s s') (hb : Below W.heap.size W W') : SumV w W' base lb bx lx p s s' :=
  ⟨h.one.below hb, h.two.below hb, h.ne, h.blw.trans (hb.mono h.blw.size), h.lo, h.lo2⟩
theorem SumV.drew (h : SumV w W base lb bx lx p s s') : SumV w W.drew base lb bx lx p s s' := h.below (Below.refl _ _).drew
theorem SumV.ask (h : SumV w W base lb bx lx p s s') (k : Keep (fun x => x = lb) W W') (h1 : LatV W' base lb p s) : SumV w W' base lb bx lx p s s' := by
  obtain ⟨cs, fz, hb⟩ := h.one.tag
  exact ⟨h1, h.two.keepO hb h.ne (by decide) (by decide) h.one.lt k, h.ne, h.blw.trans (k.below h.blw.size (fun x hx => by subst hx; exact h.lo)), h.lo, h.lo2⟩
structure SumI (w W : World) (base lb bx lx sb : Nat) (p : VocP) (s s' : List UInt8) (A : Option Addr) (kn c : Nat) (m : Nat) (A2 : Option Addr) (c2 : Nat) (l : List Int) : Prop where
  two : SumV w W base lb bx lx p s s'
  blk : W.heap[sb]? = some (.cells #[.slice A kn c] 59)
  nat : NatIs W (.agg #[.slice A kn c]) m
  row : ∀ g a b, W.cell? ⟨lb, 7, none⟩ = some (.slice (some ⟨g, 0, none⟩) a b) → g ≠ sb
  lo : lb < sb
  hi : lx < sb
  ids : ∃ b0, W.ownsRow b0 3 1 (.slice A2 l.length c2) l.length (l.map (Value.int .i64))
section
variable {kn m c2 : Nat} {A2 : Option Addr} {l : List Int}
theorem SumI.below (h : SumI w W base lb bx lx sb p s s' A kn c m A2 c2 l) (hb : Below W.heap.size W W') : SumI w W' base lb bx lx sb p s s' A kn c m A2 c2 l :=
  ⟨h.two.below hb, blk_below hb (blk_lt h.blk) h.blk, h.nat.below hb (Nat.le_refl _), fun g a b hg => h.row g a b ((below_cell7 hb h.two.one.lt_size).symm.trans hg), h.lo, h.hi, by obtain ⟨b0, hi⟩ := h.ids; exact ⟨b0, own_below hi hb (Nat.le_refl _)⟩⟩
theorem SumI.drew (h : SumI w W base lb bx lx sb p s s' A kn c m A2 c2 l) : SumI w W.drew base lb bx lx sb p s s' A kn c m A2 c2 l := h.below (Below.refl _ _).drew
theorem SumI.ask (h : SumI w W base lb bx lx sb p s s' A kn c m A2 c2 l) (k : Keep (fun x => x = lb) W W') (h1 : LatV W' base lb p s) (hr : RowN W W' lb) (hn : ∀ v m, NatIs W v m → NatIs W' v m) : SumI w W' base lb bx lx sb p s s' A kn c m A2 c2 l := by
  obtain ⟨cs, fz, hb⟩ := h.two.one.tag
  have hlo := h.lo
  refine ⟨h.two.ask k h1, k.blk h.blk (by omega), hn _ _ h.nat, fun g a b hg => ?_, h.lo, h.hi, by obtain ⟨b0, hi⟩ := h.ids; exact ⟨b0, own_keep hi k (row_off hi hb (by decide))⟩⟩
  rcases hr.1 g a b hg with h9 | h9
  · have := blk_lt h.blk
    omega
  · exact h.row g a b h9
theorem SumI.put (h : SumI w W base lb bx lx sb p s s' A kn c m A2 c2 l) {A' : Option Addr} {k' c' m' : Nat} (hn : NatIs W (.agg #[.slice A' k' c']) m') :
    SumI w (W.setCell ⟨sb, 0, none⟩ (.slice A' k' c')) base lb bx lx sb p s s' A' k' c' m' A2 c2 l := by
  have hk : Keep (fun x => x = sb) W (W.setCell ⟨sb, 0, none⟩ (.slice A' k' c')) := (Keep.refl (fun x => x = sb) W).setCell (p := ⟨sb, 0, none⟩) (.inl rfl) _
  have h1 := lat_box h.two.one h.blk hn h.lo h.row (.slice A' k' c')
  have hlo := h.lo
  have hhi := h.hi
  have hvb := h.two.one.lt
  refine ⟨⟨h1.1, h.two.two.keepO h.blk (by omega) (by decide) (by decide) (by omega) hk, h.two.ne, h.two.blw.setCell (p := ⟨sb, 0, none⟩) (Nat.le_trans h.two.lo (Nat.le_of_lt hlo)) _, h.two.lo, h.two.lo2⟩, ?_, h1.2, fun g a b hg => h.row g a b ?_, hlo, hhi, by obtain ⟨b0, hi⟩ := h.ids; exact ⟨b0, own_keep hi hk (row_off hi h.blk (by decide))⟩⟩
  · have := blk_set h.blk 0 (.slice A' k' c')
    simpa using this
  · rw [World.cell?_setCell_far W ⟨sb, 0, none⟩ ⟨lb, 7, none⟩ _ (show sb ≠ lb by omega)] at hg
    exact hg
theorem SumI.c0 (h : SumI w W base lb bx lx sb p s s' A kn c m A2 c2 l) : W.cell? ⟨sb, 0, none⟩ = some (.slice A kn c) := by have := blk_cell h.blk 0; simpa using this
theorem SumI.held (h : SumI w W base lb bx lx sb p s s' A kn c m A2 c2 l) {q b o : Nat} {id : Int} (hA : A2 = some ⟨b, o, none⟩) (hl : l[q]? = some id) : W.cell? ⟨sb, 0, none⟩ = some (.slice A kn c) ∧ W.cell? ⟨b, o + q, none⟩ = some (.int .i64 id) := by
  refine ⟨h.c0, ?_⟩
  obtain ⟨b0, hi⟩ := h.ids
  obtain ⟨b', o', e, hc⟩ := own_sl1 hi q id hl
  rw [hA] at e
  injection e with e
  injection e with e1 e2
  subst e1
  subst e2
  exact hc
theorem sumA_snoc (T : List Ent) (s : List UInt8) (k q : Nat) {l : List Int} {id : Int} (hl : l[q]? = some id) : sumA T (s.drop k) (l.take (q + 1)) = sumA T (s.drop k) (l.take q) + cntJ T s (k + lenT T id) := by
  rw [List.take_add_one, hl, sumA_app]
  show _ + sumA T (s.drop k) [id] = _
  rw [sumA_one, List.drop_drop]
  rfl
theorem SumV.begin (h : SumV w W base lb bx lx p s s') (hb : Below (W.alloc (.cells #[.slice none 0 0] 59)).heap.size (W.alloc (.cells #[.slice none 0 0] 59)) W') {b0 : Nat} (hi : W'.ownsRow b0 3 1 (.slice A2 l.length c2) l.length (l.map (Value.int .i64))) :
    SumI w W' base lb bx lx W.heap.size p s s' none 0 0 0 A2 c2 l := by
  have ha := (Below.refl W.heap.size W).alloc (Nat.le_refl _) (.cells #[.slice none 0 0] 59)
  have hb2 := ha.trans (hb.mono ha.size)
  have hn := blk_new W (.cells #[.slice none 0 0] 59)
  refine ⟨h.below hb2, blk_below hb (blk_lt hn) hn, NatIs.zero _, fun g a b hg => ?_, h.one.lt_size, h.two.latV.lt_size, b0, hi⟩
  have := h.one.row_lt ((below_cell7 hb2 h.one.lt_size).symm.trans hg)
  omega
theorem FrIs.keepN {w0 : World} {g n : Nat} {f : Nat → Nat} {vs : List Value} (h : FrIs w0 W g n f vs) {b : Nat} {cs : Array Value} {t : TypeId} {fz : Nat × Nat} (hb : W.heap[b]? = some (.cells cs t fz)) (ht : t ≠ 59) (k : Keep (fun x => x = b) W W') (hn : ∀ v m, NatIs W v m → NatIs W' v m) : FrIs w0 W' g n f vs :=
  ⟨own_keep h.row k (row_off h.row hb (fun e => ht e.symm)), fun j hj => by
    obtain ⟨A, k2, c2, h1, h2⟩ := h.nat j hj
    exact ⟨A, k2, c2, h1, hn _ _ h2⟩⟩
end
end
section
variable {w w' W W' : World} {base lb : Nat} {p : VocP} {s : List UInt8}
theorem LatV.bytes (h : LatV w base lb p s) : Calls Tryz.prog 30 #[.pointer (some ⟨lb, 0, none⟩)] w fun e w' => e = .returned (.string (bs s)) ∧ w' = w := by
  obtain ⟨tr, A, c, dn, st, se, fv, vals, h1, _⟩ := h.lat
  exact lbytes_any h1
theorem LatV.atOut (h : LatV w base lb p s) (i : Int) (hi : ¬ (0 ≤ i ∧ i < s.length)) : Calls Tryz.prog 29 #[.pointer (some ⟨lb, 0, none⟩), .int .i64 i] w fun e w' => e = .returned (.slice none 0 0) ∧ w' = w := by
  obtain ⟨tr, A, c, dn, st, se, fv, vals, h1, _⟩ := h.lat
  exact lat_out h1 i hi
end
def skipN (T : List Ent) (s : List UInt8) (id : Int) : List Int → Option Nat
  | [] => none
  | x :: l => if x = id then some 0 else (skipN T s id l).map (fun n => cntA T (s.drop (lenT T x)) + n)
def rnk (T : List Ent) : List UInt8 → List Int → Option Nat
  | s, [] => if s = [] then some 0 else none
  | s, id :: r => (skipN T s id (atA T s)).bind fun k => (rnk T (s.drop (lenT T id)) r).map (fun n => k + n)
def pickN (T : List Ent) (s : List UInt8) : Nat → List Int → Int × Nat
  | n, [] => (0, n)
  | n, x :: l => if n < cntA T (s.drop (lenT T x)) then (x, n) else pickN T s (n - cntA T (s.drop (lenT T x))) l
def unrk (T : List Ent) : Nat → List UInt8 → Nat → List Int
  | 0, _, _ => []
  | f + 1, s, n => if s = [] then [] else (pickN T s n (atA T s)).1 :: unrk T f (s.drop (lenT T (pickN T s n (atA T s)).1)) (pickN T s n (atA T s)).2
theorem sumA_cons (T : List Ent) (s : List UInt8) (x : Int) (l : List Int) : sumA T s (x :: l) = cntA T (s.drop (lenT T x)) + sumA T s l := rfl
theorem pick_ok {T : List Ent} {s : List UInt8} : ∀ {l : List Int} {n : Nat}, n < sumA T s l → (pickN T s n l).1 ∈ l ∧ (pickN T s n l).2 < cntA T (s.drop (lenT T (pickN T s n l).1))
  | [], n, h => by simp [sumA] at h
  | x :: l, n, h => by
    rw [sumA_cons] at h
    unfold pickN
    by_cases hx : n < cntA T (s.drop (lenT T x))
    · rw [if_pos hx]
      exact ⟨List.mem_cons_self, hx⟩
    · rw [if_neg hx]
      obtain ⟨h1, h2⟩ := pick_ok (T := T) (s := s) (l := l) (n := n - cntA T (s.drop (lenT T x))) (by omega)
      exact ⟨List.mem_cons_of_mem _ h1, h2⟩
def blkA (T : List Ent) (s : List UInt8) (l : List Int) : List (List Int) := l.flatMap (fun id => (divA T (s.drop (lenT T id))).map (fun d => id :: d))
theorem blkA_cons (T : List Ent) (s : List UInt8) (x : Int) (l : List Int) : blkA T s (x :: l) = (divA T (s.drop (lenT T x))).map (fun d => x :: d) ++ blkA T s l := by
  unfold blkA
  rw [List.flatMap_cons]
theorem blkA_get {T : List Ent} {s : List UInt8} : ∀ {l : List Int} {n : Nat}, n < sumA T s l → (blkA T s l)[n]? = (divA T (s.drop (lenT T (pickN T s n l).1)))[(pickN T s n l).2]?.map (fun d => (pickN T s n l).1 :: d)
  | [], n, h => by simp [sumA] at h
  | x :: l, n, h => by
    rw [sumA_cons] at h
    rw [blkA_cons]
    unfold pickN
    by_cases hx : n < cntA T (s.drop (lenT T x))
    · rw [if_pos hx, List.getElem?_append_left (by rw [List.length_map]; exact hx), List.getElem?_map]
    · rw [if_neg hx, List.getElem?_append_right (by rw [List.length_map]; exact Nat.not_lt.1 hx), List.length_map]
      exact blkA_get (T := T) (s := s) (l := l) (n := n - cntA T (s.drop (lenT T x))) (by omega)
theorem divA_blk {T : List Ent} (hT : OkT T) {s : List UInt8} (h : s ≠ []) : divA T s = blkA T s (atA T s) := divA_rec hT h
theorem unrk_div {T : List Ent} (hT : OkT T) : ∀ (f : Nat) (s : List UInt8) (n : Nat), s.length ≤ f → n < cntA T s → (divA T s)[n]? = some (unrk T f s n)
  | 0, s, n, hf, hn => by
    have : s = [] := List.length_eq_zero_iff.1 (by omega)
    subst this
    rw [cntA_nil] at hn
    have : n = 0 := by omega
    subst this
    rfl
  | f + 1, s, n, hf, hn => by
    by_cases hs : s = []
    · subst hs
      rw [cntA_nil] at hn
      have : n = 0 := by omega
      subst this
      rfl
    · rw [cntA_rec hT hs] at hn
      obtain ⟨h1, h2⟩ := pick_ok hn
      obtain ⟨_, h4, h5, _⟩ := atA_has hT h1
      have ih := unrk_div hT f (s.drop (lenT T (pickN T s n (atA T s)).1)) (pickN T s n (atA T s)).2 (by rw [List.length_drop]; omega) h2
      rw [divA_blk hT hs, blkA_get hn, ih]
      show some _ = some (unrk T (f + 1) s n)
      rw [unrk, if_neg hs]
theorem begT_nodup {T : List Ent} (hT : OkT T) (s : List UInt8) : ∀ i, i ≤ s.length → (begT T s i).Nodup
  | 0, _ => List.nodup_nil
  | i + 1, hi => by
    have ih := begT_nodup hT s i (by omega)
    rw [begT_succ]
    cases hf : findT T (s.take (i + 1)) with
    | none => simpa using ih
    | some j =>
      refine List.nodup_append.2 ⟨ih, by simp, fun x hx y hy e => ?_⟩
      simp at hy
      subst hy
      subst e
      obtain ⟨n, j', hn, h1, h2⟩ := begT_mem hx
      have hj : j = j' := by omega
      subst hj
      have a1 := (findT_len hT hf).2.2.1
      have a2 := (findT_len hT h1).2.2.1
      rw [a1] at a2
      have := congrArg List.length a2
      rw [List.length_take, List.length_take] at this
      omega
theorem atA_nodup {T : List Ent} (hT : OkT T) (s : List UInt8) : (atA T s).Nodup := List.pairwise_reverse.2 ((begT_nodup hT s _ (Nat.le_refl _)).imp Ne.symm)
theorem pick_skip {T : List Ent} {s : List UInt8} : ∀ {l : List Int} {n : Nat}, l.Nodup → n < sumA T s l → ∃ k, skipN T s (pickN T s n l).1 l = some k ∧ k + (pickN T s n l).2 = n
  | [], n, _, h => by simp [sumA] at h
  | x :: l, n, hd, h => by
    rw [sumA_cons] at h
    unfold pickN
    by_cases hx : n < cntA T (s.drop (lenT T x))
    · rw [if_pos hx]
      exact ⟨0, by unfold skipN; rw [if_pos rfl], by simp⟩
    · rw [if_neg hx]
      have h2 : n - cntA T (s.drop (lenT T x)) < sumA T s l := by omega
      obtain ⟨k, h3, h4⟩ := pick_skip (List.nodup_cons.1 hd).2 h2
      have hm := (pick_ok h2).1
      have hne : x ≠ (pickN T s (n - cntA T (s.drop (lenT T x))) l).1 := fun e => (List.nodup_cons.1 hd).1 (e ▸ hm)
      refine ⟨cntA T (s.drop (lenT T x)) + k, ?_, by omega⟩
      unfold skipN
      rw [if_neg hne, h3]
      rfl
theorem rnk_unrk {T : List Ent} (hT : OkT T) : ∀ (f : Nat) (s : List UInt8) (n : Nat), s.length ≤ f → n < cntA T s → rnk T s (unrk T f s n) = some n
  | 0, s, n, hf, hn => by
    have : s = [] := List.length_eq_zero_iff.1 (by omega)
    subst this
    rw [cntA_nil] at hn
    have : n = 0 := by omega
    subst this
    rfl
  | f + 1, s, n, hf, hn => by
    by_cases hs : s = []
    · subst hs
      rw [cntA_nil] at hn
      have : n = 0 := by omega
      subst this
      rfl
    · rw [cntA_rec hT hs] at hn
      obtain ⟨h1, h2⟩ := pick_ok hn
      obtain ⟨_, h4, h5, _⟩ := atA_has hT h1
      obtain ⟨k, h6, h7⟩ := pick_skip (atA_nodup hT s) hn
      have ih := rnk_unrk hT f (s.drop (lenT T (pickN T s n (atA T s)).1)) (pickN T s n (atA T s)).2 (by rw [List.length_drop]; omega) h2
      rw [unrk, if_neg hs, rnk, h6]
      show Option.map _ (rnk T _ _) = _
      rw [ih]
      show some (k + _) = some n
      rw [h7]
theorem skip_get {T : List Ent} {s : List UInt8} {id : Int} : ∀ {l : List Int} {k : Nat}, skipN T s id l = some k → id ∈ l ∧ ∀ m, m < cntA T (s.drop (lenT T id)) → (blkA T s l)[k + m]? = (divA T (s.drop (lenT T id)))[m]?.map (fun d => id :: d)
  | [], k, h => by simp [skipN] at h
  | x :: l, k, h => by
    unfold skipN at h
    by_cases hx : x = id
    · rw [if_pos hx] at h
      injection h with h
      subst h
      subst hx
      refine ⟨List.mem_cons_self, fun m hm => ?_⟩
      rw [blkA_cons, Nat.zero_add, List.getElem?_append_left (by rw [List.length_map]; exact hm), List.getElem?_map]
    · rw [if_neg hx] at h
      cases hk : skipN T s id l with
      | none => rw [hk] at h; cases h
      | some k' =>
        rw [hk] at h
        injection h with h
        subst h
        obtain ⟨h1, h2⟩ := skip_get hk
        refine ⟨List.mem_cons_of_mem _ h1, fun m hm => ?_⟩
        show (blkA T s (x :: l))[cntA T (s.drop (lenT T x)) + k' + m]? = _
        rw [blkA_cons, List.getElem?_append_right (by rw [List.length_map]; show cntA T _ ≤ _; omega), List.length_map]
        show (blkA T s l)[cntA T (s.drop (lenT T x)) + k' + m - cntA T (s.drop (lenT T x))]? = _
        rw [show cntA T (s.drop (lenT T x)) + k' + m - cntA T (s.drop (lenT T x)) = k' + m by omega]
        exact h2 m hm
structure Ask (w W : World) (base lb : Nat) (p : VocP) (s : List UInt8) : Prop where
  lat : LatV W base lb p s
  keep : Keep (fun x => x = lb) w W
  row : RowN w W lb
  nat : ∀ v m, NatIs w v m → NatIs W v m
def RowOff (W : World) (lb b : Nat) : Prop := ∀ g a c, W.cell? ⟨lb, 7, none⟩ = some (.slice (some ⟨g, 0, none⟩) a c) → g ≠ b
section
variable {w w' W W' : World} {base lb b b2 : Nat} {p : VocP} {s : List UInt8} {A A' : Option Addr} {k c m k' c' m' : Nat}
theorem Ask.refl (h : LatV w base lb p s) : Ask w w base lb p s := ⟨h, Keep.refl _ _, ⟨fun g a c hg => .inr hg, rfl⟩, fun v m h => h⟩
theorem Ask.trans (h1 : Ask w W base lb p s) (h2 : Ask W W' base lb p s) : Ask w W' base lb p s :=
  ⟨h2.lat, h1.keep.trans h2.keep (fun x hx => .inl hx), ⟨fun g a c hg => by
    rcases h2.row.1 g a c hg with h9 | h9
    · exact .inl (Nat.le_trans h1.keep.size h9)
    · exact h1.row.1 g a c h9, h2.row.2.trans h1.row.2⟩, fun v m hn => h2.nat v m (h1.nat v m hn)⟩
theorem Ask.of_below (h : LatV w base lb p s) (hb : Below w.heap.size w W) : Ask w W base lb p s :=
  ⟨h.below hb, Keep.of_below hb, ⟨fun g a c hg => .inr ((below_cell7 hb h.lt_size).symm.trans hg), below_cell3 hb h.lt_size⟩, fun v m hn => hn.below hb (Nat.le_refl _)⟩
theorem Ask.below (h : Ask w W base lb p s) (hb : Below W.heap.size W W') : Ask w W' base lb p s := h.trans (Ask.of_below h.lat hb)
theorem Ask.drew (h : Ask w W base lb p s) : Ask w W.drew base lb p s := h.below (Below.refl _ _).drew
theorem Ask.alloc (h : Ask w W base lb p s) (o : Obj) : Ask w (W.alloc o) base lb p s := h.below ((Below.refl _ _).alloc (Nat.le_refl _) o)
theorem Ask.blw (h : Ask w W base lb p s) {B : Nat} (hB : B ≤ w.heap.size) (hl : B ≤ lb) : Below B w W := h.keep.below hB (fun x hx => by subst hx; exact hl)
structure Var (W : World) (lb b : Nat) (A : Option Addr) (k c m : Nat) : Prop where
  blk : W.heap[b]? = some (.cells #[.slice A k c] 59)
  nat : NatIs W (.agg #[.slice A k c]) m
  off : RowOff W lb b
  lo : lb < b
theorem Var.lt (h : Var W lb b A k c m) : b < W.heap.size := blk_lt h.blk
theorem Var.c0 (h : Var W lb b A k c m) : W.cell? ⟨b, 0, none⟩ = some (.slice A k c) := by have := blk_cell h.blk 0; simpa using this
theorem Var.z0 (h : Var W lb b A k c m) : W.frozen? ⟨b, 0, none⟩ = false := blk_froz h.blk 0
theorem Var.ask (h : Var W lb b A k c m) (ha : Ask W W' base lb p s) : Var W' lb b A k c m :=
  ⟨ha.keep.blk h.blk (fun e => by have := h.lo; omega), ha.nat _ _ h.nat, fun g a c hg => by
    rcases ha.row.1 g a c hg with h9 | h9
    · have := h.lt; omega
    · exact h.off g a c h9, h.lo⟩
theorem Var.below (h : Var W lb b A k c m) (hb : Below W.heap.size W W') : Var W' lb b A k c m :=
  ⟨blk_below hb h.lt h.blk, h.nat.below hb (Nat.le_refl _), fun g a c hg => h.off g a c ((below_cell7 hb (Nat.lt_trans h.lo h.lt)).symm.trans hg), h.lo⟩
theorem Var.drew (h : Var W lb b A k c m) : Var W.drew lb b A k c m := h.below (Below.refl _ _).drew
theorem Var.put (h : Var W lb b A k c m) (hn : NatIs W (.agg #[.slice A' k' c']) m') : Var (W.setCell ⟨b, 0, none⟩ (.slice A' k' c')) lb b A' k' c' m' := by
  have hlo := h.lo
  refine ⟨?_, hn.cellK h.c0 (fun x => by simp) _, fun g a c hg => h.off g a c ?_, hlo⟩
  · have := blk_set h.blk 0 (.slice A' k' c')
    simpa using this
  · rw [World.cell?_setCell_far W ⟨b, 0, none⟩ ⟨lb, 7, none⟩ _ (show b ≠ lb by omega)] at hg
    exact hg
theorem Var.far (h : Var W lb b A k c m) {i : Nat} {y : Value} (hc : W.cell? ⟨b2, i, none⟩ = some y) (hy : ∀ x, y ≠ .int .u32 x) (hne : b ≠ b2) (hlt : lb < b2) (u : Value) : Var (W.setCell ⟨b2, i, none⟩ u) lb b A k c m :=
  ⟨blk_far h.blk hne u, h.nat.cellK hc hy u, fun g a c hg => h.off g a c (by
    rw [World.cell?_setCell_far W ⟨b2, i, none⟩ ⟨lb, 7, none⟩ _ (show b2 ≠ lb by omega)] at hg
    exact hg), h.lo⟩
theorem Var.made (h : LatV W base lb p s) (hn : NatIs W (.agg #[.slice A k c]) m) : Var (W.alloc (.cells #[.slice A k c] 59)) lb W.heap.size A k c m := by
  have hb := (Below.refl W.heap.size W).alloc (Nat.le_refl _) (.cells #[.slice A k c] 59)
  exact ⟨blk_new _ _, hn.below hb (Nat.le_refl _), fun g a c hg => by
    have := h.row_lt ((below_cell7 hb h.lt_size).symm.trans hg)
    omega, h.lt_size⟩
theorem LatV.farV (h : LatV W base lb p s) {cs : Array Value} {t : TypeId} {fz : Nat × Nat} (hb : W.heap[b]? = some (.cells cs t fz)) (h1 : t ≠ 142) (h2 : t ≠ 48) (h3 : t ≠ 3) (h4 : t ≠ 59) (hv : ∃ b0, VocAt W' b0 p none) (k : Keep (fun x => x = b) W W')
    (hn : ∀ v m, NatIs W v m → NatIs W' v m) : LatV W' base lb p s := by
  obtain ⟨tr, A, c, dn, st, se, fv, vals, h5, h6⟩ := h.lat
  refine ⟨⟨tr, A, c, dn, st, se, fv, vals, h5.keepT hb h1 h2 h3 k, ?_⟩, hv, h.lt⟩
  rcases h6 with h2 | ⟨w0, g, vs, h3, h7, h5, h6⟩
  · exact .inl h2
  · exact .inr ⟨w0, g, vs, h3, h7, h5, h6.keepN hb h4 k hn⟩
theorem LatV.far (h : LatV W base lb p s) {cs : Array Value} {t : TypeId} {fz : Nat × Nat} (hb : W.heap[b]? = some (.cells cs t fz)) (h1 : t ≠ 142) (h2 : t ≠ 48) (h3 : t ≠ 3) (h4 : t ≠ 59) (hlt : lb < b) (k : Keep (fun x => x = b) W W')
    (hn : ∀ v m, NatIs W v m → NatIs W' v m) : LatV W' base lb p s := by
  obtain ⟨b0, hvo⟩ := h.voc
  refine h.farV hb h1 h2 h3 h4 ⟨b0, hvo.keep k (fun x hx e => ?_)⟩ k hn
  rcases hx with hx | hx
  · have := h.lt; omega
  · cases hx
theorem Ask.setVar (h : Ask w W base lb p s) (hv : Var W lb b A k c m) (hlo : w.heap.size ≤ b) (u : Value) : Ask w (W.setCell ⟨b, 0, none⟩ u) base lb p s :=
  ⟨(lat_box h.lat hv.blk hv.nat hv.lo hv.off u).1, h.keep.setCell (p := ⟨b, 0, none⟩) (.inr hlo) u, h.row.set (by have := hv.lo; omega) u, fun v m hn => (h.nat v m hn).cellK hv.c0 (fun x => by simp) u⟩
theorem Ask.setFar (h : Ask w W base lb p s) {cs : Array Value} {t : TypeId} {fz : Nat × Nat} (hb : W.heap[b]? = some (.cells cs t fz)) (h1 : t ≠ 142) (h2 : t ≠ 48) (h3 : t ≠ 3) (h4 : t ≠ 59) (hlt : lb < b) (hlo : w.heap.size ≤ b) {i : Nat} {y : Value}
    (hc : W.cell? ⟨b, i, none⟩ = some y) (hy : ∀ x, y ≠ .int .u32 x) (u : Value) : Ask w (W.setCell ⟨b, i, none⟩ u) base lb p s := by
  have hk : Keep (fun x => x = b) W (W.setCell ⟨b, i, none⟩ u) := (Keep.refl (fun x => x = b) W).setCell (p := ⟨b, i, none⟩) (.inl rfl) _
  refine ⟨h.lat.far hb h1 h2 h3 h4 hlt hk (fun v m hn => hn.cellK hc hy u), h.keep.setCell (p := ⟨b, i, none⟩) (.inr hlo) u, ⟨fun g a c hg => h.row.1 g a c ?_, (World.cell?_setCell_far W ⟨b, i, none⟩ ⟨lb, 3, none⟩ _ (show b ≠ lb by omega)).trans h.row.2⟩, fun v m hn => (h.nat v m hn).cellK hc hy u⟩
  rw [World.cell?_setCell_far W ⟨b, i, none⟩ ⟨lb, 7, none⟩ _ (show b ≠ lb by omega)] at hg
  exact hg
structure Way (W : World) (lb wb i : Nat) : Prop where
  blk : W.heap[wb]? = some (.cells #[.pointer (some ⟨lb, 0, none⟩), .int .i64 (i : Int)] 161)
  lo : lb < wb
variable {wb i j : Nat}
theorem Way.lt (h : Way W lb wb i) : wb < W.heap.size := blk_lt h.blk
theorem Way.c0 (h : Way W lb wb i) : W.cell? ⟨wb, 0, none⟩ = some (.pointer (some ⟨lb, 0, none⟩)) := by have := blk_cell h.blk 0; simpa using this
theorem Way.c1 (h : Way W lb wb i) : W.cell? ⟨wb, 1, none⟩ = some (.int .i64 (i : Int)) := by have := blk_cell h.blk 1; simpa using this
theorem Way.z1 (h : Way W lb wb i) : W.frozen? ⟨wb, 1, none⟩ = false := blk_froz h.blk 1
theorem Way.cc (h : Way W lb wb i) : W.cell? ⟨wb, 0, none⟩ = some (.pointer (some ⟨lb, 0, none⟩)) ∧ W.cell? ⟨wb, 1, none⟩ = some (.int .i64 (i : Int)) := ⟨h.c0, h.c1⟩
theorem Way.below (h : Way W lb wb i) (hb : Below W.heap.size W W') : Way W' lb wb i := ⟨blk_below hb h.lt h.blk, h.lo⟩
theorem Way.drew (h : Way W lb wb i) : Way W.drew lb wb i := h.below (Below.refl _ _).drew
theorem Way.ask (h : Way W lb wb i) (ha : Ask W W' base lb p s) : Way W' lb wb i := ⟨ha.keep.blk h.blk (fun e => by have := h.lo; omega), h.lo⟩
theorem Way.far (h : Way W lb wb i) {a : Addr} (hne : wb ≠ a.block) (u : Value) : Way (W.setCell a u) lb wb i := ⟨blk_far h.blk hne u, h.lo⟩
theorem Way.put (h : Way W lb wb i) (j : Nat) : Way (W.setCell ⟨wb, 1, none⟩ (.int .i64 (j : Int))) lb wb j := by
  have := blk_set h.blk 1 (.int .i64 (j : Int))
  exact ⟨by simpa using this, h.lo⟩
theorem Way.ne (h : Way W lb wb i) (hv : Var W lb b A k c m) : b ≠ wb := fun e => by
  have h1 := h.blk
  rw [← e, hv.blk] at h1
  injection h1 with h1
  injection h1 with _ h1 _
  exact absurd h1 (by decide)
theorem Ask.setWay (h : Ask w W base lb p s) (hw : Way W lb wb i) (hlo : w.heap.size ≤ wb) (u : Value) : Ask w (W.setCell ⟨wb, 1, none⟩ u) base lb p s :=
  h.setFar hw.blk (by decide) (by decide) (by decide) (by decide) hw.lo hlo hw.c1 (fun x => by simp) u
theorem Var.setWay (h : Var W lb b A k c m) (hw : Way W lb wb i) (u : Value) : Var (W.setCell ⟨wb, 1, none⟩ u) lb b A k c m := h.far hw.c1 (fun x => by simp) (hw.ne h) hw.lo u
variable {v : Value} {l : List Int} {b0 : Nat}
theorem sl_ask (h : Sl1 W A (Value.int .i64) l) (hl : LatV W base lb p s) (ha : Ask W W' base lb p s) : Sl1 W' A (Value.int .i64) l := by
  obtain ⟨tr, A1, c, dn, st, se, fv, vals, h1, h2⟩ := hl.lat
  have hfv : ∀ x, fv ≠ .int .i64 x := by
    rcases h2 with ⟨rfl, _⟩ | ⟨_, _, _, _, rfl, _⟩ <;> intro x <;> simp
  intro i x hx
  obtain ⟨b, o, e, hc⟩ := h i x hx
  have hne : b ≠ lb := fun e2 => by
    subst e2
    rw [blk_cell h1.blk] at hc
    generalize o + i = j at hc
    rcases j with _ | _ | _ | _ | _ | _ | _ | _ | j <;> simp at hc
    exact hfv _ hc
  exact ⟨b, o, e, (World.cell?_of_block (w := W) (ha.keep.block b (World.block_lt_of_cell? W _ hc) hne)).trans hc⟩
theorem LatV.atAny (h : LatV w base lb p s) (i : Nat) (hi : i ≤ s.length) (hs : s.length ≤ 1000000) : Calls Tryz.prog 29 #[.pointer (some ⟨lb, 0, none⟩), .int .i64 (i : Int)] w fun e w' => (∃ v, e = .returned v ∧ IntsIs w' w.heap.size v (atP p.T s i)) ∧ Below w.heap.size w w' := by
  by_cases h0 : i < s.length
  · exact h.ats i h0 hs
  · refine (h.atOut i (by omega)).mono ?_
    rintro e w' ⟨rfl, rfl⟩
    have e0 : atP p.T s i = [] := by
      unfold atP
      rw [List.drop_eq_nil_iff.2 (by omega)]
      rfl
    rw [e0]
    exact ⟨⟨_, rfl, none, 0, rfl, own_nil _ _ _ _⟩, Below.refl _ _⟩
theorem LatV.from (h : LatV w base lb p s) (hT : OkT p.T) (hs : s.length ≤ 4000) (i : Nat) (hi : i ≤ s.length) :
    Calls Tryz.prog 28 #[.pointer (some ⟨lb, 0, none⟩), .int .i64 (i : Int)] w fun e w' => ∃ A k c, e = .returned (.agg #[.slice A k c]) ∧ NatIs w' (.agg #[.slice A k c]) (cntJ p.T s i) ∧ Ask w w' base lb p s := by
  refine (lfrom_any h hT hs i hi).mono ?_
  rintro e w' ⟨v, rfl, ⟨A, c, rfl, h1, h2⟩, hl, hk, hr, hn⟩
  exact ⟨A, _, c, rfl, ⟨A, c, rfl, h1, h2⟩, hl, hk, hr, hn⟩
theorem LatV.count (h : LatV w base lb p s) (hT : OkT p.T) (hs : s.length ≤ 4000) :
    Calls Tryz.prog 25 #[.pointer (some ⟨lb, 0, none⟩)] w fun e w' => ∃ A k c, e = .returned (.agg #[.slice A k c]) ∧ NatIs w' (.agg #[.slice A k c]) (cntJ p.T s 0) ∧ Ask w w' base lb p s := by
  refine (lcount_any h hT hs).mono ?_
  rintro e w' ⟨v, rfl, ⟨A, c, rfl, h1, h2⟩, hl, hk, hr, hn⟩
  exact ⟨A, _, c, rfl, ⟨A, c, rfl, h1, h2⟩, hl, hk, hr, hn⟩
theorem add1_any {A B : Option Addr} {k c n1 n2 : Nat} (k2 c2 : Nat) {g : Nat} {t : TypeId} (h1 : NatIs w (.agg #[.slice A k c]) n1) (h2 : NatIs w (.agg #[.slice B k2 c2]) n2) (hg : w.heap[g]? = some (.cells #[.slice B k2 c2] t)) (hd : (dg B32 (n1 + n2)).length ≤ 100000) (c9 : Nat) :
    Calls Tryz.prog 34 #[.agg #[.slice A k c], .slice (some ⟨g, 0, none⟩) 1 c9] w fun e w' => ∃ A k c, e = .returned (.agg #[.slice A k c]) ∧ NatIs w' (.agg #[.slice A k c]) (n1 + n2) ∧ Below w.heap.size w w' := by
  refine (add_any _ n1 [n2] _ c9 _ h1 (lnats_one h2 hg) (by simp) (fun k hk => ?_) (fun n hn => ?_)).mono ?_
  · rcases k with _ | k
    · exact Nat.le_trans (dg_len_mono (by decide) (by simp [sumL])) hd
    · have e : sumL ([n2].take (k + 1)) = n2 := by simp [sumL]
      rw [e]
      exact hd
  · simp at hn
    subst hn
    exact Nat.le_trans (dg_len_mono (by decide) (Nat.le_add_left _ _)) hd
  · rintro e w' ⟨v, rfl, hn, hb⟩
    rw [show sumL [n2] = n2 from by simp [sumL]] at hn
    obtain ⟨A, c, rfl, q1, q2⟩ := hn
    exact ⟨A, _, c, rfl, ⟨A, c, rfl, q1, q2⟩, hb⟩
end
section
variable {w w' W W' : World} {base lb wb i : Nat} {p : VocP} {s : List UInt8}
theorem wend_any (h : LatV W base lb p s) (hw : Way W lb wb i) : Calls Tryz.prog 89 #[.pointer (some ⟨wb, 0, none⟩)] W fun e w' => e = .returned (.bool (decide (i = s.length))) ∧ Ask W w' base lb p s := by
  have HBY : Hid (∀ V, LatV V base lb p s → Calls Tryz.prog 30 #[.pointer (some ⟨lb, 0, none⟩)] V fun e w' => e = .returned (.string (bs s)) ∧ w' = V) := Lib.hid (fun V hV => hV.bytes)
  have HDZ : Hid ((bs s).size = s.length) := Lib.hid (bs_size s)
  have HA := Lib.hid (Ask.refl h)
  have hh := hw.cc
  clear h hw
  obtain ⟨Z, hZ⟩ : ∃ Z, bs s = Z := ⟨_, rfl⟩
  rw [hZ] at HBY HDZ
  clear hZ
  have hde : ((i : Int) == (Z.size : Int)) = decide (i = s.length) := by rw [HDZ.out]; by_cases e : i = s.length <;> simp [e, Int.natCast_inj]
  have HDE := Lib.hid hde
  clear hde
  go_enter Tryz.func89, Tryz.ntmps89
  go_upto_region 1 with fail
  refine wp_region_held_drew (S := fun V => V.cell? ⟨wb, 0, none⟩ = some (.pointer (some ⟨lb, 0, none⟩)) ∧ V.cell? ⟨wb, 1, none⟩ = some (.int .i64 (i : Int))) (by kernel_rfl) (by exact hh) (fun hHeld => ?_)
  refine tkH 0 3 ?_ rfl hHeld (.inl ⟨by rfl, ?_⟩) ?_; rotate_left; focus (intro w' hSw; (try dsimp only at hSw); go_simp; (try with_reducible rfl))
  try simp only [sIB, sC0, sCS]
  refine tkH 1 4 ?_ rfl hHeld (.inl ⟨by rfl, ?_⟩) ?_; rotate_left; focus (intro w' hSw; (try dsimp only at hSw); go_simp; (try with_reducible rfl))
  try simp only [sIB, sC0, sCS]
  refine tkH 2 5 ?_ rfl hHeld (.inl ⟨by rfl, ?_⟩) ?_; rotate_left; focus (intro w' hSw; (try dsimp only at hSw); go_simp; (try with_reducible rfl))
  try simp only [sIB, sC0, sCS]
  refine tkH 3 6 ?_ rfl hHeld (.inl ⟨by rfl, ?_⟩) ?_; rotate_left; focus (intro w' hSw; (try dsimp only at hSw); go_simp; (try with_reducible rfl))
  try simp only [sIB, sC0, sCS]
  refine tkH 4 7 ?_ rfl hHeld (.inl ⟨by rfl, ?_⟩) ?_; rotate_left; focus (intro w' hSw; (try dsimp only at hSw); go_simp; (try with_reducible rfl))
  try simp only [sIB, sC0, sCS]
  refine tkH 5 8 ?_ rfl hHeld (.inl ⟨by rfl, ?_⟩) ?_; rotate_left; focus (intro w' hSw; (try dsimp only at hSw); go_simp; (try with_reducible rfl))
  try simp only [sIB, sC0, sCS]
  refine tkH 6 9 ?_ rfl hHeld (.inl ⟨by rfl, ?_⟩) ?_; rotate_left; focus (intro w' hSw; (try dsimp only at hSw); go_simp; (try with_reducible rfl))
  try simp only [sIB, sC0, sCS]
  refine tkH 7 10 ?_ rfl hHeld (.inl ⟨by rfl, ?_⟩) ?_; rotate_left; focus (intro w' hSw; (try dsimp only at hSw); go_simp; (try with_reducible rfl))
  try simp only [sIB, sC0, sCS]
  refine wpAnyH_ready (rs := [8]) (by kernel_rfl) (by simp) ?_
  refine AllReadyH.cons rfl (fun K hK => ?_) AllReadyH.nil
  (try go_simp)
  go_simp; refine (HBY.out _ HA.out.drew.lat).mono ?_; rintro e W6 ⟨rfl, hw⟩; rw [hw]; clear hw W6; have h := hHeld; go_simp
  go_wp2_with fail
  refine hK.out _ _ h (fun hHeld => ?_)
  clear hK K
  try simp only [Act.put, sIB, sC0, sCS]
  refine tkH 9 12 ?_ rfl hHeld (.inl ⟨by rfl, ?_⟩) ?_; rotate_left; focus (intro w' hSw; (try dsimp only at hSw); go_simp; (try with_reducible rfl))
  try simp only [sIB, sC0, sCS]
  refine tkH 10 13 ?_ rfl hHeld (.inl ⟨by rfl, ?_⟩) ?_; rotate_left; focus (intro w' hSw; (try dsimp only at hSw); go_simp; (try with_reducible rfl))
  try simp only [sIB, sC0, sCS]
  refine tkH 11 2 ?_ rfl hHeld (.inl ⟨by rfl, ?_⟩) ?_; rotate_left; focus (intro w' hSw; (try dsimp only at hSw); go_simp; (try with_reducible rfl))
  try simp only [sIB, sC0, sCS]
  refine wpAnyH_done (by kernel_rfl) ?_ _
  rw [HDE.out]
  go_wp2_with fail
  go_ret
  exact ⟨rfl, HA.out.drew⟩
theorem skip_take {T : List Ent} {s : List UInt8} {id : Int} : ∀ (l : List Int) (q : Nat), (∀ x ∈ l.take q, x ≠ id) → skipN T s id l = (skipN T s id (l.drop q)).map (fun n => sumA T s (l.take q) + n)
  | l, 0, _ => by simp [sumA]
  | [], q + 1, _ => by simp [skipN]
  | x :: l, q + 1, h => by
    rw [List.take_succ_cons, List.drop_succ_cons]
    have hx : x ≠ id := h x (by simp)
    have ih := skip_take (T := T) (s := s) (id := id) l q (fun y hy => h y (by rw [List.take_succ_cons]; exact List.mem_cons_of_mem _ hy))
    rw [skipN, if_neg hx, ih, sumA_cons]
    cases skipN T s id (l.drop q) with
    | none => rfl
    | some n => simp [Nat.add_assoc]
theorem pick_take {T : List Ent} {s : List UInt8} : ∀ (l : List Int) (q n : Nat), sumA T s (l.take q) ≤ n → pickN T s n l = pickN T s (n - sumA T s (l.take q)) (l.drop q)
  | l, 0, n, _ => by simp [sumA]
  | [], q + 1, n, h => by simp [sumA]
  | x :: l, q + 1, n, h => by
    rw [List.take_succ_cons, sumA_cons] at h
    rw [List.take_succ_cons, List.drop_succ_cons, sumA_cons, pickN, if_neg (by omega), pick_take l q _ (by omega)]
    congr 1
    omega
theorem drop_at {α : Type} {l : List α} {q : Nat} {x : α} (h : l[q]? = some x) : l.drop q = x :: l.drop (q + 1) := by
  obtain ⟨h1, h2⟩ := List.getElem?_eq_some_iff.1 h
  rw [List.drop_eq_getElem_cons h1, h2]
structure SkS (w W : World) (base lb wb i r nb : Nat) (p : VocP) (s : List UInt8) (A : Option Addr) (k c m : Nat) (A2 : Option Addr) (c2 : Nat) (l : List Int) : Prop where
  ask : Ask w W base lb p s
  way : Way W lb wb i
  res : Var W lb r none 0 0 0
  num : Var W lb nb A k c m
  ids : ∃ b0, W.ownsRow b0 3 1 (.slice A2 l.length c2) l.length (l.map (Value.int .i64))
  lo : w.heap.size ≤ r
  lo2 : w.heap.size ≤ nb
  ne : r ≠ nb
variable {r nb k c m k' c' m' c2 : Nat} {A A' A2 : Option Addr} {l : List Int}
theorem SkS.asks (h : SkS w W base lb wb i r nb p s A k c m A2 c2 l) (ha : Ask W W' base lb p s) : SkS w W' base lb wb i r nb p s A k c m A2 c2 l := by
  obtain ⟨cs, fz, hb⟩ := h.ask.lat.tag
  exact ⟨h.ask.trans ha, h.way.ask ha, h.res.ask ha, h.num.ask ha, by obtain ⟨b0, hi⟩ := h.ids; exact ⟨b0, own_keep hi ha.keep (row_off hi hb (by decide))⟩, h.lo, h.lo2, h.ne⟩
theorem SkS.below (h : SkS w W base lb wb i r nb p s A k c m A2 c2 l) (hb : Below W.heap.size W W') : SkS w W' base lb wb i r nb p s A k c m A2 c2 l := h.asks (Ask.of_below h.ask.lat hb)
theorem SkS.drew (h : SkS w W base lb wb i r nb p s A k c m A2 c2 l) : SkS w W.drew base lb wb i r nb p s A k c m A2 c2 l := h.below (Below.refl _ _).drew
theorem SkS.put (h : SkS w W base lb wb i r nb p s A k c m A2 c2 l) (hn : NatIs W (.agg #[.slice A' k' c']) m') : SkS w (W.setCell ⟨nb, 0, none⟩ (.slice A' k' c')) base lb wb i r nb p s A' k' c' m' A2 c2 l := by
  have hk : Keep (fun x => x = nb) W (W.setCell ⟨nb, 0, none⟩ (.slice A' k' c')) := (Keep.refl (fun x => x = nb) W).setCell (p := ⟨nb, 0, none⟩) (.inl rfl) _
  exact ⟨h.ask.setVar h.num h.lo2 _, h.way.far (fun e => h.way.ne h.num e.symm) _, h.res.far h.num.c0 (fun x => by simp) h.ne h.num.lo _, h.num.put hn, by obtain ⟨b0, hi⟩ := h.ids; exact ⟨b0, own_keep hi hk (row_off hi h.num.blk (by decide))⟩, h.lo, h.lo2, h.ne⟩
theorem SkS.cell (h : SkS w W base lb wb i r nb p s A k c m A2 c2 l) {q : Nat} {id : Int} (hl : l[q]? = some id) : ∃ b o, A2 = some ⟨b, o, none⟩ ∧ W.cell? ⟨b, o + q, none⟩ = some (.int .i64 id) := by
  obtain ⟨b0, hi⟩ := h.ids
  exact own_sl1 hi q id hl
theorem SkS.begin (h : LatV w base lb p s) (hw : Way w lb wb i) {w1 w2 : World} (e1 : w.alloc (.cells #[.slice none 0 0] 59) = w1) (e2 : w1.alloc (.cells #[.slice none 0 0] 59) = w2) (hb : Below w2.heap.size w2 W) {b0 : Nat} (hi : W.ownsRow b0 3 1 (.slice A2 l.length c2) l.length (l.map (Value.int .i64))) :
    SkS w W base lb wb i w.heap.size w1.heap.size p s none 0 0 0 A2 c2 l := by
  subst e1
  subst e2
  have a1 := (Ask.refl h).alloc (.cells #[.slice none 0 0] 59)
  have v1 := Var.made h (NatIs.zero w)
  have a2 := a1.alloc (.cells #[.slice none 0 0] 59)
  have v2 := Var.made a1.lat (NatIs.zero _)
  have a3 := Ask.of_below a2.lat hb
  have a4 := Ask.of_below a1.lat ((Below.refl _ _).alloc (Nat.le_refl _) (.cells #[.slice none 0 0] 59))
  exact ⟨a2.trans a3, (hw.ask a2).ask a3, (v1.ask a4).ask a3, v2.ask a3, ⟨b0, hi⟩, Nat.le_refl _, a1.keep.size, by have := v1.lt; omega⟩
set_option maxHeartbeats 4000000 in
theorem wskips_any (h : LatV w base lb p s) (hw : Way w lb wb i) (hT : OkT p.T) (hs : s.length ≤ 4000) (hi : i ≤ s.length) (id : Int) (K : Nat) (B : Bool) (hK : (skipN p.T (s.drop i) id (atP p.T s i)).getD 0 = K) (hB : (skipN p.T (s.drop i) id (atP p.T s i)).isSome = B) :
    Calls Tryz.prog 88 #[.pointer (some ⟨wb, 0, none⟩), .int .i64 id] w fun e w' => (∃ A k c, e = .returned (.tuple #[.agg #[.slice A k c], .bool B]) ∧ NatIs w' (.agg #[.slice A k c]) K) ∧ Ask w w' base lb p s := by
  have HSK : Hid (∀ q, (∀ x ∈ (atP p.T s i).take q, x ≠ id) → ((atP p.T s i)[q]? = some id → K = sumA p.T (s.drop i) ((atP p.T s i).take q) ∧ B = true) ∧ ((atP p.T s i).length ≤ q → K = 0 ∧ B = false)) := Lib.hid (fun q hq => by
    have h1 := skip_take (T := p.T) (s := s.drop i) (id := id) (atP p.T s i) q hq
    refine ⟨fun h2 => ?_, fun h2 => ?_⟩
    · rw [drop_at h2, skipN, if_pos rfl] at h1
      rw [h1] at hK hB
      exact ⟨by rw [← hK]; simp, by rw [← hB]; rfl⟩
    · rw [List.drop_eq_nil_iff.2 h2, skipN] at h1
      rw [h1] at hK hB
      exact ⟨by rw [← hK]; rfl, by rw [← hB]; rfl⟩)
  have HT := Lib.hid hT
  have HSL := Lib.hid hs
  have HI := Lib.hid hi
  have HH := Lib.hid (And.intro h hw)
  clear hK hB h hw hT hs
  go_enter Tryz.func88, Tryz.ntmps88
  go_upto_region 1 with fail
  obtain ⟨w1, hw1⟩ : ∃ v, w.alloc (.cells #[.slice none 0 0] 59) = v := ⟨_, rfl⟩
  rw [hw1]
  go_upto_region 2 with fail
  obtain ⟨w2, hw2⟩ : ∃ v, w1.alloc (.cells #[.slice none 0 0] 59) = v := ⟨_, rfl⟩
  rw [hw2]
  have HB : Hid (∀ V (A2 : Option Addr) (c2 b0 : Nat), Below w2.heap.size w2 V → V.ownsRow b0 3 1 (.slice A2 (atP p.T s i).length c2) (atP p.T s i).length ((atP p.T s i).map (Value.int .i64)) → SkS w V base lb wb i w.heap.size w1.heap.size p s none 0 0 0 A2 c2 (atP p.T s i)) := Lib.hid (fun V A2 c2 b0 hV ho => SkS.begin HH.out.1 HH.out.2 hw1 hw2 hV ho)
  have HA : Hid (Ask w w2 base lb p s) := Lib.hid (by rw [← hw2, ← hw1]; exact ((Ask.refl HH.out.1).alloc _).alloc _)
  have hh := (HH.out.2.ask HA.out).cc
  obtain ⟨r, hr⟩ : ∃ r, w.heap.size = r := ⟨_, rfl⟩
  obtain ⟨nb, hnb⟩ : ∃ r, w1.heap.size = r := ⟨_, rfl⟩
  rw [hr, hnb] at HB
  rw [hr, hnb]
  clear hw1 hw2 hr hnb
  have HAT : Hid (∀ V, LatV V base lb p s → Calls Tryz.prog 29 #[.pointer (some ⟨lb, 0, none⟩), .int .i64 (i : Int)] V fun e w' => (∃ v, e = .returned v ∧ IntsIs w' V.heap.size v (atP p.T s i)) ∧ Below V.heap.size V w') := Lib.hid (fun V hV => hV.atAny i HI.out (by have := HSL.out; omega))
  refine wp_region_held_drew (S := fun V => V.cell? ⟨wb, 0, none⟩ = some (.pointer (some ⟨lb, 0, none⟩)) ∧ V.cell? ⟨wb, 1, none⟩ = some (.int .i64 (i : Int))) (by kernel_rfl) (by exact hh) (fun hHeld => ?_)
  refine tkH 0 9 ?_ rfl hHeld (.inl ⟨by rfl, ?_⟩) ?_; rotate_left; focus (intro w' hSw; (try dsimp only at hSw); go_simp; (try with_reducible rfl))
  try simp only [sIB, sC0, sCS]
  refine tkH 1 10 ?_ rfl hHeld (.inl ⟨by rfl, ?_⟩) ?_; rotate_left; focus (intro w' hSw; (try dsimp only at hSw); go_simp; (try with_reducible rfl))
  try simp only [sIB, sC0, sCS]
  refine tkH 2 11 ?_ rfl hHeld (.inl ⟨by rfl, ?_⟩) ?_; rotate_left; focus (intro w' hSw; (try dsimp only at hSw); go_simp; (try with_reducible rfl))
  try simp only [sIB, sC0, sCS]
  refine tkH 3 12 ?_ rfl hHeld (.inl ⟨by rfl, ?_⟩) ?_; rotate_left; focus (intro w' hSw; (try dsimp only at hSw); go_simp; (try with_reducible rfl))
  try simp only [sIB, sC0, sCS]
  refine tkH 4 13 ?_ rfl hHeld (.inl ⟨by rfl, ?_⟩) ?_; rotate_left; focus (intro w' hSw; (try dsimp only at hSw); go_simp; (try with_reducible rfl))
  try simp only [sIB, sC0, sCS]
  refine tkH 5 14 ?_ rfl hHeld (.inl ⟨by rfl, ?_⟩) ?_; rotate_left; focus (intro w' hSw; (try dsimp only at hSw); go_simp; (try with_reducible rfl))
  try simp only [sIB, sC0, sCS]
  refine tkH 6 15 ?_ rfl hHeld (.inl ⟨by rfl, ?_⟩) ?_; rotate_left; focus (intro w' hSw; (try dsimp only at hSw); go_simp; (try with_reducible rfl))
  try simp only [sIB, sC0, sCS]
  refine tkH 7 16 ?_ rfl hHeld (.inl ⟨by rfl, ?_⟩) ?_; rotate_left; focus (intro w' hSw; (try dsimp only at hSw); go_simp; (try with_reducible rfl))
  try simp only [sIB, sC0, sCS]
  refine tkH 10 19 ?_ rfl hHeld (.inl ⟨by rfl, ?_⟩) ?_; rotate_left; focus (intro w' hSw; (try dsimp only at hSw); go_simp; (try with_reducible rfl))
  try simp only [sIB, sC0, sCS]
  refine wpAnyH_ready (rs := [8]) (by kernel_rfl) (by simp) ?_
  refine AllReadyH.cons rfl (fun K hK => ?_) AllReadyH.nil
  (try go_simp)
  go_simp; refine (HAT.out _ HA.out.drew.lat).mono ?_; rintro e W6 ⟨⟨v, rfl, A2, c2, rfl, hown⟩, hb⟩; have HS := Lib.hid (HB.out W6 A2 c2 _ (((Below.refl _ _).drew).trans hb) hown); have h := HS.out.way.cc; clear hown hb; go_simp
  go_wp2_with fail
  refine hK.out _ _ h (fun hHeld => ?_)
  clear hK K
  try simp only [Act.put, sIB, sC0, sCS]
  refine tkH 9 18 ?_ rfl hHeld (.inl ⟨by rfl, ?_⟩) ?_; rotate_left; focus (intro w' hSw; (try dsimp only at hSw); go_simp; (try with_reducible rfl))
  try simp only [sIB, sC0, sCS]
  refine wpAnyH_done (by kernel_rfl) ?_ _
  clear hh hHeld h HA HB HAT
  obtain ⟨N, hN⟩ : ∃ N, (atP p.T s i).length = N := ⟨_, rfl⟩
  have HNN := Lib.hid hN
  rw [hN]
  clear hN
  go_wp2_with fail
  go_loopg [19] N (fun n i' W => ∃ (q : Nat) (An : Option Addr) (kn cn : Nat), q + n = N ∧ i' = .int .i64 (q : Int) ∧ SkS w W base lb wb i r nb p s An kn cn (sumA p.T (s.drop i) ((atP p.T s i).take q)) A2 c2 (atP p.T s i) ∧ ∀ x ∈ (atP p.T s i).take q, x ≠ id)
  case atStart => exact ⟨0, none, 0, 0, by omega, rfl, HS.out, by simp⟩
  case round =>
    obtain ⟨q, An, kn, cn, hq, rfl, hs, hne⟩ := hrel
    clear HS
    rename World => W
    have HS := Lib.hid hs
    have HQ := Lib.hid hq
    have HNE := Lib.hid hne
    clear hs hq hne
    have HSQ := Lib.hid (HSK.out q HNE.out)
    by_cases hlt : q < N
    · have hq2 : q < (atP p.T s i).length := by have := HNN.out; omega
      have hil : i < s.length := by
        rcases Nat.lt_or_ge i s.length with h | h
        · exact h
        · have e0 : atP p.T s i = [] := by
            unfold atP
            rw [List.drop_eq_nil_iff.2 h]
            rfl
          rw [e0] at hq2
          simp at hq2
      have HIL := Lib.hid hil
      obtain ⟨x, hx⟩ : ∃ x, (atP p.T s i)[q]? = some x := ⟨_, List.getElem?_eq_getElem hq2⟩
      obtain ⟨bi, oi, hA2, e1⟩ := HS.out.cell hx
      have r0 : (0 : Int) ≤ (q : Int) := by omega
      have r1 : (q : Int) < (N : Int) := by omega
      have wq : IntKind.i64.wrap ((q : Int) + 1) = (q : Int) + 1 := IntWalk.i64_in _ (by have := HNN.out; have := atP_len p.T s i; have := HSL.out; omega)
      have HX := Lib.hid hx
      have HQ2 := Lib.hid hq2
      clear hx hq2 hil
      subst hA2
      by_cases hxe : x = id
      · subst hxe
        obtain ⟨hk1, hk2⟩ := HSQ.out.1 HX.out
        subst hk2
        have HK := Lib.hid hk1
        clear hk1
        have n0 := HS.out.num.c0
        have v0 := HS.out.res.c0
        have v1 := HS.out.res.z0
        go_wp2_with fail
        refine ret_cell_tmp1 rfl rfl rfl (load_nat (HS.out.res.put HS.out.num.nat).blk) ?_
        exact ⟨⟨_, _, _, rfl, by rw [HK.out]; exact (HS.out.res.put HS.out.num.nat).nat⟩, HS.out.ask.setVar HS.out.res HS.out.lo _⟩
      · obtain ⟨m1, m2, m3, m4⟩ := at_len HT.out s HIL.out HQ2.out
        have hid : (atP p.T s i)[q]'HQ2.out = x := by have := List.getElem?_eq_getElem HQ2.out; rw [HX.out] at this; injection this with this; exact this.symm
        rw [hid] at m1 m2 m3 m4
        have hfs := sumA_snoc p.T s i q HX.out
        have hle := sumA_take p.T (s.drop i) (atP p.T s i) (q + 1)
        have hrec : cntJ p.T s i = sumA p.T (s.drop i) (atP p.T s i) := cntA_rec HT.out (by intro e; have := List.drop_eq_nil_iff.1 e; have := HIL.out; omega)
        have hdgk := cntJ_dg HT.out s i
        rw [← hrec, hfs] at hle
        obtain ⟨sz, hsz⟩ : ∃ z, lenT p.T x = z := ⟨_, rfl⟩
        have HSZ : Hid (∀ V, LatV V base lb p s → Calls Tryz.prog 31 #[.pointer (some ⟨lb, 0, none⟩), .int .i64 x] V fun e w' => e = .returned (.int .i64 (sz : Nat)) ∧ w' = V) := Lib.hid (fun V hV => by rw [← hsz]; exact hV.size x)
        rw [hsz] at m1 m2 m3 m4 hfs hle
        obtain ⟨J, hJ⟩ : ∃ J, i + sz = J := ⟨_, rfl⟩
        rw [hJ] at m2 m3 m4 hfs hle
        have wks : IntKind.i64.wrap ((i : Int) + (sz : Int)) = (J : Int) := by rw [show (i : Int) + (sz : Int) = (J : Int) by omega]; exact IntWalk.i64_in _ (by have := HSL.out; omega)
        obtain ⟨fi, hfi⟩ : ∃ n, sumA p.T (s.drop i) ((atP p.T s i).take q) = n := ⟨_, rfl⟩
        obtain ⟨fj, hfj⟩ : ∃ n, cntJ p.T s J = n := ⟨_, rfl⟩
        rw [hfi, hfj] at hfs hle
        rw [hfi] at HS
        have HD : Hid ((dg B32 (fi + fj)).length ≤ 100000) := Lib.hid (Nat.le_trans (dg_len_mono (by decide) hle) (by have := HSL.out; omega))
        have HFS := Lib.hid hfs
        have HJL := Lib.hid m2
        have HFR : Hid (∀ V, LatV V base lb p s → Calls Tryz.prog 28 #[.pointer (some ⟨lb, 0, none⟩), .int .i64 (J : Int)] V fun e w' => ∃ A k c, e = .returned (.agg #[.slice A k c]) ∧ NatIs w' (.agg #[.slice A k c]) fj ∧ Ask V w' base lb p s) := Lib.hid (fun V hV => by rw [← hfj]; exact hV.from HT.out HSL.out J HJL.out)
        have HN2 : Hid (∀ y ∈ (atP p.T s i).take (q + 1), y ≠ id) := Lib.hid (fun y hy => by
          rw [List.take_add_one, HX.out] at hy
          rcases List.mem_append.1 hy with hy | hy
          · exact HNE.out y hy
          · simp at hy
            rw [hy]
            exact hxe)
        have hh := And.intro HS.out.num.c0 HS.out.way.cc
        clear hid hsz hfs hJ hfi hfj m1 m2 m3 m4 hle hrec hdgk
        go_upto_region 7 with fail
        clear e1
        refine wp_region_D (Ds := [19]) (S := fun V => V.cell? ⟨nb, 0, none⟩ = some (.slice An kn cn) ∧ V.cell? ⟨wb, 0, none⟩ = some (.pointer (some ⟨lb, 0, none⟩)) ∧ V.cell? ⟨wb, 1, none⟩ = some (.int .i64 (i : Int))) (by kernel_rfl) (by exact hh) (fun hHeld => ?_)
        (replace HS := Lib.hid HS.out.drew); clear hh; generalize W.drew = W5 at *
        refine tkP 1 28 ?_ rfl (.inl ⟨by rfl, ?_⟩) ?_; rotate_left; focus (intro w' _; go_simp; (try with_reducible rfl))
        try simp only [sIB, sC0, sCS]
        refine tkP 2 29 ?_ rfl (.inl ⟨by rfl, ?_⟩) ?_; rotate_left; focus (intro w' _; go_simp; (try with_reducible rfl))
        try simp only [sIB, sC0, sCS]
        refine tkP 3 30 ?_ rfl (.inl ⟨by rfl, ?_⟩) ?_; rotate_left; focus (intro w' _; go_simp; (try with_reducible rfl))
        try simp only [sIB, sC0, sCS]
        refine tkP 5 32 ?_ rfl (.inl ⟨by rfl, ?_⟩) ?_; rotate_left; focus (intro w' _; go_simp; (try with_reducible rfl))
        try simp only [sIB, sC0, sCS]
        refine tkP 6 33 ?_ rfl (.inl ⟨by rfl, ?_⟩) ?_; rotate_left; focus (intro w' _; go_simp; (try with_reducible rfl))
        try simp only [sIB, sC0, sCS]
        refine tkP 7 34 ?_ rfl (.inl ⟨by rfl, ?_⟩) ?_; rotate_left; focus (intro w' _; go_simp; (try with_reducible rfl))
        try simp only [sIB, sC0, sCS]
        refine tkP 9 36 ?_ rfl (.inl ⟨by rfl, ?_⟩) ?_; rotate_left; focus (intro w' _; go_simp; (try with_reducible rfl))
        try simp only [sIB, sC0, sCS]
        refine tkP 10 37 ?_ rfl (.inl ⟨by rfl, ?_⟩) ?_; rotate_left; focus (intro w' _; go_simp; (try with_reducible rfl))
        try simp only [sIB, sC0, sCS]
        refine tkP 11 38 ?_ rfl (.inl ⟨by rfl, ?_⟩) ?_; rotate_left; focus (intro w' _; go_simp; (try with_reducible rfl))
        try simp only [sIB, sC0, sCS]
        refine tkP 13 40 ?_ rfl (.inl ⟨by rfl, ?_⟩) ?_; rotate_left; focus (intro w' _; go_simp; (try with_reducible rfl))
        try simp only [sIB, sC0, sCS]
        refine tkD 0 27 ?_ rfl hHeld (.inl ⟨by rfl, ?_⟩) ?_; rotate_left; focus (intro w' hSw; (try dsimp only at hSw); go_simp; (try with_reducible rfl))
        try simp only [sIB, sC0, sCS]
        refine tkD 4 31 ?_ rfl hHeld (.inl ⟨by rfl, ?_⟩) ?_; rotate_left; focus (intro w' hSw; (try dsimp only at hSw); go_simp; (try with_reducible rfl))
        try simp only [sIB, sC0, sCS]
        refine tkD 8 35 ?_ rfl hHeld (.inl ⟨by rfl, ?_⟩) ?_; rotate_left; focus (intro w' hSw; (try dsimp only at hSw); go_simp; (try with_reducible rfl))
        try simp only [sIB, sC0, sCS]
        refine tkD 12 39 ?_ rfl hHeld (.inl ⟨by rfl, ?_⟩) ?_; rotate_left; focus (intro w' hSw; (try dsimp only at hSw); go_simp; (try with_reducible rfl))
        try simp only [sIB, sC0, sCS]
        refine wpAnyD_one (i := 14) (by kernel_rfl) rfl (by rfl) (fun K hK => ?_)
        go_simp; refine (HSZ.out _ HS.out.ask.lat).mono ?_; rintro e W6 ⟨rfl, hw⟩; rw [hw]; clear hw W6; have h := hHeld; go_simp
        refine hK.out _ _ h (fun hHeld => ?_)
        clear hK K
        try simp only [Act.put, sIB, sC0, sCS]
        refine tkP 15 42 ?_ rfl (.inl ⟨by rfl, ?_⟩) ?_; rotate_left; focus (intro w' _; go_simp; (try with_reducible rfl))
        try simp only [sIB, sC0, sCS]
        refine wpAnyD_one (i := 16) (by kernel_rfl) rfl (by rfl) (fun K hK => ?_)
        go_simp; refine (HFR.out _ HS.out.ask.lat).mono ?_; rintro e W6 ⟨A3, k3, c3, rfl, hn, ha⟩; (replace HS := Lib.hid (HS.out.asks ha)); have HN3 := Lib.hid hn; have h := And.intro HS.out.num.c0 HS.out.way.cc; clear hn ha; go_simp
        refine hK.out _ _ h (fun hHeld => ?_)
        clear hK K
        try simp only [Act.put, sIB, sC0, sCS]
        refine wpAnyD_one (i := 17) (by kernel_rfl) rfl (by rfl) (fun K hK => ?_)
        go_simp; refine lgen_al (fun W7 hW7 hN7 => ?_); (replace HS := Lib.hid (HS.out.below hW7)); (replace HN3 := Lib.hid (HN3.out.below hW7 (Nat.le_refl _))); have HN7 := Lib.hid hN7; have h := And.intro HS.out.num.c0 HS.out.way.cc; clear hW7 hN7
        refine hK.out _ _ h (fun hHeld => ?_)
        clear hK K
        try simp only [Act.put, sIB, sC0, sCS]
        refine wpAnyD_one (i := 18) (by kernel_rfl) rfl (by rfl) (fun K hK => ?_)
        go_simp; refine (add1_any _ _ HS.out.num.nat HN3.out HN7.out HD.out _).mono ?_; rintro e W8 ⟨A8, k8, c8, rfl, hn, hb⟩; have HN8 := Lib.hid hn; (replace HS := Lib.hid (HS.out.below hb)); have h := And.intro HS.out.num.c0 HS.out.way.cc; clear hn hb; go_simp
        refine hK.out _ _ h (fun hHeld => ?_)
        clear hK K
        try simp only [Act.put, sIB, sC0, sCS]
        refine wpAnyD_last (D := 19) (by decide) (by kernel_rfl) rfl (by rfl) (fun K hK => ?_)
        have n0 := HS.out.num.c0; have n1 := HS.out.num.z0; go_simp
        refine hK.out _ _ ?_
        clear hK K
        try simp only [Act.put, sIB, sC0, sCS]
        refine wpAnyD_done (by kernel_rfl) ?_ _
        have HS9 := Lib.hid (HS.out.put HN8.out)
        rw [← HFS.out] at HS9
        clear h hHeld n0 n1 HS HN8 HN3 HN7
        generalize W8.setCell ⟨nb, 0, none⟩ (.slice A8 k8 c8) = W9 at *
        go_wp2_with fail
        go_roundg (gk - 1)
        case measure => have := HQ.out; omega
        case rel => exact ⟨q + 1, A8, k8, c8, by have := HQ.out; omega, by simp, HS9.out, HN2.out⟩
    · have hlt2 : ¬ (q : Int) < (N : Int) := by omega
      obtain ⟨hk1, hk2⟩ := HSQ.out.2 (by have := HNN.out; omega)
      subst hk2
      have HK := Lib.hid hk1
      clear hk1 hlt
      have v0 := HS.out.res.c0
      have v1 := HS.out.res.z0
      go_wp2_with fail
      refine ret_cell_tmp1 rfl rfl rfl (load_nat (HS.out.res.put (NatIs.zero _)).blk) ?_
      exact ⟨⟨_, _, _, rfl, by rw [HK.out]; exact NatIs.zero _⟩, HS.out.ask.setVar HS.out.res HS.out.lo _⟩
theorem SkS.begin2 (h : LatV w base lb p s) (hw : Way w lb wb i) (hn : NatIs w (.agg #[.slice A k c]) m) {w1 w2 : World} (e1 : w.alloc (.cells #[.slice A k c] 59) = w1) (e2 : w1.alloc (.cells #[.slice none 0 0] 59) = w2) (hb : Below w2.heap.size w2 W) {b0 : Nat} (hi : W.ownsRow b0 3 1 (.slice A2 l.length c2) l.length (l.map (Value.int .i64))) :
    SkS w W base lb wb i w1.heap.size w.heap.size p s A k c m A2 c2 l := by
  subst e1
  subst e2
  have a1 := (Ask.refl h).alloc (.cells #[.slice A k c] 59)
  have v1 := Var.made h hn
  have a2 := a1.alloc (.cells #[.slice none 0 0] 59)
  have v2 := Var.made a1.lat (NatIs.zero _)
  have a3 := Ask.of_below a2.lat hb
  have a4 := Ask.of_below a1.lat ((Below.refl _ _).alloc (Nat.le_refl _) (.cells #[.slice none 0 0] 59))
  exact ⟨a2.trans a3, (hw.ask a2).ask a3, v2.ask a3, (v1.ask a4).ask a3, ⟨b0, hi⟩, a1.keep.size, Nat.le_refl _, by have := v1.lt; omega⟩
theorem gen_setW {K : Act → World → Prop} {a : Act} {V V' : World} (e : V = V') (h : ∀ W', V' = W' → K a W') : K a V := by
  subst e
  exact h _ rfl
structure SkB (w W : World) (lb r nb b : Nat) (A : Option Addr) (k c m : Nat) : Prop where
  var : Var W lb b A k c m
  lo : w.heap.size ≤ b
  n1 : r < b
  n2 : nb < b
theorem SkB.ask {b : Nat} (h : SkB w W lb r nb b A k c m) (ha : Ask W W' base lb p s) : SkB w W' lb r nb b A k c m := ⟨h.var.ask ha, h.lo, h.n1, h.n2⟩
theorem SkS.gen {K : Act → World → Prop} {a : Act} (h : SkS w W base lb wb i r nb p s A k c m A2 c2 l) (hK : ∀ W' b8, Below W.heap.size W W' → W.heap.size = b8 → SkS w W' base lb wb i r nb p s A k c m A2 c2 l → SkB w W' lb r nb b8 none 0 0 0 → K a W') : K a (W.alloc (.cells #[.slice none 0 0] 59)) := by
  have hb := (Below.refl W.heap.size W).alloc (Nat.le_refl _) (.cells #[.slice none 0 0] 59)
  exact hK _ _ hb rfl (h.below hb) ⟨Var.made h.ask.lat (NatIs.zero _), h.ask.keep.size, h.res.lt, h.num.lt⟩
theorem SkS.putB {b : Nat} {A3 : Option Addr} {k3 c3 m3 : Nat} (h : SkS w W base lb wb i r nb p s A k c m A2 c2 l) (hv : SkB w W lb r nb b A' k' c' m') (hn : NatIs W (.agg #[.slice A3 k3 c3]) m3) : SkS w (W.setCell ⟨b, 0, none⟩ (.slice A3 k3 c3)) base lb wb i r nb p s A k c m A2 c2 l ∧ SkB w (W.setCell ⟨b, 0, none⟩ (.slice A3 k3 c3)) lb r nb b A3 k3 c3 m3 := by
  have hk : Keep (fun x => x = b) W (W.setCell ⟨b, 0, none⟩ (.slice A3 k3 c3)) := (Keep.refl (fun x => x = b) W).setCell (p := ⟨b, 0, none⟩) (.inl rfl) _
  have h1 := hv.n1
  have h2 := hv.n2
  exact ⟨⟨h.ask.setVar hv.var hv.lo _, h.way.far (fun e => h.way.ne hv.var e.symm) _, h.res.far hv.var.c0 (fun x => by simp) (by omega) hv.var.lo _, h.num.far hv.var.c0 (fun x => by simp) (by omega) hv.var.lo _, by obtain ⟨b0, hi⟩ := h.ids; exact ⟨b0, own_keep hi hk (row_off hi hv.var.blk (by decide))⟩, h.lo, h.lo2, h.ne⟩, hv.var.put hn, hv.lo, hv.n1, hv.n2⟩
theorem SkB.below {b : Nat} (h : SkB w W lb r nb b A k c m) (hb : Below W.heap.size W W') : SkB w W' lb r nb b A k c m := ⟨h.var.below hb, h.lo, h.n1, h.n2⟩
theorem SkB.put {b : Nat} {A3 : Option Addr} {k3 c3 m3 : Nat} (hv : SkB w W lb r nb b A' k' c' m') (h : SkS w W base lb wb i r nb p s A k c m A2 c2 l) (hn : NatIs W (.agg #[.slice A3 k3 c3]) m3) : SkB w (W.setCell ⟨nb, 0, none⟩ (.slice A3 k3 c3)) lb r nb b A' k' c' m' :=
  ⟨hv.var.far h.num.c0 (fun x => by simp) (by have := hv.n2; omega) h.num.lo _, hv.lo, hv.n1, hv.n2⟩
end
section
variable {w w' W W' : World} {base lb wb i r nb k c m k' c' m' c2 : Nat} {p : VocP} {s : List UInt8} {A A' A2 : Option Addr} {l : List Int}
theorem SkS.gen3 (h : SkS w W base lb wb i r nb p s A k c m A2 c2 l) (hn : NatIs W (.agg #[.slice A' k' c']) m') : SkS w (W.alloc (.cells #[.slice A' k' c'] 59)) base lb wb i r nb p s A k c m A2 c2 l ∧ SkB w (W.alloc (.cells #[.slice A' k' c'] 59)) lb r nb W.heap.size A' k' c' m' :=
  ⟨h.below ((Below.refl W.heap.size W).alloc (Nat.le_refl _) _), Var.made h.ask.lat hn, h.ask.keep.size, h.res.lt, h.num.lt⟩
set_option maxHeartbeats 4000000 in
theorem wpick_any {n : Nat} (h : LatV w base lb p s) (hw : Way w lb wb i) (hT : OkT p.T) (hs : s.length ≤ 4000) (hi : i < s.length) (hn : NatIs w (.agg #[.slice A k c]) n) (hlt : n < cntJ p.T s i) (X : Int) (R : Nat) (hX : pickN p.T (s.drop i) n (atP p.T s i) = (X, R)) :
    Calls Tryz.prog 92 #[.pointer (some ⟨wb, 0, none⟩), .agg #[.slice A k c]] w fun e w' => (∃ A k c, e = .returned (.tuple #[.int .i64 X, .agg #[.slice A k c]]) ∧ NatIs w' (.agg #[.slice A k c]) R) ∧ Ask w w' base lb p s := by
  have hall : sumA p.T (s.drop i) (atP p.T s i) = cntJ p.T s i := (cntA_rec hT (by intro e; have := List.drop_eq_nil_iff.1 e; omega)).symm
  have HPK : Hid (∀ q x, (atP p.T s i)[q]? = some x → sumA p.T (s.drop i) ((atP p.T s i).take q) ≤ n → n - sumA p.T (s.drop i) ((atP p.T s i).take q) < cntJ p.T s (i + lenT p.T x) → x = X ∧ n - sumA p.T (s.drop i) ((atP p.T s i).take q) = R) := Lib.hid (fun q x hq h1 h2 => by
    have h3 := pick_take (T := p.T) (s := s.drop i) (atP p.T s i) q n h1
    rw [drop_at hq, pickN, if_pos (by rw [List.drop_drop]; exact h2)] at h3
    rw [hX] at h3
    injection h3 with h3 h4
    exact ⟨h3.symm, h4.symm⟩)
  have HALL := Lib.hid hall
  have HLT := Lib.hid hlt
  have HT := Lib.hid hT
  have HSL := Lib.hid hs
  have HI := Lib.hid hi
  have HH := Lib.hid (And.intro h (And.intro hw hn))
  clear hX h hw hT hs hall hlt hn
  go_enter Tryz.func92, Tryz.ntmps92
  go_upto_region 1 with fail
  obtain ⟨w1, hw1⟩ : ∃ v, w.alloc (.cells #[.slice A k c] 59) = v := ⟨_, rfl⟩
  rw [hw1]
  obtain ⟨w2, hw2⟩ : ∃ v, w1.alloc (.cells #[.slice none 0 0] 59) = v := ⟨_, rfl⟩
  rw [hw2]
  have HB : Hid (∀ V (A2 : Option Addr) (c2 b0 : Nat), Below w2.heap.size w2 V → V.ownsRow b0 3 1 (.slice A2 (atP p.T s i).length c2) (atP p.T s i).length ((atP p.T s i).map (Value.int .i64)) → SkS w V base lb wb i w1.heap.size w.heap.size p s A k c n A2 c2 (atP p.T s i)) := Lib.hid (fun V A2 c2 b0 hV ho => SkS.begin2 HH.out.1 HH.out.2.1 HH.out.2.2 hw1 hw2 hV ho)
  have HA : Hid (Ask w w2 base lb p s) := Lib.hid (by rw [← hw2, ← hw1]; exact ((Ask.refl HH.out.1).alloc _).alloc _)
  have hh := (HH.out.2.1.ask HA.out).cc
  have e1 : w1.heap.size = w.heap.size + 1 := by rw [← hw1]; simp
  obtain ⟨r, hr⟩ : ∃ r, w.heap.size + 1 = r := ⟨_, rfl⟩
  rw [e1, hr] at HB
  rw [hr]
  obtain ⟨nb, hnb⟩ : ∃ r, w.heap.size = r := ⟨_, rfl⟩
  rw [hnb] at HB
  rw [hnb]
  clear hw1 hw2 hr hnb e1
  have HAT : Hid (∀ V, LatV V base lb p s → Calls Tryz.prog 29 #[.pointer (some ⟨lb, 0, none⟩), .int .i64 (i : Int)] V fun e w' => (∃ v, e = .returned v ∧ IntsIs w' V.heap.size v (atP p.T s i)) ∧ Below V.heap.size V w') := Lib.hid (fun V hV => hV.atAny i (Nat.le_of_lt HI.out) (by have := HSL.out; omega))
  refine wp_region_held_drew (S := fun V => V.cell? ⟨wb, 0, none⟩ = some (.pointer (some ⟨lb, 0, none⟩)) ∧ V.cell? ⟨wb, 1, none⟩ = some (.int .i64 (i : Int))) (by kernel_rfl) (by exact hh) (fun hHeld => ?_)
  refine tkH 0 11 ?_ rfl hHeld (.inl ⟨by rfl, ?_⟩) ?_; rotate_left; focus (intro w' hSw; (try dsimp only at hSw); go_simp; (try with_reducible rfl))
  try simp only [sIB, sC0, sCS]
  refine tkH 1 12 ?_ rfl hHeld (.inl ⟨by rfl, ?_⟩) ?_; rotate_left; focus (intro w' hSw; (try dsimp only at hSw); go_simp; (try with_reducible rfl))
  try simp only [sIB, sC0, sCS]
  refine tkH 2 13 ?_ rfl hHeld (.inl ⟨by rfl, ?_⟩) ?_; rotate_left; focus (intro w' hSw; (try dsimp only at hSw); go_simp; (try with_reducible rfl))
  try simp only [sIB, sC0, sCS]
  refine tkH 3 14 ?_ rfl hHeld (.inl ⟨by rfl, ?_⟩) ?_; rotate_left; focus (intro w' hSw; (try dsimp only at hSw); go_simp; (try with_reducible rfl))
  try simp only [sIB, sC0, sCS]
  refine tkH 4 15 ?_ rfl hHeld (.inl ⟨by rfl, ?_⟩) ?_; rotate_left; focus (intro w' hSw; (try dsimp only at hSw); go_simp; (try with_reducible rfl))
  try simp only [sIB, sC0, sCS]
  refine tkH 5 16 ?_ rfl hHeld (.inl ⟨by rfl, ?_⟩) ?_; rotate_left; focus (intro w' hSw; (try dsimp only at hSw); go_simp; (try with_reducible rfl))
  try simp only [sIB, sC0, sCS]
  refine tkH 6 17 ?_ rfl hHeld (.inl ⟨by rfl, ?_⟩) ?_; rotate_left; focus (intro w' hSw; (try dsimp only at hSw); go_simp; (try with_reducible rfl))
  try simp only [sIB, sC0, sCS]
  refine tkH 7 18 ?_ rfl hHeld (.inl ⟨by rfl, ?_⟩) ?_; rotate_left; focus (intro w' hSw; (try dsimp only at hSw); go_simp; (try with_reducible rfl))
  try simp only [sIB, sC0, sCS]
  refine tkH 10 21 ?_ rfl hHeld (.inl ⟨by rfl, ?_⟩) ?_; rotate_left; focus (intro w' hSw; (try dsimp only at hSw); go_simp; (try with_reducible rfl))
  try simp only [sIB, sC0, sCS]
  refine wpAnyH_ready (rs := [8]) (by kernel_rfl) (by simp) ?_
  refine AllReadyH.cons rfl (fun K hK => ?_) AllReadyH.nil
  (try go_simp)
  go_simp; refine (HAT.out _ HA.out.drew.lat).mono ?_; rintro e W6 ⟨⟨v, rfl, A2, c2, rfl, hown⟩, hb⟩; have HS := Lib.hid (HB.out W6 A2 c2 _ (((Below.refl _ _).drew).trans hb) hown); have h := HS.out.way.cc; clear hown hb; go_simp
  go_wp2_with fail
  refine hK.out _ _ h (fun hHeld => ?_)
  clear hK K
  try simp only [Act.put, sIB, sC0, sCS]
  refine tkH 9 20 ?_ rfl hHeld (.inl ⟨by rfl, ?_⟩) ?_; rotate_left; focus (intro w' hSw; (try dsimp only at hSw); go_simp; (try with_reducible rfl))
  try simp only [sIB, sC0, sCS]
  refine wpAnyH_done (by kernel_rfl) ?_ _
  clear hh hHeld h HA HB HAT
  obtain ⟨N, hN⟩ : ∃ N, (atP p.T s i).length = N := ⟨_, rfl⟩
  have HNN := Lib.hid hN
  rw [hN]
  clear hN
  go_wp2_with fail
  go_loopg [21] N (fun n' i' W => ∃ (q : Nat) (An : Option Addr) (kn cn : Nat), q + n' = N ∧ i' = .int .i64 (q : Int) ∧ SkS w W base lb wb i r nb p s An kn cn (n - sumA p.T (s.drop i) ((atP p.T s i).take q)) A2 c2 (atP p.T s i) ∧ sumA p.T (s.drop i) ((atP p.T s i).take q) ≤ n)
  case atStart => exact ⟨0, A, k, c, by omega, rfl, HS.out, Nat.zero_le _⟩
  case round =>
    obtain ⟨q, An, kn, cn, hq, rfl, hs, hne⟩ := hrel
    clear HS
    rename World => W
    have HS := Lib.hid hs
    have HQ := Lib.hid hq
    have HNE := Lib.hid hne
    clear hs hq hne
    have hlt : q < N := by
      rcases Nat.lt_or_ge q N with h | h
      · exact h
      · exfalso
        have h1 := HNE.out
        rw [List.take_of_length_le (by have := HNN.out; omega), HALL.out] at h1
        have := HLT.out
        omega
    have hq2 : q < (atP p.T s i).length := by have := HNN.out; omega
    obtain ⟨x, hx⟩ : ∃ x, (atP p.T s i)[q]? = some x := ⟨_, List.getElem?_eq_getElem hq2⟩
    obtain ⟨bi, oi, hA2, e1⟩ := HS.out.cell hx
    have r0 : (0 : Int) ≤ (q : Int) := by omega
    have r1 : (q : Int) < (N : Int) := by omega
    have wq : IntKind.i64.wrap ((q : Int) + 1) = (q : Int) + 1 := IntWalk.i64_in _ (by have := HNN.out; have := atP_len p.T s i; have := HSL.out; omega)
    have HX := Lib.hid hx
    have HQ2 := Lib.hid hq2
    have HPQ := Lib.hid (HPK.out q x hx HNE.out)
    clear hx hq2 hlt
    subst hA2
    obtain ⟨m1, m2, m3, m4⟩ := at_len HT.out s HI.out HQ2.out
    have hid : (atP p.T s i)[q]'HQ2.out = x := by have := List.getElem?_eq_getElem HQ2.out; rw [HX.out] at this; injection this with this; exact this.symm
    rw [hid] at m1 m2 m3 m4
    have hfs := sumA_snoc p.T s i q HX.out
    have hle := sumA_take p.T (s.drop i) (atP p.T s i) (q + 1)
    have hdgk := cntJ_dg HT.out s i
    rw [HALL.out, hfs] at hle
    obtain ⟨sz, hsz⟩ : ∃ z, lenT p.T x = z := ⟨_, rfl⟩
    have HSZ : Hid (∀ V, LatV V base lb p s → Calls Tryz.prog 31 #[.pointer (some ⟨lb, 0, none⟩), .int .i64 x] V fun e w' => e = .returned (.int .i64 (sz : Nat)) ∧ w' = V) := Lib.hid (fun V hV => by rw [← hsz]; exact hV.size x)
    rw [hsz] at m1 m2 m3 m4 hfs hle HPQ
    obtain ⟨J, hJ⟩ : ∃ J, i + sz = J := ⟨_, rfl⟩
    rw [hJ] at m2 m3 m4 hfs hle HPQ
    have wks : IntKind.i64.wrap ((i : Int) + (sz : Int)) = (J : Int) := by rw [show (i : Int) + (sz : Int) = (J : Int) by omega]; exact IntWalk.i64_in _ (by have := HSL.out; omega)
    obtain ⟨fi, hfi⟩ : ∃ n, sumA p.T (s.drop i) ((atP p.T s i).take q) = n := ⟨_, rfl⟩
    obtain ⟨fj, hfj⟩ : ∃ n, cntJ p.T s J = n := ⟨_, rfl⟩
    rw [hfi, hfj] at hfs hle HPQ
    rw [hfi] at HS HNE
    obtain ⟨m, hm⟩ : ∃ m, n - fi = m := ⟨_, rfl⟩
    rw [hm] at HS HPQ
    have HM := Lib.hid hm
    have HD : Hid ((dg B32 m).length ≤ 100000 ∧ (dg B32 fj).length ≤ 100000) := Lib.hid ⟨Nat.le_trans (dg_len_mono (by decide) (show m ≤ cntJ p.T s i by have := HLT.out; omega)) (by have := HSL.out; omega), Nat.le_trans (dg_len_mono (by decide) (show fj ≤ cntJ p.T s i by omega)) (by have := HSL.out; omega)⟩
    have HFS := Lib.hid hfs
    have HJL := Lib.hid m2
    have HFR : Hid (∀ V, LatV V base lb p s → Calls Tryz.prog 28 #[.pointer (some ⟨lb, 0, none⟩), .int .i64 (J : Int)] V fun e w' => ∃ A k c, e = .returned (.agg #[.slice A k c]) ∧ NatIs w' (.agg #[.slice A k c]) fj ∧ Ask V w' base lb p s) := Lib.hid (fun V hV => by rw [← hfj]; exact hV.from HT.out HSL.out J HJL.out)
    have hh := HS.out.way.cc
    clear hid hsz hfs hJ hfi hfj m1 m2 m3 m4 hle hdgk hm
    go_upto_region 4 with fail
    clear e1
    refine wp_region_D (Ds := [17]) (S := fun V => V.cell? ⟨wb, 0, none⟩ = some (.pointer (some ⟨lb, 0, none⟩)) ∧ V.cell? ⟨wb, 1, none⟩ = some (.int .i64 (i : Int))) (by kernel_rfl) (by exact hh) (fun hHeld => ?_)
    (replace HS := Lib.hid HS.out.drew); clear hh; generalize W.drew = W5 at *
    refine tkP 0 25 ?_ rfl (.inl ⟨by rfl, ?_⟩) ?_; rotate_left; focus (intro w' _; go_simp; (try with_reducible rfl))
    try simp only [sIB, sC0, sCS]
    refine tkP 1 26 ?_ rfl (.inl ⟨by rfl, ?_⟩) ?_; rotate_left; focus (intro w' _; go_simp; (try with_reducible rfl))
    try simp only [sIB, sC0, sCS]
    refine tkP 2 27 ?_ rfl (.inl ⟨by rfl, ?_⟩) ?_; rotate_left; focus (intro w' _; go_simp; (try with_reducible rfl))
    try simp only [sIB, sC0, sCS]
    refine tkP 4 29 ?_ rfl (.inl ⟨by rfl, ?_⟩) ?_; rotate_left; focus (intro w' _; go_simp; (try with_reducible rfl))
    try simp only [sIB, sC0, sCS]
    refine tkP 5 30 ?_ rfl (.inl ⟨by rfl, ?_⟩) ?_; rotate_left; focus (intro w' _; go_simp; (try with_reducible rfl))
    try simp only [sIB, sC0, sCS]
    refine tkP 6 31 ?_ rfl (.inl ⟨by rfl, ?_⟩) ?_; rotate_left; focus (intro w' _; go_simp; (try with_reducible rfl))
    try simp only [sIB, sC0, sCS]
    refine tkP 8 33 ?_ rfl (.inl ⟨by rfl, ?_⟩) ?_; rotate_left; focus (intro w' _; go_simp; (try with_reducible rfl))
    try simp only [sIB, sC0, sCS]
    refine tkP 9 34 ?_ rfl (.inl ⟨by rfl, ?_⟩) ?_; rotate_left; focus (intro w' _; go_simp; (try with_reducible rfl))
    try simp only [sIB, sC0, sCS]
    refine tkP 10 35 ?_ rfl (.inl ⟨by rfl, ?_⟩) ?_; rotate_left; focus (intro w' _; go_simp; (try with_reducible rfl))
    try simp only [sIB, sC0, sCS]
    refine tkP 12 37 ?_ rfl (.inl ⟨by rfl, ?_⟩) ?_; rotate_left; focus (intro w' _; go_simp; (try with_reducible rfl))
    try simp only [sIB, sC0, sCS]
    refine tkD 3 28 ?_ rfl hHeld (.inl ⟨by rfl, ?_⟩) ?_; rotate_left; focus (intro w' hSw; (try dsimp only at hSw); go_simp; (try with_reducible rfl))
    try simp only [sIB, sC0, sCS]
    refine tkD 7 32 ?_ rfl hHeld (.inl ⟨by rfl, ?_⟩) ?_; rotate_left; focus (intro w' hSw; (try dsimp only at hSw); go_simp; (try with_reducible rfl))
    try simp only [sIB, sC0, sCS]
    refine tkD 11 36 ?_ rfl hHeld (.inl ⟨by rfl, ?_⟩) ?_; rotate_left; focus (intro w' hSw; (try dsimp only at hSw); go_simp; (try with_reducible rfl))
    try simp only [sIB, sC0, sCS]
    refine wpAnyD_two (i := 13) (j := 16) (by kernel_rfl) rfl rfl (by rfl) (by rfl) (fun K hK => ?_) (fun K hK => ?_)
    ·
      go_simp; refine (HSZ.out _ HS.out.ask.lat).mono ?_; rintro e W6 ⟨rfl, hw⟩; rw [hw]; clear hw W6; have h := hHeld; go_simp
      refine hK.out _ _ h (fun hHeld => ?_)
      clear hK K
      try simp only [Act.put, sIB, sC0, sCS]
      refine tkP 14 39 ?_ rfl (.inl ⟨by rfl, ?_⟩) ?_; rotate_left; focus (intro w' _; go_simp; (try with_reducible rfl))
      try simp only [sIB, sC0, sCS]
      refine wpAnyD_two (i := 15) (j := 16) (by kernel_rfl) rfl rfl (by rfl) (by rfl) (fun K hK => ?_) (fun K hK => ?_)
      ·
        go_simp; refine (HFR.out _ HS.out.ask.lat).mono ?_; rintro e W6 ⟨A3, k3, c3, rfl, hn, ha⟩; (replace HS := Lib.hid (HS.out.asks ha)); (try (replace HV8 := Lib.hid (HV8.out.ask ha))); have HN3 := Lib.hid hn; have h := HS.out.way.cc; clear hn ha; go_simp
        refine hK.out _ _ h (fun hHeld => ?_)
        clear hK K
        try simp only [Act.put, sIB, sC0, sCS]
        refine wpAnyD_one (i := 16) (by kernel_rfl) rfl (by rfl) (fun K hK => ?_)
        go_simp; refine HS.out.gen (fun W7 b8 hW7 hb8 hS7 hv7 => ?_); rw [hb8]; clear hb8; (replace HS := Lib.hid hS7); (try (replace HN3 := Lib.hid (HN3.out.below hW7 (Nat.le_refl _)))); have HV8 := Lib.hid hv7; have h := HS.out.way.cc; clear hW7 hS7 hv7
        refine hK.out _ _ h (fun hHeld => ?_)
        clear hK K
        try simp only [Act.put, sIB, sC0, sCS]
        refine wpAnyD_last (D := 17) (by decide) (by kernel_rfl) rfl (by rfl) (fun K hK => ?_)
        have n0 := HV8.out.var.c0; have n1 := HV8.out.var.z0; go_simp; have HS9 := Lib.hid (HS.out.putB HV8.out HN3.out); refine gen_setW rfl (fun VZ hVZ => ?_); rw [hVZ] at HS9; clear hVZ n0 n1
        refine hK.out _ _ ?_
        clear hK K
        try simp only [Act.put, sIB, sC0, sCS]
        refine wpAnyD_done (by kernel_rfl) ?_ _
        clear h hHeld HS HN3 HV8
        have n0 := HS9.out.1.num.c0
        have n1 := HS9.out.2.var.c0
        by_cases hle : fj ≤ m
        · have HDE : Hid (decide (fj ≤ m) = true) := Lib.hid (decide_eq_true hle)
          have HNX : Hid (m - fj = n - sumA p.T (s.drop i) ((atP p.T s i).take (q + 1)) ∧ sumA p.T (s.drop i) ((atP p.T s i).take (q + 1)) ≤ n) := Lib.hid (by rw [HFS.out]; have := HM.out; have := HNE.out; omega)
          clear hle
          go_upto_region 6 with (go_at_call 52; refine (sub_any _ _ m fj _ HS9.out.1.num.nat HS9.out.2.var.nat HD.out.1 HD.out.2).mono ?_; rintro e W10 ⟨v, rfl, ⟨A10, c10, rfl, q1, q2⟩, hb⟩; rw [HDE.out]; (have HT9 := Lib.hid (SkS.gen3 (HS9.out.1.below hb) (A' := A10) (m' := m - fj) ⟨A10, c10, rfl, q1, q2⟩)); clear q1 q2 hb n0 n1 HS9; generalize (dg B32 (m - fj)).length = k10 at *)
          obtain ⟨b9, hb9⟩ : ∃ b, W10.heap.size = b := ⟨_, rfl⟩
          rw [hb9] at HT9 ⊢
          clear hb9
          generalize W10.alloc (.cells #[.slice A10 k10 c10] 59) = W11 at *
          have n0 := HT9.out.1.num.c0
          have n1 := HT9.out.1.num.z0
          have n2 := HT9.out.2.var.c0
          have HS12 := Lib.hid (HT9.out.1.put HT9.out.2.var.nat)
          rw [HNX.out.1] at HS12
          go_wp2_with fail
          go_roundg (gk - 1)
          case measure => have := HQ.out; have := HQ2.out; have := HNN.out; omega
          case rel => exact ⟨q + 1, A10, k10, c10, by have := HQ.out; have := HQ2.out; have := HNN.out; omega, by simp, HS12.out, HNX.out.2⟩
        · have HDE : Hid (decide (fj ≤ m) = false) := Lib.hid (decide_eq_false hle)
          obtain ⟨hk1, hk2⟩ := HPQ.out (Nat.lt_of_not_le hle)
          subst hk1
          have HK := Lib.hid hk2
          clear hle hk2
          go_upto_region 6 with (go_at_call 52; refine (sub_any _ _ m fj _ HS9.out.1.num.nat HS9.out.2.var.nat HD.out.1 HD.out.2).mono ?_; rintro e W10 ⟨v, rfl, ⟨A10, c10, rfl, q1, q2⟩, hb⟩; rw [HDE.out]; (have HT9 := Lib.hid (SkS.gen3 (HS9.out.1.below hb) (A' := A10) (m' := m - fj) ⟨A10, c10, rfl, q1, q2⟩)); clear q1 q2 hb n0 n1 HS9; generalize (dg B32 (m - fj)).length = k10 at *)
          obtain ⟨b9, hb9⟩ : ∃ b, W10.heap.size = b := ⟨_, rfl⟩
          rw [hb9] at HT9 ⊢
          clear hb9
          generalize W10.alloc (.cells #[.slice A10 k10 c10] 59) = W11 at *
          have n0 := HT9.out.1.num.c0
          have n1 := HT9.out.1.res.c0
          have n2 := HT9.out.1.res.z0
          go_upto_region 7 with fail
          refine wp_region_D (Ds := [3]) (S := fun V => V.cell? ⟨nb, 0, none⟩ = some (.slice An kn cn) ∧ V.cell? ⟨r, 0, none⟩ = some (.slice none 0 0) ∧ V.frozen? ⟨r, 0, none⟩ = false) (by kernel_rfl) (by exact ⟨n0, n1, n2⟩) (fun hHeld => ?_)
          (replace HT9 := Lib.hid (And.intro HT9.out.1.drew (HT9.out.2.below (Below.refl _ _).drew))); clear n0 n1 n2; generalize W11.drew = W12 at *
          refine tkP 0 49 ?_ rfl (.inl ⟨by rfl, ?_⟩) ?_; rotate_left; focus (intro w' _; go_simp; (try with_reducible rfl))
          try simp only [sIB, sC0, sCS]
          refine tkP 2 4 ?_ rfl (.inl ⟨by rfl, ?_⟩) ?_; rotate_left; focus (intro w' _; go_simp; (try with_reducible rfl))
          try simp only [sIB, sC0, sCS]
          refine tkD 1 50 ?_ rfl hHeld (.inl ⟨by rfl, ?_⟩) ?_; rotate_left; focus (intro w' hSw; (try dsimp only at hSw); go_simp; (try with_reducible rfl))
          try simp only [sIB, sC0, sCS]
          refine wpAnyD_last (D := 3) (by decide) (by kernel_rfl) rfl (by rfl) (fun K hK => ?_)
          obtain ⟨n0, n1, n2⟩ := hHeld; go_simp
          refine hK.out _ _ ?_
          clear hK K
          try simp only [Act.put, sIB, sC0, sCS]
          refine wpAnyD_done (by kernel_rfl) ?_ _
          go_wp2_with fail
          refine ret_tmp_cell rfl rfl rfl (load_nat (HT9.out.1.res.put HT9.out.1.num.nat).blk) ?_
          exact ⟨⟨_, _, _, rfl, by rw [← HK.out]; exact (HT9.out.1.res.put HT9.out.1.num.nat).nat⟩, HT9.out.1.ask.setVar HT9.out.1.res HT9.out.1.lo _⟩
      ·
        go_simp; refine HS.out.gen (fun W7 b8 hW7 hb8 hS7 hv7 => ?_); rw [hb8]; clear hb8; (replace HS := Lib.hid hS7); (try (replace HN3 := Lib.hid (HN3.out.below hW7 (Nat.le_refl _)))); have HV8 := Lib.hid hv7; have h := HS.out.way.cc; clear hW7 hS7 hv7
        refine hK.out _ _ h (fun hHeld => ?_)
        clear hK K
        try simp only [Act.put, sIB, sC0, sCS]
        refine wpAnyD_one (i := 15) (by kernel_rfl) rfl (by rfl) (fun K hK => ?_)
        go_simp; refine (HFR.out _ HS.out.ask.lat).mono ?_; rintro e W6 ⟨A3, k3, c3, rfl, hn, ha⟩; (replace HS := Lib.hid (HS.out.asks ha)); (try (replace HV8 := Lib.hid (HV8.out.ask ha))); have HN3 := Lib.hid hn; have h := HS.out.way.cc; clear hn ha; go_simp
        refine hK.out _ _ h (fun hHeld => ?_)
        clear hK K
        try simp only [Act.put, sIB, sC0, sCS]
        refine wpAnyD_last (D := 17) (by decide) (by kernel_rfl) rfl (by rfl) (fun K hK => ?_)
        have n0 := HV8.out.var.c0; have n1 := HV8.out.var.z0; go_simp; have HS9 := Lib.hid (HS.out.putB HV8.out HN3.out); refine gen_setW rfl (fun VZ hVZ => ?_); rw [hVZ] at HS9; clear hVZ n0 n1
        refine hK.out _ _ ?_
        clear hK K
        try simp only [Act.put, sIB, sC0, sCS]
        refine wpAnyD_done (by kernel_rfl) ?_ _
        clear h hHeld HS HN3 HV8
        have n0 := HS9.out.1.num.c0
        have n1 := HS9.out.2.var.c0
        by_cases hle : fj ≤ m
        · have HDE : Hid (decide (fj ≤ m) = true) := Lib.hid (decide_eq_true hle)
          have HNX : Hid (m - fj = n - sumA p.T (s.drop i) ((atP p.T s i).take (q + 1)) ∧ sumA p.T (s.drop i) ((atP p.T s i).take (q + 1)) ≤ n) := Lib.hid (by rw [HFS.out]; have := HM.out; have := HNE.out; omega)
          clear hle
          go_upto_region 6 with (go_at_call 52; refine (sub_any _ _ m fj _ HS9.out.1.num.nat HS9.out.2.var.nat HD.out.1 HD.out.2).mono ?_; rintro e W10 ⟨v, rfl, ⟨A10, c10, rfl, q1, q2⟩, hb⟩; rw [HDE.out]; (have HT9 := Lib.hid (SkS.gen3 (HS9.out.1.below hb) (A' := A10) (m' := m - fj) ⟨A10, c10, rfl, q1, q2⟩)); clear q1 q2 hb n0 n1 HS9; generalize (dg B32 (m - fj)).length = k10 at *)
          obtain ⟨b9, hb9⟩ : ∃ b, W10.heap.size = b := ⟨_, rfl⟩
          rw [hb9] at HT9 ⊢
          clear hb9
          generalize W10.alloc (.cells #[.slice A10 k10 c10] 59) = W11 at *
          have n0 := HT9.out.1.num.c0
          have n1 := HT9.out.1.num.z0
          have n2 := HT9.out.2.var.c0
          have HS12 := Lib.hid (HT9.out.1.put HT9.out.2.var.nat)
          rw [HNX.out.1] at HS12
          go_wp2_with fail
          go_roundg (gk - 1)
          case measure => have := HQ.out; have := HQ2.out; have := HNN.out; omega
          case rel => exact ⟨q + 1, A10, k10, c10, by have := HQ.out; have := HQ2.out; have := HNN.out; omega, by simp, HS12.out, HNX.out.2⟩
        · have HDE : Hid (decide (fj ≤ m) = false) := Lib.hid (decide_eq_false hle)
          obtain ⟨hk1, hk2⟩ := HPQ.out (Nat.lt_of_not_le hle)
          subst hk1
          have HK := Lib.hid hk2
          clear hle hk2
          go_upto_region 6 with (go_at_call 52; refine (sub_any _ _ m fj _ HS9.out.1.num.nat HS9.out.2.var.nat HD.out.1 HD.out.2).mono ?_; rintro e W10 ⟨v, rfl, ⟨A10, c10, rfl, q1, q2⟩, hb⟩; rw [HDE.out]; (have HT9 := Lib.hid (SkS.gen3 (HS9.out.1.below hb) (A' := A10) (m' := m - fj) ⟨A10, c10, rfl, q1, q2⟩)); clear q1 q2 hb n0 n1 HS9; generalize (dg B32 (m - fj)).length = k10 at *)
          obtain ⟨b9, hb9⟩ : ∃ b, W10.heap.size = b := ⟨_, rfl⟩
          rw [hb9] at HT9 ⊢
          clear hb9
          generalize W10.alloc (.cells #[.slice A10 k10 c10] 59) = W11 at *
          have n0 := HT9.out.1.num.c0
          have n1 := HT9.out.1.res.c0
          have n2 := HT9.out.1.res.z0
          go_upto_region 7 with fail
          refine wp_region_D (Ds := [3]) (S := fun V => V.cell? ⟨nb, 0, none⟩ = some (.slice An kn cn) ∧ V.cell? ⟨r, 0, none⟩ = some (.slice none 0 0) ∧ V.frozen? ⟨r, 0, none⟩ = false) (by kernel_rfl) (by exact ⟨n0, n1, n2⟩) (fun hHeld => ?_)
          (replace HT9 := Lib.hid (And.intro HT9.out.1.drew (HT9.out.2.below (Below.refl _ _).drew))); clear n0 n1 n2; generalize W11.drew = W12 at *
          refine tkP 0 49 ?_ rfl (.inl ⟨by rfl, ?_⟩) ?_; rotate_left; focus (intro w' _; go_simp; (try with_reducible rfl))
          try simp only [sIB, sC0, sCS]
          refine tkP 2 4 ?_ rfl (.inl ⟨by rfl, ?_⟩) ?_; rotate_left; focus (intro w' _; go_simp; (try with_reducible rfl))
          try simp only [sIB, sC0, sCS]
          refine tkD 1 50 ?_ rfl hHeld (.inl ⟨by rfl, ?_⟩) ?_; rotate_left; focus (intro w' hSw; (try dsimp only at hSw); go_simp; (try with_reducible rfl))
          try simp only [sIB, sC0, sCS]
          refine wpAnyD_last (D := 3) (by decide) (by kernel_rfl) rfl (by rfl) (fun K hK => ?_)
          obtain ⟨n0, n1, n2⟩ := hHeld; go_simp
          refine hK.out _ _ ?_
          clear hK K
          try simp only [Act.put, sIB, sC0, sCS]
          refine wpAnyD_done (by kernel_rfl) ?_ _
          go_wp2_with fail
          refine ret_tmp_cell rfl rfl rfl (load_nat (HT9.out.1.res.put HT9.out.1.num.nat).blk) ?_
          exact ⟨⟨_, _, _, rfl, by rw [← HK.out]; exact (HT9.out.1.res.put HT9.out.1.num.nat).nat⟩, HT9.out.1.ask.setVar HT9.out.1.res HT9.out.1.lo _⟩
    ·
      go_simp; refine HS.out.gen (fun W7 b8 hW7 hb8 hS7 hv7 => ?_); rw [hb8]; clear hb8; (replace HS := Lib.hid hS7); (try (replace HN3 := Lib.hid (HN3.out.below hW7 (Nat.le_refl _)))); have HV8 := Lib.hid hv7; have h := HS.out.way.cc; clear hW7 hS7 hv7
      refine hK.out _ _ h (fun hHeld => ?_)
      clear hK K
      try simp only [Act.put, sIB, sC0, sCS]
      refine wpAnyD_one (i := 13) (by kernel_rfl) rfl (by rfl) (fun K hK => ?_)
      go_simp; refine (HSZ.out _ HS.out.ask.lat).mono ?_; rintro e W6 ⟨rfl, hw⟩; rw [hw]; clear hw W6; have h := hHeld; go_simp
      refine hK.out _ _ h (fun hHeld => ?_)
      clear hK K
      try simp only [Act.put, sIB, sC0, sCS]
      refine tkP 14 39 ?_ rfl (.inl ⟨by rfl, ?_⟩) ?_; rotate_left; focus (intro w' _; go_simp; (try with_reducible rfl))
      try simp only [sIB, sC0, sCS]
      refine wpAnyD_one (i := 15) (by kernel_rfl) rfl (by rfl) (fun K hK => ?_)
      go_simp; refine (HFR.out _ HS.out.ask.lat).mono ?_; rintro e W6 ⟨A3, k3, c3, rfl, hn, ha⟩; (replace HS := Lib.hid (HS.out.asks ha)); (try (replace HV8 := Lib.hid (HV8.out.ask ha))); have HN3 := Lib.hid hn; have h := HS.out.way.cc; clear hn ha; go_simp
      refine hK.out _ _ h (fun hHeld => ?_)
      clear hK K
      try simp only [Act.put, sIB, sC0, sCS]
      refine wpAnyD_last (D := 17) (by decide) (by kernel_rfl) rfl (by rfl) (fun K hK => ?_)
      have n0 := HV8.out.var.c0; have n1 := HV8.out.var.z0; go_simp; have HS9 := Lib.hid (HS.out.putB HV8.out HN3.out); refine gen_setW rfl (fun VZ hVZ => ?_); rw [hVZ] at HS9; clear hVZ n0 n1
      refine hK.out _ _ ?_
      clear hK K
      try simp only [Act.put, sIB, sC0, sCS]
      refine wpAnyD_done (by kernel_rfl) ?_ _
      clear h hHeld HS HN3 HV8
      have n0 := HS9.out.1.num.c0
      have n1 := HS9.out.2.var.c0
      by_cases hle : fj ≤ m
      · have HDE : Hid (decide (fj ≤ m) = true) := Lib.hid (decide_eq_true hle)
        have HNX : Hid (m - fj = n - sumA p.T (s.drop i) ((atP p.T s i).take (q + 1)) ∧ sumA p.T (s.drop i) ((atP p.T s i).take (q + 1)) ≤ n) := Lib.hid (by rw [HFS.out]; have := HM.out; have := HNE.out; omega)
        clear hle
        go_upto_region 6 with (go_at_call 52; refine (sub_any _ _ m fj _ HS9.out.1.num.nat HS9.out.2.var.nat HD.out.1 HD.out.2).mono ?_; rintro e W10 ⟨v, rfl, ⟨A10, c10, rfl, q1, q2⟩, hb⟩; rw [HDE.out]; (have HT9 := Lib.hid (SkS.gen3 (HS9.out.1.below hb) (A' := A10) (m' := m - fj) ⟨A10, c10, rfl, q1, q2⟩)); clear q1 q2 hb n0 n1 HS9; generalize (dg B32 (m - fj)).length = k10 at *)
        obtain ⟨b9, hb9⟩ : ∃ b, W10.heap.size = b := ⟨_, rfl⟩
        rw [hb9] at HT9 ⊢
        clear hb9
        generalize W10.alloc (.cells #[.slice A10 k10 c10] 59) = W11 at *
        have n0 := HT9.out.1.num.c0
        have n1 := HT9.out.1.num.z0
        have n2 := HT9.out.2.var.c0
        have HS12 := Lib.hid (HT9.out.1.put HT9.out.2.var.nat)
        rw [HNX.out.1] at HS12
        go_wp2_with fail
        go_roundg (gk - 1)
        case measure => have := HQ.out; have := HQ2.out; have := HNN.out; omega
        case rel => exact ⟨q + 1, A10, k10, c10, by have := HQ.out; have := HQ2.out; have := HNN.out; omega, by simp, HS12.out, HNX.out.2⟩
      · have HDE : Hid (decide (fj ≤ m) = false) := Lib.hid (decide_eq_false hle)
        obtain ⟨hk1, hk2⟩ := HPQ.out (Nat.lt_of_not_le hle)
        subst hk1
        have HK := Lib.hid hk2
        clear hle hk2
        go_upto_region 6 with (go_at_call 52; refine (sub_any _ _ m fj _ HS9.out.1.num.nat HS9.out.2.var.nat HD.out.1 HD.out.2).mono ?_; rintro e W10 ⟨v, rfl, ⟨A10, c10, rfl, q1, q2⟩, hb⟩; rw [HDE.out]; (have HT9 := Lib.hid (SkS.gen3 (HS9.out.1.below hb) (A' := A10) (m' := m - fj) ⟨A10, c10, rfl, q1, q2⟩)); clear q1 q2 hb n0 n1 HS9; generalize (dg B32 (m - fj)).length = k10 at *)
        obtain ⟨b9, hb9⟩ : ∃ b, W10.heap.size = b := ⟨_, rfl⟩
        rw [hb9] at HT9 ⊢
        clear hb9
        generalize W10.alloc (.cells #[.slice A10 k10 c10] 59) = W11 at *
        have n0 := HT9.out.1.num.c0
        have n1 := HT9.out.1.res.c0
        have n2 := HT9.out.1.res.z0
        go_upto_region 7 with fail
        refine wp_region_D (Ds := [3]) (S := fun V => V.cell? ⟨nb, 0, none⟩ = some (.slice An kn cn) ∧ V.cell? ⟨r, 0, none⟩ = some (.slice none 0 0) ∧ V.frozen? ⟨r, 0, none⟩ = false) (by kernel_rfl) (by exact ⟨n0, n1, n2⟩) (fun hHeld => ?_)
        (replace HT9 := Lib.hid (And.intro HT9.out.1.drew (HT9.out.2.below (Below.refl _ _).drew))); clear n0 n1 n2; generalize W11.drew = W12 at *
        refine tkP 0 49 ?_ rfl (.inl ⟨by rfl, ?_⟩) ?_; rotate_left; focus (intro w' _; go_simp; (try with_reducible rfl))
        try simp only [sIB, sC0, sCS]
        refine tkP 2 4 ?_ rfl (.inl ⟨by rfl, ?_⟩) ?_; rotate_left; focus (intro w' _; go_simp; (try with_reducible rfl))
        try simp only [sIB, sC0, sCS]
        refine tkD 1 50 ?_ rfl hHeld (.inl ⟨by rfl, ?_⟩) ?_; rotate_left; focus (intro w' hSw; (try dsimp only at hSw); go_simp; (try with_reducible rfl))
        try simp only [sIB, sC0, sCS]
        refine wpAnyD_last (D := 3) (by decide) (by kernel_rfl) rfl (by rfl) (fun K hK => ?_)
        obtain ⟨n0, n1, n2⟩ := hHeld; go_simp
        refine hK.out _ _ ?_
        clear hK K
        try simp only [Act.put, sIB, sC0, sCS]
        refine wpAnyD_done (by kernel_rfl) ?_ _
        go_wp2_with fail
        refine ret_tmp_cell rfl rfl rfl (load_nat (HT9.out.1.res.put HT9.out.1.num.nat).blk) ?_
        exact ⟨⟨_, _, _, rfl, by rw [← HK.out]; exact (HT9.out.1.res.put HT9.out.1.num.nat).nat⟩, HT9.out.1.ask.setVar HT9.out.1.res HT9.out.1.lo _⟩
end
open Go.RowKit Go.Maps
def NotU (v : Value) : Prop := ∀ x, v ≠ .int .u32 x
def NoU (W : World) (g : Nat) : Prop := ∀ j u, W.cell? ⟨g, j, none⟩ = some u → NotU u
theorem noU_of {W : World} {g : Nat} {cs : Array Value} {t : TypeId} {fz : Nat × Nat} (h : W.heap[g]? = some (.cells cs t fz)) (hc : ∀ u ∈ cs.toList, NotU u) : NoU W g := by
  intro j u hu
  rw [blk_cell h] at hu
  exact hc u (by
    have h2 : cs.toList[j]? = some u := by simpa using hu
    exact List.mem_of_getElem? h2)
theorem noU_cells {W : World} {g : Nat} {cs : Array Value} {t : TypeId} {fz : Nat × Nat} (h : W.heap[g]? = some (.cells cs t fz)) (hU : NoU W g) : ∀ u ∈ cs.toList, NotU u := by
  intro u hu
  obtain ⟨j, hj⟩ := List.mem_iff_getElem?.1 hu
  exact hU j u (by rw [blk_cell h]; simpa using hj)
theorem NoU.blk {W W' : World} {g : Nat} (h : NoU W g) (e : W'.heap[g]? = W.heap[g]?) : NoU W' g := fun j u hu => h j u (by rw [← hu]; simp [World.cell?, e])
theorem zero_cells_one (v : Value) (n : Nat) : ∀ u ∈ (Builtin.zeroCells #[v] n).toList, u = v := by
  intro u hu
  unfold Builtin.zeroCells at hu
  simp only [Array.toList_map, List.mem_map] at hu
  obtain ⟨i, _, hi⟩ := hu
  rw [← hi]
  simp [Nat.mod_one]
section
variable {P : Program} (w : World)
theorem run_append_ownU (base : Nat) (t ty e : TypeId) (i : TypeInfo) (z : Value) (bytes : Nat) (ht : P.underlying t = some (.slice e)) (hi : P.info? e = some i) (hz : i.zero = some z)
    (hsize : i.size = 1) (hby : i.bytes = bytes) (hzc : z.cells = #[z]) (hzu : NotU z)
    (v : Value) (n : Nat) (xs : List Value) (hown : w.ownsRow base e 1 v n xs) (hU : ∀ g, v.ownBlock = some g → NoU w g)
    (a : Addr) (m c : Nat) (news : List Value) (hl : news.length = m * 1) (hnews : ∀ j u, news[j]? = some u → w.cell? (a.add j) = some u) (h1 : ∀ u ∈ news, u.oneCell' = true) (hnu : ∀ u ∈ news, NotU u)
    (h63 : n + m ≤ maxLen) (hbytes : (n + m) * bytes ≤ 140737488355328) (hbase : base ≤ w.heap.size) :
    ∃ v' w', (Builtin.append_ #[t, t] ty #[v, .slice (some a) m c]).run P w = .ok v' w' ∧ w'.ownsRow base e 1 v' (n + m) (xs ++ news) ∧ w.grownBy w' v.ownBlock ∧ ∀ g, v'.ownBlock = some g → NoU w' g := by
  subst hby
  have hzs : z.cells.size = i.size := by rw [hzc, hsize]; rfl
  rw [← hsize] at hown hl ⊢
  have hsmall : n + m ≤ 9223372036854775807 := by simp only [maxLen] at h63; omega
  have hlen : (xs ++ news).length = (n + m) * i.size := by rw [List.length_append, hown.1, hl, Nat.add_mul]
  have hxu : ∀ u ∈ xs, NotU u := by
    intro u hu
    rcases hown.2 with ⟨rfl, rfl⟩ | ⟨g, cap, cur, rfl, hbg, hg, hnc, hcm, hcs, htake⟩
    · have : xs = [] := List.eq_nil_of_length_eq_zero (by simpa using hown.1)
      subst this
      simp at hu
    · rw [← htake] at hu
      exact noU_cells hg (hU g rfl) u (List.mem_of_mem_take hu)
  have grown : ∀ (old : Nat), old < n + m → ∀ (row : Option Nat),
      (w.drew.alloc (.cells (xs.toArray ++ news.toArray ++ Builtin.zeroCells z.cells (grownCap w (n + m) old e - (n + m))) e)).ownsRow base e i.size
        (.slice (some ⟨w.heap.size, 0, none⟩) (n + m) (grownCap w (n + m) old e)) (n + m) (xs ++ news) ∧
      w.grownBy (w.drew.alloc (.cells (xs.toArray ++ news.toArray ++ Builtin.zeroCells z.cells (grownCap w (n + m) old e - (n + m))) e)) row ∧
      NoU (w.drew.alloc (.cells (xs.toArray ++ news.toArray ++ Builtin.zeroCells z.cells (grownCap w (n + m) old e - (n + m))) e)) w.heap.size := by
    intro old ho row
    have hge := grownCap_ge w (n + m) old e
    have hcm : grownCap w (n + m) old e ≤ maxLen := grownCap_le_maxLen w (n + m) old e h63
    refine ⟨⟨hlen, .inr ⟨w.heap.size, _, _, rfl, hbase, heap_alloc_new w.drew _, hge, hcm, ?_, ?_⟩⟩, ⟨rfl, rfl, rfl, by simp, fun k hk _ => Below.heap_alloc w.drew _ k hk⟩, noU_of (heap_alloc_new w.drew _) ?_⟩
    · simp only [Array.size_append, List.size_toArray, size_zeroCells, hzs, hown.1, hl, ← Nat.add_mul]
      congr 1
      omega
    · simp only [Array.toList_append, List.append_assoc]
      rw [← List.append_assoc, ← hlen]
      exact List.take_left
    · intro u hu
      simp only [Array.toList_append, List.mem_append] at hu
      rcases hu with (hu | hu) | hu
      · exact hxu u hu
      · exact hnu u hu
      · rw [hzc] at hu
        rw [zero_cells_one z _ u hu]
        exact hzu
  rcases hown.2 with ⟨rfl, rfl⟩ | ⟨g, cap, cur, rfl, hbg, hg, hnc, hcm, hcs, htake⟩
  · have hx : xs = [] := List.eq_nil_of_length_eq_zero (by simpa using hown.1)
    subst hx
    by_cases hm : m = 0
    · subst hm
      have hn : news = [] := List.eq_nil_of_length_eq_zero (by simpa using hl)
      subst hn
      refine ⟨.slice none 0 0, w, ?_, World.ownsRow_nil w base e i.size, ⟨rfl, rfl, rfl, Nat.le_refl _, fun _ _ _ => rfl⟩, by simp [Value.ownBlock]⟩
      simp [Builtin.append_, run_underlying ht, sizeOf, typeInfo, hi, Builtin.lenOf, Builtin.firstCells, loadCells, loadCellsFrom]
    · have hr := run_append_nil (P := P) w t ty e i z ht hi hz a m c news hl hnews (by omega) (by omega) (by have hb := hbytes; simp only [Nat.zero_add] at hb; omega)
      have hgr := grown 0 (by omega) (Value.ownBlock (.slice none 0 0))
      simp only [Nat.zero_add, List.nil_append, Array.empty_append] at hgr ⊢
      exact ⟨_, _, hr, hgr.1, hgr.2.1, fun g' e' => by simp only [Value.ownBlock, Option.some.injEq] at e'; subst e'; exact hgr.2.2⟩
  · by_cases hroom : n + m ≤ cap
    · have hfit : n * i.size + news.length ≤ cur.size := by rw [hl, hcs, ← Nat.add_mul]; exact Nat.mul_le_mul_right _ hroom
      have hr := run_append_room (P := P) w t ty e i ht hi g n cap cur hg a m c news hl hnews h1 hroom hfit
      refine ⟨_, _, hr, ⟨hlen, .inr ⟨g, cap, _, rfl, hbg, setRow_heap w g cur _ e _ hg, hroom, hcm, ?_, ?_⟩⟩, ⟨rfl, rfl, rfl, by simp, fun k _ hk => setRow_other w g k _ (fun e => hk (by simp [Value.ownBlock, e]))⟩, fun g' e' => ?_⟩
      · simp only [List.size_toArray, List.length_append, List.length_take, List.length_drop, Array.length_toList]
        omega
      · rw [htake, ← hlen]
        exact List.take_left
      · simp only [Value.ownBlock, Option.some.injEq] at e'
        subst e'
        refine noU_of (setRow_heap w g cur _ e _ hg) (fun u hu => ?_)
        have hcu := noU_cells hg (hU g rfl)
        simp only [List.mem_append] at hu
        rcases hu with (hu | hu) | hu
        · exact hcu u (List.mem_of_mem_take hu)
        · exact hnu u hu
        · exact hcu u (List.mem_of_mem_drop hu)
    · have holds : ∀ j u, xs[j]? = some u → w.cell? ((⟨g, 0, none⟩ : Addr).add j) = some u := hown.cells (g := g) rfl
      have hr := run_append_grow (P := P) w t ty e i z ht hi hz ⟨g, 0, none⟩ n cap xs hown.1 holds a m c news hl hnews (by omega) (by omega) (growslice_fits (by omega) hbytes)
      have hgr := grown cap (by omega) (Value.ownBlock (.slice (some ⟨g, 0, none⟩) n cap))
      exact ⟨_, _, hr, hgr.1, hgr.2.1, fun g' e' => by simp only [Value.ownBlock, Option.some.injEq] at e'; subst e'; exact hgr.2.2⟩
end
structure OutI (W : World) (B : Nat) (v : Value) (n : Nat) (L : List Int) : Prop where
  row : W.ownsRow B 3 1 v n (L.map (Value.int .i64))
  noU : ∀ g, v.ownBlock = some g → NoU W g
section
variable {w w' W W' : World} {base lb b B n m k c i wb g : Nat} {p : VocP} {s : List UInt8} {A : Option Addr} {v : Value} {L : List Int}
theorem OutI.nil (W : World) (B : Nat) : OutI W B (.slice none 0 0) 0 [] := ⟨own_nil _ _ _ _, fun g h => by simp [Value.ownBlock] at h⟩
theorem OutI.len (h : OutI W B v n L) : L.length = n := by have := h.row.1; simpa using this
theorem OutI.keep {F : Nat → Prop} (h : OutI W B v n L) (hk : Keep F W W') (hF : ∀ g, v.ownBlock = some g → ¬ F g) : OutI W' B v n L :=
  ⟨own_keep h.row hk hF, fun g hg => (h.noU g hg).blk (hk.block g (h.row.lt g hg).2 (hF g hg))⟩
theorem OutI.below (h : OutI W B v n L) (hb : Below W.heap.size W W') : OutI W' B v n L := h.keep (F := fun _ => False) (Keep.of_below hb) (fun g _ h => h)
theorem OutI.tag (h : OutI W B v n L) {g : Nat} (hg : v.ownBlock = some g) : ∃ cs fz, W.heap[g]? = some (.cells cs 3 fz) := row_tag h.row hg
theorem OutI.ask (h : OutI W B v n L) (hl : LatV W base lb p s) (ha : Ask W W' base lb p s) : OutI W' B v n L := by
  obtain ⟨cs, fz, hb⟩ := hl.tag
  exact h.keep ha.keep (fun g hg => row_off h.row hb (by decide) g hg)
theorem OutI.far (h : OutI W B v n L) {cs : Array Value} {t : TypeId} {fz : Nat × Nat} (hb : W.heap[b]? = some (.cells cs t fz)) (ht : 3 ≠ t) (i : Nat) (u : Value) : OutI (W.setCell ⟨b, i, none⟩ u) B v n L :=
  h.keep ((Keep.refl (fun x => x = b) W).setCell (p := ⟨b, i, none⟩) (.inl rfl) u) (fun g hg => row_off h.row hb ht g hg)
theorem OutI.ints (h : OutI W B v n L) : IntsIs W B v L := by
  obtain ⟨A, c, rfl⟩ := own_slice h.row
  have e := h.len
  subst e
  exact ⟨A, c, rfl, h.row⟩
theorem nat_noU (h : NatIs W v m) (hk : Keep (fun x => x = g) W W') (hU : NoU W g) : NatIs W' v m := by
  obtain ⟨A, c, rfl, h1, h2⟩ := h
  refine ⟨A, c, rfl, fun i x hx => ?_, h2⟩
  obtain ⟨b, o, rfl, hc⟩ := h1 i x hx
  refine ⟨b, o, rfl, hk.keepCell hc (fun e => ?_)⟩
  subst e
  exact hU _ _ hc _ rfl
theorem LatV.rows (h0 : LatV w base lb p s) (h : Ask w W base lb p s) : ∃ tr A c dn st se fv vals, LatIs W base lb tr p.vb p.T s s.length A c dn st se fv vals ∧ ((fv = .slice none 0 0 ∧ dn = 0 ∧ st = 0) ∨
    ∃ w0 g vs, dn = 1 ∧ fv = .slice (some ⟨g, 0, none⟩) (s.length + 1) (s.length + 1) ∧ lb < g ∧ FrIs w0 W g s.length (cntJ p.T s) vs) ∧
    (∀ g, (Value.slice A s.length c).ownBlock = some g → g < w.heap.size) ∧ ∀ i v, i < s.length → vals[i]? = some v → ∀ g, v.ownBlock = some g → g < w.heap.size := by
  obtain ⟨tr, A, c, dn, st, se, fv, vals, h5, h6⟩ := h.lat.lat
  obtain ⟨tr0, A0, c0, dn0, st0, se0, fv0, vals0, h1, h2⟩ := h0.lat
  have h3 := h.row.2
  rw [h5.c3, h1.c3] at h3
  injection h3 with h3
  injection h3 with h3 _ h4
  subst h3
  subst h4
  refine ⟨tr, A, c, dn, st, se, fv, vals, h5, h6, fun g hg => (h1.row.lt g hg).2, fun i v hi hv g hg => ?_⟩
  obtain ⟨ga, cap, e1, _, _, _⟩ := own_open h1.row (by omega)
  have hga : (Value.slice A s.length c).ownBlock = some ga := by rw [e1]; rfl
  have hne : ga ≠ lb := row_off h1.row h1.blk (by decide) ga hga
  obtain ⟨v0, q1, q2⟩ := h1.ids i hi
  have k0 := h1.row.cells hga i v0 q1
  have k1 := h5.row.cells hga i v hv
  have k2 : W.cell? ((⟨ga, 0, none⟩ : Addr).add i) = w.cell? ((⟨ga, 0, none⟩ : Addr).add i) := by
    rw [add_plain]
    exact World.cell?_of_block (h.keep.block ga (h1.row.lt ga hga).2 hne)
  rw [k1, k0] at k2
  injection k2 with k2
  subst k2
  exact (q2.lt g hg).2
theorem Ask.grow (h : Ask w W base lb p s) (h0 : LatV w base lb p s) (hk : Keep (fun x => x = g) W W') (hg : w.heap.size ≤ g) {cs : Array Value} {fz : Nat × Nat} (ht : W.heap[g]? = some (.cells cs 3 fz)) (hU : NoU W g) : Ask w W' base lb p s := by
  have hn : ∀ v m, NatIs W v m → NatIs W' v m := fun v m hv => nat_noU hv hk hU
  obtain ⟨tr, A, c, dn, st, se, fv, vals, h5, h6, h7, h8⟩ := h0.rows h
  have hlb := h0.lt_size
  have hc : ∀ j, W'.cell? ⟨lb, j, none⟩ = W.cell? ⟨lb, j, none⟩ := fun j => World.cell?_of_block (hk.block lb h5.lt (fun e => by omega))
  obtain ⟨b0, hvo⟩ := h.lat.voc
  refine ⟨⟨⟨tr, A, c, dn, st, se, fv, vals, ⟨hk.blk h5.blk (fun e => by omega), own_keep h5.row hk (fun x hx e => by have := h7 x hx; omega), fun i hi => ?_, h5.lo⟩, ?_⟩, ⟨b0, hvo.keep hk (fun x hx e => ?_)⟩, h.lat.lt⟩, h.keep.trans hk (fun x hx => .inr (by omega)), ⟨fun a d e he => h.row.1 a d e ((hc 7).symm.trans he), (hc 3).trans h.row.2⟩, fun v m hv => hn v m (h.nat v m hv)⟩
  · obtain ⟨v, q1, q2⟩ := h5.ids i hi
    exact ⟨v, q1, own_keep q2 hk (fun x hx e => by have := h8 i v hi q1 x hx; omega)⟩
  · rcases h6 with h2 | ⟨w0, g2, vs, h3, h7, h5, h6⟩
    · exact .inl h2
    · exact .inr ⟨w0, g2, vs, h3, h7, h5, h6.keepN ht (by decide) hk hn⟩
  · rcases hx with hx | hx
    · have := h0.lt; omega
    · cases hx
theorem Var.grow (h : Var W lb b A k c m) (hk : Keep (fun x => x = g) W W') {cs : Array Value} {fz : Nat × Nat} (ht : W.heap[g]? = some (.cells cs 3 fz)) (hU : NoU W g) (hlb : lb ≠ g) : Var W' lb b A k c m :=
  ⟨hk.blk h.blk (fun e => by
    have h1 := h.blk
    rw [e, ht] at h1
    injection h1 with h1
    injection h1 with _ h1 _
    exact absurd h1 (by decide)), nat_noU h.nat hk hU, fun x y z hx => h.off x y z (by
    rw [← hx]
    exact (World.cell?_of_block (hk.block lb (Nat.lt_trans h.lo h.lt) (fun e => hlb e))).symm), h.lo⟩
theorem Way.grow (h : Way W lb wb i) (hk : Keep (fun x => x = g) W W') {cs : Array Value} {fz : Nat × Nat} (ht : W.heap[g]? = some (.cells cs 3 fz)) : Way W' lb wb i :=
  ⟨hk.blk h.blk (fun e => by
    have h1 := h.blk
    rw [e, ht] at h1
    injection h1 with h1
    injection h1 with _ h1 _
    exact absurd h1 (by decide)), h.lo⟩
theorem keep_none {F : Nat → Prop} (hk : Keep F W W') (hF : ∀ g, ¬ F g) : Below W.heap.size W W' := ⟨hk.os, hk.tape, hk.output, hk.size, fun x hx => hk.block x hx (hF x)⟩
theorem Ask.app (h : Ask w W base lb p s) (h0 : LatV w base lb p s) (ho : OutI W B v n L) (hB : w.heap.size ≤ B) (hk : Keep (fun g => v.ownBlock = some g) W W') : Ask w W' base lb p s := by
  cases hv : v.ownBlock with
  | none => exact h.below (keep_none hk (fun g e => by rw [hv] at e; cases e))
  | some g =>
    obtain ⟨cs, fz, ht⟩ := ho.tag hv
    exact h.grow h0 (hk.mono (fun x hx => by rw [hv] at hx; injection hx with hx; exact hx.symm)) (Nat.le_trans hB (ho.row.lt g hv).1) ht (ho.noU g hv)
theorem Var.app (h : Var W lb b A k c m) (ho : OutI W B v n L) (hB : lb < B) (hk : Keep (fun g => v.ownBlock = some g) W W') : Var W' lb b A k c m := by
  cases hv : v.ownBlock with
  | none => exact h.below (keep_none hk (fun g e => by rw [hv] at e; cases e))
  | some g =>
    obtain ⟨cs, fz, ht⟩ := ho.tag hv
    exact h.grow (hk.mono (fun x hx => by rw [hv] at hx; injection hx with hx; exact hx.symm)) ht (ho.noU g hv) (by have := (ho.row.lt g hv).1; omega)
theorem Way.app (h : Way W lb wb i) (ho : OutI W B v n L) (hk : Keep (fun g => v.ownBlock = some g) W W') : Way W' lb wb i := by
  cases hv : v.ownBlock with
  | none => exact h.below (keep_none hk (fun g e => by rw [hv] at e; cases e))
  | some g =>
    obtain ⟨cs, fz, ht⟩ := ho.tag hv
    exact h.grow (hk.mono (fun x hx => by rw [hv] at hx; injection hx with hx; exact hx.symm)) ht
end
theorem app_intU {w : World} {ops : Array Oper} {rest : List Oper} {o : Oper} {a : Act} {Q : Exit → Act → World → Prop} (base c : Nat) (s x : Operand) (X : Int)
    (hgd : o.guard = none) (ho : o.op = .call { callee := .builtin .append, args := #[s, x], argTypes := #[48, 48] })
    (v : Value) (n : Nat) (L : List Int) (hs : a.eval s = v) (hx : a.eval x = .slice (some ⟨w.heap.size, 0, none⟩) 1 c) (hown : OutI w base v n L) (hn : n ≤ 1000000) (hbase : base ≤ w.heap.size)
    (h : ∀ v' w', OutI w' base v' (n + 1) (L ++ [X]) → Keep (fun g => v.ownBlock = some g) w w' → wpList Tryz.prog ops Q rest (a.put o.dst v') w') : wpList Tryz.prog ops Q (o :: rest) a (w.alloc (.cells #[.int .i64 X] 3)) := by
  obtain ⟨i, hi, hz0, hz1, hz2⟩ := info_parts info_int5
  have hb0 := (Below.refl w.heap.size w).alloc (Nat.le_refl _) (.cells #[.int .i64 X] 3)
  have h2 := hown.below hb0
  refine wpList_plain hgd fun K hK => ?_
  obtain ⟨v', w', hr, h3, h4, h5⟩ := run_append_ownU (P := Tryz.prog) (w.alloc (.cells #[.int .i64 X] 3)) base 48 o.type 3 i (.int .i64 0) 8 Tryz.underlying48 hi hz0 hz1 hz2 rfl (fun x => by simp) v n _ h2.row h2.noU ⟨w.heap.size, 0, none⟩ 1 c [.int .i64 X] rfl
    (fun j u hu => by
      rw [add_plain, blk_cell (blk_new w _)]
      simpa using hu) (fun u hu => by simp at hu; subst hu; rfl) (fun u hu => by simp at hu; subst hu; intro x; simp) (by unfold maxLen; omega) (by omega) (by simp; omega)
  unfold Oper.wp execOp
  simp only [ho, resolve, invoke, builtin, Sem.run_bind, Sem.run_pure, Result.andThen_ok, List.map_toArray, List.map_cons, List.map_nil, hs, hx, hr]
  refine hK _ _ (h v' w' ⟨by rw [List.map_append]; exact h3, h5⟩ ?_)
  exact ⟨h4.os, h4.tape, h4.output, Nat.le_trans hb0.size h4.size, fun k hk hf => (h4.block k (Nat.lt_of_lt_of_le hk hb0.size) (fun e => hf e.symm)).trans (hb0.block k hk)⟩
theorem div_pick {T : List Ent} (hT : OkT T) {s : List UInt8} (hne : s ≠ []) {m : Nat} {D : List Int} (hD : (divA T s)[m]? = some D) {X : Int} {R : Nat} (hX : pickN T s m (atA T s) = (X, R)) :
    ∃ D', D = X :: D' ∧ (divA T (s.drop (lenT T X)))[R]? = some D' ∧ X ∈ atA T s := by
  have hlt : m < sumA T s (atA T s) := by
    rw [← cntA_rec hT hne]
    exact (List.getElem?_eq_some_iff.1 hD).1
  have h1 := blkA_get (T := T) (s := s) hlt
  rw [← divA_blk hT hne, hD, hX] at h1
  have h2 := (pick_ok (T := T) (s := s) hlt).1
  rw [hX] at h2
  cases h3 : (divA T (s.drop (lenT T X)))[R]? with
  | none => simp only [h3] at h1; cases h1
  | some D' =>
    simp only [h3, Option.map_some, Option.some.injEq] at h1
    exact ⟨D', h1, rfl, h2⟩
section
variable {w w' W W' : World} {base lb wb nb i m k c q : Nat} {p : VocP} {s : List UInt8} {A : Option Addr} {v : Value} {L F : List Int}
structure UnI (w W : World) (base lb wb nb i : Nat) (p : VocP) (s : List UInt8) (A : Option Addr) (k c m : Nat) (v : Value) (q : Nat) (L F : List Int) : Prop where
  ask : Ask w W base lb p s
  way : Way W lb wb i
  num : Var W lb nb A k c m
  out : OutI W w.heap.size v q L
  lo : w.heap.size ≤ nb
  lo2 : w.heap.size ≤ wb
  ilo : lb < w.heap.size
  le : i ≤ s.length
  div : ∃ D, (divA p.T (s.drop i))[m]? = some D ∧ L ++ D = F
  qi : q ≤ i
theorem UnI.asks (h : UnI w W base lb wb nb i p s A k c m v q L F) (ha : Ask W W' base lb p s) : UnI w W' base lb wb nb i p s A k c m v q L F :=
  ⟨h.ask.trans ha, h.way.ask ha, h.num.ask ha, h.out.ask h.ask.lat ha, h.lo, h.lo2, h.ilo, h.le, h.div, h.qi⟩
theorem UnI.below (h : UnI w W base lb wb nb i p s A k c m v q L F) (hb : Below W.heap.size W W') : UnI w W' base lb wb nb i p s A k c m v q L F := h.asks (Ask.of_below h.ask.lat hb)
theorem UnI.lt (h : UnI w W base lb wb nb i p s A k c m v q L F) : m < cntJ p.T s i := by
  obtain ⟨D, h1, _⟩ := h.div
  exact (List.getElem?_eq_some_iff.1 h1).1
structure UnQ (w W : World) (base lb wb nb i : Nat) (p : VocP) (s : List UInt8) (A : Option Addr) (k c m : Nat) (v : Value) (q : Nat) (L F : List Int) (X : Int) : Prop where
  ask : Ask w W base lb p s
  way : Way W lb wb i
  num : Var W lb nb A k c m
  out : OutI W w.heap.size v q L
  lo : w.heap.size ≤ nb
  lo2 : w.heap.size ≤ wb
  ilo : lb < w.heap.size
  div : ∃ D, (divA p.T (s.drop (i + lenT p.T X)))[m]? = some D ∧ L ++ X :: D = F
  le : i + lenT p.T X ≤ s.length
  pos : 0 < lenT p.T X
  qi : q ≤ i
structure UnP (w W : World) (base lb wb nb i : Nat) (p : VocP) (s : List UInt8) (A : Option Addr) (k c m : Nat) (v : Value) (q : Nat) (L F : List Int) (X : Int) : Prop where
  ask : Ask w W base lb p s
  way : Way W lb wb i
  num : Var W lb nb A k c m
  out : OutI W w.heap.size v q L
  lo : w.heap.size ≤ nb
  lo2 : w.heap.size ≤ wb
  ilo : lb < w.heap.size
  div : ∃ D, (divA p.T (s.drop (i + lenT p.T X)))[m]? = some D ∧ L ++ D = F
  le : i + lenT p.T X ≤ s.length
  pos : 0 < lenT p.T X
  qi : q ≤ i + 1
theorem UnP.below {X : Int} (h : UnP w W base lb wb nb i p s A k c m v q L F X) (hb : Below W.heap.size W W') : UnP w W' base lb wb nb i p s A k c m v q L F X :=
  have ha := Ask.of_below h.ask.lat hb
  ⟨h.ask.trans ha, h.way.ask ha, h.num.ask ha, h.out.ask h.ask.lat ha, h.lo, h.lo2, h.ilo, h.div, h.le, h.pos, h.qi⟩
theorem UnP.drew {X : Int} (h : UnP w W base lb wb nb i p s A k c m v q L F X) : UnP w W.drew base lb wb nb i p s A k c m v q L F X := h.below (Below.refl _ _).drew
theorem UnI.pick {A' : Option Addr} {k' c' R : Nat} {X : Int} (h : UnI w W base lb wb nb i p s A k c m v q L F) (hT : OkT p.T) (hi : i < s.length) (hX : pickN p.T (s.drop i) m (atP p.T s i) = (X, R)) (hn : NatIs W (.agg #[.slice A' k' c']) R) :
    UnQ w (W.setCell ⟨nb, 0, none⟩ (.slice A' k' c')) base lb wb nb i p s A' k' c' R v q L F X := by
  obtain ⟨D, h1, h2⟩ := h.div
  obtain ⟨D', e, h3, h4⟩ := div_pick hT (by intro e; have := List.drop_eq_nil_iff.1 e; omega) h1 hX
  obtain ⟨g1, g2, g3, _⟩ := atA_has hT h4
  rw [List.length_drop] at g3
  refine ⟨h.ask.setVar h.num h.lo _, h.way.far (fun e => h.way.ne h.num e.symm) _, h.num.put hn, h.out.far h.num.blk (by decide) _ _, h.lo, h.lo2, h.ilo, ⟨D', ?_, ?_⟩, by omega, g2, h.qi⟩
  · rw [← List.drop_drop]
    exact h3
  · rw [← h2, e]
theorem UnQ.grow {X : Int} {v' : Value} (h : UnQ w W base lb wb nb i p s A k c m v q L F X) (h0 : LatV w base lb p s) (ho : OutI W' w.heap.size v' (q + 1) (L ++ [X])) (hk : Keep (fun g => v.ownBlock = some g) W W') : UnP w W' base lb wb nb i p s A k c m v' (q + 1) (L ++ [X]) F X :=
  ⟨h.ask.app h0 h.out (Nat.le_refl _) hk, h.way.app h.out hk, h.num.app h.out h.ilo hk, ho, h.lo, h.lo2, h.ilo, by obtain ⟨D, h1, h2⟩ := h.div; exact ⟨D, h1, by rw [← h2]; simp⟩, h.le, h.pos, by have := h.qi; omega⟩
theorem UnP.step {X : Int} (h : UnP w W base lb wb nb i p s A k c m v q L F X) {J : Nat} (hJ : i + lenT p.T X = J) : UnI w (W.setCell ⟨wb, 1, none⟩ (.int .i64 (J : Int))) base lb wb nb J p s A k c m v q L F := by
  subst hJ
  exact ⟨h.ask.setWay h.way h.lo2 _, h.way.put _, h.num.setWay h.way _, h.out.far h.way.blk (by decide) _ _, h.lo, h.lo2, h.ilo, h.le, h.div, by have := h.pos; have := h.qi; omega⟩
set_option maxHeartbeats 4000000 in
theorem unrank_ok {n : Nat} (h : LatV w base lb p s) (hT : OkT p.T) (hs : s.length ≤ 4000) (hn : NatIs w (.agg #[.slice A k c]) n) (hF : (divA p.T s)[n]? = some F) :
    Calls Tryz.prog 49 #[.pointer (some ⟨lb, 0, none⟩), .agg #[.slice A k c]] w fun e w' => (∃ v, e = .returned (.tuple #[v, .int .i64 0]) ∧ IntsIs w' w.heap.size v F) ∧ Ask w w' base lb p s := by
  have hlt : n < cntJ p.T s 0 := (List.getElem?_eq_some_iff.1 hF).1
  obtain ⟨cm, hcm⟩ : ∃ z, cmpN n (cntJ p.T s 0) = z := ⟨_, rfl⟩
  have hcm0 : cm < 0 := by rw [← hcm]; unfold cmpN; rw [if_pos hlt]; decide
  have HCM := Lib.hid hcm
  have HD : Hid ((dg B32 n).length ≤ 100000 ∧ (dg B32 (cntJ p.T s 0)).length ≤ 100000) := Lib.hid (by
    have h1 := cntJ_dg hT s 0
    exact ⟨Nat.le_trans (dg_len_mono (by decide) (Nat.le_of_lt hlt)) (by omega), by omega⟩)
  have HT := Lib.hid hT
  have HSL := Lib.hid hs
  have HH := Lib.hid h
  have HF := Lib.hid hF
  have HV : Hid (Ask w (w.alloc (.cells #[.slice A k c] 59)) base lb p s ∧ Var (w.alloc (.cells #[.slice A k c] 59)) lb w.heap.size A k c n) := Lib.hid ⟨(Ask.refl h).alloc _, Var.made h hn⟩
  have HC : Hid (∀ V, LatV V base lb p s → Calls Tryz.prog 25 #[.pointer (some ⟨lb, 0, none⟩)] V fun e w' => ∃ A k c, e = .returned (.agg #[.slice A k c]) ∧ NatIs w' (.agg #[.slice A k c]) (cntJ p.T s 0) ∧ Ask V w' base lb p s) := Lib.hid (fun V hV => hV.count hT hs)
  clear hcm hT hs h hn hF hlt
  go_enter Tryz.func49, Tryz.ntmps49
  go_upto_region 3 with fail
  obtain ⟨nb, hnb⟩ : ∃ r, w.heap.size = r := ⟨_, rfl⟩
  have HNB := Lib.hid hnb
  rw [hnb] at HV ⊢
  clear hnb
  generalize w.alloc (.cells #[.slice A k c] 59) = w1 at *
  have hh := HV.out.2.c0
  obtain ⟨ct, hct⟩ : ∃ z, cntJ p.T s 0 = z := ⟨_, rfl⟩
  rw [hct] at HC HCM HD
  clear hct
  refine wp_region_held_drew (S := fun V => V.cell? ⟨nb, 0, none⟩ = some (.slice A k c)) (by kernel_rfl) (by exact hh) (fun hHeld => ?_)
  refine tkH 0 13 ?_ rfl hHeld (.inl ⟨by rfl, ?_⟩) ?_; rotate_left; focus (intro w' hSw; (try dsimp only at hSw); go_simp; (try with_reducible rfl))
  try simp only [sIB, sC0, sCS]
  refine tkH 1 14 ?_ rfl hHeld (.inl ⟨by rfl, ?_⟩) ?_; rotate_left; focus (intro w' hSw; (try dsimp only at hSw); go_simp; (try with_reducible rfl))
  try simp only [sIB, sC0, sCS]
  refine wpAnyH_ready (rs := [2]) (by kernel_rfl) (by simp) ?_
  refine AllReadyH.cons rfl (fun K hK => ?_) AllReadyH.nil
  (try go_simp)
  go_simp; refine (HC.out _ HV.out.1.drew.lat).mono ?_; rintro e W6 ⟨A3, k3, c3, rfl, hn, ha⟩; (replace HV := Lib.hid (And.intro (HV.out.1.drew.trans ha) (HV.out.2.drew.ask ha))); have HN3 := Lib.hid hn; have h := HV.out.2.c0; clear hn ha; go_simp
  go_wp2_with fail
  refine hK.out _ _ h (fun hHeld => ?_)
  clear hK K
  try simp only [Act.put, sIB, sC0, sCS]
  refine wpAnyH_ready (rs := [3]) (by kernel_rfl) (by simp) ?_
  refine AllReadyH.cons rfl (fun K hK => ?_) AllReadyH.nil
  (try go_simp)
  go_simp; refine (compare_any _ _ n ct _ HV.out.2.nat HN3.out HD.out.1 HD.out.2).mono ?_; rintro e W7 ⟨rfl, hb⟩; rw [HCM.out]; (replace HV := Lib.hid (And.intro (HV.out.1.below hb) (HV.out.2.below hb))); have h := HV.out.2.c0; clear hb HN3; go_simp
  go_wp2_with fail
  refine hK.out _ _ h (fun hHeld => ?_)
  clear hK K
  try simp only [Act.put, sIB, sC0, sCS]
  refine tkH 4 17 ?_ rfl hHeld (.inl ⟨by rfl, ?_⟩) ?_; rotate_left; focus (intro w' hSw; (try dsimp only at hSw); go_simp; (try with_reducible rfl))
  try simp only [sIB, sC0, sCS]
  refine tkH 5 12 ?_ rfl hHeld (.inl ⟨by rfl, ?_⟩) ?_; rotate_left; focus (intro w' hSw; (try dsimp only at hSw); go_simp; (try with_reducible rfl))
  try simp only [sIB, sC0, sCS]
  refine wpAnyH_done (by kernel_rfl) ?_ _
  clear hh hHeld h HC
  go_upto_region 6 with fail
  have HST : Hid (UnI w (W7.alloc (.cells #[.pointer (some ⟨lb, 0, none⟩), .int .i64 0] 161)) base lb W7.heap.size nb 0 p s A k c n (.slice none 0 0) 0 [] F) :=
    Lib.hid ⟨HV.out.1.alloc _, ⟨blk_new _ _, HV.out.1.lat.lt_size⟩, HV.out.2.below ((Below.refl _ _).alloc (Nat.le_refl _) _), OutI.nil _ _, Nat.le_of_eq HNB.out, HV.out.1.keep.size, HH.out.lt_size, Nat.zero_le _, ⟨F, HF.out, rfl⟩, Nat.le_refl _⟩
  obtain ⟨wb, hwb⟩ : ∃ b, W7.heap.size = b := ⟨_, rfl⟩
  rw [hwb] at HST ⊢
  clear hwb HV
  generalize W7.alloc (.cells #[.pointer (some ⟨lb, 0, none⟩), .int .i64 0] 161) = W8 at *
  go_wp2_with fail
  go_loopg [7] s.length (fun n' v W => ∃ (i : Nat) (A : Option Addr) (k c m q : Nat) (L : List Int), i + n' = s.length ∧ UnI w W base lb wb nb i p s A k c m v q L F)
  case atStart => exact ⟨0, A, k, c, n, 0, [], by omega, HST.out⟩
  case round =>
    obtain ⟨i, A1, k1, c1, m, q, L, hi, hst⟩ := hrel
    obtain ⟨G0, hG0⟩ : ∃ G, G = gk := ⟨_, rfl⟩
    subst hG0
    clear HST
    rename World => W
    rename Value => v
    have HU := Lib.hid hst
    have HI := Lib.hid hi
    have HWE := Lib.hid (wend_any hst.ask.lat hst.way)
    clear hst hi
    by_cases hlt : i < s.length
    · have HDE : Hid (decide (i = s.length) = false) := Lib.hid (decide_eq_false (by omega))
      have HLT := Lib.hid hlt
      clear hlt
      obtain ⟨A2, c2, rfl⟩ := own_slice HU.out.out.row
      obtain ⟨X, hX1⟩ : ∃ X, (pickN p.T (s.drop i) m (atP p.T s i)).1 = X := ⟨_, rfl⟩
      obtain ⟨R, hX2⟩ : ∃ R, (pickN p.T (s.drop i) m (atP p.T s i)).2 = R := ⟨_, rfl⟩
      have HX : Hid (pickN p.T (s.drop i) m (atP p.T s i) = (X, R)) := Lib.hid (by rw [← hX1, ← hX2])
      clear hX1 hX2
      have HPK : Hid (∀ V, UnI w V base lb wb nb i p s A1 k1 c1 m (.slice A2 q c2) q L F → Calls Tryz.prog 92 #[.pointer (some ⟨wb, 0, none⟩), .agg #[.slice A1 k1 c1]] V fun e w' => (∃ A k c, e = .returned (.tuple #[.int .i64 X, .agg #[.slice A k c]]) ∧ NatIs w' (.agg #[.slice A k c]) R) ∧ Ask V w' base lb p s) := Lib.hid (fun V hV => wpick_any hV.ask.lat hV.way HT.out HSL.out HLT.out hV.num.nat hV.lt X R HX.out)
      go_upto_region 10 with (first
        | (go_at_call 89; refine HWE.out.mono ?_; rintro e W2 ⟨rfl, ha⟩; rw [HDE.out]; (replace HU := Lib.hid (HU.out.asks ha)); (have n0 := HU.out.num.c0); clear ha)
        | (go_at_call 92; refine (HPK.out _ HU.out).mono ?_; rintro e W3 ⟨⟨A3, k3, c3, rfl, hn⟩, ha⟩; (replace HU := Lib.hid (HU.out.asks ha)); (have HQ := Lib.hid (HU.out.pick HT.out HLT.out HX.out hn)); clear n0; (have n0 := HU.out.num.c0); (have n1 := HU.out.num.z0); clear hn ha))
      clear n0 n1 HU HWE HDE HPK
      generalize W3.setCell ⟨nb, 0, none⟩ (.slice A3 k3 c3) = W4 at *
      have HQL : Hid (q ≤ 4000 ∧ w.heap.size ≤ W4.heap.size) := Lib.hid ⟨by have := HQ.out.qi; have := HLT.out; have := HSL.out; omega, HQ.out.ask.keep.size⟩
      go_wp2_with (at_builtin; refine app_intU (w.heap.size) 1 _ _ X rfl rfl _ q L rfl rfl HQ.out.out (by have := HQL.out; omega) HQL.out.2 ?_)
      intro v' W5 hown hk
      have HP := Lib.hid (HQ.out.grow HH.out hown hk)
      clear hown hk HQ HQL
      obtain ⟨A5, c5, rfl⟩ := own_slice HP.out.out.row
      obtain ⟨J, hJ⟩ : ∃ J, i + lenT p.T X = J := ⟨_, rfl⟩
      obtain ⟨sz, hsz⟩ : ∃ z, lenT p.T X = z := ⟨_, rfl⟩
      have HSZ : Hid (∀ V, LatV V base lb p s → Calls Tryz.prog 31 #[.pointer (some ⟨lb, 0, none⟩), .int .i64 X] V fun e w' => e = .returned (.int .i64 (sz : Nat)) ∧ w' = V) := Lib.hid (fun V hV => by rw [← hsz]; exact hV.size X)
      have HJ : Hid (i + lenT p.T X = J ∧ i < J ∧ J ≤ s.length) := Lib.hid ⟨hJ, by have := HP.out.pos; omega, by have := HP.out.le; omega⟩
      have wks : IntKind.i64.wrap ((i : Int) + (sz : Int)) = (J : Int) := by rw [show (i : Int) + (sz : Int) = (J : Int) by omega]; exact IntWalk.i64_in _ (by have := HJ.out; have := HSL.out; omega)
      clear hJ hsz
      have hh := HP.out.way.cc
      go_upto_region 11 with fail
      refine wp_region_D (Ds := [13]) (S := fun V => V.cell? ⟨wb, 0, none⟩ = some (.pointer (some ⟨lb, 0, none⟩)) ∧ V.cell? ⟨wb, 1, none⟩ = some (.int .i64 (i : Int))) (by kernel_rfl) (by exact hh) (fun hHeld => ?_)
      (replace HP := Lib.hid HP.out.drew); clear hh; generalize W5.drew = W6 at *
      refine tkP 0 34 ?_ rfl (.inl ⟨by rfl, ?_⟩) ?_; rotate_left; focus (intro w' _; go_simp; (try with_reducible rfl))
      try simp only [sIB, sC0, sCS]
      refine tkP 1 35 ?_ rfl (.inl ⟨by rfl, ?_⟩) ?_; rotate_left; focus (intro w' _; go_simp; (try with_reducible rfl))
      try simp only [sIB, sC0, sCS]
      refine tkP 2 36 ?_ rfl (.inl ⟨by rfl, ?_⟩) ?_; rotate_left; focus (intro w' _; go_simp; (try with_reducible rfl))
      try simp only [sIB, sC0, sCS]
      refine tkP 4 38 ?_ rfl (.inl ⟨by rfl, ?_⟩) ?_; rotate_left; focus (intro w' _; go_simp; (try with_reducible rfl))
      try simp only [sIB, sC0, sCS]
      refine tkP 5 39 ?_ rfl (.inl ⟨by rfl, ?_⟩) ?_; rotate_left; focus (intro w' _; go_simp; (try with_reducible rfl))
      try simp only [sIB, sC0, sCS]
      refine tkP 6 40 ?_ rfl (.inl ⟨by rfl, ?_⟩) ?_; rotate_left; focus (intro w' _; go_simp; (try with_reducible rfl))
      try simp only [sIB, sC0, sCS]
      refine tkP 8 42 ?_ rfl (.inl ⟨by rfl, ?_⟩) ?_; rotate_left; focus (intro w' _; go_simp; (try with_reducible rfl))
      try simp only [sIB, sC0, sCS]
      refine tkD 3 37 ?_ rfl hHeld (.inl ⟨by rfl, ?_⟩) ?_; rotate_left; focus (intro w' hSw; (try dsimp only at hSw); go_simp; (try with_reducible rfl))
      try simp only [sIB, sC0, sCS]
      refine tkD 7 41 ?_ rfl hHeld (.inl ⟨by rfl, ?_⟩) ?_; rotate_left; focus (intro w' hSw; (try dsimp only at hSw); go_simp; (try with_reducible rfl))
      try simp only [sIB, sC0, sCS]
      refine wpAnyD_one (i := 9) (by kernel_rfl) rfl (by rfl) (fun K hK => ?_)
      go_simp; refine (HSZ.out _ HP.out.ask.lat).mono ?_; rintro e W7 ⟨rfl, hw⟩; rw [hw]; clear hw W7; have h := hHeld; go_simp
      refine hK.out _ _ h (fun hHeld => ?_)
      clear hK K
      try simp only [Act.put, sIB, sC0, sCS]
      refine tkP 10 44 ?_ rfl (.inl ⟨by rfl, ?_⟩) ?_; rotate_left; focus (intro w' _; go_simp; (try with_reducible rfl))
      try simp only [sIB, sC0, sCS]
      refine tkP 11 45 ?_ rfl (.inl ⟨by rfl, ?_⟩) ?_; rotate_left; focus (intro w' _; go_simp; (try with_reducible rfl))
      try simp only [sIB, sC0, sCS]
      refine tkP 12 46 ?_ rfl (.inl ⟨by rfl, ?_⟩) ?_; rotate_left; focus (intro w' _; go_simp; (try with_reducible rfl))
      try simp only [sIB, sC0, sCS]
      refine wpAnyD_last (D := 13) (by decide) (by kernel_rfl) rfl (by rfl) (fun K hK => ?_)
      have n0 := HP.out.way.c1; have n1 := HP.out.way.z1; go_simp
      refine hK.out _ _ ?_
      clear hK K
      try simp only [Act.put, sIB, sC0, sCS]
      refine wpAnyD_done (by kernel_rfl) ?_ _
      have HU2 := Lib.hid (HP.out.step HJ.out.1)
      clear h hHeld n0 n1 HP HSZ wks
      generalize W6.setCell ⟨wb, 1, none⟩ (.int .i64 (J : Int)) = W9 at *
      go_wp2_with fail
      go_roundg (s.length - J)
      case measure => have := HI.out; have := HJ.out; omega
      case rel => exact ⟨J, A3, k3, c3, R, q + 1, L ++ [X], by have := HJ.out; omega, HU2.out⟩
    · have HDE : Hid (decide (i = s.length) = true) := Lib.hid (decide_eq_true (by have := HU.out.le; omega))
      have hnil : s.drop i = [] := List.drop_eq_nil_iff.2 (by omega)
      have hLF : L = F := by
        obtain ⟨D, h1, h2⟩ := HU.out.div
        rw [hnil, divA_nil] at h1
        rcases m with _ | m
        · simp at h1
          rw [← h2, h1, List.append_nil]
        · simp at h1
      have HLF := Lib.hid hLF
      clear hnil hLF hlt
      obtain ⟨A2, c2, rfl⟩ := own_slice HU.out.out.row
      go_wp2_with (go_at_call 89; refine HWE.out.mono ?_; rintro e W2 ⟨rfl, ha⟩; rw [HDE.out]; (replace HU := Lib.hid (HU.out.asks ha)); clear ha)
      go_ret2
      refine ⟨⟨_, rfl, ?_⟩, HU.out.ask⟩
      rw [← HLF.out]
      exact HU.out.out.ints
set_option maxHeartbeats 4000000 in
theorem unrank_no {n : Nat} (h : LatV w base lb p s) (hT : OkT p.T) (hs : s.length ≤ 4000) (hn : NatIs w (.agg #[.slice A k c]) n) (hd : (dg B32 n).length ≤ 100000) (hF : cntJ p.T s 0 ≤ n) :
    Calls Tryz.prog 49 #[.pointer (some ⟨lb, 0, none⟩), .agg #[.slice A k c]] w fun e w' => e = .returned (.tuple #[.slice none 0 0, .int .i64 7]) ∧ Ask w w' base lb p s := by
  obtain ⟨cm, hcm⟩ : ∃ z, cmpN n (cntJ p.T s 0) = z := ⟨_, rfl⟩
  have hcm0 : ¬ cm < 0 := by rw [← hcm]; unfold cmpN; rw [if_neg (by omega)]; split <;> decide
  have hcm1 : 0 ≤ cm := by omega
  have HCM := Lib.hid hcm
  have HD : Hid ((dg B32 n).length ≤ 100000 ∧ (dg B32 (cntJ p.T s 0)).length ≤ 100000) := Lib.hid (by
    have h1 := cntJ_dg hT s 0
    exact ⟨hd, by omega⟩)
  have HV : Hid (Ask w (w.alloc (.cells #[.slice A k c] 59)) base lb p s ∧ Var (w.alloc (.cells #[.slice A k c] 59)) lb w.heap.size A k c n) := Lib.hid ⟨(Ask.refl h).alloc _, Var.made h hn⟩
  have HC : Hid (∀ V, LatV V base lb p s → Calls Tryz.prog 25 #[.pointer (some ⟨lb, 0, none⟩)] V fun e w' => ∃ A k c, e = .returned (.agg #[.slice A k c]) ∧ NatIs w' (.agg #[.slice A k c]) (cntJ p.T s 0) ∧ Ask V w' base lb p s) := Lib.hid (fun V hV => hV.count hT hs)
  clear hcm hT hs h hn hF hd
  go_enter Tryz.func49, Tryz.ntmps49
  go_upto_region 3 with fail
  obtain ⟨nb, hnb⟩ : ∃ r, w.heap.size = r := ⟨_, rfl⟩
  rw [hnb] at HV ⊢
  clear hnb
  generalize w.alloc (.cells #[.slice A k c] 59) = w1 at *
  have hh := HV.out.2.c0
  obtain ⟨ct, hct⟩ : ∃ z, cntJ p.T s 0 = z := ⟨_, rfl⟩
  rw [hct] at HC HCM HD
  clear hct
  refine wp_region_held_drew (S := fun V => V.cell? ⟨nb, 0, none⟩ = some (.slice A k c)) (by kernel_rfl) (by exact hh) (fun hHeld => ?_)
  refine tkH 0 13 ?_ rfl hHeld (.inl ⟨by rfl, ?_⟩) ?_; rotate_left; focus (intro w' hSw; (try dsimp only at hSw); go_simp; (try with_reducible rfl))
  try simp only [sIB, sC0, sCS]
  refine tkH 1 14 ?_ rfl hHeld (.inl ⟨by rfl, ?_⟩) ?_; rotate_left; focus (intro w' hSw; (try dsimp only at hSw); go_simp; (try with_reducible rfl))
  try simp only [sIB, sC0, sCS]
  refine wpAnyH_ready (rs := [2]) (by kernel_rfl) (by simp) ?_
  refine AllReadyH.cons rfl (fun K hK => ?_) AllReadyH.nil
  (try go_simp)
  go_simp; refine (HC.out _ HV.out.1.drew.lat).mono ?_; rintro e W6 ⟨A3, k3, c3, rfl, hn, ha⟩; (replace HV := Lib.hid (And.intro (HV.out.1.drew.trans ha) (HV.out.2.drew.ask ha))); have HN3 := Lib.hid hn; have h := HV.out.2.c0; clear hn ha; go_simp
  go_wp2_with fail
  refine hK.out _ _ h (fun hHeld => ?_)
  clear hK K
  try simp only [Act.put, sIB, sC0, sCS]
  refine wpAnyH_ready (rs := [3]) (by kernel_rfl) (by simp) ?_
  refine AllReadyH.cons rfl (fun K hK => ?_) AllReadyH.nil
  (try go_simp)
  go_simp; refine (compare_any _ _ n ct _ HV.out.2.nat HN3.out HD.out.1 HD.out.2).mono ?_; rintro e W7 ⟨rfl, hb⟩; rw [HCM.out]; (replace HV := Lib.hid (And.intro (HV.out.1.below hb) (HV.out.2.below hb))); have h := HV.out.2.c0; clear hb HN3; go_simp
  go_wp2_with fail
  refine hK.out _ _ h (fun hHeld => ?_)
  clear hK K
  try simp only [Act.put, sIB, sC0, sCS]
  refine tkH 4 17 ?_ rfl hHeld (.inl ⟨by rfl, ?_⟩) ?_; rotate_left; focus (intro w' hSw; (try dsimp only at hSw); go_simp; (try with_reducible rfl))
  try simp only [sIB, sC0, sCS]
  refine tkH 5 12 ?_ rfl hHeld (.inl ⟨by rfl, ?_⟩) ?_; rotate_left; focus (intro w' hSw; (try dsimp only at hSw); go_simp; (try with_reducible rfl))
  try simp only [sIB, sC0, sCS]
  refine wpAnyH_done (by kernel_rfl) ?_ _
  clear hh hHeld h HC
  go_wp2_with fail
  go_ret2
  exact ⟨rfl, HV.out.1⟩
end
theorem skip_bound {T : List Ent} {s : List UInt8} {id : Int} : ∀ {l : List Int} {k : Nat}, skipN T s id l = some k → id ∈ l ∧ k + cntA T (s.drop (lenT T id)) ≤ sumA T s l
  | [], k, h => by simp [skipN] at h
  | x :: l, k, h => by
    rw [skipN] at h
    rw [sumA_cons]
    by_cases hx : x = id
    · rw [if_pos hx] at h
      injection h with h
      subst hx
      exact ⟨List.mem_cons_self, by omega⟩
    · rw [if_neg hx, Option.map_eq_some_iff] at h
      obtain ⟨k', h1, h2⟩ := h
      obtain ⟨h3, h4⟩ := skip_bound h1
      exact ⟨List.mem_cons_of_mem _ h3, by omega⟩
section
variable {w w' W W' : World} {base lb wb rb nb kb i m k c q c2 : Nat} {p : VocP} {s : List UInt8} {A A2 : Option Addr} {ids : List Int}
structure RkI (w W : World) (base lb wb rb nb i : Nat) (p : VocP) (s : List UInt8) (A : Option Addr) (k c m : Nat) (A2 : Option Addr) (ids : List Int) (q : Nat) : Prop where
  ask : Ask w W base lb p s
  way : Way W lb wb i
  res : Var W lb rb none 0 0 0
  num : Var W lb nb A k c m
  sl : Sl1 W A2 (Value.int .i64) ids
  lo : w.heap.size ≤ rb
  lo2 : w.heap.size ≤ wb
  lo3 : w.heap.size ≤ nb
  ne : rb ≠ nb
  old : ∀ a, A2 = some a → ids ≠ [] → a.block < w.heap.size
  le : i ≤ s.length
  sum : m + cntJ p.T s i ≤ cntJ p.T s 0
  rel : rnk p.T s ids = (rnk p.T (s.drop i) (ids.drop q)).map (fun n => m + n)
theorem RkI.asks (h : RkI w W base lb wb rb nb i p s A k c m A2 ids q) (ha : Ask W W' base lb p s) : RkI w W' base lb wb rb nb i p s A k c m A2 ids q :=
  ⟨h.ask.trans ha, h.way.ask ha, h.res.ask ha, h.num.ask ha, sl_ask h.sl h.ask.lat ha, h.lo, h.lo2, h.lo3, h.ne, h.old, h.le, h.sum, h.rel⟩
theorem RkI.below (h : RkI w W base lb wb rb nb i p s A k c m A2 ids q) (hb : Below W.heap.size W W') : RkI w W' base lb wb rb nb i p s A k c m A2 ids q := h.asks (Ask.of_below h.ask.lat hb)
theorem RkI.drew (h : RkI w W base lb wb rb nb i p s A k c m A2 ids q) : RkI w W.drew base lb wb rb nb i p s A k c m A2 ids q := h.below (Below.refl _ _).drew
theorem sl_old (h : Sl1 W A2 (Value.int .i64) ids) (ho : ∀ a, A2 = some a → ids ≠ [] → a.block < w.heap.size) {a : Addr} (ha : w.heap.size ≤ a.block) (u : Value) : Sl1 (W.setCell a u) A2 (Value.int .i64) ids :=
  h.cellO (fun i x b o hx e he => by
    have h1 := ho _ e (by intro e2; rw [e2] at hx; simp at hx)
    have h2 : b = a.block := by rw [← he]
    simp only at h1
    omega) u
theorem RkI.put {A' : Option Addr} {k' c' K : Nat} (h : RkI w W base lb wb rb nb i p s A k c m A2 ids q) (hn : NatIs W (.agg #[.slice A' k' c']) K) :
    Ask w (W.setCell ⟨nb, 0, none⟩ (.slice A' k' c')) base lb p s ∧ Way (W.setCell ⟨nb, 0, none⟩ (.slice A' k' c')) lb wb i ∧ Var (W.setCell ⟨nb, 0, none⟩ (.slice A' k' c')) lb rb none 0 0 0 ∧ Var (W.setCell ⟨nb, 0, none⟩ (.slice A' k' c')) lb nb A' k' c' K ∧ Sl1 (W.setCell ⟨nb, 0, none⟩ (.slice A' k' c')) A2 (Value.int .i64) ids :=
  ⟨h.ask.setVar h.num h.lo3 _, h.way.far (fun e => h.way.ne h.num e.symm) _, h.res.far h.num.c0 (fun x => by simp) h.ne h.num.lo _, h.num.put hn, sl_old h.sl h.old h.lo3 _⟩
structure RkJ (w W : World) (base lb wb rb nb i : Nat) (p : VocP) (s : List UInt8) (A : Option Addr) (k c m : Nat) (A2 : Option Addr) (ids : List Int) (q J : Nat) : Prop where
  ask : Ask w W base lb p s
  way : Way W lb wb i
  res : Var W lb rb none 0 0 0
  num : Var W lb nb A k c m
  sl : Sl1 W A2 (Value.int .i64) ids
  lo : w.heap.size ≤ rb
  lo2 : w.heap.size ≤ wb
  lo3 : w.heap.size ≤ nb
  ne : rb ≠ nb
  old : ∀ a, A2 = some a → ids ≠ [] → a.block < w.heap.size
  le : J ≤ s.length
  sum : m + cntJ p.T s J ≤ cntJ p.T s 0
  rel : rnk p.T s ids = (rnk p.T (s.drop J) (ids.drop (q + 1))).map (fun n => m + n)
theorem RkI.add {A' : Option Addr} {k' c' K J : Nat} {id : Int} (h : RkI w W base lb wb rb nb i p s A k c m A2 ids q) (hT : OkT p.T) (hid : ids[q]? = some id) (hK : skipN p.T (s.drop i) id (atP p.T s i) = some K) (hJ : i + lenT p.T id = J) (hn : NatIs W (.agg #[.slice A' k' c']) (m + K)) :
    RkJ w (W.setCell ⟨nb, 0, none⟩ (.slice A' k' c')) base lb wb rb nb i p s A' k' c' (m + K) A2 ids q J := by
  obtain ⟨h1, h2, h3, h4, h5⟩ := h.put hn
  obtain ⟨g1, g2⟩ := skip_bound hK
  obtain ⟨f1, f2, f3, _⟩ := atA_has hT g1
  rw [List.length_drop] at f3
  subst hJ
  refine ⟨h1, h2, h3, h4, h5, h.lo, h.lo2, h.lo3, h.ne, h.old, by omega, ?_, ?_⟩
  · have h6 := h.sum
    have h7 : sumA p.T (s.drop i) (atP p.T s i) = cntJ p.T s i := (cntA_rec hT (by intro e; have := List.drop_eq_nil_iff.1 e; omega)).symm
    rw [h7, List.drop_drop] at g2
    unfold cntJ at *
    omega
  · rw [h.rel, drop_at hid, rnk]
    have h8 : skipN p.T (s.drop i) id (atA p.T (s.drop i)) = some K := hK
    rw [h8, List.drop_drop]
    simp only [Option.bind_some, Option.map_map]
    congr 1
    funext x
    simp [Nat.add_assoc]
theorem RkJ.below {J : Nat} (h : RkJ w W base lb wb rb nb i p s A k c m A2 ids q J) (hb : Below W.heap.size W W') : RkJ w W' base lb wb rb nb i p s A k c m A2 ids q J :=
  have ha := Ask.of_below h.ask.lat hb
  ⟨h.ask.trans ha, h.way.ask ha, h.res.ask ha, h.num.ask ha, sl_ask h.sl h.ask.lat ha, h.lo, h.lo2, h.lo3, h.ne, h.old, h.le, h.sum, h.rel⟩
theorem RkJ.drew {J : Nat} (h : RkJ w W base lb wb rb nb i p s A k c m A2 ids q J) : RkJ w W.drew base lb wb rb nb i p s A k c m A2 ids q J := h.below (Below.refl _ _).drew
theorem RkJ.step {J : Nat} (h : RkJ w W base lb wb rb nb i p s A k c m A2 ids q J) : RkI w (W.setCell ⟨wb, 1, none⟩ (.int .i64 (J : Int))) base lb wb rb nb J p s A k c m A2 ids (q + 1) :=
  ⟨h.ask.setWay h.way h.lo2 _, h.way.put _, h.res.setWay h.way _, h.num.setWay h.way _, sl_old h.sl h.old h.lo2 _, h.lo, h.lo2, h.lo3, h.ne, h.old, h.le, h.sum, h.rel⟩
theorem sl_blk (h : Sl1 w A2 (Value.int .i64) ids) : ∀ a, A2 = some a → ids ≠ [] → a.block < w.heap.size := by
  intro a ha hne
  obtain ⟨x, l, e⟩ := List.exists_cons_of_ne_nil hne
  subst e
  obtain ⟨b, o, e1, hc⟩ := h 0 x rfl
  rw [ha] at e1
  injection e1 with e1
  subst e1
  exact World.block_lt_of_cell? w _ hc
set_option maxHeartbeats 4000000 in
theorem rank_any {E : Int} {K : Nat} (h : LatV w base lb p s) (hT : OkT p.T) (hs : s.length ≤ 4000) (hsl : Sl1 w A2 (Value.int .i64) ids) (hlen : ids.length ≤ 1000000) (hK : (rnk p.T s ids).getD 0 = K) (hE0 : rnk p.T s ids ≠ none → E = 0) (hE8 : rnk p.T s ids = none → E = 8) :
    Calls Tryz.prog 44 #[.pointer (some ⟨lb, 0, none⟩), .slice A2 ids.length c2] w fun e w' => (∃ A k c, e = .returned (.tuple #[.agg #[.slice A k c], .int .i64 E]) ∧ NatIs w' (.agg #[.slice A k c]) K) ∧ Ask w w' base lb p s := by
  have HNO : Hid (rnk p.T s ids = none → K = 0 ∧ E = 8) := Lib.hid (fun e => ⟨by rw [← hK, e]; rfl, hE8 e⟩)
  have HYE : Hid (∀ m, rnk p.T s ids = some m → K = m ∧ E = 0) := Lib.hid (fun m e => ⟨by rw [← hK, e]; rfl, hE0 (by rw [e]; simp)⟩)
  have HT := Lib.hid hT
  have HSL := Lib.hid hs
  have HLE := Lib.hid hlen
  have HV1 := Lib.hid (And.intro ((Ask.refl h).alloc (.cells #[.slice none 0 0] 59)) (And.intro (Var.made h (NatIs.zero w)) (And.intro (hsl.below ((Below.refl _ _).alloc (Nat.le_refl _) (.cells #[.slice none 0 0] 59)) (Nat.le_refl _)) (sl_blk hsl))))
  clear hK hE0 hE8 hT hs h hsl hlen
  obtain ⟨N, hN⟩ : ∃ N, ids.length = N := ⟨_, rfl⟩
  have HNN := Lib.hid hN
  rw [hN]
  clear hN
  go_enter Tryz.func44, Tryz.ntmps44
  go_upto_region 1 with fail
  obtain ⟨rb, hrb⟩ : ∃ r, w.heap.size = r := ⟨_, rfl⟩
  have HRB := Lib.hid hrb
  rw [hrb] at HV1 ⊢
  clear hrb
  generalize w.alloc (.cells #[.slice none 0 0] 59) = w1 at *
  go_upto_region 4 with fail
  obtain ⟨wb, hwb⟩ : ∃ r, w1.heap.size = r := ⟨_, rfl⟩
  have HV2 : Hid (Ask w (w1.alloc (.cells #[.pointer (some ⟨lb, 0, none⟩), .int .i64 0] 161)) base lb p s ∧ Var (w1.alloc (.cells #[.pointer (some ⟨lb, 0, none⟩), .int .i64 0] 161)) lb rb none 0 0 0 ∧ Way (w1.alloc (.cells #[.pointer (some ⟨lb, 0, none⟩), .int .i64 0] 161)) lb w1.heap.size 0 ∧ w.heap.size ≤ w1.heap.size ∧ Sl1 (w1.alloc (.cells #[.pointer (some ⟨lb, 0, none⟩), .int .i64 0] 161)) A2 (Value.int .i64) ids) :=
    Lib.hid ⟨HV1.out.1.alloc _, HV1.out.2.1.below ((Below.refl _ _).alloc (Nat.le_refl _) _), ⟨blk_new _ _, HV1.out.1.lat.lt_size⟩, HV1.out.1.keep.size, HV1.out.2.2.1.below ((Below.refl _ _).alloc (Nat.le_refl _) _) (Nat.le_refl _)⟩
  have HOLD := Lib.hid HV1.out.2.2.2
  rw [hwb] at HV2 ⊢
  clear hwb HV1
  generalize w1.alloc (.cells #[.pointer (some ⟨lb, 0, none⟩), .int .i64 0] 161) = w2 at *
  go_upto_region 5 with fail
  obtain ⟨nb, hnb⟩ : ∃ r, w2.heap.size = r := ⟨_, rfl⟩
  have HST : Hid (RkI w (w2.alloc (.cells #[.slice none 0 0] 59)) base lb wb rb w2.heap.size 0 p s none 0 0 0 A2 ids 0) := by
    have hb := (Below.refl w2.heap.size w2).alloc (Nat.le_refl _) (.cells #[.slice none 0 0] 59)
    exact Lib.hid ⟨HV2.out.1.alloc _, HV2.out.2.2.1.below hb, HV2.out.2.1.below hb, Var.made HV2.out.1.lat (NatIs.zero _), HV2.out.2.2.2.2.below hb (Nat.le_refl _), Nat.le_of_eq HRB.out, HV2.out.2.2.2.1, HV2.out.1.keep.size, by have := HV2.out.2.1.lt; omega, by rw [HRB.out]; exact HOLD.out, Nat.zero_le _, by omega, by
      rw [List.drop_zero, List.drop_zero]
      cases rnk p.T s ids <;> simp⟩
  rw [hnb] at HST ⊢
  clear hnb HV2
  generalize w2.alloc (.cells #[.slice none 0 0] 59) = w3 at *
  go_wp2_with fail
  go_loopg [20] N (fun n' i' W => ∃ (q i : Nat) (A : Option Addr) (k c m : Nat), q + n' = N ∧ i' = .int .i64 (q : Int) ∧ RkI w W base lb wb rb nb i p s A k c m A2 ids q)
  case atStart => exact ⟨0, 0, none, 0, 0, 0, by omega, rfl, HST.out⟩
  case round =>
    obtain ⟨q, i, A1, k1, c1, m, hq, rfl, hst⟩ := hrel
    obtain ⟨G0, hG0⟩ : ∃ G, G = gk := ⟨_, rfl⟩
    subst hG0
    clear HST
    rename World => W
    have HR := Lib.hid hst
    have HQ := Lib.hid hq
    clear hst hq
    by_cases hlt : q < N
    · have hq2 : q < ids.length := by have := HNN.out; omega
      obtain ⟨id, hid⟩ : ∃ x, ids[q]? = some x := ⟨_, List.getElem?_eq_getElem hq2⟩
      obtain ⟨bi, oi, hA2, e1⟩ := HR.out.sl q id hid
      have r0 : (0 : Int) ≤ (q : Int) := by omega
      have r1 : (q : Int) < (N : Int) := by omega
      have wq : IntKind.i64.wrap ((q : Int) + 1) = (q : Int) + 1 := IntWalk.i64_in _ (by have := HNN.out; have := HLE.out; omega)
      have HID := Lib.hid hid
      clear hid hq2 hlt
      subst hA2
      cases hsk : skipN p.T (s.drop i) id (atP p.T s i) with
      | none =>
        have HNO2 := Lib.hid (HNO.out (by
          rw [HR.out.rel, drop_at HID.out, rnk]
          have h8 : skipN p.T (s.drop i) id (atA p.T (s.drop i)) = none := hsk
          rw [h8]
          rfl))
        have HSK : Hid (Calls Tryz.prog 88 #[.pointer (some ⟨wb, 0, none⟩), .int .i64 id] W fun e w' => (∃ A k c, e = .returned (.tuple #[.agg #[.slice A k c], .bool false]) ∧ NatIs w' (.agg #[.slice A k c]) 0) ∧ Ask W w' base lb p s) := Lib.hid (wskips_any HR.out.ask.lat HR.out.way HT.out HSL.out HR.out.le id 0 false (by rw [hsk]; rfl) (by rw [hsk]; rfl))
        clear hsk
        go_upto_region 9 with (go_at_call 88; refine HSK.out.mono ?_; rintro e W3 ⟨⟨A3, k3, c3, rfl, hn⟩, ha⟩; (replace HR := Lib.hid ((HR.out.asks ha).below ((Below.refl _ _).alloc (Nat.le_refl _) (.cells #[.slice A3 k3 c3] 59)))); clear hn ha e1)
        obtain ⟨kb, hkb⟩ : ∃ b, W3.heap.size = b := ⟨_, rfl⟩
        rw [hkb]
        clear hkb
        generalize W3.alloc (.cells #[.slice A3 k3 c3] 59) = W4 at *
        have v0 := HR.out.res.c0
        have v1 := HR.out.res.z0
        obtain ⟨hk0, hk1⟩ := HNO2.out
        subst hk1
        have HK0 := Lib.hid hk0
        clear hk0
        go_wp2_with fail
        refine ret_cell_tmp1 rfl rfl rfl (load_nat (HR.out.res.put (NatIs.zero _)).blk) ?_
        exact ⟨⟨_, _, _, rfl, by rw [HK0.out]; exact NatIs.zero _⟩, HR.out.ask.setVar HR.out.res HR.out.lo _⟩
      | some K1 =>
        have HK1 := Lib.hid hsk
        have HSK : Hid (Calls Tryz.prog 88 #[.pointer (some ⟨wb, 0, none⟩), .int .i64 id] W fun e w' => (∃ A k c, e = .returned (.tuple #[.agg #[.slice A k c], .bool true]) ∧ NatIs w' (.agg #[.slice A k c]) K1) ∧ Ask W w' base lb p s) := Lib.hid (wskips_any HR.out.ask.lat HR.out.way HT.out HSL.out HR.out.le id K1 true (by rw [hsk]; rfl) (by rw [hsk]; rfl))
        clear hsk
        go_upto_region 11 with (go_at_call 88; refine HSK.out.mono ?_; rintro e W3 ⟨⟨A3, k3, c3, rfl, hn⟩, ha⟩; (have HN3 := Lib.hid (hn.below ((Below.refl _ _).alloc (Nat.le_refl _) (.cells #[.slice A3 k3 c3] 59)) (Nat.le_refl _))); (have HKB := Lib.hid (blk_new W3 (.cells #[.slice A3 k3 c3] 59))); (replace HR := Lib.hid ((HR.out.asks ha).below ((Below.refl _ _).alloc (Nat.le_refl _) (.cells #[.slice A3 k3 c3] 59)))); clear hn ha e1)
        obtain ⟨kb, hkb⟩ : ∃ b, W3.heap.size = b := ⟨_, rfl⟩
        rw [hkb] at HKB ⊢
        clear hkb
        generalize W3.alloc (.cells #[.slice A3 k3 c3] 59) = W4 at *
        have n0 := HR.out.num.c0
        have n1 := blk_cell HKB.out 0
        simp only [List.getElem?_toArray, List.getElem?_cons_zero] at n1
        obtain ⟨J, hJ⟩ : ∃ J, i + lenT p.T id = J := ⟨_, rfl⟩
        have HJ := Lib.hid hJ
        have HD : Hid ((dg B32 (m + K1)).length ≤ 100000) := Lib.hid (by
          have h1 := HR.out.sum
          have h2 := (skip_bound HK1.out).2
          have h3 : sumA p.T (s.drop i) (atP p.T s i) ≤ cntJ p.T s i := by
            by_cases he : s.drop i = []
            · unfold atP
              rw [he]
              exact Nat.zero_le _
            · exact Nat.le_of_eq (cntA_rec HT.out he).symm
          have h4 := cntJ_dg HT.out s 0
          have h5 := HSL.out
          exact Nat.le_trans (dg_len_mono (by decide) (show m + K1 ≤ cntJ p.T s 0 by omega)) (by omega))
        have hba := (Below.refl W4.heap.size W4).alloc (Nat.le_refl _) (.cells #[.slice A3 k3 c3] 59)
        have HAD := Lib.hid (add1_any (w := W4.alloc (.cells #[.slice A3 k3 c3] 59)) k3 c3 ((HR.out.below hba).num.nat) (HN3.out.below hba (Nat.le_refl _)) (blk_new W4 (.cells #[.slice A3 k3 c3] 59)) HD.out 1)
        have HBA := Lib.hid hba
        clear hba hJ
        go_upto_region 12 with (go_at_call 34; refine HAD.out.mono ?_; rintro e W5 ⟨A5, k5, c5, rfl, hn, hb⟩; (replace HR := Lib.hid ((HR.out.below HBA.out).below hb)); (have HR5 := Lib.hid (HR.out.add HT.out HID.out HK1.out HJ.out hn)); clear n0 n1; (have n0 := HR.out.num.c0); (have n1 := HR.out.num.z0); clear hn hb)
        clear n0 n1 HR HAD HBA HKB HN3 HD HSK
        generalize W5.setCell ⟨nb, 0, none⟩ (.slice A5 k5 c5) = W6 at *
        obtain ⟨sz, hsz⟩ : ∃ z, lenT p.T id = z := ⟨_, rfl⟩
        have HSZ : Hid (∀ V, LatV V base lb p s → Calls Tryz.prog 31 #[.pointer (some ⟨lb, 0, none⟩), .int .i64 id] V fun e w' => e = .returned (.int .i64 (sz : Nat)) ∧ w' = V) := Lib.hid (fun V hV => by rw [← hsz]; exact hV.size id)
        have wks : IntKind.i64.wrap ((i : Int) + (sz : Int)) = (J : Int) := by rw [show (i : Int) + (sz : Int) = (J : Int) by have := HJ.out; omega]; exact IntWalk.i64_in _ (by have := HR5.out.le; have := HSL.out; omega)
        clear hsz
        have hh := HR5.out.way.cc
        refine wp_region_D (Ds := [13]) (S := fun V => V.cell? ⟨wb, 0, none⟩ = some (.pointer (some ⟨lb, 0, none⟩)) ∧ V.cell? ⟨wb, 1, none⟩ = some (.int .i64 (i : Int))) (by kernel_rfl) (by exact hh) (fun hHeld => ?_)
        (replace HR5 := Lib.hid HR5.out.drew); clear hh; generalize W6.drew = W7 at *
        refine tkP 0 37 ?_ rfl (.inl ⟨by rfl, ?_⟩) ?_; rotate_left; focus (intro w' _; go_simp; (try with_reducible rfl))
        try simp only [sIB, sC0, sCS]
        refine tkP 1 38 ?_ rfl (.inl ⟨by rfl, ?_⟩) ?_; rotate_left; focus (intro w' _; go_simp; (try with_reducible rfl))
        try simp only [sIB, sC0, sCS]
        refine tkP 2 39 ?_ rfl (.inl ⟨by rfl, ?_⟩) ?_; rotate_left; focus (intro w' _; go_simp; (try with_reducible rfl))
        try simp only [sIB, sC0, sCS]
        refine tkP 4 41 ?_ rfl (.inl ⟨by rfl, ?_⟩) ?_; rotate_left; focus (intro w' _; go_simp; (try with_reducible rfl))
        try simp only [sIB, sC0, sCS]
        refine tkP 5 42 ?_ rfl (.inl ⟨by rfl, ?_⟩) ?_; rotate_left; focus (intro w' _; go_simp; (try with_reducible rfl))
        try simp only [sIB, sC0, sCS]
        refine tkP 6 43 ?_ rfl (.inl ⟨by rfl, ?_⟩) ?_; rotate_left; focus (intro w' _; go_simp; (try with_reducible rfl))
        try simp only [sIB, sC0, sCS]
        refine tkP 8 45 ?_ rfl (.inl ⟨by rfl, ?_⟩) ?_; rotate_left; focus (intro w' _; go_simp; (try with_reducible rfl))
        try simp only [sIB, sC0, sCS]
        refine tkD 3 40 ?_ rfl hHeld (.inl ⟨by rfl, ?_⟩) ?_; rotate_left; focus (intro w' hSw; (try dsimp only at hSw); go_simp; (try with_reducible rfl))
        try simp only [sIB, sC0, sCS]
        refine tkD 7 44 ?_ rfl hHeld (.inl ⟨by rfl, ?_⟩) ?_; rotate_left; focus (intro w' hSw; (try dsimp only at hSw); go_simp; (try with_reducible rfl))
        try simp only [sIB, sC0, sCS]
        refine wpAnyD_one (i := 9) (by kernel_rfl) rfl (by rfl) (fun K hK => ?_)
        go_simp; refine (HSZ.out _ HR5.out.ask.lat).mono ?_; rintro e W8 ⟨rfl, hw⟩; rw [hw]; clear hw W8; have h := hHeld; go_simp
        refine hK.out _ _ h (fun hHeld => ?_)
        clear hK K
        try simp only [Act.put, sIB, sC0, sCS]
        refine tkP 10 47 ?_ rfl (.inl ⟨by rfl, ?_⟩) ?_; rotate_left; focus (intro w' _; go_simp; (try with_reducible rfl))
        try simp only [sIB, sC0, sCS]
        refine tkP 11 48 ?_ rfl (.inl ⟨by rfl, ?_⟩) ?_; rotate_left; focus (intro w' _; go_simp; (try with_reducible rfl))
        try simp only [sIB, sC0, sCS]
        refine tkP 12 49 ?_ rfl (.inl ⟨by rfl, ?_⟩) ?_; rotate_left; focus (intro w' _; go_simp; (try with_reducible rfl))
        try simp only [sIB, sC0, sCS]
        refine wpAnyD_last (D := 13) (by decide) (by kernel_rfl) rfl (by rfl) (fun K hK => ?_)
        have n0 := HR5.out.way.c1; have n1 := HR5.out.way.z1; go_simp
        refine hK.out _ _ ?_
        clear hK K
        try simp only [Act.put, sIB, sC0, sCS]
        refine wpAnyD_done (by kernel_rfl) ?_ _
        have HR9 := Lib.hid HR5.out.step
        clear h hHeld n0 n1 HR5 HSZ wks
        generalize W7.setCell ⟨wb, 1, none⟩ (.int .i64 (J : Int)) = W9 at *
        go_wp2_with fail
        go_roundg (G0 - 1)
        case measure => have := HQ.out; omega
        case rel => exact ⟨q + 1, J, A5, k5, c5, m + K1, by have := HQ.out; omega, by simp, HR9.out⟩
    · have hlt2 : ¬ (q : Int) < (N : Int) := by omega
      have HWE := Lib.hid (wend_any HR.out.ask.lat HR.out.way)
      have hdr : ids.drop q = [] := List.drop_eq_nil_iff.2 (by have := HNN.out; omega)
      have hrel := HR.out.rel
      rw [hdr] at hrel
      by_cases hie : i = s.length
      · have HDE : Hid (decide (i = s.length) = true) := Lib.hid (decide_eq_true hie)
        rw [List.drop_eq_nil_iff.2 (by omega)] at hrel
        obtain ⟨hk0, hk1⟩ := HYE.out m (by rw [hrel]; rfl)
        subst hk1
        have HK0 := Lib.hid hk0
        clear hk0 hrel hdr hie hlt
        go_upto_region 16 with (go_at_call 89; refine HWE.out.mono ?_; rintro e W2 ⟨rfl, ha⟩; rw [HDE.out]; (replace HR := Lib.hid (HR.out.asks ha)); clear ha)
        have n0 := HR.out.num.c0
        have v0 := HR.out.res.c0
        have v1 := HR.out.res.z0
        go_wp2_with fail
        refine ret_cell_tmp1 rfl rfl rfl (load_nat (HR.out.res.put HR.out.num.nat).blk) ?_
        exact ⟨⟨_, _, _, rfl, by rw [HK0.out]; exact (HR.out.res.put HR.out.num.nat).nat⟩, HR.out.ask.setVar HR.out.res HR.out.lo _⟩
      · have HDE : Hid (decide (i = s.length) = false) := Lib.hid (decide_eq_false hie)
        have hne : s.drop i ≠ [] := by intro e; have := List.drop_eq_nil_iff.1 e; have := HR.out.le; omega
        obtain ⟨hk0, hk1⟩ := HNO.out (by rw [hrel, rnk, if_neg hne]; rfl)
        subst hk1
        have HK0 := Lib.hid hk0
        clear hk0 hrel hdr hie hlt hne
        go_upto_region 15 with (go_at_call 89; refine HWE.out.mono ?_; rintro e W2 ⟨rfl, ha⟩; rw [HDE.out]; (replace HR := Lib.hid (HR.out.asks ha)); clear ha)
        have v0 := HR.out.res.c0
        have v1 := HR.out.res.z0
        go_wp2_with fail
        refine ret_cell_tmp1 rfl rfl rfl (load_nat (HR.out.res.put (NatIs.zero _)).blk) ?_
        exact ⟨⟨_, _, _, rfl, by rw [HK0.out]; exact NatIs.zero _⟩, HR.out.ask.setVar HR.out.res HR.out.lo _⟩
end
section
variable {w w' W W' : World} {base lb nb m k c c2 : Nat} {p : VocP} {s : List UInt8} {A A2 : Option Addr} {ids F : List Int}
def byteI (s : List UInt8) : List Int := s.map (fun x => (x.toNat : Int))
structure LsI (w W : World) (base lb : Nat) (p : VocP) (s : List UInt8) (k : Nat) (v : Value) : Prop where
  lat : LatV W base lb p s
  blw : Below w.heap.size w W
  out : OutI W w.heap.size v k (byteI (s.take k))
theorem LsI.below {k : Nat} {v : Value} (h : LsI w W base lb p s k v) (hb : Below W.heap.size W W') : LsI w W' base lb p s k v := ⟨h.lat.below hb, h.blw.trans (hb.mono h.blw.size), h.out.below hb⟩
theorem LsI.grow {k : Nat} {v v' : Value} {L : List Int} (h0 : LatV w base lb p s) (h : LsI w W base lb p s k v) (ho : OutI W' w.heap.size v' (k + 1) (byteI (s.take k) ++ L)) (hL : byteI (s.take k) ++ L = byteI (s.take (k + 1))) (hk : Keep (fun g => v.ownBlock = some g) W W') : LsI w W' base lb p s (k + 1) v' :=
  ⟨((Ask.of_below h0 h.blw).app h0 h.out (Nat.le_refl _) hk).lat, h.blw.trans (hk.below h.blw.size (fun x hx => (h.out.row.lt x hx).1)), by rw [← hL]; exact ho⟩
set_option maxHeartbeats 2000000 in
theorem last_any (h : LatV w base lb p s) (hT : OkT p.T) (hs : s.length ≤ 4000) :
    Calls Tryz.prog 50 #[.pointer (some ⟨lb, 0, none⟩)] w fun e w' => (∃ v, e = .returned v ∧ IntsIs w' w.heap.size v (byteI s)) ∧ Ask w w' base lb p s := by
  have HBY := Lib.hid h.bytes
  have HDZ : Hid ((bs s).size = s.length) := Lib.hid (bs_size s)
  have HH := Lib.hid h
  have HT := Lib.hid hT
  have HSL := Lib.hid hs
  have HST : Hid (LsI w w base lb p s 0 (.slice none 0 0)) := Lib.hid ⟨h, Below.refl _ _, OutI.nil _ _⟩
  clear h hT hs
  obtain ⟨Z, hZ⟩ : ∃ Z, bs s = Z := ⟨_, rfl⟩
  rw [hZ] at HBY HDZ
  clear hZ
  go_enter Tryz.func50, Tryz.ntmps50
  go_wp2_with (go_at_call 30; refine HBY.out.mono ?_; rintro e w1 ⟨rfl, hw⟩; rw [hw]; clear hw w1)
  go_loopg [3, 9] Z.size (fun n v i W => ∃ k : Nat, k + n = Z.size ∧ i = .int .i64 (k : Int) ∧ LsI w W base lb p s k v)
  case atStart => exact ⟨0, by omega, rfl, HST.out⟩
  case round =>
    obtain ⟨k, hk, rfl, hst⟩ := hrel
    clear HST
    rename World => W
    rename Value => v
    have HST := Lib.hid hst
    have HK := Lib.hid hk
    obtain ⟨A1, c1, rfl⟩ := own_slice hst.out.row
    clear hst hk
    by_cases hlt : k < Z.size
    · have p0 : (0 : Int) ≤ (k : Int) := by omega
      have p1 : (k : Int) < (Z.size : Int) := by omega
      have hks : k < s.length := by have := HDZ.out; omega
      have hne : s.drop k ≠ [] := by intro e; have := List.drop_eq_nil_iff.1 e; omega
      have HAT := Lib.hid (HST.out.lat.ats k hks (by have := HSL.out; omega))
      obtain ⟨l, hl⟩ := at_byte HT.out hne
      have hhd : (s.drop k).head hne = s[k] := by
        rw [List.head_eq_getElem]
        simp
      rw [hhd] at hl
      have HL : Hid (byteI (s.take k) ++ [(s[k].toNat : Int)] = byteI (s.take (k + 1))) := Lib.hid (by
        unfold byteI
        rw [take_snoc hks, List.map_append]
        rfl)
      obtain ⟨X, hX⟩ : ∃ X, (s[k].toNat : Int) = X := ⟨_, rfl⟩
      rw [hX] at hl HL
      obtain ⟨n, hn⟩ : ∃ n, (atP p.T s k).length = n + 1 := ⟨l.length, by unfold atP; rw [hl]; simp⟩
      have HGX : Hid ((atP p.T s k)[n]? = some X) := Lib.hid (by
        have e : l.length = n := by unfold atP at hn; rw [hl] at hn; simpa using hn
        unfold atP
        rw [hl, ← e]
        simp)
      have HNL : Hid (n ≤ 4000) := Lib.hid (by have := atP_len p.T s k; have := HSL.out; omega)
      obtain ⟨N, hN⟩ : ∃ N, (atP p.T s k).length = N := ⟨_, rfl⟩
      have HN := Lib.hid hN
      have HN1 : Hid (N = n + 1) := Lib.hid (by omega)
      have wn : IntKind.i64.wrap ((N : Int) - 1) = (n : Int) := by rw [show (N : Int) - 1 = (n : Int) by omega]; exact IntWalk.i64_in _ (by have := HNL.out; omega)
      have q0 : (0 : Int) ≤ (n : Int) := by omega
      have q1 : (n : Int) < (N : Int) := by omega
      have wk : IntKind.i64.wrap ((k : Int) + 1) = (k : Int) + 1 := IntWalk.i64_in _ (by have := HDZ.out; have := HSL.out; omega)
      have HKS := Lib.hid hks
      clear hX hl hn hN hhd hks
      go_upto_region 6 with (go_at_call 29; refine HAT.out.mono ?_; rintro e W2 ⟨⟨v, rfl, A2, c2, rfl, hown⟩, hb⟩; rw [HN.out]; (have HSL2 := Lib.hid (own_sl1 hown)); (replace HST := Lib.hid (HST.out.below hb)); clear hown hb)
      obtain ⟨b2, o2, hA2, e2⟩ := HSL2.out n X HGX.out
      subst hA2
      have HQL : Hid (k ≤ 4000 ∧ w.heap.size ≤ W2.heap.size) := Lib.hid ⟨by have := HKS.out; have := HSL.out; omega, HST.out.blw.size⟩
      go_wp2_with (at_builtin; refine app_intU (w.heap.size) 1 _ _ X rfl rfl _ k (byteI (s.take k)) rfl rfl HST.out.out (by have := HQL.out; omega) HQL.out.2 ?_)
      intro v' W5 hown hkp
      have HS5 := Lib.hid (HST.out.grow HH.out hown HL.out hkp)
      clear hown hkp e2 HST HQL
      obtain ⟨A5, c5, rfl⟩ := own_slice HS5.out.out.row
      go_wp2_with fail
      go_roundg (gk - 1)
      case measure => have := HK.out; omega
      case rel => exact ⟨k + 1, by have := HK.out; omega, by simp, HS5.out⟩
    · have hlt3 : ¬ ((k : Nat) : Int) < (Z.size : Int) := by omega
      have HKE : Hid (s.take k = s) := Lib.hid (List.take_of_length_le (by have := HK.out; have := HDZ.out; omega))
      go_wp2_with fail
      go_ret
      refine ⟨⟨_, rfl, ?_⟩, Ask.of_below HH.out HST.out.blw⟩
      have := HST.out.out.ints
      rw [HKE.out] at this
      exact this
end
theorem aw22_div : (divA awT21 abab)[2]? = some [97, 98, 256] := by kernel_rfl
theorem aw22_rnk : rnk awT21 abab [256, 97, 98] = some 1 := by kernel_rfl
theorem aw22_d32 : (dg B32 1).length ≤ 100000 := Nat.le_trans (dg_len_le (k := 2) (by decide) (by decide)) (by decide)
theorem aw22_d10 : (dg 10 1).length ≤ 100000000 := Nat.le_trans (dg_len_le (k := 1) (by decide) (by decide)) (by decide)
theorem nat_agg {w : World} {v : Value} {n : Nat} (h : NatIs w v n) : ∃ A k c, v = .agg #[.slice A k c] := by
  obtain ⟨A, c, rfl, _⟩ := h
  exact ⟨_, _, _, rfl⟩
theorem sl_ints3 {w : World} {g : Nat} {a b c : Int} (h : w.heap[g]? = some (.cells #[.int .i64 a, .int .i64 b, .int .i64 c] 3)) : Sl1 w (some ⟨g, 0, none⟩) (Value.int .i64) [a, b, c] := by
  intro i x hx
  refine ⟨g, 0, rfl, ?_⟩
  rw [blk_cell h]
  match i, hx with
  | 0, hx => simpa using hx
  | 1, hx => simpa using hx
  | 2, hx => simpa using hx
  | n + 3, hx => simp at hx
structure AwL (w W : World) (base lb : Nat) (p : VocP) : Prop where
  lat : LatV W base lb p abab
  T : p.T = awT21
  ok : OkT p.T
  blw : Below w.heap.size w W
  lo : w.heap.size ≤ lb
theorem AwL.asks {w W W' : World} {lb base : Nat} {p : VocP} (h : AwL w W base lb p) (ha : Ask W W' base lb p abab) : AwL w W' base lb p :=
  ⟨ha.lat, h.T, h.ok, h.blw.trans (ha.blw h.blw.size h.lo), h.lo⟩
theorem AwL.below {w W W' : World} {lb base : Nat} {p : VocP} (h : AwL w W base lb p) (hb : Below W.heap.size W W') : AwL w W' base lb p := h.asks (Ask.of_below h.lat hb)
theorem aw22_u {w : World} {base lb k c : Nat} {p : VocP} {A : Option Addr} {W : World} (h : AwL w W base lb p) (hn : NatIs W (.agg #[.slice A k c]) 2) :
    Calls Tryz.prog 49 #[.pointer (some ⟨lb, 0, none⟩), .agg #[.slice A k c]] W fun e w' => (∃ A c, e = .returned (.tuple #[.slice A 3 c, .int .i64 0]) ∧ Sl1 w' A (Value.int .i64) [97, 98, 256]) ∧ Ask W w' base lb p abab := by
  refine (unrank_ok (F := [97, 98, 256]) h.lat h.ok (by decide) hn (by rw [h.T]; exact aw22_div)).mono ?_
  rintro e w' ⟨⟨v, rfl, A, c, rfl, ho⟩, ha⟩
  exact ⟨⟨A, c, rfl, own_sl1 ho⟩, ha⟩
theorem aw22_n {w : World} {base lb k c : Nat} {p : VocP} {A : Option Addr} {W : World} (h : AwL w W base lb p) (hn : NatIs W (.agg #[.slice A k c]) 4) :
    Calls Tryz.prog 49 #[.pointer (some ⟨lb, 0, none⟩), .agg #[.slice A k c]] W fun e w' => e = .returned (.tuple #[.slice none 0 0, .int .i64 7]) ∧ Ask W w' base lb p abab :=
  unrank_no h.lat h.ok (by decide) hn (Nat.le_trans (dg_len_le (k := 2) (by decide) (by decide)) (by decide)) (by rw [h.T, aw21_cnt]; exact Nat.le_refl _)
theorem aw22_r {w : World} {base lb g : Nat} {p : VocP} {W : World} (h : AwL w W base lb p) (hg : W.heap[g]? = some (.cells #[.int .i64 256, .int .i64 97, .int .i64 98] 3)) :
    Calls Tryz.prog 44 #[.pointer (some ⟨lb, 0, none⟩), .slice (some ⟨g, 0, none⟩) 3 3] W fun e w' => (∃ A k c, e = .returned (.tuple #[.agg #[.slice A k c], .int .i64 0]) ∧ NatIs w' (.agg #[.slice A k c]) 1) ∧ Ask W w' base lb p abab :=
  rank_any (ids := [256, 97, 98]) h.lat h.ok (by decide) (sl_ints3 hg) (by decide) (by rw [h.T, aw22_rnk]; rfl) (fun _ => rfl) (fun e => by rw [h.T, aw22_rnk] at e; cases e)
theorem awake22_any (w : World) : Calls Tryz.prog 46 #[] w fun e w' => e = .returned (.bool true) ∧ Below w.heap.size w w' := by
  have HB0 := Lib.hid ((Below.refl w.heap.size w).alloc (Nat.le_refl _) (.cells #[.int .i64 97, .int .i64 98] 113))
  have HSL := Lib.hid (sl_mrg1 (blk_new w (.cells #[.int .i64 97, .int .i64 98] 113)))
  have HN : Hid (∀ V, Sl V (some ⟨w.heap.size, 0, none⟩) encM 2 aw21 → Calls Tryz.prog 62 #[.agg #[.bool false, .slice (some ⟨w.heap.size, 0, none⟩) 1 1, .slice none 0 0, .slice none 0 0, .slice none 0 0, .slice none 0 0]] V fun e w' => (∃ p, e = .returned (.tuple #[.pointer (some ⟨p.vb, 0, none⟩), .int .i64 0, .int .i64 0]) ∧ VocAt w' V.heap.size p none ∧ p.T = awT21 ∧ p.s = mrgS aw21 ∧ OkT awT21) ∧ Below V.heap.size V w') := Lib.hid (fun V hV => vnew_m aw21_adds _ 1 V hV (by decide) (by decide))
  go_enter Tryz.func46, Tryz.ntmps46
  go_upto_region 3 with (first
    | (go_at_call 62; refine (HN.out _ HSL.out).mono ?_; rintro e W ⟨⟨p, rfl, hv, hT, hs, hok⟩, hb⟩; (have HV := Lib.hid hv); (have HT := Lib.hid hT); (have HOK := Lib.hid hok); (have HB := Lib.hid (HB0.out.trans (hb.mono HB0.out.size))); clear hv hT hs hok hb)
    | (go_at_call 24; refine (count_newV HV.out (by rw [HT.out]; exact HOK.out) abab (by decide)).mono ?_; rintro e W2 ⟨⟨lb, rfl, hlo, hl⟩, hb⟩; (have HL : Hid (AwL w W2 W.heap.size lb p) := Lib.hid ⟨hl, HT.out, by rw [HT.out]; exact HOK.out, HB.out.trans (hb.mono HB.out.size), Nat.le_trans HB.out.size hlo⟩); clear hlo hl hb))
  clear HB0 HSL HN HV HT HOK HB
  generalize W.heap.size = base at *
  have HI2 : Hid (∀ V, Calls Tryz.prog 53 #[.int .u64 2] V fun e w' => ∃ v, e = .returned v ∧ NatIs w' v 2 ∧ Below V.heap.size V w') := Lib.hid (fun V => int_any 2 V (by decide))
  have HI4 : Hid (∀ V, Calls Tryz.prog 53 #[.int .u64 4] V fun e w' => ∃ v, e = .returned v ∧ NatIs w' v 4 ∧ Below V.heap.size V w') := Lib.hid (fun V => int_any 4 V (by decide))
  go_upto_region 4 with (first
    | (go_at_call 53; refine (HI2.out _).mono ?_; rintro e W3 ⟨v, rfl, hn, hb⟩; (obtain ⟨A3, k3, c3, hv3⟩ := nat_agg hn); subst hv3; (replace HL := Lib.hid (HL.out.below hb)); (have HN3 := Lib.hid hn); clear hn hb)
    | (go_at_call 49; refine (aw22_u HL.out HN3.out).mono ?_; rintro e W4 ⟨⟨A4, c4, rfl, hv⟩, ha⟩; (have HL0 := HL); (replace HL := Lib.hid (HL.out.asks ha)); (have HV4 := Lib.hid hv); clear hv ha HL0 HN3))
  have HAL := Lib.hid (HL.out.below ((Below.refl _ _).alloc (Nat.le_refl _) (.cells #[.int .i64 256, .int .i64 97, .int .i64 98] 3)))
  have HV5 := Lib.hid (HV4.out.below ((Below.refl _ _).alloc (Nat.le_refl _) (.cells #[.int .i64 256, .int .i64 97, .int .i64 98] 3)) (Nat.le_refl _))
  have HR := Lib.hid (aw22_r HAL.out (blk_new W4 _))
  go_upto_region 5 with (go_at_call 44; refine HR.out.mono ?_; rintro e W5 ⟨⟨A5, k5, c5, rfl, hn⟩, ha⟩; (replace HV5 := Lib.hid (sl_ask HV5.out HAL.out.lat ha)); (replace HAL := Lib.hid (HAL.out.asks ha)); (have HN5 := Lib.hid hn); clear hn ha HL HV4)
  have HVR := Lib.hid (Var.made HAL.out.lat HN5.out)
  have HBW := Lib.hid ((Below.refl W5.heap.size W5).alloc (Nat.le_refl _) (.cells #[.slice A5 k5 c5] 59))
  replace HAL := Lib.hid (HAL.out.below HBW.out)
  replace HV5 := Lib.hid (HV5.out.below HBW.out (Nat.le_refl _))
  obtain ⟨kb, hkb⟩ : ∃ b, W5.heap.size = b := ⟨_, rfl⟩
  rw [hkb] at HVR ⊢
  clear HBW HR HN5 hkb
  generalize W5.alloc (.cells #[.slice A5 k5 c5] 59) = W6 at *
  go_upto_region 6 with (first
    | (go_at_call 53; refine (HI4.out _).mono ?_; rintro e W7 ⟨v, rfl, hn, hb⟩; (obtain ⟨A7, k7, c7, hv7⟩ := nat_agg hn); subst hv7; (replace HAL := Lib.hid (HAL.out.below hb)); (replace HVR := Lib.hid (HVR.out.below hb)); (replace HV5 := Lib.hid (HV5.out.below hb (Nat.le_refl _))); (have HN7 := Lib.hid hn); clear hn hb)
    | (go_at_call 49; refine (aw22_n HAL.out HN7.out).mono ?_; rintro e W8 ⟨rfl, ha⟩; (replace HVR := Lib.hid (HVR.out.ask ha)); (replace HV5 := Lib.hid (sl_ask HV5.out HAL.out.lat ha)); (replace HAL := Lib.hid (HAL.out.asks ha)); clear ha HN7))
  have hba := (Below.refl W8.heap.size W8).alloc (Nat.le_refl _) (.cells #[.int .i64 97, .int .i64 98, .int .i64 256] 3)
  replace HAL := Lib.hid (HAL.out.below hba)
  replace HVR := Lib.hid (HVR.out.below hba)
  have HIN := Lib.hid (ints_same [97, 98, 256] A4 (some ⟨W8.heap.size, 0, none⟩) c4 3 (W8.alloc (.cells #[.int .i64 97, .int .i64 98, .int .i64 256] 3)) (HV5.out.below hba (Nat.le_refl _)) (sl_ints3 (blk_new W8 _)) (by decide))
  clear hba
  have e4 : ((decS 1).toList == [49]) = true := by kernel_rfl
  go_wp2_with (first
    | (go_at_call 40; refine HIN.out.mono ?_; rintro e W9 ⟨rfl, hb⟩; (replace HAL := Lib.hid (HAL.out.below hb)); (replace HVR := Lib.hid (HVR.out.below hb)); (have n0 := HVR.out.c0); clear hb)
    | (go_at_call 38; refine (string_any _ 1 _ HVR.out.nat aw22_d32 aw22_d10).mono ?_; rintro e W10 ⟨rfl, hb⟩; (have HB10 := Lib.hid (HAL.out.blw.trans (hb.mono HAL.out.blw.size))); clear hb))
  go_ret
  exact ⟨rfl, HB10.out⟩
theorem RefIs.ask {w W : World} {base base' lb : Nat} {p : VocP} {s : List UInt8} {T : List Ent} {vb vm : Value} (h : RefIs w base' T vb vm) (hl : LatV w base lb p s) (ha : Ask w W base lb p s) : RefIs W base' T vb vm := by
  obtain ⟨cs, fz, hb⟩ := hl.tag
  exact ⟨own_keep h.row ha.keep (row_off h.row hb (by decide)), own_keep h.mrg ha.keep (row_off h.mrg hb (by decide)), h.nil⟩
theorem VocAt.keepX {w w' : World} {base g : Nat} {p : VocP} {a : Array Value} {t : TypeId} {fz : Nat × Nat} (h : VocAt w base p none) (k : Keep (fun x => x = g) w w') (hgb : g < base) (hg : AllSl w g) (hc : w.heap[g]? = some (.cells a t fz)) (ht : 266 ≠ t) : VocAt w' base p none := by
  obtain ⟨l, dn, st, se, us, h1, h2⟩ := h
  refine ⟨l, dn, st, se, us, ?_, ?_⟩
  · obtain ⟨V0, a1, a2, a3, a4, a5, a6⟩ := h1.org
    obtain ⟨V', e1, e2, e3⟩ := keep_cut a6 k
    have hlt := h1.lt
    have hg0 : AllSl V0 g := fun o v hv => hg o v (below_cell a6 (Nat.le_refl _) hv)
    have hbk : p.bk ≠ g := by
      intro hbg
      have h3 := (VocQ.bnd h1).1
      rw [hbg, hc] at h3
      injection h3 with h3
      injection h3 with _ h3 _
      exact ht h3.symm
    refine ⟨k.blk h1.blk (by omega), ⟨V', by omega, a2.keepS e2 hg0, a3.keep e2 (fun x hx hf => ?_), ⟨e2.blk a4.1 hbk, a4.2⟩, ?_, e3⟩, h1.lt⟩
    · subst hf
      have hl := a3.lt
      rcases hx with hx | hx | hx | hx
      · omega
      · have := own_base a3.row _ hx
        omega
      · omega
      · omega
    · have hl := a5.lt
      exact ⟨e2.blk a5.blk (by omega), own_keep a5.row e2 (fun x hx hf => by have := own_base a5.row _ hx; omega), a5.ids.keep e2 (by omega), a5.txs.keep e2 (by omega), a5.ne, a5.lt⟩
  · rcases h2 with h2 | ⟨r, h3, _⟩
    · exact .inl h2
    · exact absurd h3 (by simp)
theorem lat_table {w W : World} {base base' lb rb : Nat} {p : VocP} {s : List UInt8} {T : List Ent} {A1 A2 : Option Addr} {n1 c1 n2 c2 : Nat} (hl : LatV W base lb p s) (hr : W.heap[rb]? = some (.cells #[.slice none 0 0, .slice none 0 0] 34)) (hvo : VocAt W base' p none) (hrb : rb < base') (hw : w.heap.size ≤ rb) (hb : Below w.heap.size w W)
    (hf : RefIs W base' T (.slice A1 n1 c1) (.slice A2 n2 c2)) : ((W.setCell ⟨rb, 0, none⟩ (.slice A1 n1 c1)).setCell ⟨rb, 1, none⟩ (.slice A2 n2 c2)).heap[rb]? = some (.cells #[.slice A1 n1 c1, .slice A2 n2 c2] 34) ∧
    LatV ((W.setCell ⟨rb, 0, none⟩ (.slice A1 n1 c1)).setCell ⟨rb, 1, none⟩ (.slice A2 n2 c2)) base lb p s ∧ RefIs ((W.setCell ⟨rb, 0, none⟩ (.slice A1 n1 c1)).setCell ⟨rb, 1, none⟩ (.slice A2 n2 c2)) base' T (.slice A1 n1 c1) (.slice A2 n2 c2) ∧ Below w.heap.size w ((W.setCell ⟨rb, 0, none⟩ (.slice A1 n1 c1)).setCell ⟨rb, 1, none⟩ (.slice A2 n2 c2)) := by
  have hb1 := blk_set hr 0 (.slice A1 n1 c1)
  have hb2 := blk_set hb1 1 (.slice A2 n2 c2)
  have c0 := blk_cell hr 0
  have c1' := blk_cell hb1 1
  simp only [List.setIfInBounds_toArray, List.set_cons_zero, List.set_cons_succ] at hb1 hb2 c1'
  simp only [List.getElem?_toArray, List.getElem?_cons_zero, List.getElem?_cons_succ] at c0 c1'
  have hk1 : Keep (fun x => x = rb) W (W.setCell ⟨rb, 0, none⟩ (.slice A1 n1 c1)) := (Keep.refl (fun x => x = rb) W).setCell (p := ⟨rb, 0, none⟩) (.inl rfl) _
  have hk2 := hk1.setCell (p := ⟨rb, 1, none⟩) (.inl rfl) (.slice A2 n2 c2)
  have hal : AllSl W rb := by
    intro o v hv
    have h1 := blk_cell hr o
    rw [hv] at h1
    rcases o with _ | _ | o <;> simp at h1 <;> exact ⟨_, _, _, h1⟩
  exact ⟨hb2, hl.farV hr (by decide) (by decide) (by decide) (by decide) ⟨base', hvo.keepX hk2 hrb hal hr (by decide)⟩ hk2 (fun v m hn => (hn.cellK c0 (fun x => by simp) _).cellK c1' (fun x => by simp) _), hf.keep hk2 (fun g hg => by omega), hb.trans (hk2.below hb.size (fun x hx => by omega))⟩
section
variable {w W W' : World} {c : CaseP} {AL AC AJ AX : Option Addr} {cL cC cJ cX : Nat}
set_option maxHeartbeats 4000000 in
theorem lat22_any (h : CaseAt w c AL AC AJ AX cL cC cJ cX) (hok : CaseOk c) (s : List UInt8) (hlen : s.length ≤ 4000) :
    Calls Tryz.prog 47 #[.agg #[.slice AL c.l.length cL, .slice AC c.cs.length cC, .slice AJ c.js.length cJ, .slice AX c.xs.length cX], .string (bs s)] w fun e w' =>
      (∃ base lb p, ∃ r : RVoc, e = .returned (.tuple #[.pointer (some ⟨lb, 0, none⟩), .agg #[.slice r.A1 c.T.length r.c1, .slice r.A2 (mrgsT c.T).length r.c2]]) ∧ LatV w' base lb p s ∧ p.T = c.T ∧ RefIs w' w.heap.size c.T (.slice r.A1 c.T.length r.c1) (.slice r.A2 (mrgsT c.T).length r.c2) ∧ w.heap.size ≤ lb) ∧ Below w.heap.size w w' := by
  have HLEN := Lib.hid hlen
  have HB0 := Lib.hid ((Below.refl w.heap.size w).alloc (Nat.le_refl _) (.cells #[.slice AL c.l.length cL, .slice AC c.cs.length cC, .slice AJ c.js.length cJ, .slice AX c.xs.length cX] 27))
  have HN0 := Lib.hid (blk_new w (.cells #[.slice AL c.l.length cL, .slice AC c.cs.length cC, .slice AJ c.js.length cJ, .slice AX c.xs.length cX] 27))
  have HOF : Hid (∀ V, Below w.heap.size w V → Calls Tryz.prog 23 #[.agg #[.slice AL c.l.length cL, .slice AC c.cs.length cC, .slice AJ c.js.length cJ, .slice AX c.xs.length cX]] V fun e w' => (∃ p r, e = .returned (.tuple #[.pointer (some ⟨p.vb, 0, none⟩), r.val c]) ∧ VocAt w' V.heap.size p none ∧ p.T = c.T ∧ p.s = c.spec ∧ RVocIs w' V.heap.size c r) ∧ Below V.heap.size V w') := Lib.hid (fun V hV => of12_any (h.below hV (Nat.le_refl _)) hok)
  clear h hok hlen
  go_enter Tryz.func47, Tryz.ntmps47
  go_upto_region 1 with fail
  obtain ⟨rb, hrb⟩ : ∃ b, w.heap.size + 1 = b := ⟨_, rfl⟩
  have e1 : (w.alloc (.cells #[.slice AL c.l.length cL, .slice AC c.cs.length cC, .slice AJ c.js.length cJ, .slice AX c.xs.length cX] 27)).heap.size = w.heap.size + 1 := size_alloc _ _
  obtain ⟨cb, hcb⟩ : ∃ b, w.heap.size = b := ⟨_, rfl⟩
  have HRB : Hid (w.heap.size < rb) := Lib.hid (by omega)
  have HCB := Lib.hid hcb
  rw [hrb]
  rw [hcb] at HN0 ⊢
  generalize w.alloc (.cells #[.slice AL c.l.length cL, .slice AC c.cs.length cC, .slice AJ c.js.length cJ, .slice AX c.xs.length cX] 27) = w1 at *
  have HN1 := Lib.hid (blk_alloc HN0.out (.cells #[.slice none 0 0, .slice none 0 0] 34))
  have HR1 := Lib.hid (blk_new w1 (.cells #[.slice none 0 0, .slice none 0 0] 34))
  have HB1 := Lib.hid (HB0.out.alloc HB0.out.size (.cells #[.slice none 0 0, .slice none 0 0] 34))
  rw [e1, hrb] at HR1
  have HR2S := Lib.hid (blk_lt HR1.out)
  clear hrb hcb e1 HB0 HN0
  generalize w1.alloc (.cells #[.slice none 0 0, .slice none 0 0] 34) = w2 at *
  have s0 := blk_cell HN1.out 0
  have s1 := blk_cell HN1.out 1
  have s2 := blk_cell HN1.out 2
  have s3 := blk_cell HN1.out 3
  simp only [List.getElem?_toArray, List.getElem?_cons_zero, List.getElem?_cons_succ] at s0 s1 s2 s3
  go_upto_region 2 with (go_at_call 23; refine (HOF.out _ HB1.out).mono ?_; rintro e w4 ⟨⟨p, r, rfl, hv, hpT, hps, hr⟩, hb⟩; (have HPT := Lib.hid hpT); (have HR4 := Lib.hid (blk_below hb (blk_lt HR1.out) HR1.out)); (have HV4 := Lib.hid (And.intro hv (And.intro hr (HB1.out.trans (hb.mono HB1.out.size))))); (unfold RVoc.val); clear hv hpT hps hr hb s0 s1 s2 s3 HR1 HN1)
  have hba := (Below.refl w4.heap.size w4).alloc (Nat.le_refl _) (.cells #[.slice r.A1 c.T.length r.c1, .slice r.A2 (mrgsT c.T).length r.c2, .slice r.A3 (someC c.cs).length r.c3, .slice r.A4 (someJ c.js).length r.c4, .slice r.A5 (someX c.xs (min c.xs.length 6)).length r.c5] 38)
  have HM5 := Lib.hid (blk_new w4 (.cells #[.slice r.A1 c.T.length r.c1, .slice r.A2 (mrgsT c.T).length r.c2, .slice r.A3 (someC c.cs).length r.c3, .slice r.A4 (someJ c.js).length r.c4, .slice r.A5 (someX c.xs (min c.xs.length 6)).length r.c5] 38))
  have HR5 := Lib.hid (blk_below hba (blk_lt HR4.out) HR4.out)
  have HV5 := Lib.hid (And.intro (HV4.out.1.below hba (Nat.le_refl _)) (And.intro (HV4.out.2.1.below hba (Nat.le_refl _)) (HV4.out.2.2.trans (hba.mono HV4.out.2.2.size))))
  obtain ⟨mb, hmb⟩ : ∃ b, w4.heap.size = b := ⟨_, rfl⟩
  rw [hmb] at HM5 ⊢
  clear hmb hba HV4 HR4 HOF
  generalize w4.alloc (.cells #[.slice r.A1 c.T.length r.c1, .slice r.A2 (mrgsT c.T).length r.c2, .slice r.A3 (someC c.cs).length r.c3, .slice r.A4 (someJ c.js).length r.c4, .slice r.A5 (someX c.xs (min c.xs.length 6)).length r.c5] 38) = w5 at *
  have HB15 := Lib.hid HB1.out.size
  have HTP : Hid (OkT p.T) := Lib.hid (by rw [HPT.out]; exact c.ok)
  go_upto_region 5 with (go_at_call 24; refine (count_newV HV5.out.1 HTP.out s HLEN.out).mono ?_; rintro e W6 ⟨⟨lb, rfl, hlo, hl⟩, hb⟩; (have HL := Lib.hid (And.intro hl (Nat.le_trans HV5.out.2.2.size hlo))); (have HRL : Hid (rb < lb) := Lib.hid (Nat.lt_of_lt_of_le (blk_lt HR5.out) hlo)); (have HM6 := Lib.hid (blk_below hb (blk_lt HM5.out) HM5.out)); (have HR6 := Lib.hid (blk_below hb (blk_lt HR5.out) HR5.out)); (have HV6 := Lib.hid (And.intro (HV5.out.1.below hb (Nat.le_refl _)) (And.intro (HV5.out.2.1.below hb (Nat.le_refl _)) (HV5.out.2.2.trans (hb.mono HV5.out.2.2.size))))); clear hlo hl hb HM5 HR5)
  have m0 := blk_cell HM6.out 0
  have m1 := blk_cell HM6.out 1
  simp only [List.getElem?_toArray, List.getElem?_cons_zero, List.getElem?_cons_succ] at m0 m1
  have r0 := blk_cell HR6.out 0
  have r1 := blk_cell HR6.out 1
  have z0 := blk_froz HR6.out 0
  have z1 := blk_froz HR6.out 1
  simp only [List.getElem?_toArray, List.getElem?_cons_zero, List.getElem?_cons_succ] at r0 r1
  have hh := And.intro m0 (And.intro m1 (And.intro r0 (And.intro r1 (And.intro z0 z1))))
  clear m0 m1 r0 r1 z0 z1
  refine wp_region_D (Ds := [4]) (S := fun V => V.cell? ⟨mb, 0, none⟩ = some (.slice r.A1 c.T.length r.c1) ∧ V.cell? ⟨mb, 1, none⟩ = some (.slice r.A2 (mrgsT c.T).length r.c2) ∧ V.cell? ⟨rb, 0, none⟩ = some (.slice none 0 0) ∧ V.cell? ⟨rb, 1, none⟩ = some (.slice none 0 0) ∧ V.frozen? ⟨rb, 0, none⟩ = false ∧ V.frozen? ⟨rb, 1, none⟩ = false) (by kernel_rfl) (by exact hh) (fun hHeld => ?_)
  clear hh; (replace HL := Lib.hid (And.intro HL.out.1.drew HL.out.2)); (replace HR6 : Hid (W6.drew.heap[rb]? = some (.cells #[.slice none 0 0, .slice none 0 0] 34)) := HR6); (replace HV6 := Lib.hid (And.intro (HV6.out.1.below (Below.refl _ _).drew (Nat.le_refl _)) (And.intro (HV6.out.2.1.below (Below.refl _ _).drew (Nat.le_refl _)) (HV6.out.2.2.drew)))); clear HM6; generalize W6.drew = W7 at *
  refine tkP 0 25 ?_ rfl (.inl ⟨by rfl, ?_⟩) ?_; rotate_left; focus (intro w' _; go_simp; (try with_reducible rfl))
  try simp only [sIB, sC0, sCS]
  refine tkP 1 26 ?_ rfl (.inl ⟨by rfl, ?_⟩) ?_; rotate_left; focus (intro w' _; go_simp; (try with_reducible rfl))
  try simp only [sIB, sC0, sCS]
  refine tkP 3 4 ?_ rfl (.inl ⟨by rfl, ?_⟩) ?_; rotate_left; focus (intro w' _; go_simp; (try with_reducible rfl))
  try simp only [sIB, sC0, sCS]
  refine tkD 2 27 ?_ rfl hHeld (.inl ⟨by rfl, ?_⟩) ?_; rotate_left; focus (intro w' hSw; (try dsimp only at hSw); go_simp; (try with_reducible rfl))
  try simp only [sIB, sC0, sCS]
  refine wpAnyD_last (D := 4) (by decide) (by kernel_rfl) rfl (by rfl) (fun K hK => ?_)
  obtain ⟨g1, g2, g3, g4, g5, g6⟩ := hHeld; go_simp
  refine hK.out _ _ ?_
  clear hK K
  try simp only [Act.put, sIB, sC0, sCS]
  refine wpAnyD_done (by kernel_rfl) ?_ _
  have HLT := Lib.hid (lat_table HL.out.1 HR6.out HV6.out.1 HR2S.out (Nat.le_of_lt HRB.out) HV6.out.2.2 HV6.out.2.1.ref)
  go_wp2_with fail
  refine ret_tmp_cell rfl rfl rfl (load_ref HLT.out.1) ?_
  exact ⟨⟨_, lb, p, r, rfl, HLT.out.2.1, HPT.out, HLT.out.2.2.1.less HB15.out, HL.out.2⟩, HLT.out.2.2.2⟩
end
theorem rnk_cons {T : List Ent} {s : List UInt8} {a : Int} {r : List Int} {X : Nat} (h : rnk T s (a :: r) = some X) : ∃ k x, skipN T s a (atA T s) = some k ∧ rnk T (s.drop (lenT T a)) r = some x ∧ X = k + x := by
  rw [rnk] at h
  obtain ⟨k, h1, h2⟩ := Option.bind_eq_some_iff.1 h
  obtain ⟨x, h3, h4⟩ := Option.map_eq_some_iff.1 h2
  exact ⟨k, x, h1, h3, h4.symm⟩
theorem div_rnk {T : List Ent} (hT : OkT T) {s : List UInt8} {n : Nat} {F : List Int} (h : (divA T s)[n]? = some F) : rnk T s F = some n := by
  have hlt : n < cntA T s := (List.getElem?_eq_some_iff.1 h).1
  have h1 := unrk_div hT s.length s n (Nat.le_refl _) hlt
  rw [h] at h1
  injection h1 with h1
  rw [h1]
  exact rnk_unrk hT s.length s n (Nat.le_refl _) hlt
theorem rnk_len {T : List Ent} (hT : OkT T) : ∀ (F : List Int) (s : List UInt8) (X : Nat), rnk T s F = some X → F.length ≤ s.length
  | [], s, X, _ => Nat.zero_le _
  | f :: F, s, X, h => by
    obtain ⟨ka, x, h1, h2, e1⟩ := rnk_cons h
    obtain ⟨_, h3, h4, _⟩ := atA_has hT (skip_get h1).1
    have := rnk_len hT F _ x h2
    rw [List.length_drop] at this
    simp only [List.length_cons]
    omega
structure LL (w W : World) (base lb : Nat) (p : VocP) (s : List UInt8) : Prop where
  lat : LatV W base lb p s
  ok : OkT p.T
  blw : Below w.heap.size w W
  lo : w.heap.size ≤ lb
section
variable {w W W' : World} {base lb : Nat} {p : VocP} {s : List UInt8}
theorem LL.asks (h : LL w W base lb p s) (ha : Ask W W' base lb p s) : LL w W' base lb p s := ⟨ha.lat, h.ok, h.blw.trans (ha.blw h.blw.size h.lo), h.lo⟩
theorem LL.below (h : LL w W base lb p s) (hb : Below W.heap.size W W') : LL w W' base lb p s := h.asks (Ask.of_below h.lat hb)
theorem LL.drew (h : LL w W base lb p s) : LL w W.drew base lb p s := h.below (Below.refl _ _).drew
end
section
variable {w w' W W' : World} {base lb k c : Nat} {p : VocP} {s : List UInt8} {A : Option Addr} {F : List Int}
theorem unrank_any {n : Nat} {E : Int} (h : LatV w base lb p s) (hT : OkT p.T) (hs : s.length ≤ 4000) (hn : NatIs w (.agg #[.slice A k c]) n) (hd : (dg B32 n).length ≤ 100000)
    (hE : E = 0 ∧ (divA p.T s)[n]? = some F ∨ E = 7 ∧ cntJ p.T s 0 ≤ n ∧ F = []) :
    Calls Tryz.prog 49 #[.pointer (some ⟨lb, 0, none⟩), .agg #[.slice A k c]] w fun e w' => (∃ A c, e = .returned (.tuple #[.slice A F.length c, .int .i64 E]) ∧ Sl1 w' A (Value.int .i64) F) ∧ Ask w w' base lb p s := by
  rcases hE with ⟨rfl, hF⟩ | ⟨rfl, hF, rfl⟩
  · refine (unrank_ok h hT hs hn hF).mono ?_
    rintro e w' ⟨⟨v, rfl, A, c, rfl, ho⟩, ha⟩
    exact ⟨⟨A, c, rfl, own_sl1 ho⟩, ha⟩
  · refine (unrank_no h hT hs hn hd hF).mono ?_
    rintro e w' ⟨rfl, ha⟩
    exact ⟨⟨none, 0, rfl, Sl1.nil _ _ _⟩, ha⟩
structure LX (w W : World) (base lb : Nat) (p : VocP) (s : List UInt8) (xb : Nat) (Ax : Option Addr) (kx cx X : Nat) (yb : Nat) (Ay : Option Addr) (ky cy Y : Nat) (Au : Option Addr) (F : List Int) (Aw : Option Addr) (G : List Int) : Prop where
  ll : LL w W base lb p s
  vx : Var W lb xb Ax kx cx X
  vy : Var W lb yb Ay ky cy Y
  u : Sl1 W Au (Value.int .i64) F
  v : Sl1 W Aw (Value.int .i64) G
variable {xb kx cx X yb ky cy Y : Nat} {Ax Ay Au Aw : Option Addr} {G : List Int}
theorem LX.asks (h : LX w W base lb p s xb Ax kx cx X yb Ay ky cy Y Au F Aw G) (ha : Ask W W' base lb p s) : LX w W' base lb p s xb Ax kx cx X yb Ay ky cy Y Au F Aw G :=
  ⟨h.ll.asks ha, h.vx.ask ha, h.vy.ask ha, sl_ask h.u h.ll.lat ha, sl_ask h.v h.ll.lat ha⟩
theorem LX.below (h : LX w W base lb p s xb Ax kx cx X yb Ay ky cy Y Au F Aw G) (hb : Below W.heap.size W W') : LX w W' base lb p s xb Ax kx cx X yb Ay ky cy Y Au F Aw G := h.asks (Ask.of_below h.ll.lat hb)
theorem LX.drew (h : LX w W base lb p s xb Ax kx cx X yb Ay ky cy Y Au F Aw G) : LX w W.drew base lb p s xb Ax kx cx X yb Ay ky cy Y Au F Aw G := h.below (Below.refl _ _).drew
theorem LX.cc (h : LX w W base lb p s xb Ax kx cx X yb Ay ky cy Y Au F Aw G) : W.cell? ⟨xb, 0, none⟩ = some (.slice Ax kx cx) ∧ W.cell? ⟨yb, 0, none⟩ = some (.slice Ay ky cy) := ⟨h.vx.c0, h.vy.c0⟩
end
theorem skip_zero {T : List Ent} (hT : OkT T) {s : List UInt8} {a : Int} {l : List Int} (h : skipN T s a l = some 0) : ∃ r, l = a :: r := by
  cases l with
  | nil => simp [skipN] at h
  | cons x l =>
    rw [skipN] at h
    by_cases hx : x = a
    · exact ⟨l, by rw [hx]⟩
    · rw [if_neg hx, Option.map_eq_some_iff] at h
      obtain ⟨k, _, h2⟩ := h
      have := cntA_pos hT _ (s.drop (lenT T x)) (Nat.le_refl _)
      omega
theorem rnk_zero {T : List Ent} (hT : OkT T) {s : List UInt8} {a : Int} {r : List Int} (h : rnk T s (a :: r) = some 0) : (∃ l, atA T s = a :: l) ∧ rnk T (s.drop (lenT T a)) r = some 0 := by
  obtain ⟨k, x, h1, h2, h3⟩ := rnk_cons h
  have hk : k = 0 := by omega
  have hx : x = 0 := by omega
  subst hk
  subst hx
  exact ⟨skip_zero hT h1, h2⟩
theorem skip_last {T : List Ent} {s : List UInt8} {b : Int} : ∀ {l : List Int}, b ∉ l → skipN T s b (l ++ [b]) = some (sumA T s l)
  | [], _ => by simp [skipN, sumA]
  | x :: l, h => by
    have hx : x ≠ b := fun e => h (by simp [e])
    rw [List.cons_append, skipN, if_neg hx, skip_last (fun e => h (by simp [e]))]
    simp [sumA_cons]
theorem byte_len {T : List Ent} (hT : OkT T) (x : UInt8) : lenT T (x.toNat : Int) = 1 := by
  unfold lenT
  have := (byte_has hT (i := x.toNat) (by have := x.toNat_lt; omega)).2
  rw [this]
  rfl
theorem rnk_last {T : List Ent} (hT : OkT T) : ∀ (s : List UInt8), rnk T s (byteI s) = some (cntA T s - 1)
  | [] => by simp [byteI, rnk, cntA_nil]
  | x :: s => by
    have hne : (x :: s) ≠ [] := by simp
    obtain ⟨l, hl⟩ := at_byte hT hne
    have hn := atA_nodup hT (x :: s)
    rw [hl] at hn
    simp only [List.head_cons] at hl hn
    have hb : (x.toNat : Int) ∉ l := fun e => by
      rw [List.nodup_append] at hn
      exact hn.2.2 _ e _ (by simp) rfl
    have h1 := cntA_rec hT hne
    rw [hl, sumA_app, sumA_one, byte_len hT, List.drop_succ_cons, List.drop_zero] at h1
    have h2 := cntA_pos hT _ s (Nat.le_refl _)
    show rnk T (x :: s) ((x.toNat : Int) :: byteI s) = _
    rw [rnk, hl, skip_last hb, byte_len hT, List.drop_succ_cons, List.drop_zero, rnk_last hT s]
    simp only [Option.bind_some, Option.map_some, Option.some.injEq]
    omega
theorem byteI_len (s : List UInt8) : (byteI s).length = s.length := by simp [byteI]
structure LE (w W : World) (base lb : Nat) (p : VocP) (s : List UInt8) (tb : Nat) (T : List Ent) (vb vm : Value) : Prop where
  ll : LL w W base lb p s
  tab : W.heap[tb]? = some (.cells #[vb, vm] 34)
  ref : ∃ b, RefIs W b T vb vm
  ne : lb < tb
section
variable {w w' W W' : World} {base lb tb : Nat} {p : VocP} {s : List UInt8} {T : List Ent} {vb vm : Value}
theorem LE.asks (h : LE w W base lb p s tb T vb vm) (ha : Ask W W' base lb p s) : LE w W' base lb p s tb T vb vm :=
  ⟨h.ll.asks ha, ha.keep.blk h.tab (fun e => by have := h.ne; omega), by obtain ⟨b, hr⟩ := h.ref; exact ⟨b, hr.ask h.ll.lat ha⟩, h.ne⟩
theorem LE.below (h : LE w W base lb p s tb T vb vm) (hb : Below W.heap.size W W') : LE w W' base lb p s tb T vb vm := h.asks (Ask.of_below h.ll.lat hb)
theorem LE.drew (h : LE w W base lb p s tb T vb vm) : LE w W.drew base lb p s tb T vb vm := h.below (Below.refl _ _).drew
theorem LE.made {b : Nat} (h : LL w W base lb p s) (hr : RefIs W b T vb vm) : LE w (W.alloc (.cells #[vb, vm] 34)) base lb p s W.heap.size T vb vm := by
  have hb := (Below.refl W.heap.size W).alloc (Nat.le_refl _) (.cells #[vb, vm] 34)
  exact ⟨h.below hb, blk_new _ _, ⟨b, hr.below hb (Nat.le_refl _)⟩, h.lat.lt_size⟩
theorem LE.c0 (h : LE w W base lb p s tb T vb vm) : W.cell? ⟨tb, 0, none⟩ = some vb := by have := blk_cell h.tab 0; simpa using this
theorem LE.c1 (h : LE w W base lb p s tb T vb vm) : W.cell? ⟨tb, 1, none⟩ = some vm := by have := blk_cell h.tab 1; simpa using this
end
theorem catT_byte {T : List Ent} (hT : OkT T) : ∀ s : List UInt8, catT T (byteI s) = s ∧ ∀ x ∈ byteI s, hasT T x = true
  | [] => ⟨rfl, by simp [byteI]⟩
  | x :: s => by
    obtain ⟨h1, h2⟩ := catT_byte hT s
    have h3 := byte_has hT (i := x.toNat) (by have := x.toNat_lt; omega)
    refine ⟨?_, fun y hy => ?_⟩
    · show bytesT T (x.toNat : Int) ++ catT T (byteI s) = _
      rw [h1, h3.2]
      simp
    · rcases List.mem_cons.1 hy with hy | hy
      · rw [hy]; exact h3.1
      · exact h2 y hy
theorem wpAnyH_more {P : Program} {md : Region.Mode} {ops : Array Oper} {Q : Exit → Act → World → Prop} {S : World → Prop} (S' : World → Prop) (hS : ∀ V, S' V → S V) :
    ∀ (fuel : Nat) (listed : Array Bool) (a : Act) (w : World), wpAnyH P md ops Q S' fuel listed a w → wpAnyH P md ops Q S fuel listed a w
  | 0, _, _, _, h => h
  | fuel + 1, _, _, _, h => ⟨h.1, fun i hi => wpOp_mono (fun a' w' h' => ⟨hS _ h'.1, wpAnyH_more S' hS fuel _ a' w' h'.2⟩) (h.2 i hi)⟩
section
variable {w : World} {c : CaseP} {AL AC AJ AX : Option Addr} {cL cC cJ cX : Nat}
set_option maxHeartbeats 8000000 in
theorem pends_small (h : CaseIn w c AL AC AJ AX cL cC cJ cX) (hg : c.great = false) (s : List UInt8) (hlen : s.length ≤ 300) :
    Calls Tryz.prog 11 #[c.val AL AC AJ AX cL cC cJ cX, .string (bs s)] w (RetTrue w) := by
  have HLEN := Lib.hid hlen
  have h12 : ¬ (300 : Int) < ((bs s).size : Int) := by rw [bs_size]; omega
  have HB0 := Lib.hid ((Below.refl w.heap.size w).alloc (Nat.le_refl _) (.cells #[.slice AL c.l.length cL, .slice AC c.cs.length cC, .slice AJ c.js.length cJ, .slice AX c.xs.length cX] 27))
  have HN0 := Lib.hid (blk_new w (.cells #[.slice AL c.l.length cL, .slice AC c.cs.length cC, .slice AJ c.js.length cJ, .slice AX c.xs.length cX] 27))
  have HGR : Hid (∀ V, Below w.heap.size w V → Calls Tryz.prog 16 #[.agg #[.slice AL c.l.length cL, .slice AC c.cs.length cC, .slice AJ c.js.length cJ, .slice AX c.xs.length cX]] V fun e w' => e = .returned (.int .i64 0) ∧ Below V.heap.size V w') := Lib.hid (fun V hV => great_no (h.below hV (Nat.le_refl _)) hg)
  have HLA := Lib.hid (fun V (hV : Below w.heap.size w V) => lat22_any (h.here.below hV (Nat.le_refl _)) (h.ok hg) s (by omega))
  unfold CaseP.val
  clear h hg
  go_enter Tryz.func11, Tryz.ntmps11
  go_upto_region 1 with fail
  obtain ⟨cb, hcb⟩ : ∃ b, w.heap.size = b := ⟨_, rfl⟩
  rw [hcb] at HN0 ⊢
  clear hcb
  generalize w.alloc (.cells #[.slice AL c.l.length cL, .slice AC c.cs.length cC, .slice AJ c.js.length cJ, .slice AX c.xs.length cX] 27) = w1 at *
  have s0 := blk_cell HN0.out 0
  have s1 := blk_cell HN0.out 1
  have s2 := blk_cell HN0.out 2
  have s3 := blk_cell HN0.out 3
  simp only [List.getElem?_toArray, List.getElem?_cons_zero, List.getElem?_cons_succ] at s0 s1 s2 s3
  go_upto_region 3 with (first
    | (go_at_call 16; refine (HGR.out _ HB0.out).mono ?_; rintro e w2 ⟨rfl, hb⟩; (have HB1 := Lib.hid (HB0.out.trans (hb.mono HB0.out.size))); (have HN1 := Lib.hid (blk_below hb (blk_lt HN0.out) HN0.out)); clear hb s0 s1 s2 s3)
    | (go_at_call 46; refine (awake22_any _).mono ?_; rintro e w3 ⟨rfl, hb⟩; (have HB2 := Lib.hid (HB1.out.trans (hb.mono HB1.out.size))); (have HN2 := Lib.hid (blk_below hb (blk_lt HN1.out) HN1.out)); clear hb))
  have s0 := blk_cell HN2.out 0
  have s1 := blk_cell HN2.out 1
  have s2 := blk_cell HN2.out 2
  have s3 := blk_cell HN2.out 3
  simp only [List.getElem?_toArray, List.getElem?_cons_zero, List.getElem?_cons_succ] at s0 s1 s2 s3
  go_upto_region 4 with (go_at_call 47; refine (HLA.out _ HB2.out).mono ?_; rintro e w4 ⟨⟨base, lb, p, r, rfl, hl, hpT, href, hlo⟩, hb⟩; (have HPT := Lib.hid hpT); (have HRF := Lib.hid href); (have HL : Hid (LL w w4 base lb p s) := Lib.hid ⟨hl, by rw [hpT]; exact c.ok, HB2.out.trans (hb.mono HB2.out.size), Nat.le_trans HB2.out.size hlo⟩); clear hl hpT href hlo hb s0 s1 s2 s3 HB0 HN0 HB1 HN1 HB2 HN2 HGR HLA)
  have HTB : Hid (LE w (w4.alloc (.cells #[.slice r.A1 c.T.length r.c1, .slice r.A2 (mrgsT c.T).length r.c2] 34)) base lb p s w4.heap.size c.T (.slice r.A1 c.T.length r.c1) (.slice r.A2 (mrgsT c.T).length r.c2)) := Lib.hid (LE.made HL.out HRF.out)
  obtain ⟨tb, htb⟩ : ∃ b, w4.heap.size = b := ⟨_, rfl⟩
  rw [htb] at HTB ⊢
  clear htb HL HRF
  generalize w4.alloc (.cells #[.slice r.A1 c.T.length r.c1, .slice r.A2 (mrgsT c.T).length r.c2] 34) = w5 at *
  obtain ⟨n1, hn1⟩ : ∃ n, c.T.length = n := ⟨_, rfl⟩
  obtain ⟨n2, hn2⟩ : ∃ n, (mrgsT c.T).length = n := ⟨_, rfl⟩
  rw [hn1, hn2] at HTB
  rw [hn1, hn2]
  clear hn1 hn2
  have HDZ : Hid ((bs s).size = s.length) := Lib.hid (bs_size s)
  have hpos : 0 < cntJ p.T s 0 := cntA_pos HTB.out.ll.ok _ _ (Nat.le_refl _)
  obtain ⟨F0, hF0⟩ : ∃ F0, (divA p.T s)[0]? = some F0 := ⟨_, List.getElem?_eq_getElem hpos⟩
  have HF := Lib.hid (div_rnk HTB.out.ll.ok hF0)
  have HCP := Lib.hid hpos
  have HUN := Lib.hid (unrank_any (E := 0) HTB.out.ll.lat HTB.out.ll.ok (by have := HLEN.out; omega) (NatIs.zero _) (by rw [dg_zero]; exact Nat.zero_le _) (.inl ⟨rfl, hF0⟩))
  clear hF0 hpos
  obtain ⟨NF, hNF⟩ : ∃ n, F0.length = n := ⟨_, rfl⟩
  have HNF := Lib.hid hNF
  rw [hNF] at HUN
  clear hNF
  go_upto_region 7 with (go_at_call 49; refine HUN.out.mono ?_; rintro e w6 ⟨⟨A0, c0, rfl, hu⟩, ha⟩; (replace HTB := Lib.hid (HTB.out.asks ha)); (have HU := Lib.hid hu); clear hu ha HUN)
  obtain ⟨Z, hZ⟩ : ∃ Z, bs s = Z := ⟨_, rfl⟩
  have HZ := Lib.hid hZ
  rw [hZ] at HDZ h12
  rw [hZ]
  clear hZ
  go_wp2_with fail
  go_loopg [9, 10] NF (fun n at_ i W => ∃ (k a : Nat), k + n = NF ∧ at_ = .int .i64 (a : Int) ∧ i = .int .i64 (k : Int) ∧ LE w W base lb p s tb c.T (.slice r.A1 n1 r.c1) (.slice r.A2 n2 r.c2) ∧ Sl1 W A0 (Value.int .i64) F0 ∧ rnk p.T (s.drop a) (F0.drop k) = some 0 ∧ a ≤ s.length)
  case atStart => exact ⟨0, 0, by omega, rfl, rfl, HTB.out, HU.out, by rw [List.drop_zero, List.drop_zero]; exact HF.out, Nat.zero_le _⟩
  case round =>
    obtain ⟨k, a, hk, rfl, rfl, hx, hu, hr, hal⟩ := hrel
    clear HTB HU
    rename World => W
    have HTB := Lib.hid hx
    have HU := Lib.hid hu
    have HR := Lib.hid hr
    have HK := Lib.hid (And.intro hk hal)
    clear hx hu hr hk hal
    by_cases hlt : k < NF
    · have f1 : (k : Int) < (NF : Int) := by omega
      have f0 : (0 : Int) ≤ (k : Int) := by omega
      obtain ⟨f, hf⟩ : ∃ f, F0[k]? = some f := ⟨_, List.getElem?_eq_getElem (by have := HNF.out; omega)⟩
      have HR2 := HR.out
      rw [drop_at hf] at HR2
      obtain ⟨⟨l, hl⟩, hr2⟩ := rnk_zero HTB.out.ll.ok HR2
      have hmem : f ∈ atA p.T (s.drop a) := by rw [hl]; simp
      obtain ⟨g1, g2, g3, _⟩ := atA_has HTB.out.ll.ok hmem
      rw [List.length_drop] at g3
      rw [List.drop_drop] at hr2
      have HAL : Hid (a < s.length) := Lib.hid (by omega)
      have wk : IntKind.i64.wrap ((k : Int) + 1) = (k : Int) + 1 := IntWalk.i64_in _ (by have := HNF.out; have := rnk_len HTB.out.ll.ok F0 s 0 HF.out; have := HLEN.out; omega)
      have q1 : ¬ (Z.size : Int) ≤ (a : Int) := by have := HDZ.out; omega
      obtain ⟨J, hJ⟩ : ∃ J, a + lenT p.T f = J := ⟨_, rfl⟩
      obtain ⟨sz, hsz⟩ : ∃ z, lenT p.T f = z := ⟨_, rfl⟩
      have HSZ : Hid (∀ V, LatV V base lb p s → Calls Tryz.prog 31 #[.pointer (some ⟨lb, 0, none⟩), .int .i64 f] V fun e w' => e = .returned (.int .i64 (sz : Nat)) ∧ w' = V) := Lib.hid (fun V hV => by rw [← hsz]; exact hV.size f)
      have HJ : Hid (J ≤ s.length) := Lib.hid (by omega)
      have wks : IntKind.i64.wrap ((a : Int) + (sz : Int)) = (J : Int) := by rw [show (a : Int) + (sz : Int) = (J : Int) by omega]; exact IntWalk.i64_in _ (by have := HJ.out; have := HLEN.out; omega)
      have HRN : Hid (rnk p.T (s.drop J) (F0.drop (k + 1)) = some 0) := Lib.hid (by rw [← hJ]; exact hr2)
      have HAP : Hid (atP p.T s a = f :: l) := Lib.hid hl
      have HAT := Lib.hid (fun V (hV : LatV V base lb p s) => hV.ats a HAL.out (by have := HLEN.out; omega))
      obtain ⟨bu, ou, hAu, e1⟩ := HU.out k f hf
      have HFK := Lib.hid hf
      clear hJ hsz HR2 hl hmem g1 g2 g3 hr2 hf
      subst hAu
      go_upto_region 11 with fail
      obtain ⟨N, hN⟩ : ∃ N, l.length + 1 = N := ⟨_, rfl⟩
      have HN := Lib.hid hN
      have hN0 : 0 < N := by omega
      clear hN
      refine wp_region_held_drew (S := fun V => V.cell? ⟨bu, ou + k, none⟩ = some (.int .i64 f)) (by kernel_rfl) (by exact e1) (fun hHeld => ?_)
      refine tkH 0 51 ?_ rfl hHeld (.inl ⟨by rfl, ?_⟩) ?_; rotate_left; focus (intro w' hSw; (try dsimp only at hSw); go_simp; (try with_reducible rfl))
      try simp only [sIB, sC0, sCS]
      refine tkH 1 52 ?_ rfl hHeld (.inl ⟨by rfl, ?_⟩) ?_; rotate_left; focus (intro w' hSw; (try dsimp only at hSw); go_simp; (try with_reducible rfl))
      try simp only [sIB, sC0, sCS]
      refine tkH 2 53 ?_ rfl hHeld (.inl ⟨by rfl, ?_⟩) ?_; rotate_left; focus (intro w' hSw; (try dsimp only at hSw); go_simp; (try with_reducible rfl))
      try simp only [sIB, sC0, sCS]
      refine tkH 3 54 ?_ rfl hHeld (.inl ⟨by rfl, ?_⟩) ?_; rotate_left; focus (intro w' hSw; (try dsimp only at hSw); go_simp; (try with_reducible rfl))
      try simp only [sIB, sC0, sCS]
      refine tkH 4 55 ?_ rfl hHeld (.inl ⟨by rfl, ?_⟩) ?_; rotate_left; focus (intro w' hSw; (try dsimp only at hSw); go_simp; (try with_reducible rfl))
      try simp only [sIB, sC0, sCS]
      refine tkH 5 56 ?_ rfl hHeld (.inl ⟨by rfl, ?_⟩) ?_; rotate_left; focus (intro w' hSw; (try dsimp only at hSw); go_simp; (try with_reducible rfl))
      try simp only [sIB, sC0, sCS]
      refine tkH 6 57 ?_ rfl hHeld (.inl ⟨by rfl, ?_⟩) ?_; rotate_left; focus (intro w' hSw; (try dsimp only at hSw); go_simp; (try with_reducible rfl))
      try simp only [sIB, sC0, sCS]
      refine tkH 10 61 ?_ rfl hHeld (.inl ⟨by rfl, ?_⟩) ?_; rotate_left; focus (intro w' hSw; (try dsimp only at hSw); go_simp; (try with_reducible rfl))
      try simp only [sIB, sC0, sCS]
      refine tkH 11 62 ?_ rfl hHeld (.inl ⟨by rfl, ?_⟩) ?_; rotate_left; focus (intro w' hSw; (try dsimp only at hSw); go_simp; (try with_reducible rfl))
      try simp only [sIB, sC0, sCS]
      refine tkH 12 63 ?_ rfl hHeld (.inl ⟨by rfl, ?_⟩) ?_; rotate_left; focus (intro w' hSw; (try dsimp only at hSw); go_simp; (try with_reducible rfl))
      try simp only [sIB, sC0, sCS]
      refine tkH 13 64 ?_ rfl hHeld (.inl ⟨by rfl, ?_⟩) ?_; rotate_left; focus (intro w' hSw; (try dsimp only at hSw); go_simp; (try with_reducible rfl))
      try simp only [sIB, sC0, sCS]
      refine wpAnyH_ready (rs := [7]) (by kernel_rfl) (by simp) ?_
      refine AllReadyH.cons rfl (fun K hK => ?_) AllReadyH.nil
      (try go_simp)
      go_simp; refine (HAT.out _ HTB.out.drew.ll.lat).mono ?_; rintro e W6 ⟨⟨v, rfl, A2, c2, rfl, hown⟩, hb⟩; rw [HAP.out] at hown ⊢; simp only [List.length_cons] at hown ⊢; rw [HN.out] at hown ⊢; obtain ⟨b2, o2, hA2, e2⟩ := own_sl1 hown 0 f rfl; subst hA2; rw [Nat.add_zero] at e2; (replace HTB := Lib.hid (HTB.out.drew.below hb)); (replace HU := Lib.hid (HU.out.below ((Below.refl _ _).drew.trans hb) (Nat.le_refl _))); have h := below_cell hb (Nat.le_refl _) hHeld; clear hown hb; go_simp
      go_wp2_with fail
      refine hK.out _ _ h (fun hHeld => ?_)
      clear hK K
      try simp only [Act.put, sIB, sC0, sCS]
      refine wpAnyH_more (fun V => V.cell? ⟨bu, ou + k, none⟩ = some (.int .i64 f) ∧ V.cell? ⟨b2, o2, none⟩ = some (.int .i64 f)) (fun V h => h.1) _ _ _ _ ?_; replace hHeld := And.intro hHeld e2; clear e2
      refine tkH 8 59 ?_ rfl hHeld (.inl ⟨by rfl, ?_⟩) ?_; rotate_left; focus (intro w' hSw; (try dsimp only at hSw); go_simp; (try with_reducible rfl))
      try simp only [sIB, sC0, sCS]
      refine tkH 9 60 ?_ rfl hHeld (.inl ⟨by rfl, ?_⟩) ?_; rotate_left; focus (intro w' hSw; (try dsimp only at hSw); go_simp; (try with_reducible rfl))
      try simp only [sIB, sC0, sCS]
      refine tkH 14 65 ?_ rfl hHeld (.inl ⟨by rfl, ?_⟩) ?_; rotate_left; focus (intro w' hSw; (try dsimp only at hSw); go_simp; (try with_reducible rfl))
      try simp only [sIB, sC0, sCS]
      refine tkH 15 66 ?_ rfl hHeld (.inl ⟨by rfl, ?_⟩) ?_; rotate_left; focus (intro w' hSw; (try dsimp only at hSw); go_simp; (try with_reducible rfl))
      try simp only [sIB, sC0, sCS]
      refine wpAnyH_done (by kernel_rfl) ?_ _
      clear e1 h hHeld
      have hcf : W6.cell? ⟨bu, ou + k, none⟩ = some (.int .i64 f) := by
        obtain ⟨b', o', e0, e9⟩ := HU.out k f HFK.out
        cases e0
        exact e9
      go_wp2_with (go_at_call 31; refine (HSZ.out _ HTB.out.ll.lat).mono ?_; rintro e W7 ⟨rfl, hw⟩; rw [hw]; clear hw W7)
      go_roundg (gk - 1)
      case measure => have := HK.out; omega
      case rel => exact ⟨k + 1, J, by have := HK.out; omega, rfl, by simp, HTB.out, HU.out, HRN.out, HJ.out⟩
    · have f1 : ¬ (k : Int) < (NF : Int) := by omega
      have hae : a = s.length := by
        have h9 := HR.out
        rw [List.drop_eq_nil_iff.2 (show F0.length ≤ k by have := HNF.out; have := HK.out; omega), rnk] at h9
        by_cases hd : s.drop a = []
        · have := List.drop_eq_nil_iff.1 hd; have := HK.out; omega
        · rw [if_neg hd] at h9; cases h9
      have haz : a = Z.size := by rw [hae, HDZ.out]
      subst haz
      clear hae hlt HR
      have HLS : Hid (Calls Tryz.prog 50 #[.pointer (some ⟨lb, 0, none⟩)] W fun e w' => (∃ A c, e = .returned (.slice A Z.size c) ∧ Sl1 w' A (Value.int .i64) (byteI s)) ∧ Ask W w' base lb p s) := Lib.hid (by
        refine (last_any HTB.out.ll.lat HTB.out.ll.ok (by have := HLEN.out; omega)).mono ?_
        rintro e w' ⟨⟨v, rfl, A, c, rfl, ho⟩, ha⟩
        exact ⟨⟨A, c, by rw [byteI_len, HDZ.out], own_sl1 ho⟩, ha⟩)
      have HRK : Hid (∀ V (A : Option Addr) (c' : Nat), LatV V base lb p s → Sl1 V A (Value.int .i64) (byteI s) → Calls Tryz.prog 44 #[.pointer (some ⟨lb, 0, none⟩), .slice A Z.size c'] V fun e w' => (∃ A k c, e = .returned (.tuple #[.agg #[.slice A k c], .int .i64 0]) ∧ NatIs w' (.agg #[.slice A k c]) (cntJ p.T s 0 - 1)) ∧ Ask V w' base lb p s) := Lib.hid (fun V A c' hV hs => by
        have h1 := rnk_last HTB.out.ll.ok s
        have h2 := rank_any (E := 0) (K := cntJ p.T s 0 - 1) (c2 := c') hV HTB.out.ll.ok (by have := HLEN.out; omega) hs (by rw [byteI_len]; have := HLEN.out; omega) (by rw [h1]; rfl) (fun _ => rfl) (fun e => by rw [h1] at e; cases e)
        rw [byteI_len, ← HDZ.out] at h2
        exact h2)
      have HBT : Hid (∀ V (A : Option Addr) (c' : Nat), LE w V base lb p s tb c.T (.slice r.A1 n1 r.c1) (.slice r.A2 n2 r.c2) → Sl1 V A (Value.int .i64) (byteI s) → Calls Tryz.prog 51 #[.agg #[.slice r.A1 n1 r.c1, .slice r.A2 n2 r.c2], .slice A Z.size c'] V fun e w' => e = .returned (.tuple #[.string Z, .bool true]) ∧ Below V.heap.size V w') := Lib.hid (fun V A c' hV hs => by
        obtain ⟨b, hr⟩ := hV.ref
        obtain ⟨h1, h2⟩ := catT_byte c.ok s
        have h3 := rbytes_any hr c.ok (byteI s) A c' hs (by rw [byteI_len]; have := HLEN.out; omega) h2
        rw [h1, byteI_len, ← HDZ.out, HZ.out] at h3
        exact h3)
      have HC : Hid (∀ V, LatV V base lb p s → Calls Tryz.prog 25 #[.pointer (some ⟨lb, 0, none⟩)] V fun e w' => ∃ A k c, e = .returned (.agg #[.slice A k c]) ∧ NatIs w' (.agg #[.slice A k c]) (cntJ p.T s 0) ∧ Ask V w' base lb p s) := Lib.hid (fun V hV => hV.count HTB.out.ll.ok (by have := HLEN.out; omega))
      have HI1 : Hid (∀ V, Calls Tryz.prog 53 #[.int .u64 1] V fun e w' => ∃ v, e = .returned v ∧ NatIs w' v 1 ∧ Below V.heap.size V w') := Lib.hid (fun V => int_any 1 V (by decide))
      have HD : Hid ((dg B32 (cntJ p.T s 0)).length ≤ 100000 ∧ (dg B32 1).length ≤ 100000 ∧ (dg B32 (cntJ p.T s 0 - 1)).length ≤ 100000) := Lib.hid (by
        have h1 := cntJ_dg HTB.out.ll.ok s 0
        have h2 := HLEN.out
        exact ⟨by omega, Nat.le_trans (dg_len_le (k := 2) (by decide) (by decide)) (by decide), Nat.le_trans (dg_len_mono (by decide) (Nat.sub_le _ 1)) (by omega)⟩)
      obtain ⟨ct, hct⟩ : ∃ z, cntJ p.T s 0 = z := ⟨_, rfl⟩
      rw [hct] at HRK HC HD HCP
      obtain ⟨ct1, hct1⟩ : ∃ z, ct - 1 = z := ⟨_, rfl⟩
      have HCT := Lib.hid hct1
      rw [hct1] at HRK HD
      have HCM : Hid (cmpN ct1 ct1 = 0) := Lib.hid (by unfold cmpN; rw [if_neg (Nat.lt_irrefl _), if_neg (Nat.lt_irrefl _)])
      have HDE : Hid (decide (1 ≤ ct) = true) := Lib.hid (decide_eq_true HCP.out)
      clear hct hct1
      go_upto_region 15 with (go_at_call 50; refine HLS.out.mono ?_; rintro e w7 ⟨⟨A7, c7, rfl, hu⟩, ha⟩; (replace HTB := Lib.hid (HTB.out.asks ha)); (have HV := Lib.hid hu); clear hu ha)
      go_upto_region 16 with (go_at_call 44; refine (HRK.out _ _ _ HTB.out.ll.lat HV.out).mono ?_; rintro e w8 ⟨⟨A8, k8, c8, rfl, hn⟩, ha⟩; (replace HV := Lib.hid (sl_ask HV.out HTB.out.ll.lat ha)); (replace HTB := Lib.hid (HTB.out.asks ha)); (have HN8 := Lib.hid (Var.made HTB.out.ll.lat hn)); (replace HV := Lib.hid (HV.out.below ((Below.refl w8.heap.size w8).alloc (Nat.le_refl _) (.cells #[.slice A8 k8 c8] 59)) (Nat.le_refl _))); (replace HTB := Lib.hid (HTB.out.below ((Below.refl w8.heap.size w8).alloc (Nat.le_refl _) (.cells #[.slice A8 k8 c8] 59)))); clear hn ha)
      obtain ⟨nb, hnb⟩ : ∃ b, w8.heap.size = b := ⟨_, rfl⟩
      rw [hnb] at HN8 ⊢
      clear hnb
      generalize w8.alloc (.cells #[.slice A8 k8 c8] 59) = w9 at *
      have t0 := HTB.out.c0
      have t1 := HTB.out.c1
      go_upto_region 17 with (go_at_call 51; refine (HBT.out _ _ _ HTB.out HV.out).mono ?_; rintro e w10 ⟨rfl, hb⟩; (replace HN8 := Lib.hid (HN8.out.below hb)); (replace HTB := Lib.hid (HTB.out.below hb)); clear hb)
      clear t0 t1 HV HBT HRK HLS
      go_upto_region 18 with (first
        | (go_at_call 25; refine (HC.out _ HTB.out.ll.lat).mono ?_; rintro e w11 ⟨A11, k11, c11, rfl, hn, ha⟩; (replace HN8 := Lib.hid (HN8.out.ask ha)); (replace HTB := Lib.hid (HTB.out.asks ha)); (have HN11 := Lib.hid hn); clear hn ha)
        | (go_at_call 53; refine (HI1.out _).mono ?_; rintro e w12 ⟨v, rfl, hn, hb⟩; (obtain ⟨A12, k12, c12, hv12⟩ := nat_agg hn); subst hv12; (replace HN8 := Lib.hid (HN8.out.below hb)); (replace HN11 := Lib.hid (HN11.out.below hb (Nat.le_refl _))); (replace HTB := Lib.hid (HTB.out.below hb)); (have HN12 := Lib.hid hn); clear hn hb)
        | (go_at_call 52; refine (sub_any _ _ ct 1 _ HN11.out HN12.out HD.out.1 HD.out.2.1).mono ?_; rintro e w13 ⟨v, rfl, hn, hb⟩; rw [HDE.out]; rw [HCT.out] at hn; (obtain ⟨A13, k13, c13, hv13⟩ := nat_agg hn); subst hv13; (replace HN8 := Lib.hid (HN8.out.below hb)); (replace HTB := Lib.hid (HTB.out.below hb)); (have HN13 := Lib.hid (Var.made HTB.out.ll.lat hn)); (replace HN8 := Lib.hid (HN8.out.below ((Below.refl w13.heap.size w13).alloc (Nat.le_refl _) (.cells #[.slice A13 k13 c13] 59)))); (replace HTB := Lib.hid (HTB.out.below ((Below.refl w13.heap.size w13).alloc (Nat.le_refl _) (.cells #[.slice A13 k13 c13] 59)))); clear hn hb))
      obtain ⟨lbk, hlbk⟩ : ∃ b, w13.heap.size = b := ⟨_, rfl⟩
      rw [hlbk] at HN13 ⊢
      clear hlbk HN11 HN12
      generalize w13.alloc (.cells #[.slice A13 k13 c13] 59) = w14 at *
      have x0 := HN8.out.c0
      have x1 := HN13.out.c0
      go_wp2_with (go_at_call 35; refine (compare_any _ _ ct1 ct1 _ HN8.out.nat HN13.out.nat HD.out.2.2 HD.out.2.2).mono ?_; rintro e w15 ⟨rfl, hb⟩; rw [HCM.out]; (replace HTB := Lib.hid (HTB.out.below hb)); clear hb)
      go_ret
      exact ⟨rfl, HTB.out.ll.blw⟩
theorem pends_big (h : CaseIn w c AL AC AJ AX cL cC cJ cX) (z : ByteArray) (hg : c.great = true ∨ c.great = false ∧ (300 < z.size)) :
    Calls Tryz.prog 11 #[c.val AL AC AJ AX cL cC cJ cX, .string z] w (RetTrue w) := by
  have HB0 := Lib.hid ((Below.refl w.heap.size w).alloc (Nat.le_refl _) (.cells #[.slice AL c.l.length cL, .slice AC c.cs.length cC, .slice AJ c.js.length cJ, .slice AX c.xs.length cX] 27))
  have HN0 := Lib.hid (blk_new w (.cells #[.slice AL c.l.length cL, .slice AC c.cs.length cC, .slice AJ c.js.length cJ, .slice AX c.xs.length cX] 27))
  have HGN : Hid (∀ V, Below w.heap.size w V → c.great = false → Calls Tryz.prog 16 #[.agg #[.slice AL c.l.length cL, .slice AC c.cs.length cC, .slice AJ c.js.length cJ, .slice AX c.xs.length cX]] V fun e w' => e = .returned (.int .i64 0) ∧ Below V.heap.size V w') := Lib.hid (fun V hV => great_no (h.below hV (Nat.le_refl _)))
  have HGY : Hid (∀ V, Below w.heap.size w V → c.great = true → Calls Tryz.prog 16 #[.agg #[.slice AL c.l.length cL, .slice AC c.cs.length cC, .slice AJ c.js.length cJ, .slice AX c.xs.length cX]] V fun e w' => e = .returned (.int .i64 1) ∧ Below V.heap.size V w') := Lib.hid (fun V hV => great_yes (h.below hV (Nat.le_refl _)))
  unfold CaseP.val
  clear h
  go_enter Tryz.func11, Tryz.ntmps11
  go_upto_region 1 with fail
  obtain ⟨cb, hcb⟩ : ∃ b, w.heap.size = b := ⟨_, rfl⟩
  rw [hcb] at HN0 ⊢
  clear hcb
  generalize w.alloc (.cells #[.slice AL c.l.length cL, .slice AC c.cs.length cC, .slice AJ c.js.length cJ, .slice AX c.xs.length cX] 27) = w1 at *
  have s0 := blk_cell HN0.out 0
  have s1 := blk_cell HN0.out 1
  have s2 := blk_cell HN0.out 2
  have s3 := blk_cell HN0.out 3
  simp only [List.getElem?_toArray, List.getElem?_cons_zero, List.getElem?_cons_succ] at s0 s1 s2 s3
  rcases hg with hg | ⟨hg, hn⟩
  · have HG := Lib.hid (HGY.out _ HB0.out hg)
    clear hg HGN HGY
    go_wp2_with (first
      | (go_at_call 16; refine HG.out.mono ?_; rintro e w2 ⟨rfl, hb⟩; (have HB1 := Lib.hid (HB0.out.trans (hb.mono HB0.out.size))); clear hb s0 s1 s2 s3)
      | (go_at_call 46; refine (awake22_any _).mono ?_; rintro e w3 ⟨rfl, hb⟩; (have HB2 := Lib.hid (HB1.out.trans (hb.mono HB1.out.size))); clear hb))
    go_ret
    exact ⟨rfl, HB2.out⟩
  · have HG := Lib.hid (HGN.out _ HB0.out hg)
    clear hg HGN HGY
    have hp0 : (300 : Int) < (z.size : Int) := by omega
    clear hn
    go_wp2_with (first
      | (go_at_call 16; refine HG.out.mono ?_; rintro e w2 ⟨rfl, hb⟩; (have HB1 := Lib.hid (HB0.out.trans (hb.mono HB0.out.size))); clear hb s0 s1 s2 s3)
      | (go_at_call 46; refine (awake22_any _).mono ?_; rintro e w3 ⟨rfl, hb⟩; (have HB2 := Lib.hid (HB1.out.trans (hb.mono HB1.out.size))); clear hb))
    go_ret
    exact ⟨rfl, HB2.out⟩
theorem pends_law {P : Prop} (x0 : List Int) (A0 : Option Addr) (c0 : Nat) (x1 : List (List Int)) (A1 : Option Addr) (c1 : Nat) (x2 : List (List Int)) (A2 : Option Addr) (c2 : Nat) (x3 : List (Int × List UInt8)) (A3 : Option Addr) (c3 : Nat) (z : ByteArray) (w : World)
    (l0 : x0.length ≤ c0) (m0 : c0 ≤ maxLen) (w0 : ∀ y ∈ x0, (Lit.int .u16 y).wf = true) (s0 : Sl1 w A0 (Value.int .u16) x0)
    (l1 : x1.length ≤ c1) (m1 : c1 ≤ maxLen) (w1 : ∀ y ∈ x1, y.length = 3 ∧ ∀ z ∈ y, (Lit.int .i64 z).wf = true) (s1 : Sl w A1 (encInts .i64) 3 x1)
    (l2 : x2.length ≤ c2) (m2 : c2 ≤ maxLen) (w2 : ∀ y ∈ x2, y.length = 2 ∧ ∀ z ∈ y, (Lit.int .i64 z).wf = true) (s2 : Sl w A2 (encInts .i64) 2 x2)
    (l3 : x3.length ≤ c3) (m3 : c3 ≤ maxLen) (w3 : ∀ y ∈ x3, (Lit.int .i64 y.1).wf = true ∧ y.2.length ≤ maxLen) (s3 : Sl w A3 encIS 2 x3)
    (_ : P) :
    Calls Tryz.prog 11 #[.agg #[.slice A0 x0.length c0, .slice A1 x1.length c1, .slice A2 x2.length c2, .slice A3 x3.length c3], .string z] w (RetTrue w) := by
  obtain ⟨c, hc, e⟩ := case_in l0 m0 w0 s0 l1 m1 w1 s1 l2 m2 w2 s2 l3 m3 w3 s3
  rw [e]
  cases hg : c.great with
  | true => exact pends_big hc z (.inl hg)
  | false =>
    by_cases hn : z.size ≤ 300
    · have h2 := pends_small hc hg z.data.toList (by rw [← bs_size, bs_data]; exact hn)
      rw [bs_data] at h2
      exact h2
    · exact pends_big hc z (.inr ⟨hg, by omega⟩)
end
end Go.Proofs.YtkkcekgbnloegaaGreat
