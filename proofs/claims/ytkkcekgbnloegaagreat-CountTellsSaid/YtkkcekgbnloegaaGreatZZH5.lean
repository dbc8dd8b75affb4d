/- Texts of several layers, one behind the other: Ask0, Place0, AppU, Ask1, Place2, Place3, Place4, Place6, Place5, PlaceB0, CountC, RCnt0, Rows0, RCnt1, NatE, NatF, NatG, NatI, NatJ, RDec0, CountT0, CountLawT, CountLawU. -/
import Derived.Test.YtkkcekgbnloegaaGreatZZH4
import Derived.WalkKit
import Derived.KernelRfl
import Derived.Lib.Hide
import Derived.Deep.QuietTactic
import Derived.BigQuiet
import Derived.OwnWalk
import Derived.Lib.Strings
import Derived.Deep.DeepCutAuto
import Derived.Deep.RegionHeld3
import Derived.StillTailTactics
import Derived.Maps.OwnSet
import Derived.Maps.OwnOps
import Derived.DeepKeys4
import Derived.WideKeyEntry
import Derived.Maps.AppendAt
import Derived.Test.YtkkcekgbnloegaaGreatProg
import Derived.Laws.ResultCell
import Derived.Laws.AppendOwnNone
import Derived.Laws.IdiomStrings
import Derived.Lib.AppendStr
import Derived.Deep.Slices
import Derived.Deep.Fields
import Derived.ChangeSame
import Derived.SliceStrings
import Derived.OpenShut
import Derived.Laws.LoneSync
import Derived.Laws.OwnMore
import Derived.Laws.MakeOwn
import Derived.Laws.Bits64b
import Derived.Laws.BitsAllLaws
import Derived.Tactics
import Derived.Tactics2
import Derived.Defers
import Derived.Laws.Pointers
import Derived.RegionTactic
import Derived.RegionCalls
import Derived.ChangeAlike
import Derived.Test.YtkkcekgbnloegaaGreatRows
import Derived.ProofKit
import Derived.ShutString
import Derived.ChangeOld
import Derived.Below
import Derived.Lib.SmallJoins
set_option maxRecDepth 100000
set_option linter.unusedVariables false
set_option linter.unusedSimpArgs false
namespace Go.Proofs.YtkkcekgbnloegaaGreat
open Go.RowKit Go.Maps Go.WideMaps
structure Ask (w W : World) (base lb : Nat) (p : VocP) (s : List UInt8) : Prop where
  lat : LatV W base lb p s
  keep : Keep (fun x => x = lb) w W
  row : RowN w W lb
  nat : ∀ v m, NatIs w v m → NatIs W v m
def RowOff (W : World) (lb b : Nat) : Prop := ∀ g a c, W.cell? ⟨lb, 7, none⟩ = some (.slice (some ⟨g, 0, none⟩) a c) → g ≠ b
section
variable {w w' W W' : World} {base lb b b2 : Nat} {p : VocP} {s : List UInt8} {A A' : Option Addr} {k c m k' c' m' : Nat}
theorem Ask.refl (h : LatV w base lb p s) : Ask w w base lb p s := ⟨h, Keep.refl _ _, ⟨fun g a c hg => .inr hg, rfl⟩, fun v m h => h⟩
theorem Ask.trans (h1 : Ask w W base lb p s) (h2 : Ask W W' base lb p s) : Ask w W' base lb p s :=
  ⟨h2.lat, h1.keep.trans h2.keep (fun x hx => .inl hx), ⟨fun g a c hg => by
    rcases h2.row.1 g a c hg with h9 | h9
    · exact .inl (Nat.le_trans h1.keep.size h9)
    · exact h1.row.1 g a c h9, h2.row.2.trans h1.row.2⟩, fun v m hn => h2.nat v m (h1.nat v m hn)⟩
theorem Ask.of_below (h : LatV w base lb p s) (hb : Below w.heap.size w W) : Ask w W base lb p s :=
  ⟨h.below hb, Keep.of_below hb, ⟨fun g a c hg => .inr ((below_cell7 hb h.lt_size).symm.trans hg), below_cell3 hb h.lt_size⟩, fun v m hn => hn.below hb (Nat.le_refl _)⟩
theorem Ask.below (h : Ask w W base lb p s) (hb : Below W.heap.size W W') : Ask w W' base lb p s := h.trans (Ask.of_below h.lat hb)
theorem Ask.drew (h : Ask w W base lb p s) : Ask w W.drew base lb p s := h.below (Below.refl _ _).drew
theorem Ask.alloc (h : Ask w W base lb p s) (o : Obj) : Ask w (W.alloc o) base lb p s := h.below ((Below.refl _ _).alloc (Nat.le_refl _) o)
theorem Ask.blw (h : Ask w W base lb p s) {B : Nat} (hB : B ≤ w.heap.size) (hl : B ≤ lb) : Below B w W := h.keep.below hB (fun x hx => by subst hx; exact hl)
structure Var (W : World) (lb b : Nat) (A : Option Addr) (k c m : Nat) : Prop where
  blk : W.heap[b]? = some (.cells #[.slice A k c] 59)
  nat : NatIs W (.agg #[.slice A k c]) m
  off : RowOff W lb b
  lo : lb < b
theorem Var.lt (h : Var W lb b A k c m) : b < W.heap.size := blk_lt h.blk
theorem Var.c0 (h : Var W lb b A k c m) : W.cell? ⟨b, 0, none⟩ = some (.slice A k c) := by have := blk_cell h.blk 0; simpa using this
theorem Var.z0 (h : Var W lb b A k c m) : W.frozen? ⟨b, 0, none⟩ = false := blk_froz h.blk 0
theorem Var.ask (h : Var W lb b A k c m) (ha : Ask W W' base lb p s) : Var W' lb b A k c m :=
  ⟨ha.keep.blk h.blk (fun e => by have := h.lo; omega), ha.nat _ _ h.nat, fun g a c hg => by
    rcases ha.row.1 g a c hg with h9 | h9
    · have := h.lt; omega
    · exact h.off g a c h9, h.lo⟩
theorem Var.below (h : Var W lb b A k c m) (hb : Below W.heap.size W W') : Var W' lb b A k c m :=
  ⟨blk_below hb h.lt h.blk, h.nat.below hb (Nat.le_refl _), fun g a c hg => h.off g a c ((below_cell7 hb (Nat.lt_trans h.lo h.lt)).symm.trans hg), h.lo⟩
theorem Var.drew (h : Var W lb b A k c m) : Var W.drew lb b A k c m := h.below (Below.refl _ _).drew
theorem Var.put (h : Var W lb b A k c m) (hn : NatIs W (.agg #[.slice A' k' c']) m') : Var (W.setCell ⟨b, 0, none⟩ (.slice A' k' c')) lb b A' k' c' m' := by
  have hlo := h.lo
  refine ⟨?_, hn.cellK h.c0 (fun x => by simp) _, fun g a c hg => h.off g a c ?_, hlo⟩
  · have := blk_set h.blk 0 (.slice A' k' c')
    simpa using this
  · rw [World.cell?_setCell_far W ⟨b, 0, none⟩ ⟨lb, 7, none⟩ _ (show b ≠ lb by omega)] at hg
    exact hg
theorem Var.far (h : Var W lb b A k c m) {i : Nat} {y : Value} (hc : W.cell? ⟨b2, i, none⟩ = some y) (hy : ∀ x, y ≠ .int .u32 x) (hne : b ≠ b2) (hlt : lb < b2) (u : Value) : Var (W.setCell ⟨b2, i, none⟩ u) lb b A k c m :=
  ⟨blk_far h.blk hne u, h.nat.cellK hc hy u, fun g a c hg => h.off g a c (by
    rw [World.cell?_setCell_far W ⟨b2, i, none⟩ ⟨lb, 7, none⟩ _ (show b2 ≠ lb by omega)] at hg
    exact hg), h.lo⟩
theorem Var.made (h : LatV W base lb p s) (hn : NatIs W (.agg #[.slice A k c]) m) : Var (W.alloc (.cells #[.slice A k c] 59)) lb W.heap.size A k c m := by
  have hb := (Below.refl W.heap.size W).alloc (Nat.le_refl _) (.cells #[.slice A k c] 59)
  exact ⟨blk_new _ _, hn.below hb (Nat.le_refl _), fun g a c hg => by
    have := h.row_lt ((below_cell7 hb h.lt_size).symm.trans hg)
    omega, h.lt_size⟩
theorem LatV.farV (h : LatV W base lb p s) {cs : Array Value} {t : TypeId} {fz : Nat × Nat} (hb : W.heap[b]? = some (.cells cs t fz)) (h1 : t ≠ 142) (h2 : t ≠ 48) (h3 : t ≠ 3) (h4 : t ≠ 59) (hv : ∃ b0, VocAt W' b0 p none) (k : Keep (fun x => x = b) W W')
    (hn : ∀ v m, NatIs W v m → NatIs W' v m) : LatV W' base lb p s := by
  obtain ⟨tr, A, c, dn, st, se, fv, vals, h5, h6⟩ := h.lat
  refine ⟨⟨tr, A, c, dn, st, se, fv, vals, h5.keepT hb h1 h2 h3 k, ?_⟩, hv, h.lt⟩
  rcases h6 with h2 | ⟨w0, g, vs, h3, h7, h5, h6⟩
  · exact .inl h2
  · exact .inr ⟨w0, g, vs, h3, h7, h5, h6.keepN hb h4 k hn⟩
theorem LatV.far (h : LatV W base lb p s) {cs : Array Value} {t : TypeId} {fz : Nat × Nat} (hb : W.heap[b]? = some (.cells cs t fz)) (h1 : t ≠ 142) (h2 : t ≠ 48) (h3 : t ≠ 3) (h4 : t ≠ 59) (hlt : lb < b) (k : Keep (fun x => x = b) W W')
    (hn : ∀ v m, NatIs W v m → NatIs W' v m) : LatV W' base lb p s := by
  obtain ⟨b0, hvo⟩ := h.voc
  refine h.farV hb h1 h2 h3 h4 ⟨b0, hvo.keep k (fun x hx e => ?_)⟩ k hn
  rcases hx with hx | hx
  · have := h.lt; omega
  · cases hx
theorem Ask.setVar (h : Ask w W base lb p s) (hv : Var W lb b A k c m) (hlo : w.heap.size ≤ b) (u : Value) : Ask w (W.setCell ⟨b, 0, none⟩ u) base lb p s :=
  ⟨(lat_box h.lat hv.blk hv.nat hv.lo hv.off u).1, h.keep.setCell (p := ⟨b, 0, none⟩) (.inr hlo) u, h.row.set (by have := hv.lo; omega) u, fun v m hn => (h.nat v m hn).cellK hv.c0 (fun x => by simp) u⟩
theorem Ask.setFar (h : Ask w W base lb p s) {cs : Array Value} {t : TypeId} {fz : Nat × Nat} (hb : W.heap[b]? = some (.cells cs t fz)) (h1 : t ≠ 142) (h2 : t ≠ 48) (h3 : t ≠ 3) (h4 : t ≠ 59) (hlt : lb < b) (hlo : w.heap.size ≤ b) {i : Nat} {y : Value}
    (hc : W.cell? ⟨b, i, none⟩ = some y) (hy : ∀ x, y ≠ .int .u32 x) (u : Value) : Ask w (W.setCell ⟨b, i, none⟩ u) base lb p s := by
  have hk : Keep (fun x => x = b) W (W.setCell ⟨b, i, none⟩ u) := (Keep.refl (fun x => x = b) W).setCell (p := ⟨b, i, none⟩) (.inl rfl) _
  refine ⟨h.lat.far hb h1 h2 h3 h4 hlt hk (fun v m hn => hn.cellK hc hy u), h.keep.setCell (p := ⟨b, i, none⟩) (.inr hlo) u, ⟨fun g a c hg => h.row.1 g a c ?_, (World.cell?_setCell_far W ⟨b, i, none⟩ ⟨lb, 3, none⟩ _ (show b ≠ lb by omega)).trans h.row.2⟩, fun v m hn => (h.nat v m hn).cellK hc hy u⟩
  rw [World.cell?_setCell_far W ⟨b, i, none⟩ ⟨lb, 7, none⟩ _ (show b ≠ lb by omega)] at hg
  exact hg
structure Way (W : World) (lb wb i : Nat) : Prop where
  blk : W.heap[wb]? = some (.cells #[.pointer (some ⟨lb, 0, none⟩), .int .i64 (i : Int)] 161)
  lo : lb < wb
variable {wb i j : Nat}
theorem Way.lt (h : Way W lb wb i) : wb < W.heap.size := blk_lt h.blk
theorem Way.c0 (h : Way W lb wb i) : W.cell? ⟨wb, 0, none⟩ = some (.pointer (some ⟨lb, 0, none⟩)) := by have := blk_cell h.blk 0; simpa using this
theorem Way.c1 (h : Way W lb wb i) : W.cell? ⟨wb, 1, none⟩ = some (.int .i64 (i : Int)) := by have := blk_cell h.blk 1; simpa using this
theorem Way.z1 (h : Way W lb wb i) : W.frozen? ⟨wb, 1, none⟩ = false := blk_froz h.blk 1
theorem Way.cc (h : Way W lb wb i) : W.cell? ⟨wb, 0, none⟩ = some (.pointer (some ⟨lb, 0, none⟩)) ∧ W.cell? ⟨wb, 1, none⟩ = some (.int .i64 (i : Int)) := ⟨h.c0, h.c1⟩
theorem Way.below (h : Way W lb wb i) (hb : Below W.heap.size W W') : Way W' lb wb i := ⟨blk_below hb h.lt h.blk, h.lo⟩
theorem Way.drew (h : Way W lb wb i) : Way W.drew lb wb i := h.below (Below.refl _ _).drew
theorem Way.ask (h : Way W lb wb i) (ha : Ask W W' base lb p s) : Way W' lb wb i := ⟨ha.keep.blk h.blk (fun e => by have := h.lo; omega), h.lo⟩
theorem Way.far (h : Way W lb wb i) {a : Addr} (hne : wb ≠ a.block) (u : Value) : Way (W.setCell a u) lb wb i := ⟨blk_far h.blk hne u, h.lo⟩
theorem Way.put (h : Way W lb wb i) (j : Nat) : Way (W.setCell ⟨wb, 1, none⟩ (.int .i64 (j : Int))) lb wb j := by
  have := blk_set h.blk 1 (.int .i64 (j : Int))
  exact ⟨by simpa using this, h.lo⟩
theorem Way.ne (h : Way W lb wb i) (hv : Var W lb b A k c m) : b ≠ wb := fun e => by
  have h1 := h.blk
  rw [← e, hv.blk] at h1
  injection h1 with h1
  injection h1 with _ h1 _
  exact absurd h1 (by decide)
theorem Ask.setWay (h : Ask w W base lb p s) (hw : Way W lb wb i) (hlo : w.heap.size ≤ wb) (u : Value) : Ask w (W.setCell ⟨wb, 1, none⟩ u) base lb p s :=
  h.setFar hw.blk (by decide) (by decide) (by decide) (by decide) hw.lo hlo hw.c1 (fun x => by simp) u
theorem Var.setWay (h : Var W lb b A k c m) (hw : Way W lb wb i) (u : Value) : Var (W.setCell ⟨wb, 1, none⟩ u) lb b A k c m := h.far hw.c1 (fun x => by simp) (hw.ne h) hw.lo u
variable {v : Value} {l : List Int} {b0 : Nat}
theorem sl_ask (h : Sl1 W A (Value.int .i64) l) (hl : LatV W base lb p s) (ha : Ask W W' base lb p s) : Sl1 W' A (Value.int .i64) l := by
  obtain ⟨tr, A1, c, dn, st, se, fv, vals, h1, h2⟩ := hl.lat
  have hfv : ∀ x, fv ≠ .int .i64 x := by
    rcases h2 with ⟨rfl, _⟩ | ⟨_, _, _, _, rfl, _⟩ <;> intro x <;> simp
  intro i x hx
  obtain ⟨b, o, e, hc⟩ := h i x hx
  have hne : b ≠ lb := fun e2 => by
    subst e2
    rw [blk_cell h1.blk] at hc
    generalize o + i = j at hc
    rcases j with _ | _ | _ | _ | _ | _ | _ | _ | j <;> simp at hc
    exact hfv _ hc
  exact ⟨b, o, e, (World.cell?_of_block (w := W) (ha.keep.block b (World.block_lt_of_cell? W _ hc) hne)).trans hc⟩
theorem LatV.atAny (h : LatV w base lb p s) (i : Nat) (hi : i ≤ s.length) (hs : s.length ≤ 1000000) : Calls Tryz.prog 29 #[.pointer (some ⟨lb, 0, none⟩), .int .i64 (i : Int)] w fun e w' => (∃ v, e = .returned v ∧ IntsIs w' w.heap.size v (atP p.T s i)) ∧ Below w.heap.size w w' := by
  by_cases h0 : i < s.length
  · exact h.ats i h0 hs
  · refine (h.atOut i (by omega)).mono ?_
    rintro e w' ⟨rfl, rfl⟩
    have e0 : atP p.T s i = [] := by
      unfold atP
      rw [List.drop_eq_nil_iff.2 (by omega)]
      rfl
    rw [e0]
    exact ⟨⟨_, rfl, none, 0, rfl, own_nil _ _ _ _⟩, Below.refl _ _⟩
theorem LatV.from (h : LatV w base lb p s) (hT : OkT p.T) (hs : s.length ≤ 4000) (i : Nat) (hi : i ≤ s.length) :
    Calls Tryz.prog 28 #[.pointer (some ⟨lb, 0, none⟩), .int .i64 (i : Int)] w fun e w' => ∃ A k c, e = .returned (.agg #[.slice A k c]) ∧ NatIs w' (.agg #[.slice A k c]) (cntJ p.T s i) ∧ Ask w w' base lb p s := by
  refine (lfrom_any h hT hs i hi).mono ?_
  rintro e w' ⟨v, rfl, ⟨A, c, rfl, h1, h2⟩, hl, hk, hr, hn⟩
  exact ⟨A, _, c, rfl, ⟨A, c, rfl, h1, h2⟩, hl, hk, hr, hn⟩
theorem LatV.count (h : LatV w base lb p s) (hT : OkT p.T) (hs : s.length ≤ 4000) :
    Calls Tryz.prog 25 #[.pointer (some ⟨lb, 0, none⟩)] w fun e w' => ∃ A k c, e = .returned (.agg #[.slice A k c]) ∧ NatIs w' (.agg #[.slice A k c]) (cntJ p.T s 0) ∧ Ask w w' base lb p s := by
  refine (lcount_any h hT hs).mono ?_
  rintro e w' ⟨v, rfl, ⟨A, c, rfl, h1, h2⟩, hl, hk, hr, hn⟩
  exact ⟨A, _, c, rfl, ⟨A, c, rfl, h1, h2⟩, hl, hk, hr, hn⟩
end
section
variable {w w' W W' : World} {base lb wb i : Nat} {p : VocP} {s : List UInt8}
theorem drop_at {α : Type} {l : List α} {q : Nat} {x : α} (h : l[q]? = some x) : l.drop q = x :: l.drop (q + 1) := by
  obtain ⟨h1, h2⟩ := List.getElem?_eq_some_iff.1 h
  rw [List.drop_eq_getElem_cons h1, h2]
structure SkS (w W : World) (base lb wb i r nb : Nat) (p : VocP) (s : List UInt8) (A : Option Addr) (k c m : Nat) (A2 : Option Addr) (c2 : Nat) (l : List Int) : Prop where
  ask : Ask w W base lb p s
  way : Way W lb wb i
  res : Var W lb r none 0 0 0
  num : Var W lb nb A k c m
  ids : ∃ b0, W.ownsRow b0 3 1 (.slice A2 l.length c2) l.length (l.map (Value.int .i64))
  lo : w.heap.size ≤ r
  lo2 : w.heap.size ≤ nb
  ne : r ≠ nb
variable {r nb k c m k' c' m' c2 : Nat} {A A' A2 : Option Addr} {l : List Int}
theorem SkS.asks (h : SkS w W base lb wb i r nb p s A k c m A2 c2 l) (ha : Ask W W' base lb p s) : SkS w W' base lb wb i r nb p s A k c m A2 c2 l := by
  obtain ⟨cs, fz, hb⟩ := h.ask.lat.tag
  exact ⟨h.ask.trans ha, h.way.ask ha, h.res.ask ha, h.num.ask ha, by obtain ⟨b0, hi⟩ := h.ids; exact ⟨b0, own_keep hi ha.keep (row_off hi hb (by decide))⟩, h.lo, h.lo2, h.ne⟩
theorem SkS.below (h : SkS w W base lb wb i r nb p s A k c m A2 c2 l) (hb : Below W.heap.size W W') : SkS w W' base lb wb i r nb p s A k c m A2 c2 l := h.asks (Ask.of_below h.ask.lat hb)
theorem SkS.drew (h : SkS w W base lb wb i r nb p s A k c m A2 c2 l) : SkS w W.drew base lb wb i r nb p s A k c m A2 c2 l := h.below (Below.refl _ _).drew
theorem SkS.put (h : SkS w W base lb wb i r nb p s A k c m A2 c2 l) (hn : NatIs W (.agg #[.slice A' k' c']) m') : SkS w (W.setCell ⟨nb, 0, none⟩ (.slice A' k' c')) base lb wb i r nb p s A' k' c' m' A2 c2 l := by
  have hk : Keep (fun x => x = nb) W (W.setCell ⟨nb, 0, none⟩ (.slice A' k' c')) := (Keep.refl (fun x => x = nb) W).setCell (p := ⟨nb, 0, none⟩) (.inl rfl) _
  exact ⟨h.ask.setVar h.num h.lo2 _, h.way.far (fun e => h.way.ne h.num e.symm) _, h.res.far h.num.c0 (fun x => by simp) h.ne h.num.lo _, h.num.put hn, by obtain ⟨b0, hi⟩ := h.ids; exact ⟨b0, own_keep hi hk (row_off hi h.num.blk (by decide))⟩, h.lo, h.lo2, h.ne⟩
theorem SkS.cell (h : SkS w W base lb wb i r nb p s A k c m A2 c2 l) {q : Nat} {id : Int} (hl : l[q]? = some id) : ∃ b o, A2 = some ⟨b, o, none⟩ ∧ W.cell? ⟨b, o + q, none⟩ = some (.int .i64 id) := by
  obtain ⟨b0, hi⟩ := h.ids
  exact own_sl1 hi q id hl
structure SkB (w W : World) (lb r nb b : Nat) (A : Option Addr) (k c m : Nat) : Prop where
  var : Var W lb b A k c m
  lo : w.heap.size ≤ b
  n1 : r < b
  n2 : nb < b
theorem SkB.ask {b : Nat} (h : SkB w W lb r nb b A k c m) (ha : Ask W W' base lb p s) : SkB w W' lb r nb b A k c m := ⟨h.var.ask ha, h.lo, h.n1, h.n2⟩
theorem SkB.below {b : Nat} (h : SkB w W lb r nb b A k c m) (hb : Below W.heap.size W W') : SkB w W' lb r nb b A k c m := ⟨h.var.below hb, h.lo, h.n1, h.n2⟩
theorem SkB.put {b : Nat} {A3 : Option Addr} {k3 c3 m3 : Nat} (hv : SkB w W lb r nb b A' k' c' m') (h : SkS w W base lb wb i r nb p s A k c m A2 c2 l) (hn : NatIs W (.agg #[.slice A3 k3 c3]) m3) : SkB w (W.setCell ⟨nb, 0, none⟩ (.slice A3 k3 c3)) lb r nb b A' k' c' m' :=
  ⟨hv.var.far h.num.c0 (fun x => by simp) (by have := hv.n2; omega) h.num.lo _, hv.lo, hv.n1, hv.n2⟩
end
open Go.RowKit Go.Maps
def NotU (v : Value) : Prop := ∀ x, v ≠ .int .u32 x
def NoU (W : World) (g : Nat) : Prop := ∀ j u, W.cell? ⟨g, j, none⟩ = some u → NotU u
theorem NoU.blk {W W' : World} {g : Nat} (h : NoU W g) (e : W'.heap[g]? = W.heap[g]?) : NoU W' g := fun j u hu => h j u (by rw [← hu]; simp [World.cell?, e])
structure OutI (W : World) (B : Nat) (v : Value) (n : Nat) (L : List Int) : Prop where
  row : W.ownsRow B 3 1 v n (L.map (Value.int .i64))
  noU : ∀ g, v.ownBlock = some g → NoU W g
section
variable {w w' W W' : World} {base lb b B n m k c i wb g : Nat} {p : VocP} {s : List UInt8} {A : Option Addr} {v : Value} {L : List Int}
theorem OutI.nil (W : World) (B : Nat) : OutI W B (.slice none 0 0) 0 [] := ⟨own_nil _ _ _ _, fun g h => by simp [Value.ownBlock] at h⟩
theorem OutI.len (h : OutI W B v n L) : L.length = n := by have := h.row.1; simpa using this
theorem OutI.keep {F : Nat → Prop} (h : OutI W B v n L) (hk : Keep F W W') (hF : ∀ g, v.ownBlock = some g → ¬ F g) : OutI W' B v n L :=
  ⟨own_keep h.row hk hF, fun g hg => (h.noU g hg).blk (hk.block g (h.row.lt g hg).2 (hF g hg))⟩
theorem OutI.below (h : OutI W B v n L) (hb : Below W.heap.size W W') : OutI W' B v n L := h.keep (F := fun _ => False) (Keep.of_below hb) (fun g _ h => h)
theorem OutI.tag (h : OutI W B v n L) {g : Nat} (hg : v.ownBlock = some g) : ∃ cs fz, W.heap[g]? = some (.cells cs 3 fz) := row_tag h.row hg
theorem OutI.ask (h : OutI W B v n L) (hl : LatV W base lb p s) (ha : Ask W W' base lb p s) : OutI W' B v n L := by
  obtain ⟨cs, fz, hb⟩ := hl.tag
  exact h.keep ha.keep (fun g hg => row_off h.row hb (by decide) g hg)
theorem OutI.far (h : OutI W B v n L) {cs : Array Value} {t : TypeId} {fz : Nat × Nat} (hb : W.heap[b]? = some (.cells cs t fz)) (ht : 3 ≠ t) (i : Nat) (u : Value) : OutI (W.setCell ⟨b, i, none⟩ u) B v n L :=
  h.keep ((Keep.refl (fun x => x = b) W).setCell (p := ⟨b, i, none⟩) (.inl rfl) u) (fun g hg => row_off h.row hb ht g hg)
theorem nat_noU (h : NatIs W v m) (hk : Keep (fun x => x = g) W W') (hU : NoU W g) : NatIs W' v m := by
  obtain ⟨A, c, rfl, h1, h2⟩ := h
  refine ⟨A, c, rfl, fun i x hx => ?_, h2⟩
  obtain ⟨b, o, rfl, hc⟩ := h1 i x hx
  refine ⟨b, o, rfl, hk.keepCell hc (fun e => ?_)⟩
  subst e
  exact hU _ _ hc _ rfl
theorem LatV.rows (h0 : LatV w base lb p s) (h : Ask w W base lb p s) : ∃ tr A c dn st se fv vals, LatIs W base lb tr p.vb p.T s s.length A c dn st se fv vals ∧ ((fv = .slice none 0 0 ∧ dn = 0 ∧ st = 0) ∨
    ∃ w0 g vs, dn = 1 ∧ fv = .slice (some ⟨g, 0, none⟩) (s.length + 1) (s.length + 1) ∧ lb < g ∧ FrIs w0 W g s.length (cntJ p.T s) vs) ∧
    (∀ g, (Value.slice A s.length c).ownBlock = some g → g < w.heap.size) ∧ ∀ i v, i < s.length → vals[i]? = some v → ∀ g, v.ownBlock = some g → g < w.heap.size := by
  obtain ⟨tr, A, c, dn, st, se, fv, vals, h5, h6⟩ := h.lat.lat
  obtain ⟨tr0, A0, c0, dn0, st0, se0, fv0, vals0, h1, h2⟩ := h0.lat
  have h3 := h.row.2
  rw [h5.c3, h1.c3] at h3
  injection h3 with h3
  injection h3 with h3 _ h4
  subst h3
  subst h4
  refine ⟨tr, A, c, dn, st, se, fv, vals, h5, h6, fun g hg => (h1.row.lt g hg).2, fun i v hi hv g hg => ?_⟩
  obtain ⟨ga, cap, e1, _, _, _⟩ := own_open h1.row (by omega)
  have hga : (Value.slice A s.length c).ownBlock = some ga := by rw [e1]; rfl
  have hne : ga ≠ lb := row_off h1.row h1.blk (by decide) ga hga
  obtain ⟨v0, q1, q2⟩ := h1.ids i hi
  have k0 := h1.row.cells hga i v0 q1
  have k1 := h5.row.cells hga i v hv
  have k2 : W.cell? ((⟨ga, 0, none⟩ : Addr).add i) = w.cell? ((⟨ga, 0, none⟩ : Addr).add i) := by
    rw [add_plain]
    exact World.cell?_of_block (h.keep.block ga (h1.row.lt ga hga).2 hne)
  rw [k1, k0] at k2
  injection k2 with k2
  subst k2
  exact (q2.lt g hg).2
theorem Ask.grow (h : Ask w W base lb p s) (h0 : LatV w base lb p s) (hk : Keep (fun x => x = g) W W') (hg : w.heap.size ≤ g) {cs : Array Value} {fz : Nat × Nat} (ht : W.heap[g]? = some (.cells cs 3 fz)) (hU : NoU W g) : Ask w W' base lb p s := by
  have hn : ∀ v m, NatIs W v m → NatIs W' v m := fun v m hv => nat_noU hv hk hU
  obtain ⟨tr, A, c, dn, st, se, fv, vals, h5, h6, h7, h8⟩ := h0.rows h
  have hlb := h0.lt_size
  have hc : ∀ j, W'.cell? ⟨lb, j, none⟩ = W.cell? ⟨lb, j, none⟩ := fun j => World.cell?_of_block (hk.block lb h5.lt (fun e => by omega))
  obtain ⟨b0, hvo⟩ := h.lat.voc
  refine ⟨⟨⟨tr, A, c, dn, st, se, fv, vals, ⟨hk.blk h5.blk (fun e => by omega), own_keep h5.row hk (fun x hx e => by have := h7 x hx; omega), fun i hi => ?_, h5.lo⟩, ?_⟩, ⟨b0, hvo.keep hk (fun x hx e => ?_)⟩, h.lat.lt⟩, h.keep.trans hk (fun x hx => .inr (by omega)), ⟨fun a d e he => h.row.1 a d e ((hc 7).symm.trans he), (hc 3).trans h.row.2⟩, fun v m hv => hn v m (h.nat v m hv)⟩
  · obtain ⟨v, q1, q2⟩ := h5.ids i hi
    exact ⟨v, q1, own_keep q2 hk (fun x hx e => by have := h8 i v hi q1 x hx; omega)⟩
  · rcases h6 with h2 | ⟨w0, g2, vs, h3, h7, h5, h6⟩
    · exact .inl h2
    · exact .inr ⟨w0, g2, vs, h3, h7, h5, h6.keepN ht (by decide) hk hn⟩
  · rcases hx with hx | hx
    · have := h0.lt; omega
    · cases hx
theorem Var.grow (h : Var W lb b A k c m) (hk : Keep (fun x => x = g) W W') {cs : Array Value} {fz : Nat × Nat} (ht : W.heap[g]? = some (.cells cs 3 fz)) (hU : NoU W g) (hlb : lb ≠ g) : Var W' lb b A k c m :=
  ⟨hk.blk h.blk (fun e => by
    have h1 := h.blk
    rw [e, ht] at h1
    injection h1 with h1
    injection h1 with _ h1 _
    exact absurd h1 (by decide)), nat_noU h.nat hk hU, fun x y z hx => h.off x y z (by
    rw [← hx]
    exact (World.cell?_of_block (hk.block lb (Nat.lt_trans h.lo h.lt) (fun e => hlb e))).symm), h.lo⟩
theorem Way.grow (h : Way W lb wb i) (hk : Keep (fun x => x = g) W W') {cs : Array Value} {fz : Nat × Nat} (ht : W.heap[g]? = some (.cells cs 3 fz)) : Way W' lb wb i :=
  ⟨hk.blk h.blk (fun e => by
    have h1 := h.blk
    rw [e, ht] at h1
    injection h1 with h1
    injection h1 with _ h1 _
    exact absurd h1 (by decide)), h.lo⟩
theorem keep_none {F : Nat → Prop} (hk : Keep F W W') (hF : ∀ g, ¬ F g) : Below W.heap.size W W' := ⟨hk.os, hk.tape, hk.output, hk.size, fun x hx => hk.block x hx (hF x)⟩
theorem Ask.app (h : Ask w W base lb p s) (h0 : LatV w base lb p s) (ho : OutI W B v n L) (hB : w.heap.size ≤ B) (hk : Keep (fun g => v.ownBlock = some g) W W') : Ask w W' base lb p s := by
  cases hv : v.ownBlock with
  | none => exact h.below (keep_none hk (fun g e => by rw [hv] at e; cases e))
  | some g =>
    obtain ⟨cs, fz, ht⟩ := ho.tag hv
    exact h.grow h0 (hk.mono (fun x hx => by rw [hv] at hx; injection hx with hx; exact hx.symm)) (Nat.le_trans hB (ho.row.lt g hv).1) ht (ho.noU g hv)
theorem Var.app (h : Var W lb b A k c m) (ho : OutI W B v n L) (hB : lb < B) (hk : Keep (fun g => v.ownBlock = some g) W W') : Var W' lb b A k c m := by
  cases hv : v.ownBlock with
  | none => exact h.below (keep_none hk (fun g e => by rw [hv] at e; cases e))
  | some g =>
    obtain ⟨cs, fz, ht⟩ := ho.tag hv
    exact h.grow (hk.mono (fun x hx => by rw [hv] at hx; injection hx with hx; exact hx.symm)) ht (ho.noU g hv) (by have := (ho.row.lt g hv).1; omega)
theorem Way.app (h : Way W lb wb i) (ho : OutI W B v n L) (hk : Keep (fun g => v.ownBlock = some g) W W') : Way W' lb wb i := by
  cases hv : v.ownBlock with
  | none => exact h.below (keep_none hk (fun g e => by rw [hv] at e; cases e))
  | some g =>
    obtain ⟨cs, fz, ht⟩ := ho.tag hv
    exact h.grow (hk.mono (fun x hx => by rw [hv] at hx; injection hx with hx; exact hx.symm)) ht
end
section
variable {w w' W W' : World} {base lb wb nb i m k c q : Nat} {p : VocP} {s : List UInt8} {A : Option Addr} {v : Value} {L F : List Int}
structure UnI (w W : World) (base lb wb nb i : Nat) (p : VocP) (s : List UInt8) (A : Option Addr) (k c m : Nat) (v : Value) (q : Nat) (L F : List Int) : Prop where
  ask : Ask w W base lb p s
  way : Way W lb wb i
  num : Var W lb nb A k c m
  out : OutI W w.heap.size v q L
  lo : w.heap.size ≤ nb
  lo2 : w.heap.size ≤ wb
  ilo : lb < w.heap.size
  le : i ≤ s.length
  div : ∃ D, (divA p.T (s.drop i))[m]? = some D ∧ L ++ D = F
  qi : q ≤ i
theorem UnI.asks (h : UnI w W base lb wb nb i p s A k c m v q L F) (ha : Ask W W' base lb p s) : UnI w W' base lb wb nb i p s A k c m v q L F :=
  ⟨h.ask.trans ha, h.way.ask ha, h.num.ask ha, h.out.ask h.ask.lat ha, h.lo, h.lo2, h.ilo, h.le, h.div, h.qi⟩
theorem UnI.below (h : UnI w W base lb wb nb i p s A k c m v q L F) (hb : Below W.heap.size W W') : UnI w W' base lb wb nb i p s A k c m v q L F := h.asks (Ask.of_below h.ask.lat hb)
theorem UnI.lt (h : UnI w W base lb wb nb i p s A k c m v q L F) : m < cntJ p.T s i := by
  obtain ⟨D, h1, _⟩ := h.div
  exact (List.getElem?_eq_some_iff.1 h1).1
structure UnQ (w W : World) (base lb wb nb i : Nat) (p : VocP) (s : List UInt8) (A : Option Addr) (k c m : Nat) (v : Value) (q : Nat) (L F : List Int) (X : Int) : Prop where
  ask : Ask w W base lb p s
  way : Way W lb wb i
  num : Var W lb nb A k c m
  out : OutI W w.heap.size v q L
  lo : w.heap.size ≤ nb
  lo2 : w.heap.size ≤ wb
  ilo : lb < w.heap.size
  div : ∃ D, (divA p.T (s.drop (i + lenT p.T X)))[m]? = some D ∧ L ++ X :: D = F
  le : i + lenT p.T X ≤ s.length
  pos : 0 < lenT p.T X
  qi : q ≤ i
structure UnP (w W : World) (base lb wb nb i : Nat) (p : VocP) (s : List UInt8) (A : Option Addr) (k c m : Nat) (v : Value) (q : Nat) (L F : List Int) (X : Int) : Prop where
  ask : Ask w W base lb p s
  way : Way W lb wb i
  num : Var W lb nb A k c m
  out : OutI W w.heap.size v q L
  lo : w.heap.size ≤ nb
  lo2 : w.heap.size ≤ wb
  ilo : lb < w.heap.size
  div : ∃ D, (divA p.T (s.drop (i + lenT p.T X)))[m]? = some D ∧ L ++ D = F
  le : i + lenT p.T X ≤ s.length
  pos : 0 < lenT p.T X
  qi : q ≤ i + 1
theorem UnP.below {X : Int} (h : UnP w W base lb wb nb i p s A k c m v q L F X) (hb : Below W.heap.size W W') : UnP w W' base lb wb nb i p s A k c m v q L F X :=
  have ha := Ask.of_below h.ask.lat hb
  ⟨h.ask.trans ha, h.way.ask ha, h.num.ask ha, h.out.ask h.ask.lat ha, h.lo, h.lo2, h.ilo, h.div, h.le, h.pos, h.qi⟩
theorem UnP.drew {X : Int} (h : UnP w W base lb wb nb i p s A k c m v q L F X) : UnP w W.drew base lb wb nb i p s A k c m v q L F X := h.below (Below.refl _ _).drew
theorem UnQ.grow {X : Int} {v' : Value} (h : UnQ w W base lb wb nb i p s A k c m v q L F X) (h0 : LatV w base lb p s) (ho : OutI W' w.heap.size v' (q + 1) (L ++ [X])) (hk : Keep (fun g => v.ownBlock = some g) W W') : UnP w W' base lb wb nb i p s A k c m v' (q + 1) (L ++ [X]) F X :=
  ⟨h.ask.app h0 h.out (Nat.le_refl _) hk, h.way.app h.out hk, h.num.app h.out h.ilo hk, ho, h.lo, h.lo2, h.ilo, by obtain ⟨D, h1, h2⟩ := h.div; exact ⟨D, h1, by rw [← h2]; simp⟩, h.le, h.pos, by have := h.qi; omega⟩
theorem UnP.step {X : Int} (h : UnP w W base lb wb nb i p s A k c m v q L F X) {J : Nat} (hJ : i + lenT p.T X = J) : UnI w (W.setCell ⟨wb, 1, none⟩ (.int .i64 (J : Int))) base lb wb nb J p s A k c m v q L F := by
  subst hJ
  exact ⟨h.ask.setWay h.way h.lo2 _, h.way.put _, h.num.setWay h.way _, h.out.far h.way.blk (by decide) _ _, h.lo, h.lo2, h.ilo, h.le, h.div, by have := h.pos; have := h.qi; omega⟩
end
theorem skip_bound {T : List Ent} {s : List UInt8} {id : Int} : ∀ {l : List Int} {k : Nat}, skipN T s id l = some k → id ∈ l ∧ k + cntA T (s.drop (lenT T id)) ≤ sumA T s l
  | [], k, h => by simp [skipN] at h
  | x :: l, k, h => by
    rw [skipN] at h
    rw [sumA_cons]
    by_cases hx : x = id
    · rw [if_pos hx] at h
      injection h with h
      subst hx
      exact ⟨List.mem_cons_self, by omega⟩
    · rw [if_neg hx, Option.map_eq_some_iff] at h
      obtain ⟨k', h1, h2⟩ := h
      obtain ⟨h3, h4⟩ := skip_bound h1
      exact ⟨List.mem_cons_of_mem _ h3, by omega⟩
section
variable {w w' W W' : World} {base lb wb rb nb kb i m k c q c2 : Nat} {p : VocP} {s : List UInt8} {A A2 : Option Addr} {ids : List Int}
structure RkI (w W : World) (base lb wb rb nb i : Nat) (p : VocP) (s : List UInt8) (A : Option Addr) (k c m : Nat) (A2 : Option Addr) (ids : List Int) (q : Nat) : Prop where
  ask : Ask w W base lb p s
  way : Way W lb wb i
  res : Var W lb rb none 0 0 0
  num : Var W lb nb A k c m
  sl : Sl1 W A2 (Value.int .i64) ids
  lo : w.heap.size ≤ rb
  lo2 : w.heap.size ≤ wb
  lo3 : w.heap.size ≤ nb
  ne : rb ≠ nb
  old : ∀ a, A2 = some a → ids ≠ [] → a.block < w.heap.size
  le : i ≤ s.length
  sum : m + cntJ p.T s i ≤ cntJ p.T s 0
  rel : rnk p.T s ids = (rnk p.T (s.drop i) (ids.drop q)).map (fun n => m + n)
theorem RkI.asks (h : RkI w W base lb wb rb nb i p s A k c m A2 ids q) (ha : Ask W W' base lb p s) : RkI w W' base lb wb rb nb i p s A k c m A2 ids q :=
  ⟨h.ask.trans ha, h.way.ask ha, h.res.ask ha, h.num.ask ha, sl_ask h.sl h.ask.lat ha, h.lo, h.lo2, h.lo3, h.ne, h.old, h.le, h.sum, h.rel⟩
theorem RkI.below (h : RkI w W base lb wb rb nb i p s A k c m A2 ids q) (hb : Below W.heap.size W W') : RkI w W' base lb wb rb nb i p s A k c m A2 ids q := h.asks (Ask.of_below h.ask.lat hb)
theorem RkI.drew (h : RkI w W base lb wb rb nb i p s A k c m A2 ids q) : RkI w W.drew base lb wb rb nb i p s A k c m A2 ids q := h.below (Below.refl _ _).drew
theorem sl_old (h : Sl1 W A2 (Value.int .i64) ids) (ho : ∀ a, A2 = some a → ids ≠ [] → a.block < w.heap.size) {a : Addr} (ha : w.heap.size ≤ a.block) (u : Value) : Sl1 (W.setCell a u) A2 (Value.int .i64) ids :=
  h.cellO (fun i x b o hx e he => by
    have h1 := ho _ e (by intro e2; rw [e2] at hx; simp at hx)
    have h2 : b = a.block := by rw [← he]
    simp only at h1
    omega) u
theorem RkI.put {A' : Option Addr} {k' c' K : Nat} (h : RkI w W base lb wb rb nb i p s A k c m A2 ids q) (hn : NatIs W (.agg #[.slice A' k' c']) K) :
    Ask w (W.setCell ⟨nb, 0, none⟩ (.slice A' k' c')) base lb p s ∧ Way (W.setCell ⟨nb, 0, none⟩ (.slice A' k' c')) lb wb i ∧ Var (W.setCell ⟨nb, 0, none⟩ (.slice A' k' c')) lb rb none 0 0 0 ∧ Var (W.setCell ⟨nb, 0, none⟩ (.slice A' k' c')) lb nb A' k' c' K ∧ Sl1 (W.setCell ⟨nb, 0, none⟩ (.slice A' k' c')) A2 (Value.int .i64) ids :=
  ⟨h.ask.setVar h.num h.lo3 _, h.way.far (fun e => h.way.ne h.num e.symm) _, h.res.far h.num.c0 (fun x => by simp) h.ne h.num.lo _, h.num.put hn, sl_old h.sl h.old h.lo3 _⟩
structure RkJ (w W : World) (base lb wb rb nb i : Nat) (p : VocP) (s : List UInt8) (A : Option Addr) (k c m : Nat) (A2 : Option Addr) (ids : List Int) (q J : Nat) : Prop where
  ask : Ask w W base lb p s
  way : Way W lb wb i
  res : Var W lb rb none 0 0 0
  num : Var W lb nb A k c m
  sl : Sl1 W A2 (Value.int .i64) ids
  lo : w.heap.size ≤ rb
  lo2 : w.heap.size ≤ wb
  lo3 : w.heap.size ≤ nb
  ne : rb ≠ nb
  old : ∀ a, A2 = some a → ids ≠ [] → a.block < w.heap.size
  le : J ≤ s.length
  sum : m + cntJ p.T s J ≤ cntJ p.T s 0
  rel : rnk p.T s ids = (rnk p.T (s.drop J) (ids.drop (q + 1))).map (fun n => m + n)
theorem RkI.add {A' : Option Addr} {k' c' K J : Nat} {id : Int} (h : RkI w W base lb wb rb nb i p s A k c m A2 ids q) (hT : OkT p.T) (hid : ids[q]? = some id) (hK : skipN p.T (s.drop i) id (atP p.T s i) = some K) (hJ : i + lenT p.T id = J) (hn : NatIs W (.agg #[.slice A' k' c']) (m + K)) :
    RkJ w (W.setCell ⟨nb, 0, none⟩ (.slice A' k' c')) base lb wb rb nb i p s A' k' c' (m + K) A2 ids q J := by
  obtain ⟨h1, h2, h3, h4, h5⟩ := h.put hn
  obtain ⟨g1, g2⟩ := skip_bound hK
  obtain ⟨f1, f2, f3, _⟩ := atA_has hT g1
  rw [List.length_drop] at f3
  subst hJ
  refine ⟨h1, h2, h3, h4, h5, h.lo, h.lo2, h.lo3, h.ne, h.old, by omega, ?_, ?_⟩
  · have h6 := h.sum
    have h7 : sumA p.T (s.drop i) (atP p.T s i) = cntJ p.T s i := (cntA_rec hT (by intro e; have := List.drop_eq_nil_iff.1 e; omega)).symm
    rw [h7, List.drop_drop] at g2
    unfold cntJ at *
    omega
  · rw [h.rel, drop_at hid, rnk]
    have h8 : skipN p.T (s.drop i) id (atA p.T (s.drop i)) = some K := hK
    rw [h8, List.drop_drop]
    simp only [Option.bind_some, Option.map_map]
    congr 1
    funext x
    simp [Nat.add_assoc]
theorem RkJ.below {J : Nat} (h : RkJ w W base lb wb rb nb i p s A k c m A2 ids q J) (hb : Below W.heap.size W W') : RkJ w W' base lb wb rb nb i p s A k c m A2 ids q J :=
  have ha := Ask.of_below h.ask.lat hb
  ⟨h.ask.trans ha, h.way.ask ha, h.res.ask ha, h.num.ask ha, sl_ask h.sl h.ask.lat ha, h.lo, h.lo2, h.lo3, h.ne, h.old, h.le, h.sum, h.rel⟩
theorem RkJ.drew {J : Nat} (h : RkJ w W base lb wb rb nb i p s A k c m A2 ids q J) : RkJ w W.drew base lb wb rb nb i p s A k c m A2 ids q J := h.below (Below.refl _ _).drew
theorem RkJ.step {J : Nat} (h : RkJ w W base lb wb rb nb i p s A k c m A2 ids q J) : RkI w (W.setCell ⟨wb, 1, none⟩ (.int .i64 (J : Int))) base lb wb rb nb J p s A k c m A2 ids (q + 1) :=
  ⟨h.ask.setWay h.way h.lo2 _, h.way.put _, h.res.setWay h.way _, h.num.setWay h.way _, sl_old h.sl h.old h.lo2 _, h.lo, h.lo2, h.lo3, h.ne, h.old, h.le, h.sum, h.rel⟩
end
section
variable {w w' W W' : World} {base lb nb m k c c2 : Nat} {p : VocP} {s : List UInt8} {A A2 : Option Addr} {ids F : List Int}
def byteI (s : List UInt8) : List Int := s.map (fun x => (x.toNat : Int))
structure LsI (w W : World) (base lb : Nat) (p : VocP) (s : List UInt8) (k : Nat) (v : Value) : Prop where
  lat : LatV W base lb p s
  blw : Below w.heap.size w W
  out : OutI W w.heap.size v k (byteI (s.take k))
theorem LsI.below {k : Nat} {v : Value} (h : LsI w W base lb p s k v) (hb : Below W.heap.size W W') : LsI w W' base lb p s k v := ⟨h.lat.below hb, h.blw.trans (hb.mono h.blw.size), h.out.below hb⟩
theorem LsI.grow {k : Nat} {v v' : Value} {L : List Int} (h0 : LatV w base lb p s) (h : LsI w W base lb p s k v) (ho : OutI W' w.heap.size v' (k + 1) (byteI (s.take k) ++ L)) (hL : byteI (s.take k) ++ L = byteI (s.take (k + 1))) (hk : Keep (fun g => v.ownBlock = some g) W W') : LsI w W' base lb p s (k + 1) v' :=
  ⟨((Ask.of_below h0 h.blw).app h0 h.out (Nat.le_refl _) hk).lat, h.blw.trans (hk.below h.blw.size (fun x hx => (h.out.row.lt x hx).1)), by rw [← hL]; exact ho⟩
end
theorem RefIs.ask {w W : World} {base base' lb : Nat} {p : VocP} {s : List UInt8} {T : List Ent} {vb vm : Value} (h : RefIs w base' T vb vm) (hl : LatV w base lb p s) (ha : Ask w W base lb p s) : RefIs W base' T vb vm := by
  obtain ⟨cs, fz, hb⟩ := hl.tag
  exact ⟨own_keep h.row ha.keep (row_off h.row hb (by decide)), own_keep h.mrg ha.keep (row_off h.mrg hb (by decide)), h.nil⟩
theorem VocAt.keepX {w w' : World} {base g : Nat} {p : VocP} {a : Array Value} {t : TypeId} {fz : Nat × Nat} (h : VocAt w base p none) (k : Keep (fun x => x = g) w w') (hgb : g < base) (hg : AllSl w g) (hc : w.heap[g]? = some (.cells a t fz)) (ht : 266 ≠ t) : VocAt w' base p none := by
  obtain ⟨l, dn, st, se, us, h1, h2⟩ := h
  refine ⟨l, dn, st, se, us, ?_, ?_⟩
  · obtain ⟨V0, a1, a2, a3, a4, a5, a6⟩ := h1.org
    obtain ⟨V', e1, e2, e3⟩ := keep_cut a6 k
    have hlt := h1.lt
    have hg0 : AllSl V0 g := fun o v hv => hg o v (below_cell a6 (Nat.le_refl _) hv)
    have hbk : p.bk ≠ g := by
      intro hbg
      have h3 := (VocQ.bnd h1).1
      rw [hbg, hc] at h3
      injection h3 with h3
      injection h3 with _ h3 _
      exact ht h3.symm
    refine ⟨k.blk h1.blk (by omega), ⟨V', by omega, a2.keepS e2 hg0, a3.keep e2 (fun x hx hf => ?_), ⟨e2.blk a4.1 hbk, a4.2⟩, ?_, e3⟩, h1.lt⟩
    · subst hf
      have hl := a3.lt
      rcases hx with hx | hx | hx | hx
      · omega
      · have := own_base a3.row _ hx
        omega
      · omega
      · omega
    · have hl := a5.lt
      exact ⟨e2.blk a5.blk (by omega), own_keep a5.row e2 (fun x hx hf => by have := own_base a5.row _ hx; omega), a5.ids.keep e2 (by omega), a5.txs.keep e2 (by omega), a5.ne, a5.lt⟩
  · rcases h2 with h2 | ⟨r, h3, _⟩
    · exact .inl h2
    · exact absurd h3 (by simp)
structure AwL (w W : World) (base lb : Nat) (p : VocP) : Prop where
  lat : LatV W base lb p abab
  T : p.T = awT21
  ok : OkT p.T
  blw : Below w.heap.size w W
  lo : w.heap.size ≤ lb
theorem AwL.asks {w W W' : World} {lb base : Nat} {p : VocP} (h : AwL w W base lb p) (ha : Ask W W' base lb p abab) : AwL w W' base lb p :=
  ⟨ha.lat, h.T, h.ok, h.blw.trans (ha.blw h.blw.size h.lo), h.lo⟩
theorem AwL.below {w W W' : World} {lb base : Nat} {p : VocP} (h : AwL w W base lb p) (hb : Below W.heap.size W W') : AwL w W' base lb p := h.asks (Ask.of_below h.lat hb)
structure LL (w W : World) (base lb : Nat) (p : VocP) (s : List UInt8) : Prop where
  lat : LatV W base lb p s
  ok : OkT p.T
  blw : Below w.heap.size w W
  lo : w.heap.size ≤ lb
section
variable {w W W' : World} {base lb : Nat} {p : VocP} {s : List UInt8}
theorem LL.asks (h : LL w W base lb p s) (ha : Ask W W' base lb p s) : LL w W' base lb p s := ⟨ha.lat, h.ok, h.blw.trans (ha.blw h.blw.size h.lo), h.lo⟩
theorem LL.below (h : LL w W base lb p s) (hb : Below W.heap.size W W') : LL w W' base lb p s := h.asks (Ask.of_below h.lat hb)
theorem LL.drew (h : LL w W base lb p s) : LL w W.drew base lb p s := h.below (Below.refl _ _).drew
end
section
variable {w w' W W' : World} {base lb k c : Nat} {p : VocP} {s : List UInt8} {A : Option Addr} {F : List Int}
structure LX (w W : World) (base lb : Nat) (p : VocP) (s : List UInt8) (xb : Nat) (Ax : Option Addr) (kx cx X : Nat) (yb : Nat) (Ay : Option Addr) (ky cy Y : Nat) (Au : Option Addr) (F : List Int) (Aw : Option Addr) (G : List Int) : Prop where
  ll : LL w W base lb p s
  vx : Var W lb xb Ax kx cx X
  vy : Var W lb yb Ay ky cy Y
  u : Sl1 W Au (Value.int .i64) F
  v : Sl1 W Aw (Value.int .i64) G
variable {xb kx cx X yb ky cy Y : Nat} {Ax Ay Au Aw : Option Addr} {G : List Int}
theorem LX.asks (h : LX w W base lb p s xb Ax kx cx X yb Ay ky cy Y Au F Aw G) (ha : Ask W W' base lb p s) : LX w W' base lb p s xb Ax kx cx X yb Ay ky cy Y Au F Aw G :=
  ⟨h.ll.asks ha, h.vx.ask ha, h.vy.ask ha, sl_ask h.u h.ll.lat ha, sl_ask h.v h.ll.lat ha⟩
theorem LX.below (h : LX w W base lb p s xb Ax kx cx X yb Ay ky cy Y Au F Aw G) (hb : Below W.heap.size W W') : LX w W' base lb p s xb Ax kx cx X yb Ay ky cy Y Au F Aw G := h.asks (Ask.of_below h.ll.lat hb)
theorem LX.drew (h : LX w W base lb p s xb Ax kx cx X yb Ay ky cy Y Au F Aw G) : LX w W.drew base lb p s xb Ax kx cx X yb Ay ky cy Y Au F Aw G := h.below (Below.refl _ _).drew
theorem LX.cc (h : LX w W base lb p s xb Ax kx cx X yb Ay ky cy Y Au F Aw G) : W.cell? ⟨xb, 0, none⟩ = some (.slice Ax kx cx) ∧ W.cell? ⟨yb, 0, none⟩ = some (.slice Ay ky cy) := ⟨h.vx.c0, h.vy.c0⟩
end
structure LC (w W : World) (base lb : Nat) (p : VocP) (s : List UInt8) (mb : Nat) (T : List Ent) (vb vm v3 v4 v5 : Value) : Prop where
  ll : LL w W base lb p s
  box : W.heap[mb]? = some (.cells #[vb, vm, v3, v4, v5] 38)
  ref : ∃ b, RefIs W b T vb vm
  ne : mb < lb
section
variable {w W W' : World} {base lb mb : Nat} {p : VocP} {s : List UInt8} {T : List Ent} {vb vm v3 v4 v5 : Value}
theorem LC.asks (h : LC w W base lb p s mb T vb vm v3 v4 v5) (ha : Ask W W' base lb p s) : LC w W' base lb p s mb T vb vm v3 v4 v5 :=
  ⟨h.ll.asks ha, ha.keep.blk h.box (fun e => by have := h.ne; omega), by obtain ⟨b, hr⟩ := h.ref; exact ⟨b, hr.ask h.ll.lat ha⟩, h.ne⟩
theorem LC.below (h : LC w W base lb p s mb T vb vm v3 v4 v5) (hb : Below W.heap.size W W') : LC w W' base lb p s mb T vb vm v3 v4 v5 := h.asks (Ask.of_below h.ll.lat hb)
theorem LC.drew (h : LC w W base lb p s mb T vb vm v3 v4 v5) : LC w W.drew base lb p s mb T vb vm v3 v4 v5 := h.below (Below.refl _ _).drew
theorem LC.c0 (h : LC w W base lb p s mb T vb vm v3 v4 v5) : W.cell? ⟨mb, 0, none⟩ = some vb := by have := blk_cell h.box 0; simpa using this
theorem LC.c1 (h : LC w W base lb p s mb T vb vm v3 v4 v5) : W.cell? ⟨mb, 1, none⟩ = some vm := by have := blk_cell h.box 1; simpa using this
end
theorem beg_64 {T : List Ent} (hT : OkT T) (s : List UInt8) (M : Nat) (hM : M = min s.length 64) : begT T s M = begT T s s.length := by
  have key : ∀ m, M ≤ m → m ≤ s.length → begT T s m = begT T s M := by
    intro m
    induction m with
    | zero => intro h _; rw [Nat.le_zero.1 h]
    | succ m ih =>
      intro h hm
      by_cases e : M = m + 1
      · rw [e]
      · rw [begT_succ, ih (by omega) (by omega), find_long hT (.inl (by rw [List.length_take]; omega))]
        simp
  exact (key _ (by omega) (Nat.le_refl _)).symm
structure RAtIs (w W : World) (rb : Nat) (T : List Ent) (s : List UInt8) (n k : Nat) (vb vm : Value) (L : List Int) (A : Option Addr) (c : Nat) : Prop where
  box : W.heap[rb]? = some (.cells #[vb, vm] 34)
  ref : ∃ b, RefIs W b T vb vm
  row : W.ownsRow w.heap.size 3 1 (.slice A k c) k (L.map (Value.int .i64))
  len : L.length = k
  all : L ++ (begT T s n).reverse = atA T s
  blw : Below w.heap.size w W
section
variable {w W W' : World} {rb n k c : Nat} {T : List Ent} {s : List UInt8} {vb vm : Value} {L : List Int} {A : Option Addr}
theorem RAtIs.below (h : RAtIs w W rb T s n k vb vm L A c) (hb : Below W.heap.size W W') : RAtIs w W' rb T s n k vb vm L A c :=
  ⟨blk_below hb (blk_lt h.box) h.box, by obtain ⟨b, hr⟩ := h.ref; exact ⟨b, hr.below hb (Nat.le_refl _)⟩, own_below h.row hb (Nat.le_refl _), h.len, h.all, h.blw.trans (hb.mono h.blw.size)⟩
theorem RAtIs.none (h : RAtIs w W rb T s (n + 1) k vb vm L A c) (hf : findT T (s.take (n + 1)) = .none) : RAtIs w W rb T s n k vb vm L A c :=
  ⟨h.box, h.ref, h.row, h.len, by have := h.all; rw [begT_succ, hf] at this; simpa using this, h.blw⟩
end
set_option maxHeartbeats 4000000 in
theorem rat_any {w : World} {base : Nat} {T : List Ent} {vb vm : Value} (h : RefIs w base T vb vm) (hT : OkT T) (hlen : T.length ≤ 1000) (s : List UInt8) (hs : s.length ≤ 1000000) :
    Calls Tryz.prog 37 #[.agg #[vb, vm], .string (bs s)] w fun e w' => (∃ v, e = .returned v ∧ IntsIs w' w.heap.size v (atA T s)) ∧ Below w.heap.size w w' := by
  obtain ⟨Av, cv, hvb⟩ := own_slice h.row
  obtain ⟨Am, cm, hvm⟩ := own_slice h.mrg
  subst hvb
  subst hvm
  obtain ⟨M, hM⟩ : ∃ M, min s.length 64 = M := ⟨_, rfl⟩
  have hb0 := (Below.refl w.heap.size w).alloc (Nat.le_refl _) (.cells #[.slice Av T.length cv, .slice Am (mrgsT T).length cm] 34)
  have HST : Hid (RAtIs w (w.alloc (.cells #[.slice Av T.length cv, .slice Am (mrgsT T).length cm] 34)) w.heap.size T s M 0 (.slice Av T.length cv) (.slice Am (mrgsT T).length cm) [] none 0) :=
    Lib.hid ⟨blk_new _ _, ⟨base, h.below hb0 (Nat.le_refl _)⟩, own_nil _ _ _ _, rfl, by rw [beg_64 hT s M hM.symm]; rfl, hb0⟩
  have HLE := Lib.hid hlen
  have HSL := Lib.hid hs
  have HDZ : Hid ((bs s).size = s.length) := Lib.hid (bs_size s)
  have HSS : Hid (∀ (n : Nat) W, n ≤ s.length → (Instr.slice 9 (.string (bs s)) none (some (.int .i64 (n : Int))) none).run Tryz.prog W = .ok (strV (s.take n)) W) := Lib.hid (fun n W hn => by
    have h1 := slice_strB (bs s) 0 n W (Nat.zero_le _) (by rw [bs_size]; exact hn)
    have h2 : (bs s).extract 0 n = bs (s.take n) := by
      have h3 := sub_bs s 0 n (Nat.zero_le _)
      rw [Nat.zero_add, Nat.min_eq_left hn, List.drop_zero] at h3
      exact h3
    rw [h2] at h1
    exact h1)
  have HMM := Lib.hid hM
  have hmin : (if (64 : Int) < ((bs s).size : Int) then (64 : Int) else ((bs s).size : Int)) = (M : Int) := by
    rw [bs_size, ← hM]
    split <;> omega
  clear h hT hs hlen hb0 hM
  obtain ⟨Z, hZ⟩ : ∃ Z, bs s = Z := ⟨_, rfl⟩
  rw [hZ] at HDZ HSS hmin
  rw [hZ]
  clear hZ
  go_enter Tryz.func37, Tryz.ntmps37
  go_wp2_with fail
  clear hmin
  obtain ⟨rb, hrb⟩ : ∃ b, w.heap.size = b := ⟨_, rfl⟩
  rw [hrb] at HST ⊢
  have HRB := Lib.hid hrb
  clear hrb
  generalize w.alloc (.cells #[.slice Av T.length cv, .slice Am (mrgsT T).length cm] 34) = w1 at *
  have HML : Hid (M ≤ 64 ∧ M ≤ s.length) := Lib.hid (by have := HMM.out; omega)
  go_loopg [5, 6] M (fun n v i W => ∃ (k : Nat) (L : List Int) (A : Option Addr) (c : Nat), n ≤ M ∧ k + n ≤ M ∧ v = .slice A k c ∧ i = .int .i64 (n : Int) ∧ RAtIs w W rb T s n k (.slice Av T.length cv) (.slice Am (mrgsT T).length cm) L A c)
  case atStart => exact ⟨0, [], none, 0, Nat.le_refl _, by omega, rfl, rfl, HST.out⟩
  case round =>
    obtain ⟨k, L, A, c, hn, hkn, rfl, rfl, hst⟩ := hrel
    obtain ⟨G0, hG0⟩ : ∃ G, G = gk := ⟨_, rfl⟩
    subst hG0
    clear HST
    rename World => W
    have HST := Lib.hid hst
    have HN := Lib.hid (And.intro hn hkn)
    clear hst hn hkn
    rcases G0 with _ | n
    · have g0 : ¬ ((0 : Nat) : Int) > 0 := by omega
      go_wp2_with fail
      go_ret
      have h9 := HST.out.all
      have e0 : begT T s 0 = [] := rfl
      rw [e0, List.reverse_nil, List.append_nil] at h9
      refine ⟨⟨_, rfl, A, c, ?_, ?_⟩, HST.out.blw⟩
      · rw [← h9, HST.out.len]
        rfl
      · rw [← h9, HST.out.len]
        exact HST.out.row
    · have g1 : (0 : Int) < ((n + 1 : Nat) : Int) := by omega
      have wn : IntKind.i64.wrap (((n + 1 : Nat) : Int) - 1) = (n : Int) := by rw [show ((n + 1 : Nat) : Int) - 1 = (n : Int) by omega]; exact IntWalk.i64_in _ (by have := HN.out; have := HML.out; omega)
      obtain ⟨N, hN⟩ : ∃ N, n + 1 = N := ⟨_, rfl⟩
      have HNN := Lib.hid hN
      have hsl := HSS.out N
      have HTK : Hid (N ≤ s.length) := Lib.hid (by have := HN.out; have := HML.out; omega)
      have d0 := blk_cell HST.out.box 0
      have d1 := blk_cell HST.out.box 1
      simp only [List.getElem?_toArray, List.getElem?_cons_zero, List.getElem?_cons_succ] at d0 d1
      rw [hN] at g1 wn ⊢
      have ws : ∀ W, (Instr.slice 9 (.string Z) none (some (.int .i64 (N : Int))) none).run Tryz.prog W = .ok (strV (s.take N)) W := fun W => hsl W HTK.out
      clear hsl hN
      have HF : Hid (∀ V, RAtIs w V rb T s N k (.slice Av T.length cv) (.slice Am (mrgsT T).length cm) L A c → Calls Tryz.prog 82 #[.agg #[.slice Av T.length cv, .slice Am (mrgsT T).length cm], strV (s.take N)] V fun e w' => e = .returned (.int .i64 (findI T (s.take N))) ∧ Below V.heap.size V w') := Lib.hid (fun V hV => by obtain ⟨b, hr⟩ := hV.ref; exact rfind_any (s.take N) hr HLE.out)
      rw [HNN.out] at HST
      go_upto_region 5 with fail
      refine wp_region_held_drew (S := fun V => V.cell? ⟨rb, 0, none⟩ = some (.slice Av T.length cv) ∧ V.cell? ⟨rb, 1, none⟩ = some (.slice Am (mrgsT T).length cm)) (by kernel_rfl) (by exact ⟨d0, d1⟩) (fun hHeld => ?_)
      refine tkH 0 15 ?_ rfl hHeld (.inl ⟨by rfl, ?_⟩) ?_; rotate_left; focus (intro w' hSw; (try dsimp only at hSw); go_simp; (try with_reducible rfl))
      try simp only [sIB, sC0, sCS]
      refine tkH 1 16 ?_ rfl hHeld (.inl ⟨by rfl, ?_⟩) ?_; rotate_left; focus (intro w' hSw; (try dsimp only at hSw); go_simp; (try with_reducible rfl))
      try simp only [sIB, sC0, sCS]
      refine tkH 2 17 ?_ rfl hHeld (.inl ⟨by rfl, ?_⟩) ?_; rotate_left; focus (intro w' hSw; (try dsimp only at hSw); go_simp; (try with_reducible rfl))
      try simp only [sIB, sC0, sCS]
      refine tkH 3 18 ?_ rfl hHeld (.inl ⟨by rfl, ?_⟩) ?_; rotate_left; focus (intro w' hSw; (try dsimp only at hSw); go_simp; (try with_reducible rfl))
      try simp only [sIB, sC0, sCS]
      refine wpAnyH_ready (rs := [4]) (by kernel_rfl) (by simp) ?_
      refine AllReadyH.cons rfl (fun K hK => ?_) AllReadyH.nil
      (try go_simp)
      go_simp; refine (HF.out _ (HST.out.below (Below.refl _ _).drew)).mono ?_; rintro e W6 ⟨rfl, hb⟩; (replace HST := Lib.hid (HST.out.below ((Below.refl _ _).drew.trans hb))); have h := And.intro (below_cell hb (Nat.le_refl _) hHeld.1) (below_cell hb (Nat.le_refl _) hHeld.2); clear hb; go_simp
      go_wp2_with fail
      refine hK.out _ _ h (fun hHeld => ?_)
      clear hK K
      try simp only [Act.put, sIB, sC0, sCS]
      refine tkH 5 7 ?_ rfl hHeld (.inl ⟨by rfl, ?_⟩) ?_; rotate_left; focus (intro w' hSw; (try dsimp only at hSw); go_simp; (try with_reducible rfl))
      try simp only [sIB, sC0, sCS]
      refine wpAnyH_done (by kernel_rfl) ?_ _
      clear d0 d1 h hHeld ws HF
      obtain ⟨fi, hfi⟩ : ∃ z, findI T (s.take N) = z := ⟨_, rfl⟩
      rw [hfi]
      cases hf : findT T (s.take N) with
      | none =>
        have hneg : fi < 0 := by rw [← hfi]; unfold findI; rw [hf]; decide
        have HS2 : Hid (RAtIs w W6 rb T s n k (.slice Av T.length cv) (.slice Am (mrgsT T).length cm) L A c) := Lib.hid (by
          have h9 := HST.out
          rw [← HNN.out] at h9 hf
          exact h9.none hf)
        clear hfi hf HST
        go_wp2_with fail
        go_roundg n
        case measure => omega
        case rel => exact ⟨k, L, A, c, by have := HN.out; omega, by have := HN.out; omega, rfl, rfl, HS2.out⟩
      | some j =>
        have hfj : fi = (j : Int) := by rw [← hfi]; unfold findI; rw [hf]
        have hpos : (0 : Int) ≤ (j : Int) := by omega
        have HALL : Hid ((L ++ [(j : Int)]) ++ (begT T s n).reverse = atA T s) := Lib.hid (by
          have h9 := HST.out.all
          rw [← HNN.out] at h9 hf
          rw [begT_succ, hf] at h9
          simpa using h9)
        have HKB : Hid (k ≤ 64 ∧ w.heap.size ≤ W6.heap.size) := Lib.hid ⟨by have := HN.out; have := HML.out; omega, HST.out.blw.size⟩
        subst hfj
        clear hfi hf
        go_wp2_with (at_builtin; refine app_one (w.heap.size) 48 3 (.int .i64 0) 1 8 [_] 1 _ _ rfl rfl Tryz.underlying48 info_int5 rfl (by decide) _ _ _ rfl rfl rfl (by intro u hu; simp at hu; subst hu; rfl) HST.out.row (by have := HKB.out; omega) (by have := HKB.out; omega) HKB.out.2 ?_)
        intro v' W8 hown hg8
        have hk8 : Keep (fun g => (Value.slice A k c).ownBlock = some g) W6 W8 := Keep.of_grown hg8 (fun g hg => hg)
        obtain ⟨A8, c8, rfl⟩ := own_slice hown
        have HS2 : Hid (RAtIs w W8 rb T s n (k + 1) (.slice Av T.length cv) (.slice Am (mrgsT T).length cm) (L ++ [(j : Int)]) A8 c8) := Lib.hid (by
          have h9 := HST.out
          have hrow := h9.row
          have hlo := fun x hx => own_base hrow x hx
          refine ⟨hk8.blk h9.box (fun e => ?_), ?_, by rw [List.map_append]; exact hown, by rw [List.length_append, h9.len]; rfl, HALL.out, h9.blw.trans (hk8.below h9.blw.size hlo)⟩
          · exact row_off hrow h9.box (by decide) _ e rfl
          · obtain ⟨b, hr⟩ := h9.ref
            exact ⟨b, own_keep hr.row hk8 (fun x hx e => by
              obtain ⟨cs, fz, h1⟩ := row_tag hr.row hx
              exact row_off hrow h1 (by decide) _ e rfl), own_keep hr.mrg hk8 (fun x hx e => by
              obtain ⟨cs, fz, h1⟩ := row_tag hr.mrg hx
              exact row_off hrow h1 (by decide) _ e rfl), hr.nil⟩)
        clear hown hg8 hk8 HST
        go_wp2_with fail
        go_roundg n
        case measure => omega
        case rel => exact ⟨k + 1, L ++ [(j : Int)], A8, c8, by have := HN.out; omega, by have := HN.out; omega, rfl, rfl, HS2.out⟩
structure RsIs (W : World) (base : Nat) (v : Value) (L : List (List Int)) (vals : List Value) : Prop where
  row : W.ownsRow base 48 1 v L.length vals
  at' : ∀ (i : Nat) (D : List Int), L[i]? = some D → ∃ u, vals[i]? = some u ∧ IntsIs W base u D
section
variable {w w' W W' : World} {base b : Nat} {v : Value} {L : List (List Int)} {vals : List Value}
theorem RsIs.nil (W : World) (base : Nat) : RsIs W base (.slice none 0 0) [] [] := ⟨own_nil _ _ _ _, fun i D h => by simp at h⟩
theorem RsIs.below (h : RsIs W base v L vals) {B : Nat} (hb : Below B W W') (hB : W.heap.size ≤ B) : RsIs W' base v L vals :=
  ⟨own_below h.row hb hB, fun i D hi => by obtain ⟨u, h1, h2⟩ := h.at' i D hi; exact ⟨u, h1, ints_below h2 hb hB⟩⟩
theorem RsIs.less (h : RsIs W b v L vals) (hle : base ≤ b) : RsIs W base v L vals := ⟨own_less h.row hle, fun i D hi => by obtain ⟨u, h1, h2⟩ := h.at' i D hi; exact ⟨u, h1, ints_less h2 hle⟩⟩
theorem RsIs.keepT (h : RsIs W base v L vals) {g : Nat} {cs : Array Value} {t : TypeId} {fz : Nat × Nat} (hg : W.heap[g]? = some (.cells cs t fz)) (h1 : 48 ≠ t) (h2 : 3 ≠ t) (k : Keep (fun x => x = g) W W') : RsIs W' base v L vals :=
  ⟨own_keep h.row k (row_off h.row hg h1), fun i D hi => by
    obtain ⟨u, q1, A, c, rfl, q2⟩ := h.at' i D hi
    exact ⟨_, q1, A, c, rfl, own_keep q2 k (row_off q2 hg h2)⟩⟩
theorem RsIs.grow {v' u : Value} {D : List Int} (h : RsIs W base v L vals) (hk : Keep (fun g => v.ownBlock = some g) W W') (ho : W'.ownsRow base 48 1 v' (L.length + 1) (vals ++ [u])) (hu : IntsIs W base u D) : RsIs W' base v' (L ++ [D]) (vals ++ [u]) := by
  have hl : vals.length = L.length := by have := h.row.1; simpa using this
  have hoff : ∀ (x : Value) (E : List Int), IntsIs W base x E → IntsIs W' base x E := fun x E hx => by
    obtain ⟨A, c, rfl, q⟩ := hx
    refine ⟨A, c, rfl, own_keep q hk (fun g hg e => ?_)⟩
    obtain ⟨cs, fz, h1⟩ := row_tag h.row e
    exact row_off q h1 (by decide) g hg rfl
  refine ⟨by rw [List.length_append]; exact ho, fun i E hi => ?_⟩
  by_cases hlt : i < L.length
  · rw [List.getElem?_append_left hlt] at hi
    obtain ⟨x, q1, q2⟩ := h.at' i E hi
    exact ⟨x, by rw [List.getElem?_append_left (by omega)]; exact q1, hoff x E q2⟩
  · rw [List.getElem?_append_right (by omega)] at hi
    have hi0 : i - L.length = 0 := by
      rcases Nat.eq_zero_or_pos (i - L.length) with h0 | h0
      · exact h0
      · rw [List.getElem?_eq_none (by simp; omega)] at hi; cases hi
    rw [hi0] at hi
    simp at hi
    subst hi
    refine ⟨u, ?_, hoff u _ hu⟩
    rw [List.getElem?_append_right (by omega), hl, hi0]
    rfl
theorem RsIs.slice (h : RsIs W base v L vals) : ∃ A c, v = .slice A L.length c := own_slice h.row
theorem RsIs.cell {A : Option Addr} {c i : Nat} {D : List Int} (h : RsIs W base (.slice A L.length c) L vals) (hi : L[i]? = some D) : ∃ g A2 c2, A = some ⟨g, 0, none⟩ ∧ W.cell? ⟨g, i, none⟩ = some (.slice A2 D.length c2) ∧ IntsIs W base (.slice A2 D.length c2) D := by
  obtain ⟨u, h1, h2⟩ := h.at' i D hi
  have hlt := (List.getElem?_eq_some_iff.1 hi).1
  obtain ⟨g, cap, e, _, _, hc⟩ := own_open h.row (by omega)
  injection e with e1 e2 e3
  subst e1
  have h9 := h2
  obtain ⟨A2, c2, rfl, _⟩ := h2
  exact ⟨g, A2, c2, rfl, (hc i _ h1).1, h9⟩
end
theorem slice_strD (s : List UInt8) (a : Nat) (w : World) (h1 : a ≤ s.length) : (Instr.slice 9 (.string (bs s)) (some (.int .i64 (a : Int))) none none).run Tryz.prog w = .ok (.string (bs (s.drop a))) w := by
  have h2 : (bs s).extract a (bs s).size = bs (s.drop a) := by
    rw [extract_bs]
    show bs ((s.drop a).take ((bs s).size - a)) = _
    rw [bs_size, List.take_of_length_le (by rw [List.length_drop]; exact Nat.le_refl _)]
  rw [← h2]
  have hz : a ≤ (bs s).size := by rw [bs_size]; exact h1
  generalize bs s = Z at *
  have p2 : (a : Int) ≤ (Z.size : Int) := by omega
  have p3 : ¬ (Z.size : Int) < (a : Int) := by omega
  simp [go_sem, hz, p2, p3]
structure RFI (w W : World) (rb : Nat) (T : List Ent) (vb vm : Value) (A8 : Option Addr) (c8 : Nat) (l : List Int) (out : Value) (L : List (List Int)) (vals : List Value) : Prop where
  box : W.heap[rb]? = some (.cells #[vb, vm] 34)
  ref : ∃ b, RefIs W b T vb vm
  ids : ∃ b, IntsIs W b (.slice A8 l.length c8) l
  out : RsIs W w.heap.size out L vals
  blw : Below w.heap.size w W
theorem RFI.below {w W W' : World} {rb : Nat} {T : List Ent} {vb vm : Value} {A8 : Option Addr} {c8 : Nat} {l : List Int} {out : Value} {L : List (List Int)} {vals : List Value} (h : RFI w W rb T vb vm A8 c8 l out L vals) (hb : Below W.heap.size W W') : RFI w W' rb T vb vm A8 c8 l out L vals :=
  ⟨blk_below hb (blk_lt h.box) h.box, by obtain ⟨b, hr⟩ := h.ref; exact ⟨b, hr.below hb (Nat.le_refl _)⟩, by obtain ⟨b, hr⟩ := h.ids; exact ⟨b, ints_below hr hb (Nat.le_refl _)⟩, h.out.below hb (Nat.le_refl _), h.blw.trans (hb.mono h.blw.size)⟩
theorem RFI.app {w W W' : World} {rb : Nat} {T : List Ent} {vb vm : Value} {A8 : Option Addr} {c8 : Nat} {l : List Int} {out v' u : Value} {L : List (List Int)} {vals : List Value} {D : List Int} (h : RFI w W rb T vb vm A8 c8 l out L vals) (hk : Keep (fun g => out.ownBlock = some g) W W')
    (ho : W'.ownsRow w.heap.size 48 1 v' (L.length + 1) (vals ++ [u])) (hu : IntsIs W w.heap.size u D) : RFI w W' rb T vb vm A8 c8 l v' (L ++ [D]) (vals ++ [u]) := by
  have hoff : ∀ {b n sz : Nat} {e : TypeId} {x : Value} {xs : List Value}, W.ownsRow b e sz x n xs → e ≠ 48 → W'.ownsRow b e sz x n xs := fun ho2 he => own_keep ho2 hk (fun g hg e2 => by
    obtain ⟨cs, fz, h1⟩ := row_tag h.out.row e2
    exact row_off ho2 h1 he g hg rfl)
  refine ⟨hk.blk h.box (fun e => row_off h.out.row h.box (by decide) _ e rfl), ?_, ?_, h.out.grow hk ho hu, h.blw.trans (hk.below h.blw.size (own_base h.out.row))⟩
  · obtain ⟨b, hr⟩ := h.ref
    exact ⟨b, hoff hr.row (by decide), hoff hr.mrg (by decide), hr.nil⟩
  · obtain ⟨b, A, c, e, hr⟩ := h.ids
    exact ⟨b, A, c, e, hoff hr (by decide)⟩
structure RFR (W : World) (br er : Nat) (A6 : Option Addr) (c6 : Nat) (R : List (List Int)) (rvals : List Value) : Prop where
  rows : RsIs W br (.slice A6 R.length c6) R rvals
  lt : ∀ g, (Value.slice A6 R.length c6).ownBlock = some g → br ≤ g ∧ g < er
theorem RFR.below {W W' : World} {br er : Nat} {A6 : Option Addr} {c6 : Nat} {R : List (List Int)} {rvals : List Value} (h : RFR W br er A6 c6 R rvals) (hb : Below W.heap.size W W') : RFR W' br er A6 c6 R rvals := ⟨h.rows.below hb (Nat.le_refl _), h.lt⟩
theorem RFR.app {W W' : World} {base br er : Nat} {A6 : Option Addr} {c6 : Nat} {R L : List (List Int)} {rvals vals : List Value} {out : Value} (h : RFR W br er A6 c6 R rvals) (ho : RsIs W base out L vals) (hoff : ∀ g, out.ownBlock = some g → g < br ∨ er ≤ g) (hk : Keep (fun g => out.ownBlock = some g) W W') : RFR W' br er A6 c6 R rvals := by
  refine ⟨⟨own_keep h.rows.row hk (fun g hg e => by
    have := h.lt g hg
    have := hoff g e
    omega), fun i D hi => ?_⟩, h.lt⟩
  obtain ⟨u, q1, A, c, rfl, q2⟩ := h.rows.at' i D hi
  exact ⟨_, q1, A, c, rfl, own_keep q2 hk (fun g hg e2 => by
    obtain ⟨cs, fz, h1⟩ := row_tag ho.row e2
    exact row_off q2 h1 (by decide) g hg rfl)⟩
theorem nbs_toList (l : List UInt8) : (bs l).toList = l := by rw [ByteArray.toList_eq]; rfl
theorem nbs_size (l : List UInt8) : (bs l).size = l.length := by simp [bs, ByteArray.size]
structure PrsIs (w W : World) (r : Nat) (s : Value) (acc : Nat) : Prop where
  below : Below w.heap.size w W
  c0 : W.heap[r]? = some (.cells #[.slice none 0 0] 59)
  c1 : W.heap[r + 1]? = some (.cells #[s] 59)
  sl : ∀ x : Nat, s ≠ u32V x
  nat : NatIs W (.agg #[s]) acc
theorem PrsIs.step {w W V : World} {r : Nat} {s : Value} {acc : Nat} (h : PrsIs w W r s acc) (hb : Below W.heap.size W V) : PrsIs w V r s acc :=
  ⟨h.below.trans (hb.mono h.below.size), blk_below hb (blk_lt h.c0) h.c0, blk_below hb (blk_lt h.c1) h.c1, h.sl, h.nat.below hb (Nat.le_refl _)⟩
def DecIs (w : World) (v : Value) (n : Nat) : Prop := ∃ A c, v = .slice A (dg 10 n).length c ∧ Sl1 w A u8V (dg 10 n) ∧ (dg 10 n).length ≤ c
theorem DecIs.below {w w' : World} {v : Value} {n : Nat} (h : DecIs w v n) {B : Nat} (hb : Below B w w') (hB : w.heap.size ≤ B) : DecIs w' v n := by
  obtain ⟨A, c, rfl, h1, h2⟩ := h
  exact ⟨A, c, rfl, h1.below hb hB, h2⟩
theorem DecIs.zero (w : World) : DecIs w (.slice none 0 0) 0 := ⟨none, 0, by rw [dg_zero]; rfl, by rw [dg_zero]; exact Sl1.nil _ _ _, by rw [dg_zero]; exact Nat.le_refl _⟩
theorem rtrim_at (l : List Nat) (A : Option Addr) (c : Nat) (w : World) (h : Sl1 w A u8V l) (hc : l.length ≤ c) (hb : ∀ x ∈ l, x < 10) (hlen : l.length < 1000000000000000000) :
    Calls Tryz.prog 113 #[.slice A l.length c] w fun e w' => ∃ v, e = .returned v ∧ DecIs w v (vl 10 l) ∧ w' = w ∧ ∃ n c', v = .slice A n c' := by
  have HL := Lib.hid h
  have HB := Lib.hid hb
  clear h hb
  go_enter Tryz.func113, Tryz.ntmps113
  go_wp2_with fail
  go_loopg [3] l.length (fun m v W => ∃ k : Nat, k = m ∧ v = .int .i64 (k : Int) ∧ k ≤ l.length ∧ (∀ i, k ≤ i → atL l i = 0) ∧ W = w)
  case atStart => exact ⟨l.length, rfl, rfl, Nat.le_refl _, fun i hi => atL_ge hi, rfl⟩
  case round =>
    obtain ⟨k, rfl, rfl, hk, hz, rfl⟩ := hrel
    rename World => W1
    have HZ := Lib.hid hz
    clear hz
    rcases Nat.eq_zero_or_pos k with rfl | hk0
    · have hE : (dg 10 (vl 10 l)) = [] := by rw [trim_dg (by decide) l HB.out 0 (Nat.zero_le _) HZ.out (Or.inl rfl)]; rfl
      have HE : Hid (∀ n c', n = 0 → DecIs W1 (.slice A n c') (vl 10 l)) := Lib.hid (fun n c' hn => by
        subst hn
        exact ⟨A, c', by rw [hE]; rfl, by rw [hE]; exact Sl1.nil _ _ _, by rw [hE]; exact Nat.zero_le _⟩)
      clear hE
      have hcc : (0 : Int) ≤ (c : Int) := by omega
      go_wp2_with fail
      go_ret
      exact ⟨_, rfl, HE.out _ _ rfl, rfl, _, _, rfl⟩
    · obtain ⟨j, rfl⟩ : ∃ j, k = j + 1 := ⟨k - 1, by omega⟩
      obtain ⟨b, o, rfl, hcell'⟩ := HL.out.at j (by omega)
      have j0 : (0 : Int) ≤ (j : Int) := by omega
      have j1 : (j : Int) < (l.length : Int) := by omega
      have wk : IntKind.i64.wrap ((j : Int) + 1 - 1) = (j : Int) := by rw [IntWalk.i64_in _ (by omega)]; omega
      have HAJ := Lib.hid (atL_get (l := l) (i := j) (by omega))
      unfold u8V at hcell'
      generalize l[j] = x at *
      by_cases hx : x = 0
      · subst hx
        go_wp2_with fail
        go_roundg j
        case measure => omega
        case rel => exact ⟨j, rfl, rfl, by omega, fun i hi => by
          rcases Nat.eq_or_lt_of_le hi with e | e
          · rw [← e]; exact HAJ.out
          · exact HZ.out i (by omega), rfl⟩
      · have hx' : ¬ (x : Int) = 0 := by omega
        have hE : dg 10 (vl 10 l) = l.take (j + 1) := trim_dg (by decide) l HB.out (j + 1) hk HZ.out (Or.inr (by rw [Nat.add_sub_cancel, HAJ.out]; exact hx))
        have hln : (l.take (j + 1)).length = j + 1 := by rw [List.length_take, Nat.min_eq_left hk]
        have HE : Hid (∀ n, n = j + 1 → DecIs W1 (.slice (some ⟨b, o, none⟩) n c) (vl 10 l)) := Lib.hid (fun n hn => by
          subst hn
          exact ⟨some ⟨b, o, none⟩, c, by rw [hE, hln], by rw [hE]; exact HL.out.take _, by rw [hE, hln]; omega⟩)
        clear hE hln
        have hkc : ((j : Int) + 1) ≤ (c : Int) := by omega
        go_wp2_with fail
        go_ret
        exact ⟨_, rfl, HE.out _ rfl, rfl, _, _, rfl⟩
structure SmIs (w W : World) (n : Nat) (out : List Nat) (A : Option Addr) (c m : Nat) : Prop where
  row : W.ownsRow w.heap.size 5 1 (.slice A out.length c) out.length (out.map u8V)
  below : Below w.heap.size w W
  val : dg 10 n = out ++ dg 10 m
  le : m ≤ n
set_option maxHeartbeats 4000000 in
theorem small_any (n : Nat) (w : World) (hn : n < 18446744073709551616) :
    Calls Tryz.prog 80 #[.int .u64 (n : Int)] w fun e w' => ∃ v, e = .returned v ∧ DecIs w' v n ∧ Below w.heap.size w w' := by
  have HI : Hid (SmIs w w n [] none 0 n) := Lib.hid ⟨own_nil _ _ _ _, Below.refl _ _, rfl, Nat.le_refl _⟩
  have HL : Hid ((dg 10 n).length ≤ 20) := Lib.hid (dg_len_le (by decide) (Nat.lt_trans hn (by decide)))
  go_enter Tryz.func80, Tryz.ntmps80
  go_wp2_with fail
  go_loopg [0, 3] n (fun ms v0 v3 W => ∃ (m : Nat) (out : List Nat) (A : Option Addr) (c : Nat), m = ms ∧ v0 = .int .u64 (m : Int) ∧ v3 = .slice A out.length c ∧ SmIs w W n out A c m)
  case atStart => exact ⟨n, [], none, 0, rfl, rfl, rfl, HI.out⟩
  case round =>
    obtain ⟨m, out, A, c, rfl, rfl, rfl, hW⟩ := hrel
    rename World => W
    clear HI
    have HW := Lib.hid hW
    have hle := hW.le
    have hol : out.length ≤ 20 := by have h1 := congrArg List.length hW.val; rw [List.length_append] at h1; have := HL.out; omega
    clear hW
    by_cases hm : 0 < m
    · have hm' : (0 : Int) < (m : Int) := by omega
      obtain ⟨d, hd⟩ : ∃ d, m % 10 = d := ⟨_, rfl⟩
      obtain ⟨q, hq⟩ : ∃ q, m / 10 = q := ⟨_, rfl⟩
      have e0 : (m : Int) % 10 = (d : Int) := by omega
      have e1 : (m : Int) / 10 = (q : Int) := by omega
      have e2 : (d : Int) % 256 = (d : Int) := by omega
      have w1 : IntKind.u64.wrap (q : Int) = (q : Int) := IntWalk.u64_in _ (by omega)
      have hqm : q < m := by omega
      have hst := dg_step hm out n HW.out.val
      rw [hd, hq] at hst
      have HST := Lib.hid hst
      have HRW := Lib.hid HW.out.row
      have HSZ := Lib.hid HW.out.below.size
      clear hd hq hst
      go_wp2_with (at_builtin; refine app_one (w.heap.size) 77 5 (.int .u8 0) 1 1 [_] 1 _ _ rfl rfl Tryz.underlying77 ninfo_u8 rfl (by decide) _ _ _ rfl rfl rfl (by intro u hu; simp at hu; subst hu; rfl) HRW.out (by omega) (by omega) HSZ.out ?_)
      intro v' w9 hown hg9
      have hk9 : Keep (fun g => (Value.slice A out.length c).ownBlock = some g) W w9 := Keep.of_grown hg9 (fun g hg => hg)
      obtain ⟨A9, c9, rfl⟩ := own_slice hown
      have HN9 : Hid (SmIs w w9 n (out ++ [d]) A9 c9 q) := Lib.hid (by
        refine ⟨by rw [List.map_append, List.length_append]; exact hown, HW.out.below.trans (hk9.below HW.out.below.size (own_base HRW.out)), HST.out, by omega⟩)
      clear hown hg9 hk9
      go_wp2_with fail
      go_roundg q
      case measure => exact hqm
      case rel => exact ⟨q, _, A9, c9, rfl, rfl, by simp, HN9.out⟩
    · have hm' : ¬ (0 : Int) < (m : Int) := by omega
      have HV : Hid (DecIs W (.slice A out.length c) n) := Lib.hid (by
        have h := HW.out.val
        rw [show m = 0 by omega, dg_zero, List.append_nil] at h
        exact ⟨A, c, by rw [h], by rw [h]; exact own_sl1 HW.out.row, by rw [h]; exact own_len HW.out.row⟩)
      go_wp2_with fail
      go_ret
      exact ⟨_, rfl, HV.out, HW.out.below⟩
def txt (l : List Nat) : ByteArray := bs (l.reverse.map fun d => UInt8.ofNat (d + 48))
theorem bs_app (a b : List UInt8) : bs a ++ bs b = bs (a ++ b) := by
  apply ByteArray.ext
  simp [bs, ByteArray.data_append]
theorem txt_snoc (l : List Nat) (x : Nat) : bs [UInt8.ofNat (x + 48)] ++ txt l = txt (l ++ [x]) := by
  unfold txt; rw [bs_app]; simp
theorem txt_dec (n : Nat) (h : 0 < n) : txt (dg 10 n) = decS n := by
  unfold txt decS decB
  rw [if_neg (by omega)]
  simp [List.map_map, Function.comp_def]
set_option maxHeartbeats 4000000 in
theorem print_any (v : Value) (n : Nat) (w : World) (h1 : DecIs w v n) (hl : (dg 10 n).length ≤ 1000000000000000) :
    Calls Tryz.prog 39 #[v] w fun e w' => e = .returned (.string (decS n)) ∧ Below w.heap.size w w' := by
  obtain ⟨A1, c1, rfl, s1, k1⟩ := h1
  have HD := Lib.hid (dg_lt (b := 10) (by decide) n)
  have HTX := Lib.hid (fun h => txt_dec n h)
  have HNE := Lib.hid (fun (h : 0 < n) => dg_ne_nil (b := 10) (by decide) h)
  have HZ : Hid (n = 0 → dg 10 n = []) := Lib.hid (by rintro rfl; exact dg_zero 10)
  have HS1 := Lib.hid s1
  clear s1 k1
  generalize dg 10 n = l at *
  have hE : txt ([] : List Nat) = ⟨#[]⟩ := rfl
  go_enter Tryz.func39, Tryz.ntmps39
  go_wp2_with fail
  go_loopg [3, 4] l.length (fun m v3 v4 W => ∃ k : Nat, k + m = l.length ∧ v4 = .int .i64 (k : Int) ∧ v3 = .string (txt (l.take k)) ∧ Below w.heap.size w W)
  case atStart => exact ⟨0, by omega, rfl, rfl, Below.refl _ _⟩
  case round =>
    obtain ⟨k, hk, rfl, rfl, hB⟩ := hrel
    rename World => W
    have HB := Lib.hid hB
    clear hB hE
    by_cases hlt : k < l.length
    · have hlt' : (k : Int) < (l.length : Int) := by omega
      have k0 : (0 : Int) ≤ (k : Int) := by omega
      obtain ⟨b1, o1, rfl, hcc1⟩ := HS1.out.at k hlt
      have hcc := below_cell HB.out (Nat.le_refl _) hcc1
      have hx : l[k] < 10 := HD.out _ (List.getElem_mem _)
      have htx := txt_snoc (l.take k) l[k]
      rw [← take_snoc hlt] at htx
      unfold u8V at hcc
      generalize l[k] = x at *
      obtain ⟨y, hy⟩ : ∃ y, x + 48 = y := ⟨_, rfl⟩
      rw [hy] at htx
      have hcv : (convert 70 9 (.slice (some ⟨W.heap.size, 0, none⟩) 1 1)).run Tryz.prog (W.alloc (.cells #[.int .u8 (48 + (x : Int))] 5)) = .ok (.string (bs [UInt8.ofNat y])) (W.alloc (.cells #[.int .u8 (48 + (x : Int))] 5)) := by
        refine run_convert_bytes_back (P := Tryz.prog) _ 70 9 5 ⟨W.heap.size, 0, none⟩ 1 [UInt8.ofNat y] Tryz.underlying70 Tryz.underlying5 Tryz.underlying9 ?_
        intro j hj
        have hj0 : j = 0 := by simpa using hj
        subst hj0
        rw [add_plain, (cell_facts (blk_new W _)).1]
        simp
        omega
      have HB5 := Lib.hid (HB.out.alloc HB.out.size (.cells #[.int .u8 (48 + (x : Int))] 5))
      have HTT := Lib.hid htx
      have wk : IntKind.i64.wrap ((k : Int) + 1) = (k : Int) + 1 := IntWalk.i64_in _ (by omega)
      clear hcc1 htx hy
      have hts : (txt (l.take k)).size ≤ 1000000000000000 := by unfold txt; rw [nbs_size]; simp; omega
      have hts1 : (bs [UInt8.ofNat y]).size ≤ 1 := by rw [nbs_size]; simp
      have hts2 : (bs [UInt8.ofNat y]).size + (txt (l.take k)).size ≤ 9223372036854775807 := by omega
      generalize bs [UInt8.ofNat y] = t1 at *
      generalize txt (l.take k) = t0 at *
      go_wp2_with fail
      go_roundg (gk - 1)
      case measure => omega
      case rel => exact ⟨k + 1, by omega, by simp, by rw [HTT.out], HB5.out⟩
    · have hke : k = l.length := by omega
      have hlt' : ¬ (k : Int) < (l.length : Int) := by omega
      rw [List.take_of_length_le (by omega)]
      clear hke
      rcases Nat.eq_zero_or_pos n with hn | hn
      · have hl0 := HZ.out hn
        have HE : Hid (decS n = ⟨#[48]⟩) := Lib.hid (by rw [hn]; rfl)
        have ht : (txt l).toList = [] := by rw [hl0]; exact nbs_toList []
        clear hl0 hn
        generalize txt l = t0 at *
        go_wp2_with fail
        go_ret
        exact ⟨by rw [HE.out]; rfl, HB.out⟩
      · have HE := Lib.hid (HTX.out hn)
        have ht : ¬ (txt l).toList = [] := by
          unfold txt
          rw [nbs_toList]
          simp
          exact HNE.out hn
        have ht2 : (txt l).toList.isEmpty = false := by cases h : (txt l).toList with | nil => exact absurd h ht | cons a b => rfl
        generalize txt l = t0 at *
        clear hn
        go_wp2_with fail
        go_ret
        exact ⟨by rw [← HE.out]; rfl, HB.out⟩
structure nRAdd (w W : World) (l1 l2 : List Nat) (N : Nat) (out : List Nat) (A : Option Addr) (c k cy : Nat) : Prop where
  row : W.ownsRow w.heap.size 5 1 (.slice A k c) k (out.map u8V)
  below : Below w.heap.size w W
  len : out.length = k
  lt : ∀ x ∈ out, x < 10
  cyb : cy ≤ 1
  kb : k ≤ N + 1
  kc : N < k → cy = 0
  val : vl 10 out + 10 ^ k * cy = vl 10 (l1.take k) + vl 10 (l2.take k)
set_option maxHeartbeats 16000000 in
theorem radd_at (v1 v2 : Value) (n1 n2 : Nat) (w : World) (h1 : DecIs w v1 n1) (h2 : DecIs w v2 n2) (hl1 : (dg 10 n1).length ≤ 1000000000) (hl2 : (dg 10 n2).length ≤ 1000000000) :
    Calls Tryz.prog 81 #[v1, v2] w fun e w' => ∃ v, e = .returned v ∧ DecIs w' v (n1 + n2) ∧ Below w.heap.size w w' ∧ ∀ A n c, v = .slice A n c → ∀ a, A = some a → w.heap.size ≤ a.block ∧ a.block < w'.heap.size := by
  obtain ⟨A1, c1, rfl, s1, k1⟩ := h1
  obtain ⟨A2, c2, rfl, s2, k2⟩ := h2
  have HD1 := Lib.hid (dg_lt (b := 10) (by decide) n1)
  have HD2 := Lib.hid (dg_lt (b := 10) (by decide) n2)
  have HV1 := Lib.hid (vl_dg (b := 10) (by decide) n1)
  have HV2 := Lib.hid (vl_dg (b := 10) (by decide) n2)
  have HS1 := Lib.hid s1
  have HS2 := Lib.hid s2
  clear s1 s2 k1 k2
  generalize dg 10 n1 = l1 at *
  generalize dg 10 n2 = l2 at *
  obtain ⟨N, hN⟩ : ∃ N, max l1.length l2.length = N := ⟨_, rfl⟩
  have HN : Hid (l1.length ≤ N ∧ l2.length ≤ N ∧ N ≤ 1000000000 ∧ (N = l1.length ∨ N = l2.length)) := Lib.hid (by omega)
  clear hN
  have HI : Hid (nRAdd w w l1 l2 N [] none 0 0 0) := Lib.hid ⟨own_nil _ _ _ _, Below.refl _ _, rfl, by simp, by omega, by omega, by omega, by simp [vl]⟩
  go_enter Tryz.func81, Tryz.ntmps81
  go_wp2_with fail
  go_loopg [5, 6, 7] (N + 2) (fun ms v5 v6 v7 W => ∃ (k cy : Nat) (out : List Nat) (A : Option Addr) (c : Nat), k + ms = N + 2 ∧ v7 = .int .i64 (k : Int) ∧ v5 = .slice A k c ∧ v6 = .int .i64 (cy : Int) ∧ nRAdd w W l1 l2 N out A c k cy)
  case atStart => exact ⟨0, 0, [], none, 0, by omega, rfl, rfl, rfl, HI.out⟩
  case round =>
    obtain ⟨k, cy, out, A, c, hms, rfl, rfl, rfl, hW⟩ := hrel
    rename World => W
    clear HI
    have HW := Lib.hid hW
    have hcyb := hW.cyb
    have hkb' := hW.kb
    have hkc' := hW.kc
    clear hW
    have k0 : (0 : Int) ≤ (k : Int) := by omega
    have hN' := HN.out
    by_cases h1 : k < l1.length
    · by_cases h2 : k < l2.length
      · obtain ⟨b1, o1, rfl, hcc1⟩ := HS1.out.at k h1
        have hce1 := below_cell HW.out.below (Nat.le_refl _) hcc1
        have hxe1 := atL_get h1
        have hx1 : l1[k] < 10 := HD1.out _ (List.getElem_mem _)
        generalize l1[k] = x at *
        unfold u8V at hce1
        have HX1 := Lib.hid hxe1
        have hi1 : (k : Int) < (l1.length : Int) := by omega
        clear hxe1 hcc1
        obtain ⟨b2, o2, rfl, hcc2⟩ := HS2.out.at k h2
        have hce2 := below_cell HW.out.below (Nat.le_refl _) hcc2
        have hxe2 := atL_get h2
        have hx2 : l2[k] < 10 := HD2.out _ (List.getElem_mem _)
        generalize l2[k] = y at *
        unfold u8V at hce2
        have HX2 := Lib.hid hxe2
        have hi2 : (k : Int) < (l2.length : Int) := by omega
        clear hxe2 hcc2
        obtain ⟨t, ht⟩ : ∃ t, cy + x = t := ⟨_, rfl⟩
        obtain ⟨s, hs0⟩ : ∃ s, t + y = s := ⟨_, rfl⟩
        have hs : s = x + y + cy := by omega
        have wa : IntKind.i64.wrap ((cy : Int) + (x : Int)) = (t : Int) := by rw [IntWalk.i64_in _ (by omega)]; omega
        have wb : IntKind.i64.wrap ((t : Int) + (y : Int)) = (s : Int) := by rw [IntWalk.i64_in _ (by omega)]; omega
        have wc : IntKind.i64.wrap (x : Int) = (x : Int) := IntWalk.i64_in _ (by omega)
        have wd : IntKind.i64.wrap (y : Int) = (y : Int) := IntWalk.i64_in _ (by omega)
        clear ht hs0
        obtain ⟨xm, hxm⟩ : ∃ xm, s % 10 = xm := ⟨_, rfl⟩
        obtain ⟨q, hq⟩ : ∃ q, s / 10 = q := ⟨_, rfl⟩
        have hsl : s ≤ 19 := by omega
        have e0 : (s : Int) % 10 = (xm : Int) := by omega
        have e1 : (s : Int) / 10 = (q : Int) := by omega
        have e0' : (s : Int).tmod 10 = (xm : Int) := by rw [Int.tmod_eq_emod_of_nonneg (by omega)]; exact e0
        have e1' : (s : Int).tdiv 10 = (q : Int) := by rw [Int.tdiv_eq_ediv_of_nonneg (by omega)]; exact e1
        have e2 : (xm : Int) % 256 = (xm : Int) := by omega
        have w1 : IntKind.i64.wrap (q : Int) = (q : Int) := IntWalk.i64_in _ (by omega)
        have hxml : xm < 10 := by omega
        have hql : q ≤ 1 := by omega
        have hkb2 : k + 1 ≤ N + 1 := by omega
        have hkc2 : N < k + 1 → q = 0 := by omega
        have HP := Lib.hid (And.intro hs (And.intro hxm hq))
        have HSZ := Lib.hid HW.out.below.size
        have HRW := Lib.hid HW.out.row
        have HK2 := Lib.hid (And.intro hkb2 hkc2)
        clear hs hxm hq hkb' hkc' hkb2 hkc2
        go_wp2_with (at_builtin; refine app_one (w.heap.size) 77 5 (.int .u8 0) 1 1 [_] 1 _ _ rfl rfl Tryz.underlying77 ninfo_u8 rfl (by decide) _ _ _ rfl rfl rfl (by intro u hu; simp at hu; subst hu; rfl) HRW.out (by omega) (by omega) HSZ.out ?_)
        intro v' w9 hown hg9
        have hk9 : Keep (fun g => (Value.slice A k c).ownBlock = some g) W w9 := Keep.of_grown hg9 (fun g hg => hg)
        obtain ⟨A9, c9, rfl⟩ := own_slice hown
        have HN9 : Hid (nRAdd w w9 l1 l2 N (out ++ [xm]) A9 c9 (k + 1) q) := Lib.hid (by
          refine ⟨by rw [List.map_append]; exact hown, HW.out.below.trans (hk9.below HW.out.below.size (own_base HRW.out)), by rw [List.length_append, HW.out.len]; rfl, ?_, hql, HK2.out.1, HK2.out.2, ?_⟩
          · intro z hz
            rcases List.mem_append.1 hz with hz | hz
            · exact HW.out.lt z hz
            · simp at hz; subst hz; exact hxml
          · rw [vl_snoc, HW.out.len, vl_take_succ, vl_take_succ, HX1.out, HX2.out]
            exact plus_step (B := 10) HP.out.1 HP.out.2.1.symm HP.out.2.2.symm HW.out.val)
        clear hown hg9 hk9
        have wk : IntKind.i64.wrap ((k : Int) + 1) = (k : Int) + 1 := IntWalk.i64_in _ (by omega)
        go_wp2_with fail
        go_roundg (gk - 1)
        case measure => omega
        case rel => exact ⟨k + 1, q, _, A9, c9, by omega, by simp, rfl, rfl, HN9.out⟩
      · obtain ⟨b1, o1, rfl, hcc1⟩ := HS1.out.at k h1
        have hce1 := below_cell HW.out.below (Nat.le_refl _) hcc1
        have hxe1 := atL_get h1
        have hx1 : l1[k] < 10 := HD1.out _ (List.getElem_mem _)
        generalize l1[k] = x at *
        unfold u8V at hce1
        have HX1 := Lib.hid hxe1
        have hi1 : (k : Int) < (l1.length : Int) := by omega
        clear hxe1 hcc1
        have HX2 := Lib.hid (atL_ge (l := l2) (i := k) (by omega))
        have hi2 : ¬ (k : Int) < (l2.length : Int) := by omega
        obtain ⟨s, hs0⟩ : ∃ s, cy + x = s := ⟨_, rfl⟩
        have hs : s = x + 0 + cy := by omega
        have wa : IntKind.i64.wrap ((cy : Int) + (x : Int)) = (s : Int) := by rw [IntWalk.i64_in _ (by omega)]; omega
        have wc : IntKind.i64.wrap (x : Int) = (x : Int) := IntWalk.i64_in _ (by omega)
        clear hs0
        obtain ⟨xm, hxm⟩ : ∃ xm, s % 10 = xm := ⟨_, rfl⟩
        obtain ⟨q, hq⟩ : ∃ q, s / 10 = q := ⟨_, rfl⟩
        have hsl : s ≤ 19 := by omega
        have e0 : (s : Int) % 10 = (xm : Int) := by omega
        have e1 : (s : Int) / 10 = (q : Int) := by omega
        have e0' : (s : Int).tmod 10 = (xm : Int) := by rw [Int.tmod_eq_emod_of_nonneg (by omega)]; exact e0
        have e1' : (s : Int).tdiv 10 = (q : Int) := by rw [Int.tdiv_eq_ediv_of_nonneg (by omega)]; exact e1
        have e2 : (xm : Int) % 256 = (xm : Int) := by omega
        have w1 : IntKind.i64.wrap (q : Int) = (q : Int) := IntWalk.i64_in _ (by omega)
        have hxml : xm < 10 := by omega
        have hql : q ≤ 1 := by omega
        have hkb2 : k + 1 ≤ N + 1 := by omega
        have hkc2 : N < k + 1 → q = 0 := by omega
        have HP := Lib.hid (And.intro hs (And.intro hxm hq))
        have HSZ := Lib.hid HW.out.below.size
        have HRW := Lib.hid HW.out.row
        have HK2 := Lib.hid (And.intro hkb2 hkc2)
        clear hs hxm hq hkb' hkc' hkb2 hkc2
        go_wp2_with (at_builtin; refine app_one (w.heap.size) 77 5 (.int .u8 0) 1 1 [_] 1 _ _ rfl rfl Tryz.underlying77 ninfo_u8 rfl (by decide) _ _ _ rfl rfl rfl (by intro u hu; simp at hu; subst hu; rfl) HRW.out (by omega) (by omega) HSZ.out ?_)
        intro v' w9 hown hg9
        have hk9 : Keep (fun g => (Value.slice A k c).ownBlock = some g) W w9 := Keep.of_grown hg9 (fun g hg => hg)
        obtain ⟨A9, c9, rfl⟩ := own_slice hown
        have HN9 : Hid (nRAdd w w9 l1 l2 N (out ++ [xm]) A9 c9 (k + 1) q) := Lib.hid (by
          refine ⟨by rw [List.map_append]; exact hown, HW.out.below.trans (hk9.below HW.out.below.size (own_base HRW.out)), by rw [List.length_append, HW.out.len]; rfl, ?_, hql, HK2.out.1, HK2.out.2, ?_⟩
          · intro z hz
            rcases List.mem_append.1 hz with hz | hz
            · exact HW.out.lt z hz
            · simp at hz; subst hz; exact hxml
          · rw [vl_snoc, HW.out.len, vl_take_succ, vl_take_succ, HX1.out, HX2.out]
            exact plus_step (B := 10) HP.out.1 HP.out.2.1.symm HP.out.2.2.symm HW.out.val)
        clear hown hg9 hk9
        have wk : IntKind.i64.wrap ((k : Int) + 1) = (k : Int) + 1 := IntWalk.i64_in _ (by omega)
        go_wp2_with fail
        go_roundg (gk - 1)
        case measure => omega
        case rel => exact ⟨k + 1, q, _, A9, c9, by omega, by simp, rfl, rfl, HN9.out⟩
    · by_cases h2 : k < l2.length
      · have HX1 := Lib.hid (atL_ge (l := l1) (i := k) (by omega))
        have hi1 : ¬ (k : Int) < (l1.length : Int) := by omega
        obtain ⟨b2, o2, rfl, hcc2⟩ := HS2.out.at k h2
        have hce2 := below_cell HW.out.below (Nat.le_refl _) hcc2
        have hxe2 := atL_get h2
        have hx2 : l2[k] < 10 := HD2.out _ (List.getElem_mem _)
        generalize l2[k] = y at *
        unfold u8V at hce2
        have HX2 := Lib.hid hxe2
        have hi2 : (k : Int) < (l2.length : Int) := by omega
        clear hxe2 hcc2
        obtain ⟨s, hs0⟩ : ∃ s, cy + y = s := ⟨_, rfl⟩
        have hs : s = 0 + y + cy := by omega
        have wa : IntKind.i64.wrap ((cy : Int) + (y : Int)) = (s : Int) := by rw [IntWalk.i64_in _ (by omega)]; omega
        have wc : IntKind.i64.wrap (y : Int) = (y : Int) := IntWalk.i64_in _ (by omega)
        clear hs0
        obtain ⟨xm, hxm⟩ : ∃ xm, s % 10 = xm := ⟨_, rfl⟩
        obtain ⟨q, hq⟩ : ∃ q, s / 10 = q := ⟨_, rfl⟩
        have hsl : s ≤ 19 := by omega
        have e0 : (s : Int) % 10 = (xm : Int) := by omega
        have e1 : (s : Int) / 10 = (q : Int) := by omega
        have e0' : (s : Int).tmod 10 = (xm : Int) := by rw [Int.tmod_eq_emod_of_nonneg (by omega)]; exact e0
        have e1' : (s : Int).tdiv 10 = (q : Int) := by rw [Int.tdiv_eq_ediv_of_nonneg (by omega)]; exact e1
        have e2 : (xm : Int) % 256 = (xm : Int) := by omega
        have w1 : IntKind.i64.wrap (q : Int) = (q : Int) := IntWalk.i64_in _ (by omega)
        have hxml : xm < 10 := by omega
        have hql : q ≤ 1 := by omega
        have hkb2 : k + 1 ≤ N + 1 := by omega
        have hkc2 : N < k + 1 → q = 0 := by omega
        have HP := Lib.hid (And.intro hs (And.intro hxm hq))
        have HSZ := Lib.hid HW.out.below.size
        have HRW := Lib.hid HW.out.row
        have HK2 := Lib.hid (And.intro hkb2 hkc2)
        clear hs hxm hq hkb' hkc' hkb2 hkc2
        go_wp2_with (at_builtin; refine app_one (w.heap.size) 77 5 (.int .u8 0) 1 1 [_] 1 _ _ rfl rfl Tryz.underlying77 ninfo_u8 rfl (by decide) _ _ _ rfl rfl rfl (by intro u hu; simp at hu; subst hu; rfl) HRW.out (by omega) (by omega) HSZ.out ?_)
        intro v' w9 hown hg9
        have hk9 : Keep (fun g => (Value.slice A k c).ownBlock = some g) W w9 := Keep.of_grown hg9 (fun g hg => hg)
        obtain ⟨A9, c9, rfl⟩ := own_slice hown
        have HN9 : Hid (nRAdd w w9 l1 l2 N (out ++ [xm]) A9 c9 (k + 1) q) := Lib.hid (by
          refine ⟨by rw [List.map_append]; exact hown, HW.out.below.trans (hk9.below HW.out.below.size (own_base HRW.out)), by rw [List.length_append, HW.out.len]; rfl, ?_, hql, HK2.out.1, HK2.out.2, ?_⟩
          · intro z hz
            rcases List.mem_append.1 hz with hz | hz
            · exact HW.out.lt z hz
            · simp at hz; subst hz; exact hxml
          · rw [vl_snoc, HW.out.len, vl_take_succ, vl_take_succ, HX1.out, HX2.out]
            exact plus_step (B := 10) HP.out.1 HP.out.2.1.symm HP.out.2.2.symm HW.out.val)
        clear hown hg9 hk9
        have wk : IntKind.i64.wrap ((k : Int) + 1) = (k : Int) + 1 := IntWalk.i64_in _ (by omega)
        go_wp2_with fail
        go_roundg (gk - 1)
        case measure => omega
        case rel => exact ⟨k + 1, q, _, A9, c9, by omega, by simp, rfl, rfl, HN9.out⟩
      · by_cases hcy0 : 0 < cy
        · have hcy0' : (0 : Int) < (cy : Int) := by omega
          have HX1 := Lib.hid (atL_ge (l := l1) (i := k) (by omega))
          have hi1 : ¬ (k : Int) < (l1.length : Int) := by omega
          have HX2 := Lib.hid (atL_ge (l := l2) (i := k) (by omega))
          have hi2 : ¬ (k : Int) < (l2.length : Int) := by omega
          obtain ⟨s, hs0⟩ : ∃ s, cy = s := ⟨_, rfl⟩
          subst hs0
          have hkN : k ≤ N := by
            rcases Nat.lt_or_ge N k with h | h
            · have := hkc' h; omega
            · exact h
          have hs : cy = 0 + 0 + cy := by omega
          obtain ⟨xm, hxm⟩ : ∃ xm, cy % 10 = xm := ⟨_, rfl⟩
          obtain ⟨q, hq⟩ : ∃ q, cy / 10 = q := ⟨_, rfl⟩
          have hsl : cy ≤ 19 := by omega
          have e0 : (cy : Int) % 10 = (xm : Int) := by omega
          have e1 : (cy : Int) / 10 = (q : Int) := by omega
          have e0' : (cy : Int).tmod 10 = (xm : Int) := by rw [Int.tmod_eq_emod_of_nonneg (by omega)]; exact e0
          have e1' : (cy : Int).tdiv 10 = (q : Int) := by rw [Int.tdiv_eq_ediv_of_nonneg (by omega)]; exact e1
          have e2 : (xm : Int) % 256 = (xm : Int) := by omega
          have w1 : IntKind.i64.wrap (q : Int) = (q : Int) := IntWalk.i64_in _ (by omega)
          have hxml : xm < 10 := by omega
          have hql : q ≤ 1 := by omega
          have hkb2 : k + 1 ≤ N + 1 := by omega
          have hkc2 : N < k + 1 → q = 0 := by omega
          have HP := Lib.hid (And.intro hs (And.intro hxm hq))
          have HSZ := Lib.hid HW.out.below.size
          have HRW := Lib.hid HW.out.row
          have HK2 := Lib.hid (And.intro hkb2 hkc2)
          clear hs hxm hq hkb' hkc' hkb2 hkc2
          go_wp2_with (at_builtin; refine app_one (w.heap.size) 77 5 (.int .u8 0) 1 1 [_] 1 _ _ rfl rfl Tryz.underlying77 ninfo_u8 rfl (by decide) _ _ _ rfl rfl rfl (by intro u hu; simp at hu; subst hu; rfl) HRW.out (by omega) (by omega) HSZ.out ?_)
          intro v' w9 hown hg9
          have hk9 : Keep (fun g => (Value.slice A k c).ownBlock = some g) W w9 := Keep.of_grown hg9 (fun g hg => hg)
          obtain ⟨A9, c9, rfl⟩ := own_slice hown
          have HN9 : Hid (nRAdd w w9 l1 l2 N (out ++ [xm]) A9 c9 (k + 1) q) := Lib.hid (by
            refine ⟨by rw [List.map_append]; exact hown, HW.out.below.trans (hk9.below HW.out.below.size (own_base HRW.out)), by rw [List.length_append, HW.out.len]; rfl, ?_, hql, HK2.out.1, HK2.out.2, ?_⟩
            · intro z hz
              rcases List.mem_append.1 hz with hz | hz
              · exact HW.out.lt z hz
              · simp at hz; subst hz; exact hxml
            · rw [vl_snoc, HW.out.len, vl_take_succ, vl_take_succ, HX1.out, HX2.out]
              exact plus_step (B := 10) HP.out.1 HP.out.2.1.symm HP.out.2.2.symm HW.out.val)
          clear hown hg9 hk9
          have wk : IntKind.i64.wrap ((k : Int) + 1) = (k : Int) + 1 := IntWalk.i64_in _ (by omega)
          go_wp2_with fail
          go_roundg (gk - 1)
          case measure => omega
          case rel => exact ⟨k + 1, q, _, A9, c9, by omega, by simp, rfl, rfl, HN9.out⟩
        · have HX1 := Lib.hid (atL_ge (l := l1) (i := k) (by omega))
          have hi1 : ¬ (k : Int) < (l1.length : Int) := by omega
          have HX2 := Lib.hid (atL_ge (l := l2) (i := k) (by omega))
          have hi2 : ¬ (k : Int) < (l2.length : Int) := by omega
          have hcy0' : ¬ (0 : Int) < (cy : Int) := by omega
          have hv : vl 10 out = n1 + n2 := by
            have h := HW.out.val
            rw [show cy = 0 by omega, Nat.mul_zero, Nat.add_zero, List.take_of_length_le (by omega), List.take_of_length_le (by omega), HV1.out, HV2.out] at h
            exact h
          have HTR : Hid (Calls Tryz.prog 113 #[.slice A k c] W fun e w' => ∃ v, e = .returned v ∧ DecIs W v (n1 + n2) ∧ w' = W ∧ ∃ n9 c9, v = .slice A n9 c9) := Lib.hid (by
            rw [← hv]
            have h := rtrim_at out A c W (own_sl1 (base := w.heap.size) (e := 5) (n := k) HW.out.row) (by rw [HW.out.len]; exact own_len HW.out.row) HW.out.lt (by rw [HW.out.len]; omega)
            rwa [HW.out.len] at h)
          clear hv hms hkb' hkc'
          go_wp2_with fail
          refine HTR.out.mono ?_
          rintro e w2 ⟨v, rfl, h2, rfl, n9, c9, rfl⟩
          have H2 := Lib.hid h2
          clear h2
          go_wp2_with fail
          go_ret
          refine ⟨.slice A n9 c9, rfl, H2.out, HW.out.below, fun A' n' c' e a ha => ?_⟩
          simp only [Value.slice.injEq] at e
          rw [← e.1] at ha
          subst ha
          rcases HW.out.row.2 with ⟨h1, _⟩ | ⟨g, cap, cur, h1, hb, hg, _⟩
          · cases h1
          · cases h1; exact ⟨hb, blk_lt hg⟩
theorem nradd_any (v1 v2 : Value) (n1 n2 : Nat) (w : World) (h1 : DecIs w v1 n1) (h2 : DecIs w v2 n2) (hl1 : (dg 10 n1).length ≤ 1000000000) (hl2 : (dg 10 n2).length ≤ 1000000000) :
    Calls Tryz.prog 81 #[v1, v2] w fun e w' => ∃ v, e = .returned v ∧ DecIs w' v (n1 + n2) ∧ Below w.heap.size w w' := by
  refine (radd_at v1 v2 n1 n2 w h1 h2 hl1 hl2).mono ?_
  rintro e w1 ⟨v, h1, h2, h3, _⟩
  exact ⟨v, h1, h2, h3⟩
theorem DecIs.keepS {w w' : World} {v : Value} {n g : Nat} (h : DecIs w v n) (k : Keep (fun x => x = g) w w') (hg : AllSl w g) : DecIs w' v n := by
  obtain ⟨A, c, rfl, h1, h2⟩ := h
  exact ⟨A, c, rfl, Sl1.keepS h1 k hg (fun x A n c => by simp [u8V]), h2⟩
structure DrIs (w W : World) (g n : Nat) (f : Nat → Nat) (vs : List Value) : Prop where
  row : W.ownsRow w.heap.size 77 1 (.slice (some ⟨g, 0, none⟩) (n + 1) (n + 1)) (n + 1) vs
  dec : ∀ j, j ≤ n → ∃ A k c, vs[j]? = some (.slice A k c) ∧ DecIs W (.slice A k c) (f j)
section
variable {w W W' : World} {g n : Nat} {f : Nat → Nat} {vs : List Value}
theorem DrIs.below (h : DrIs w W g n f vs) (hb : Below W.heap.size W W') : DrIs w W' g n f vs :=
  ⟨own_below h.row hb (Nat.le_refl _), fun j hj => by
    obtain ⟨A, k, c, h1, h2⟩ := h.dec j hj
    exact ⟨A, k, c, h1, h2.below hb (Nat.le_refl _)⟩⟩
theorem DrIs.congr {f' : Nat → Nat} (h : DrIs w W g n f vs) (e : ∀ j, j ≤ n → f j = f' j) : DrIs w W g n f' vs :=
  ⟨h.row, fun j hj => by
    obtain ⟨A, k, c, h1, h2⟩ := h.dec j hj
    exact ⟨A, k, c, h1, by rw [← e j hj]; exact h2⟩⟩
theorem DrIs.at' (h : DrIs w W g n f vs) (j : Nat) (hj : j ≤ n) : ∃ A k c, W.cell? ⟨g, j, none⟩ = some (.slice A k c) ∧ W.frozen? ⟨g, j, none⟩ = false ∧ DecIs W (.slice A k c) (f j) := by
  obtain ⟨A, k, c, h1, h2⟩ := h.dec j hj
  obtain ⟨q1, q2⟩ := rown_at h.row j _ h1
  exact ⟨A, k, c, q1, q2, h2⟩
theorem DrIs.tag (h : DrIs w W g n f vs) : ∃ cs fz, W.heap[g]? = some (.cells cs 77 fz) := row_tag h.row rfl
theorem DrIs.allSl (h : DrIs w W g n f vs) : AllSl W g := by
  intro o v hv
  rcases h.row.2 with ⟨h1, _⟩ | ⟨g', cap, cur, h1, h2, h3, h4, h5, h6, h7⟩
  · cases h1
  · injection h1 with h1 e2 e3
    injection h1 with h1
    injection h1 with h1
    subst h1
    subst e3
    rw [blk_cell h3] at hv
    have hlt := (Array.getElem?_eq_some_iff.1 hv).1
    have h8 : vs[o]? = some v := by
      rw [← h7, List.getElem?_take, if_pos (by omega), Array.getElem?_toList]
      exact hv
    obtain ⟨A, k, c, q1, _⟩ := h.dec o (by omega)
    rw [h8] at q1
    injection q1 with q1
    exact ⟨A, k, c, q1⟩
theorem DrIs.put (h : DrIs w W g n f vs) {j m : Nat} (hj : j ≤ n) {A : Option Addr} {k c : Nat} (hv : DecIs W (.slice A k c) m) : DrIs w (W.setCell ⟨g, j, none⟩ (.slice A k c)) g n (fun x => if x = j then m else f x) (vs.set j (.slice A k c)) := by
  have hk : Keep (fun x => x = g) W (W.setCell ⟨g, j, none⟩ (.slice A k c)) := (Keep.refl (fun x => x = g) W).setCell (p := ⟨g, j, none⟩) (.inl rfl) _
  have hs := h.allSl
  refine ⟨own_set h.row j _, fun x hx => ?_⟩
  by_cases e : x = j
  · subst e
    have hl : x < vs.length := by have := h.row.1; omega
    exact ⟨A, k, c, by rw [List.getElem?_set, if_pos rfl, if_pos hl], by rw [if_pos rfl]; exact hv.keepS hk hs⟩
  · obtain ⟨A2, k2, c2, h1, h2⟩ := h.dec x hx
    exact ⟨A2, k2, c2, by rw [List.getElem?_set, if_neg (fun e2 => e e2.symm)]; exact h1, by rw [if_neg e]; exact h2.keepS hk hs⟩
end
theorem info_decC : (Tryz.prog.info? 77).map (fun i => (i.zero, i.size, i.bytes)) = some (some (.slice none 0 0), 1, 24) := by kernel_rfl
theorem made_decs (n : Nat) : (madeCells (Value.slice none 0 0).cells (n * 1)).toList = List.replicate n (.slice none 0 0) := by
  apply List.ext_getElem
  · simp [madeCells]
  · intro i h1 h2
    simp [madeCells, Value.cells, Nat.mod_one]
theorem make_decs (n : Nat) (w : World) (hn : n ≤ 100000) : ∃ w', (Instr.makeSlice 73 (.int .i64 ((n : Int) + 1)) (.int .i64 ((n : Int) + 1))).run Tryz.prog w = .ok (.slice (some ⟨w.heap.size, 0, none⟩) (n + 1) (n + 1)) w' ∧
    DrIs w w' w.heap.size n (fun _ => 0) (List.replicate (n + 1) (.slice none 0 0)) ∧ Below w.heap.size w w' := by
  obtain ⟨i, hi, hz0, hz1, hz2⟩ := info_parts info_decC
  obtain ⟨w', h1, h2, h3⟩ := run_makeSlice_full (P := Tryz.prog) w w.heap.size 73 77 i (.slice none 0 0) 1 Tryz.underlying73 hi hz0 hz1 .i64 .i64 (n + 1) (by omega) (by rw [hz2]; omega) (by unfold maxLen; omega) (Nat.le_refl _)
  rw [made_decs] at h2
  refine ⟨w', h1, ⟨h2, fun j hj => ⟨none, 0, 0, ?_, DecIs.zero w'⟩⟩, (Keep.of_grown (F := fun _ => False) h3 (fun k hk => by cases hk)).below (Nat.le_refl _) (fun x hx => hx.elim)⟩
  simp [List.getElem?_replicate]
  omega
structure CtI (w W : World) (rb g : Nat) (T : List Ent) (vb vm : Value) (n : Nat) (f : Nat → Nat) (vs : List Value) : Prop where
  dr : DrIs w W g n f vs
  box : W.heap[rb]? = some (.cells #[vb, vm] 34)
  ref : ∃ b, RefIs W b T vb vm
  blw : Below w.heap.size w W
  lo : w.heap.size ≤ g
section
variable {w W W' : World} {rb g n : Nat} {T : List Ent} {vb vm : Value} {f : Nat → Nat} {vs : List Value}
theorem CtI.below (h : CtI w W rb g T vb vm n f vs) (hb : Below W.heap.size W W') : CtI w W' rb g T vb vm n f vs :=
  ⟨h.dr.below hb, blk_below hb (blk_lt h.box) h.box, by obtain ⟨b, hr⟩ := h.ref; exact ⟨b, hr.below hb (Nat.le_refl _)⟩, h.blw.trans (hb.mono h.blw.size), h.lo⟩
theorem CtI.drew (h : CtI w W rb g T vb vm n f vs) : CtI w W.drew rb g T vb vm n f vs := h.below (Below.refl _ _).drew
theorem CtI.congr {f' : Nat → Nat} (h : CtI w W rb g T vb vm n f vs) (e : ∀ j, j ≤ n → f j = f' j) : CtI w W rb g T vb vm n f' vs := ⟨h.dr.congr e, h.box, h.ref, h.blw, h.lo⟩
theorem CtI.put (h : CtI w W rb g T vb vm n f vs) {j m : Nat} (hj : j ≤ n) {A : Option Addr} {k c : Nat} (hv : DecIs W (.slice A k c) m) : CtI w (W.setCell ⟨g, j, none⟩ (.slice A k c)) rb g T vb vm n (fun x => if x = j then m else f x) (vs.set j (.slice A k c)) := by
  obtain ⟨cs, fz, ht⟩ := h.dr.tag
  have hk : Keep (fun x => x = g) W (W.setCell ⟨g, j, none⟩ (.slice A k c)) := (Keep.refl (fun x => x = g) W).setCell (p := ⟨g, j, none⟩) (.inl rfl) _
  refine ⟨h.dr.put hj hv, hk.blk h.box (fun e => ?_), ?_, h.blw.setCell (p := ⟨g, j, none⟩) h.lo _, h.lo⟩
  · have h1 := h.box
    rw [e, ht] at h1
    injection h1 with h1
    injection h1 with _ h1 _
    exact absurd h1 (by decide)
  · obtain ⟨b, hr⟩ := h.ref
    exact ⟨b, own_keep hr.row hk (row_off hr.row ht (by decide)), own_keep hr.mrg hk (row_off hr.mrg ht (by decide)), hr.nil⟩
theorem ints_dec {v : Value} {l : List Int} {b j : Nat} (hi : IntsIs W b v l) (h : CtI w W rb g T vb vm n f vs) (u : Value) : IntsIs (W.setCell ⟨g, j, none⟩ u) b v l := by
  obtain ⟨A, c, rfl, ho⟩ := hi
  obtain ⟨cs, fz, ht⟩ := h.dr.tag
  exact ⟨A, c, rfl, own_keep ho ((Keep.refl (fun x => x = g) W).setCell (p := ⟨g, j, none⟩) (.inl rfl) u) (row_off ho ht (by decide))⟩
end
theorem d10_le {n k : Nat} (h : n ≤ 2 ^ k) : (dg 10 n).length ≤ k + 1 := by
  refine dg_len_le (by decide) (Nat.lt_of_le_of_lt h ?_)
  have h1 : 2 ^ k < 10 ^ (k + 1) := by
    have h2 : 2 ^ k ≤ 10 ^ k := Nat.pow_le_pow_left (by decide) k
    have h3 : 10 ^ k < 10 ^ (k + 1) := Nat.pow_lt_pow_right (by decide) (Nat.lt_succ_self k)
    omega
  exact h1
theorem cntJ_d10 {T : List Ent} (hT : OkT T) (s : List UInt8) (j : Nat) : (dg 10 (cntJ T s j)).length ≤ s.length + 1 := by
  have h1 : cntJ T s j ≤ 2 ^ (s.drop j).length := cnt_pow hT _ _ (Nat.le_refl _)
  have h2 := d10_le h1
  rw [List.length_drop] at h2
  omega
set_option maxHeartbeats 8000000 in
theorem rcounts_any {w : World} {base : Nat} {T : List Ent} {vb vm : Value} (h : RefIs w base T vb vm) (hT : OkT T) (s : List UInt8) (hs : s.length ≤ 4000) :
    Calls Tryz.prog 36 #[.agg #[vb, vm], .string (bs s)] w fun e w' => (∃ g vs, e = .returned (.slice (some ⟨g, 0, none⟩) (s.length + 1) (s.length + 1)) ∧ DrIs w w' g s.length (cntJ T s) vs) ∧ Below w.heap.size w w' := by
  obtain ⟨Av, cv, hvb⟩ := own_slice h.row
  obtain ⟨Am, cm, hvm⟩ := own_slice h.mrg
  subst hvb
  subst hvm
  obtain ⟨NT, hNT⟩ : ∃ n, T.length = n := ⟨_, rfl⟩
  obtain ⟨NM, hNM⟩ : ∃ n, (mrgsT T).length = n := ⟨_, rfl⟩
  have HNT := Lib.hid hNT
  rw [hNT, hNM] at h
  rw [hNT, hNM]
  clear hNT hNM
  have hb0 := (Below.refl w.heap.size w).alloc (Nat.le_refl _) (.cells #[.slice Av NT cv, .slice Am NM cm] 34)
  have HBX := Lib.hid (blk_new w (.cells #[.slice Av NT cv, .slice Am NM cm] 34))
  have HRF := Lib.hid (h.below hb0 (Nat.le_refl _))
  have HB0 := Lib.hid hb0
  have HT := Lib.hid hT
  have HSL := Lib.hid hs
  have HDZ : Hid ((bs s).size = s.length) := Lib.hid (bs_size s)
  have HSM : Hid (∀ V, Calls Tryz.prog 80 #[.int .u64 1] V fun e w' => ∃ v, e = .returned v ∧ DecIs w' v 1 ∧ Below V.heap.size V w') := Lib.hid (fun V => small_any 1 V (by decide))
  have HSD : Hid (∀ (a : Nat) V, a ≤ s.length → (Instr.slice 9 (.string (bs s)) (some (.int .i64 (a : Int))) none none).run Tryz.prog V = .ok (.string (bs (s.drop a))) V) := Lib.hid (fun a V ha => slice_strD s a V ha)
  have HAT : Hid (∀ V b k, RefIs V b T (.slice Av NT cv) (.slice Am NM cm) → Calls Tryz.prog 37 #[.agg #[.slice Av NT cv, .slice Am NM cm], .string (bs (s.drop k))] V fun e w' => (∃ v, e = .returned v ∧ IntsIs w' V.heap.size v (atP T s k)) ∧ Below V.heap.size V w') := Lib.hid (fun V b k hV => rat_any hV hT hT.small (s.drop k) (by rw [List.length_drop]; omega))
  clear h hT hs hb0
  obtain ⟨Z, hZ⟩ : ∃ Z, bs s = Z := ⟨_, rfl⟩
  rw [hZ] at HDZ HSD
  rw [hZ]
  clear hZ
  have wz : IntKind.i64.wrap ((Z.size : Int) + 1) = (Z.size : Int) + 1 := IntWalk.i64_in _ (by have := HDZ.out; have := HSL.out; omega)
  go_enter Tryz.func36, Tryz.ntmps36
  go_upto_region 1 with fail
  obtain ⟨rb, hrb⟩ : ∃ b, w.heap.size = b := ⟨_, rfl⟩
  have HRB := Lib.hid hrb
  rw [hrb] at HBX ⊢
  clear hrb
  generalize w.alloc (.cells #[.slice Av NT cv, .slice Am NM cm] 34) = w1 at *
  obtain ⟨w2, hmk, hdr, hbl⟩ := make_decs s.length w1 (by have := HSL.out; omega)
  have hzs : ((s.length : Nat) : Int) + 1 = (Z.size : Int) + 1 := by rw [HDZ.out]
  rw [hzs] at hmk
  have HC : Hid (CtI w w2 rb w1.heap.size T (.slice Av NT cv) (.slice Am NM cm) s.length (fun _ => 0) (List.replicate (s.length + 1) (.slice none 0 0))) :=
    Lib.hid ⟨⟨own_less hdr.row HB0.out.size, hdr.dec⟩, blk_below hbl (blk_lt HBX.out) HBX.out, ⟨_, HRF.out.below hbl (Nat.le_refl _)⟩, HB0.out.trans (hbl.mono HB0.out.size), HB0.out.size⟩
  clear hdr hbl hzs HBX HRF HB0
  obtain ⟨g, hg⟩ : ∃ b, w1.heap.size = b := ⟨_, rfl⟩
  rw [hg] at HC hmk
  clear hg
  obtain ⟨N1, hN1⟩ : ∃ n, s.length + 1 = n := ⟨_, rfl⟩
  have HN1 := Lib.hid hN1
  rw [hN1] at hmk
  clear hN1
  generalize List.replicate (s.length + 1) (Value.slice none 0 0) = vs0 at *
  have q0 : (0 : Int) ≤ (Z.size : Int) := by omega
  have q1 : (Z.size : Int) < (N1 : Int) := by have := HDZ.out; have := HN1.out; omega
  have ws1 : IntKind.i64.wrap ((Z.size : Int) - 1) = (Z.size : Int) - 1 := IntWalk.i64_in _ (by have := HDZ.out; have := HSL.out; omega)
  go_upto_region 3 with (go_at_call 80; refine (HSM.out _).mono ?_; rintro e W3 ⟨v, rfl, ⟨A3, c3, rfl, hn1, hn2⟩, hb⟩; (replace HC := Lib.hid (HC.out.below hb)); (have HN3 : Hid (DecIs W3 (.slice A3 (dg 10 1).length c3) 1) := Lib.hid ⟨A3, c3, rfl, hn1, hn2⟩); clear hn1 hn2 hb; (obtain ⟨n3, hn3⟩ : ∃ n, (dg 10 1).length = n := ⟨_, rfl⟩); rw [hn3] at HN3; rw [hn3]; clear hn3; (obtain ⟨A4, k4, d4, e4, z4, _⟩ := HC.out.dr.at' Z.size (by have := HDZ.out; omega)); (have HC4 := Lib.hid (HC.out.put (j := Z.size) (by have := HDZ.out; omega) HN3.out)))
  have HF : Hid (CtI w (W3.setCell ⟨g, Z.size, none⟩ (.slice A3 n3 c3)) rb g T (.slice Av NT cv) (.slice Am NM cm) s.length (fM T s s.length) (vs0.set Z.size (.slice A3 n3 c3))) := Lib.hid (HC4.out.congr (fun j hj => by
    unfold fM cntJ
    by_cases e : j = Z.size
    · rw [if_pos e, if_pos (by rw [e, HDZ.out]; exact Nat.le_refl _)]
      have : s.drop j = [] := List.drop_eq_nil_iff.2 (by rw [e, HDZ.out]; exact Nat.le_refl _)
      rw [this, cntA_nil]
    · rw [if_neg e, if_neg (by have := HDZ.out; omega)]))
  clear HC HC4 HN3 e4 z4 hmk wz
  generalize W3.setCell ⟨g, Z.size, none⟩ (.slice A3 n3 c3) = W4 at *
  generalize vs0.set Z.size (.slice A3 n3 c3) = vs1 at *
  go_wp2_with fail
  clear ws1
  go_loopg [6] Z.size (fun n i W => ∃ (x : Int) (vs : List Value), x = (n : Int) - 1 ∧ n ≤ Z.size ∧ i = .int .i64 x ∧ CtI w W rb g T (.slice Av NT cv) (.slice Am NM cm) s.length (fM T s n) vs)
  case atStart => exact ⟨_, vs1, rfl, Nat.le_refl _, rfl, by rw [HDZ.out]; exact HF.out⟩
  case round =>
    obtain ⟨x, vs, hx, hle, rfl, hf⟩ := hrel
    clear HF
    rename World => W
    obtain ⟨m, hm⟩ : ∃ m, m = gk := ⟨_, rfl⟩
    subst hm
    have HF := Lib.hid hf
    have HLE := Lib.hid hle
    clear hf hle
    cases m with
    | zero =>
      have hx0 : x < 0 := by omega
      clear hx
      have HE : Hid (DrIs w W g s.length (cntJ T s) vs) := Lib.hid (HF.out.dr.congr (fun j _ => by unfold fM; rw [if_pos (Nat.zero_le _)]))
      go_wp2_with fail
      go_ret
      exact ⟨⟨g, vs, by rw [HN1.out]; rfl, HE.out⟩, HF.out.blw⟩
    | succ k =>
      have hxk : x = (k : Int) := by omega
      subst hxk
      clear hx
      have hks : k < s.length := by have := HLE.out; have := HDZ.out; omega
      have HKS := Lib.hid hks
      have d0 := blk_cell HF.out.box 0
      have d1 := blk_cell HF.out.box 1
      simp only [List.getElem?_toArray, List.getElem?_cons_zero, List.getElem?_cons_succ] at d0 d1
      have p0 : (0 : Int) ≤ (k : Int) := by omega
      have ws3 : IntKind.i64.wrap ((k : Int) - 1) = (k : Int) - 1 := IntWalk.i64_in _ (by have := HSL.out; omega)
      have wsl : ∀ V, (Instr.slice 9 (.string Z) (some (.int .i64 (k : Int))) none none).run Tryz.prog V = .ok (.string (bs (s.drop k))) V := fun V => HSD.out k V (Nat.le_of_lt HKS.out)
      have hh := And.intro d0 d1
      clear hks
      go_upto_region 6 with fail
      clear d0 d1
      refine wp_region_held_drew (S := fun V => V.cell? ⟨rb, 0, none⟩ = some (.slice Av NT cv) ∧ V.cell? ⟨rb, 1, none⟩ = some (.slice Am NM cm)) (by kernel_rfl) (by exact hh) (fun hHeld => ?_)
      refine tkH 0 25 ?_ rfl hHeld (.inl ⟨by rfl, ?_⟩) ?_; rotate_left; focus (intro w' hSw; (try dsimp only at hSw); go_simp; (try with_reducible rfl))
      try simp only [sIB, sC0, sCS]
      refine tkH 1 26 ?_ rfl hHeld (.inl ⟨by rfl, ?_⟩) ?_; rotate_left; focus (intro w' hSw; (try dsimp only at hSw); go_simp; (try with_reducible rfl))
      try simp only [sIB, sC0, sCS]
      refine tkH 2 27 ?_ rfl hHeld (.inl ⟨by rfl, ?_⟩) ?_; rotate_left; focus (intro w' hSw; (try dsimp only at hSw); go_simp; (try with_reducible rfl))
      try simp only [sIB, sC0, sCS]
      refine tkH 3 28 ?_ rfl hHeld (.inl ⟨by rfl, ?_⟩) ?_; rotate_left; focus (intro w' hSw; (try dsimp only at hSw); go_simp; (try with_reducible rfl))
      try simp only [sIB, sC0, sCS]
      refine wpAnyH_ready (rs := [4]) (by kernel_rfl) (by simp) ?_
      refine AllReadyH.cons rfl (fun K hK => ?_) AllReadyH.nil
      (try go_simp)
      go_simp; obtain ⟨bb, hrf⟩ := HF.out.drew.ref; refine (HAT.out _ _ k hrf).mono ?_; rintro e W6 ⟨⟨v, rfl, A2, c2, rfl, hown⟩, hb⟩; (replace HF := Lib.hid (HF.out.drew.below hb)); have HIL : Hid (∃ b, IntsIs W6 b (.slice A2 (atP T s k).length c2) (atP T s k)) := Lib.hid ⟨_, A2, c2, rfl, hown⟩; have h := And.intro (below_cell hb (Nat.le_refl _) hHeld.1) (below_cell hb (Nat.le_refl _) hHeld.2); clear hown hb hrf; go_simp
      go_wp2_with fail
      refine hK.out _ _ h (fun hHeld => ?_)
      clear hK K
      try simp only [Act.put, sIB, sC0, sCS]
      refine tkH 5 7 ?_ rfl hHeld (.inl ⟨by rfl, ?_⟩) ?_; rotate_left; focus (intro w' hSw; (try dsimp only at hSw); go_simp; (try with_reducible rfl))
      try simp only [sIB, sC0, sCS]
      refine wpAnyH_done (by kernel_rfl) ?_ _
      clear hh h hHeld wsl
      obtain ⟨N, hN⟩ : ∃ N, (atP T s k).length = N := ⟨_, rfl⟩
      have HNN := Lib.hid hN
      rw [hN] at HIL
      rw [hN]
      clear hN
      go_wp2_with fail
      go_loopg [8] N (fun n i W => ∃ (q : Nat) (vs : List Value), q + n = N ∧ i = .int .i64 (q : Int) ∧ CtI w W rb g T (.slice Av NT cv) (.slice Am NM cm) s.length (fQ T s k q) vs ∧ ∃ b, IntsIs W b (.slice A2 N c2) (atP T s k))
      case atStart => exact ⟨0, vs, by omega, rfl, HF.out.congr (fun j _ => fQ_zero _ _ _ _), HIL.out⟩
      case round =>
        obtain ⟨q, vs, hq, rfl, hf, hil⟩ := hrel
        clear HF HIL
        rename World => W
        have HF := Lib.hid hf
        have HIL := Lib.hid hil
        have HQ := Lib.hid hq
        clear hf hil hq
        by_cases hlt : q < N
        · have hq2 : q < (atP T s k).length := by have := HNN.out; omega
          have r0 : (0 : Int) ≤ (q : Int) := by omega
          have r1 : (q : Int) < (N : Int) := by omega
          have ws4 : IntKind.i64.wrap ((q : Int) + 1) = (q : Int) + 1 := IntWalk.i64_in _ (by have := HNN.out; have := atP_len T s k; have := HSL.out; omega)
          obtain ⟨b1, o1, hA1, e1⟩ : ∃ b o, A2 = some ⟨b, o, none⟩ ∧ W.cell? ⟨b, o + q, none⟩ = some (.int .i64 ((atP T s k)[q])) := by
            obtain ⟨b, A, c, e, ho⟩ := HIL.out
            injection e with e _ _
            subst e
            exact own_sl1 ho q _ (List.getElem?_eq_getElem hq2)
          obtain ⟨m1, m2, m3, m4⟩ := at_len HT.out s HKS.out hq2
          have hmem : (atP T s k)[q] ∈ atA T (s.drop k) := List.getElem_mem hq2
          have g1 := (atA_has HT.out hmem).1
          have hfs0 := fun j => fQ_succ T s k q hq2 j
          obtain ⟨id, hid⟩ : ∃ id, (atP T s k)[q] = id := ⟨_, rfl⟩
          rw [hid] at m1 m2 m3 m4 e1 g1 hfs0
          clear hmem hid
          obtain ⟨j, hjx, hj, hjt⟩ := hasT_at g1
          subst hjx
          obtain ⟨bv, ov, hAv, e2⟩ : ∃ b o, Av = some ⟨b, o, none⟩ ∧ W.cell? ⟨b, o + j, none⟩ = some (strV (bytesT T (j : Int))) := by
            obtain ⟨b, hr⟩ := HF.out.ref
            have h0 : (bytsT T)[j]? = some (bytesT T (j : Int)) := by
              unfold bytsT bytesT
              rw [if_pos g1, entT_nat _ _ hj, List.getElem?_map, List.getElem?_eq_getElem hj]
              rfl
            have hrow := hr.row
            rw [← HNT.out] at hrow
            exact own_sl1 hrow j _ h0
          obtain ⟨Bx, hBx⟩ : ∃ B, bs (bytesT T (j : Int)) = B := ⟨_, rfl⟩
          have hbz : Bx.size = lenT T (j : Int) := by rw [← hBx, bs_size]; rfl
          unfold strV at e2
          rw [hBx] at e2
          rw [← hbz] at m1 m2 m3 m4 hfs0
          obtain ⟨J, hJ⟩ : ∃ J, k + Bx.size = J := ⟨_, rfl⟩
          rw [hJ] at m2 m3 m4 hfs0
          have wks : IntKind.i64.wrap ((k : Int) + (Bx.size : Int)) = (J : Int) := by rw [show (k : Int) + (Bx.size : Int) = (J : Int) by omega]; exact IntWalk.i64_in _ (by have := HSL.out; omega)
          have J0 : (0 : Int) ≤ (J : Int) := by omega
          have J1 : (J : Int) < (N1 : Int) := by have := HN1.out; omega
          have K1 : (k : Int) < (N1 : Int) := by have := HN1.out; have := HKS.out; omega
          have j0 : (0 : Int) ≤ (j : Int) := by omega
          have j1 : (j : Int) < (NT : Int) := by have := HNT.out; omega
          obtain ⟨Ai, ki, ci, f0, f1, f2⟩ := HF.out.dr.at' k (by have := HKS.out; omega)
          obtain ⟨Aj, kj, cj, g0, _, g2⟩ := HF.out.dr.at' J m2
          obtain ⟨fi, hfi⟩ : ∃ n, fQ T s k q k = n := ⟨_, rfl⟩
          obtain ⟨fj, hfj⟩ : ∃ n, cntJ T s J = n := ⟨_, rfl⟩
          have hgj : fQ T s k q J = cntJ T s J := by unfold fQ; rw [if_pos (by omega)]
          rw [hgj, hfj] at g2
          rw [hfi] at f2
          rw [hfi, hfj] at hfs0 m4
          have HNI := Lib.hid f2
          have HNJ := Lib.hid g2
          have HFS := Lib.hid hfs0
          have hdk := cntJ_d10 HT.out s k
          have HD : Hid ((dg 10 fi).length ≤ 1000000000 ∧ (dg 10 fj).length ≤ 1000000000) := Lib.hid ⟨Nat.le_trans (dg_len_mono (by decide) (Nat.le_trans (Nat.le_add_right _ _) m4)) (by have := HSL.out; omega), Nat.le_trans (dg_len_mono (by decide) (Nat.le_trans (Nat.le_add_left _ _) m4)) (by have := HSL.out; omega)⟩
          have d0 := blk_cell HF.out.box 0
          simp only [List.getElem?_toArray, List.getElem?_cons_zero, List.getElem?_cons_succ] at d0
          subst hA1
          subst hAv
          have hh := And.intro f0 (And.intro g0 (And.intro d0 (And.intro e1 e2)))
          clear hq2 hfs0 hJ hgj hfi hfj f0 f1 f2 g0 g2 m1 m2 m3 m4 hbz hBx g1 hj hjt d0 hdk
          go_upto_region 10 with fail
          clear e1 e2
          refine wp_region_D (Ds := [22]) (S := fun V => V.cell? ⟨g, k, none⟩ = some (.slice Ai ki ci) ∧ V.cell? ⟨g, J, none⟩ = some (.slice Aj kj cj) ∧ V.cell? ⟨rb, 0, none⟩ = some (.slice (some ⟨bv, ov, none⟩) NT cv) ∧ V.cell? ⟨b1, o1 + q, none⟩ = some (.int .i64 (j : Int)) ∧ V.cell? ⟨bv, ov + j, none⟩ = some (.string Bx)) (by kernel_rfl) (by exact hh) (fun hHeld => ?_)
          (replace HF := Lib.hid HF.out.drew); (replace HIL : Hid (∃ b, IntsIs W.drew b (.slice (some ⟨b1, o1, none⟩) N c2) (atP T s k)) := HIL); (replace HNI := Lib.hid (HNI.out.below (Below.refl _ _).drew (Nat.le_refl _))); (replace HNJ := Lib.hid (HNJ.out.below (Below.refl _ _).drew (Nat.le_refl _))); clear hh; generalize W.drew = W5 at *
          refine tkP 0 36 ?_ rfl (.inl ⟨by rfl, ?_⟩) ?_; rotate_left; focus (intro w' _; go_simp; (try with_reducible rfl))
          try simp only [sIB, sC0, sCS]
          refine tkP 1 37 ?_ rfl (.inl ⟨by rfl, ?_⟩) ?_; rotate_left; focus (intro w' _; go_simp; (try with_reducible rfl))
          try simp only [sIB, sC0, sCS]
          refine tkP 2 38 ?_ rfl (.inl ⟨by rfl, ?_⟩) ?_; rotate_left; focus (intro w' _; go_simp; (try with_reducible rfl))
          try simp only [sIB, sC0, sCS]
          refine tkP 3 39 ?_ rfl (.inl ⟨by rfl, ?_⟩) ?_; rotate_left; focus (intro w' _; go_simp; (try with_reducible rfl))
          try simp only [sIB, sC0, sCS]
          refine tkP 4 40 ?_ rfl (.inl ⟨by rfl, ?_⟩) ?_; rotate_left; focus (intro w' _; go_simp; (try with_reducible rfl))
          try simp only [sIB, sC0, sCS]
          refine tkP 6 42 ?_ rfl (.inl ⟨by rfl, ?_⟩) ?_; rotate_left; focus (intro w' _; go_simp; (try with_reducible rfl))
          try simp only [sIB, sC0, sCS]
          refine tkP 7 43 ?_ rfl (.inl ⟨by rfl, ?_⟩) ?_; rotate_left; focus (intro w' _; go_simp; (try with_reducible rfl))
          try simp only [sIB, sC0, sCS]
          refine tkP 8 44 ?_ rfl (.inl ⟨by rfl, ?_⟩) ?_; rotate_left; focus (intro w' _; go_simp; (try with_reducible rfl))
          try simp only [sIB, sC0, sCS]
          refine tkP 10 46 ?_ rfl (.inl ⟨by rfl, ?_⟩) ?_; rotate_left; focus (intro w' _; go_simp; (try with_reducible rfl))
          try simp only [sIB, sC0, sCS]
          refine tkP 11 47 ?_ rfl (.inl ⟨by rfl, ?_⟩) ?_; rotate_left; focus (intro w' _; go_simp; (try with_reducible rfl))
          try simp only [sIB, sC0, sCS]
          refine tkP 12 48 ?_ rfl (.inl ⟨by rfl, ?_⟩) ?_; rotate_left; focus (intro w' _; go_simp; (try with_reducible rfl))
          try simp only [sIB, sC0, sCS]
          refine tkD 5 41 ?_ rfl hHeld (.inl ⟨by rfl, ?_⟩) ?_; rotate_left; focus (intro w' hSw; (try dsimp only at hSw); go_simp; (try with_reducible rfl))
          try simp only [sIB, sC0, sCS]
          refine tkD 9 45 ?_ rfl hHeld (.inl ⟨by rfl, ?_⟩) ?_; rotate_left; focus (intro w' hSw; (try dsimp only at hSw); go_simp; (try with_reducible rfl))
          try simp only [sIB, sC0, sCS]
          refine tkD 13 49 ?_ rfl hHeld (.inl ⟨by rfl, ?_⟩) ?_; rotate_left; focus (intro w' hSw; (try dsimp only at hSw); go_simp; (try with_reducible rfl))
          try simp only [sIB, sC0, sCS]
          refine tkP 14 50 ?_ rfl (.inl ⟨by rfl, ?_⟩) ?_; rotate_left; focus (intro w' _; go_simp; (try with_reducible rfl))
          try simp only [sIB, sC0, sCS]
          refine tkD 15 51 ?_ rfl hHeld (.inl ⟨by rfl, ?_⟩) ?_; rotate_left; focus (intro w' hSw; (try dsimp only at hSw); go_simp; (try with_reducible rfl))
          try simp only [sIB, sC0, sCS]
          refine tkD 16 52 ?_ rfl hHeld (.inl ⟨by rfl, ?_⟩) ?_; rotate_left; focus (intro w' hSw; (try dsimp only at hSw); go_simp; (try with_reducible rfl))
          try simp only [sIB, sC0, sCS]
          refine tkP 17 53 ?_ rfl (.inl ⟨by rfl, ?_⟩) ?_; rotate_left; focus (intro w' _; go_simp; (try with_reducible rfl))
          try simp only [sIB, sC0, sCS]
          refine tkP 18 54 ?_ rfl (.inl ⟨by rfl, ?_⟩) ?_; rotate_left; focus (intro w' _; go_simp; (try with_reducible rfl))
          try simp only [sIB, sC0, sCS]
          refine tkD 19 55 ?_ rfl hHeld (.inl ⟨by rfl, ?_⟩) ?_; rotate_left; focus (intro w' hSw; (try dsimp only at hSw); go_simp; (try with_reducible rfl))
          try simp only [sIB, sC0, sCS]
          refine wpAnyD_one (i := 20) (by kernel_rfl) rfl (by rfl) (fun K hK => ?_)
          go_simp; refine (nradd_any _ _ fi fj _ HNI.out HNJ.out HD.out.1 HD.out.2).mono ?_; rintro e W8 ⟨v, rfl, ⟨A8, c8, rfl, hn1, hn2⟩, hb⟩; have HN8 : Hid (DecIs W8 (.slice A8 (dg 10 (fi + fj)).length c8) (fi + fj)) := Lib.hid ⟨A8, c8, rfl, hn1, hn2⟩; (replace HF := Lib.hid (HF.out.below hb)); (replace HIL : Hid (∃ b, IntsIs W8 b (.slice (some ⟨b1, o1, none⟩) N c2) (atP T s k)) := Lib.hid (by obtain ⟨b, hi⟩ := HIL.out; exact ⟨b, ints_below hi hb (Nat.le_refl _)⟩)); have h := And.intro (below_cell hb (Nat.le_refl _) hHeld.1) (And.intro (below_cell hb (Nat.le_refl _) hHeld.2.1) (And.intro (below_cell hb (Nat.le_refl _) hHeld.2.2.1) (And.intro (below_cell hb (Nat.le_refl _) hHeld.2.2.2.1) (below_cell hb (Nat.le_refl _) hHeld.2.2.2.2)))); clear hn1 hn2 hb; obtain ⟨n8, hn8⟩ : ∃ n, (dg 10 (fi + fj)).length = n := ⟨_, rfl⟩; rw [hn8] at HN8; rw [hn8]; clear hn8; go_simp
          refine hK.out _ _ h (fun hHeld => ?_)
          clear hK K
          try simp only [Act.put, sIB, sC0, sCS]
          refine tkP 21 57 ?_ rfl (.inl ⟨by rfl, ?_⟩) ?_; rotate_left; focus (intro w' _; go_simp; (try with_reducible rfl))
          try simp only [sIB, sC0, sCS]
          refine wpAnyD_last (D := 22) (by decide) (by kernel_rfl) rfl (by rfl) (fun K hK => ?_)
          obtain ⟨A9, k9, c9, e9, z9, _⟩ := HF.out.dr.at' k (by have := HKS.out; omega); have HF9 := Lib.hid (HF.out.put (j := k) (by have := HKS.out; omega) HN8.out); have HIL9 : Hid (∃ b, IntsIs (W8.setCell ⟨g, k, none⟩ (.slice A8 n8 c8)) b (.slice (some ⟨b1, o1, none⟩) N c2) (atP T s k)) := Lib.hid (by obtain ⟨b, hi⟩ := HIL.out; exact ⟨b, ints_dec hi HF.out _⟩); go_simp
          refine hK.out _ _ ?_
          clear hK K
          try simp only [Act.put, sIB, sC0, sCS]
          refine wpAnyD_done (by kernel_rfl) ?_ _
          clear h hHeld e9 z9 HN8 HF HIL HNI HNJ
          have HFN : Hid (CtI w (W8.setCell ⟨g, k, none⟩ (.slice A8 n8 c8)) rb g T (.slice (some ⟨bv, ov, none⟩) NT cv) (.slice Am NM cm) s.length (fQ T s k (q + 1)) _) := Lib.hid (HF9.out.congr (fun j hj => by rw [HFS.out j]))
          clear HF9
          generalize W8.setCell ⟨g, k, none⟩ (.slice A8 n8 c8) = W9 at *
          go_wp2_with fail
          go_roundg (gk - 1)
          case measure => have := HQ.out; omega
          case rel => exact ⟨q + 1, _, by have := HQ.out; omega, by simp, HFN.out, HIL9.out⟩
        · have hqe : q = (atP T s k).length := by have := HQ.out; have := HNN.out; omega
          have hlt2 : ¬ (q : Int) < (N : Int) := by omega
          have HF2 : Hid (CtI w W rb g T (.slice Av NT cv) (.slice Am NM cm) s.length (fM T s k) vs) := Lib.hid (HF.out.congr (fun j _ => by rw [hqe]; exact fQ_all HT.out s k HKS.out j))
          clear hqe
          go_wp2_with fail
          go_roundg k
          case measure => omega
          case rel => exact ⟨_, vs, rfl, by have := HLE.out; omega, rfl, HF2.out⟩
section
variable {w w' W W' : World} {base lb mb g n m : Nat} {p : VocP} {s : List UInt8} {T : List Ent} {vb vm v3 v4 v5 v : Value} {f : Nat → Nat} {vs : List Value}
theorem dec_ask (h : DecIs W v m) (hl : LatV W base lb p s) (ha : Ask W W' base lb p s) : DecIs W' v m := by
  obtain ⟨tr, A1, c, dn, st, se, fv, vals, h1, h2⟩ := hl.lat
  have hfv : ∀ x, fv ≠ .int .u8 x := by
    rcases h2 with ⟨rfl, _⟩ | ⟨_, _, _, _, rfl, _⟩ <;> intro x <;> simp
  obtain ⟨A, c', rfl, hs, hc'⟩ := h
  refine ⟨A, c', rfl, fun i x hx => ?_, hc'⟩
  obtain ⟨b, o, e, hc⟩ := hs i x hx
  unfold u8V at hc ⊢
  have hne : b ≠ lb := fun e2 => by
    subst e2
    rw [blk_cell h1.blk] at hc
    generalize o + i = j at hc
    rcases j with _ | _ | _ | _ | _ | _ | _ | _ | j <;> simp at hc
    exact hfv _ hc
  exact ⟨b, o, e, (World.cell?_of_block (w := W) (ha.keep.block b (World.block_lt_of_cell? W _ hc) hne)).trans hc⟩
theorem DrIs.ask {w0 : World} (h : DrIs w0 W g n f vs) (hl : LatV W base lb p s) (ha : Ask W W' base lb p s) : DrIs w0 W' g n f vs := by
  obtain ⟨cs, fz, hb⟩ := hl.tag
  refine ⟨own_keep h.row ha.keep (row_off h.row hb (by decide)), fun j hj => ?_⟩
  obtain ⟨A, k, c, h1, h2⟩ := h.dec j hj
  exact ⟨A, k, c, h1, dec_ask h2 hl ha⟩
structure LD (w W : World) (base lb : Nat) (p : VocP) (s : List UInt8) (mb : Nat) (T : List Ent) (vb vm v3 v4 v5 : Value) (g : Nat) (vs : List Value) : Prop where
  lc : LC w W base lb p s mb T vb vm v3 v4 v5
  dr : ∃ w0, DrIs w0 W g s.length (cntJ p.T s) vs
theorem LD.asks (h : LD w W base lb p s mb T vb vm v3 v4 v5 g vs) (ha : Ask W W' base lb p s) : LD w W' base lb p s mb T vb vm v3 v4 v5 g vs := by
  obtain ⟨w0, hd⟩ := h.dr
  exact ⟨h.lc.asks ha, w0, hd.ask h.lc.ll.lat ha⟩
theorem LD.below (h : LD w W base lb p s mb T vb vm v3 v4 v5 g vs) (hb : Below W.heap.size W W') : LD w W' base lb p s mb T vb vm v3 v4 v5 g vs := h.asks (Ask.of_below h.lc.ll.lat hb)
theorem LD.drew (h : LD w W base lb p s mb T vb vm v3 v4 v5 g vs) : LD w W.drew base lb p s mb T vb vm v3 v4 v5 g vs := h.below (Below.refl _ _).drew
theorem ptr_ne (b : Nat) (V : World) : (binOp .neq 50 (.pointer (some ⟨b, 0, none⟩)) (.pointer (some ⟨b, 0, none⟩))).run Tryz.prog V = .ok (.bool false) V := by
  obtain ⟨i, hi, hsz⟩ : ∃ i, Tryz.prog.info? 202 = some i ∧ i.size ≠ 0 := by
    obtain ⟨i, hi⟩ : ∃ i, Tryz.prog.info? 202 = some i := Option.isSome_iff_exists.1 (by kernel_rfl)
    have h2 : (Tryz.prog.info? 202).map (fun i => decide (i.size ≠ 0)) = some true := by kernel_rfl
    rw [hi] at h2
    simp at h2
    exact ⟨i, hi, h2⟩
  unfold binOp Op.equal
  rw [show Op.maxDepth = 9999 + 1 from rfl]
  unfold Op.equalIn
  simp [go_sem, run_underlying Tryz.underlying50, sizeOf, typeInfo, hi, hsz, sameAddr]
theorem edg_len (T : List Ent) (s : List UInt8) : edgN T s (s.length + 1) = edgN T s s.length := by
  have e0 : atP T s s.length = [] := by
    unfold atP
    rw [List.drop_eq_nil_iff.2 (Nat.le_refl _)]
    rfl
  rw [edgN, e0]
  rfl
end
section
variable {w : World} {c : CaseP} {AL AC AJ AX : Option Addr} {cL cC cJ cX : Nat}
set_option maxHeartbeats 8000000 in
theorem ctells_small (h : CaseIn w c AL AC AJ AX cL cC cJ cX) (hg : c.great = false) (s : List UInt8) (hlen : s.length ≤ 100) (place id : Int) :
    Calls Tryz.prog 8 #[c.val AL AC AJ AX cL cC cJ cX, .string (bs s), .int .i64 place, .int .i64 id] w (RetTrue w) := by
  have HLEN := Lib.hid hlen
  have h12 : ¬ (100 : Int) < ((bs s).size : Int) := by rw [bs_size]; omega
  have h13 : ¬ (4000 : Int) < ((bs s).size : Int) := by rw [bs_size]; omega
  have HDZ : Hid ((bs s).size = s.length) := Lib.hid (bs_size s)
  have HB0 := Lib.hid ((Below.refl w.heap.size w).alloc (Nat.le_refl _) (.cells #[.slice AL c.l.length cL, .slice AC c.cs.length cC, .slice AJ c.js.length cJ, .slice AX c.xs.length cX] 27))
  have HN0 := Lib.hid (blk_new w (.cells #[.slice AL c.l.length cL, .slice AC c.cs.length cC, .slice AJ c.js.length cJ, .slice AX c.xs.length cX] 27))
  have HGR : Hid (∀ V, Below w.heap.size w V → Calls Tryz.prog 16 #[.agg #[.slice AL c.l.length cL, .slice AC c.cs.length cC, .slice AJ c.js.length cJ, .slice AX c.xs.length cX]] V fun e w' => e = .returned (.int .i64 0) ∧ Below V.heap.size V w') := Lib.hid (fun V hV => great_no (h.below hV (Nat.le_refl _)) hg)
  have HOF : Hid (∀ V, Below w.heap.size w V → Calls Tryz.prog 23 #[.agg #[.slice AL c.l.length cL, .slice AC c.cs.length cC, .slice AJ c.js.length cJ, .slice AX c.xs.length cX]] V fun e w' => (∃ p r, e = .returned (.tuple #[.pointer (some ⟨p.vb, 0, none⟩), r.val c]) ∧ VocAt w' V.heap.size p none ∧ p.T = c.T ∧ p.s = c.spec ∧ RVocIs w' V.heap.size c r) ∧ Below V.heap.size V w') := Lib.hid (fun V hV => of12_any (h.here.below hV (Nat.le_refl _)) (h.ok hg))
  unfold CaseP.val
  clear h hg
  go_enter Tryz.func8, Tryz.ntmps8
  go_upto_region 1 with fail
  obtain ⟨cb, hcb⟩ : ∃ b, w.heap.size = b := ⟨_, rfl⟩
  rw [hcb] at HN0 ⊢
  clear hcb
  generalize w.alloc (.cells #[.slice AL c.l.length cL, .slice AC c.cs.length cC, .slice AJ c.js.length cJ, .slice AX c.xs.length cX] 27) = w1 at *
  have s0 := blk_cell HN0.out 0
  have s1 := blk_cell HN0.out 1
  have s2 := blk_cell HN0.out 2
  have s3 := blk_cell HN0.out 3
  simp only [List.getElem?_toArray, List.getElem?_cons_zero, List.getElem?_cons_succ] at s0 s1 s2 s3
  go_upto_region 3 with (first
    | (go_at_call 16; refine (HGR.out _ HB0.out).mono ?_; rintro e w2 ⟨rfl, hb⟩; (have HB1 := Lib.hid (HB0.out.trans (hb.mono HB0.out.size))); (have HN1 := Lib.hid (blk_below hb (blk_lt HN0.out) HN0.out)); clear hb s0 s1 s2 s3)
    | (go_at_call 22; refine (awake21_any _).mono ?_; rintro e w3 ⟨rfl, hb⟩; (have HB2 := Lib.hid (HB1.out.trans (hb.mono HB1.out.size))); (have HN2 := Lib.hid (blk_below hb (blk_lt HN1.out) HN1.out)); clear hb))
  have s0 := blk_cell HN2.out 0
  have s1 := blk_cell HN2.out 1
  have s2 := blk_cell HN2.out 2
  have s3 := blk_cell HN2.out 3
  simp only [List.getElem?_toArray, List.getElem?_cons_zero, List.getElem?_cons_succ] at s0 s1 s2 s3
  go_upto_region 6 with (go_at_call 23; refine (HOF.out _ HB2.out).mono ?_; rintro e w4 ⟨⟨p, r, rfl, hv, hpT, hps, hr⟩, hb⟩; (have HPT := Lib.hid hpT); (have HV4 := Lib.hid (And.intro hv (And.intro hr (HB2.out.trans (hb.mono HB2.out.size))))); (unfold RVoc.val); clear hv hpT hps hr hb s0 s1 s2 s3)
  have hba := (Below.refl w4.heap.size w4).alloc (Nat.le_refl _) (.cells #[.slice r.A1 c.T.length r.c1, .slice r.A2 (mrgsT c.T).length r.c2, .slice r.A3 (someC c.cs).length r.c3, .slice r.A4 (someJ c.js).length r.c4, .slice r.A5 (someX c.xs (min c.xs.length 6)).length r.c5] 38)
  have HM5 := Lib.hid (blk_new w4 (.cells #[.slice r.A1 c.T.length r.c1, .slice r.A2 (mrgsT c.T).length r.c2, .slice r.A3 (someC c.cs).length r.c3, .slice r.A4 (someJ c.js).length r.c4, .slice r.A5 (someX c.xs (min c.xs.length 6)).length r.c5] 38))
  have HV5 := Lib.hid (And.intro (HV4.out.1.below hba (Nat.le_refl _)) (And.intro (HV4.out.2.1.ref.below hba (Nat.le_refl _)) (HV4.out.2.2.trans (hba.mono HV4.out.2.2.size))))
  obtain ⟨mb, hmb⟩ : ∃ b, w4.heap.size = b := ⟨_, rfl⟩
  rw [hmb] at HM5 ⊢
  clear hmb hba HV4 HOF HGR HB0 HN0 HB1 HN1 HB2 HN2
  generalize w4.alloc (.cells #[.slice r.A1 c.T.length r.c1, .slice r.A2 (mrgsT c.T).length r.c2, .slice r.A3 (someC c.cs).length r.c3, .slice r.A4 (someJ c.js).length r.c4, .slice r.A5 (someX c.xs (min c.xs.length 6)).length r.c5] 38) = w5 at *
  have HTP : Hid (OkT p.T) := Lib.hid (by rw [HPT.out]; exact c.ok)
  go_upto_region 7 with (go_at_call 24; refine (count_newV HV5.out.1 HTP.out s (by have := HLEN.out; omega)).mono ?_; rintro e W6 ⟨⟨lb, rfl, hlo, hl⟩, hb⟩; (have HC : Hid (LC w W6 _ lb p s mb c.T _ _ _ _ _) := Lib.hid ⟨⟨hl, HTP.out, HV5.out.2.2.trans (hb.mono HV5.out.2.2.size), Nat.le_trans HV5.out.2.2.size hlo⟩, blk_below hb (blk_lt HM5.out) HM5.out, ⟨_, HV5.out.2.1.below hb (Nat.le_refl _)⟩, Nat.lt_of_lt_of_le (blk_lt HM5.out) hlo⟩); clear hlo hl hb HM5 HV5 HTP)
  generalize w5.heap.size = base at HC
  obtain ⟨n1, hn1⟩ : ∃ n, c.T.length = n := ⟨_, rfl⟩
  obtain ⟨n2, hn2⟩ : ∃ n, (mrgsT c.T).length = n := ⟨_, rfl⟩
  obtain ⟨n3, hn3⟩ : ∃ n, (someC c.cs).length = n := ⟨_, rfl⟩
  obtain ⟨n4, hn4⟩ : ∃ n, (someJ c.js).length = n := ⟨_, rfl⟩
  obtain ⟨n5, hn5⟩ : ∃ n, (someX c.xs (min c.xs.length 6)).length = n := ⟨_, rfl⟩
  have HN1 := Lib.hid hn1
  rw [hn1, hn2, hn3, hn4, hn5] at HC
  rw [hn1, hn2, hn3, hn4, hn5]
  clear hn1 hn2 hn3 hn4 hn5
  have HRC : Hid (∀ V, LC w V base lb p s mb c.T (.slice r.A1 n1 r.c1) (.slice r.A2 n2 r.c2) (.slice r.A3 n3 r.c3) (.slice r.A4 n4 r.c4) (.slice r.A5 n5 r.c5) → Calls Tryz.prog 36 #[.agg #[.slice r.A1 n1 r.c1, .slice r.A2 n2 r.c2], .string (bs s)] V fun e w' => (∃ g vs, e = .returned (.slice (some ⟨g, 0, none⟩) (s.length + 1) (s.length + 1)) ∧ DrIs V w' g s.length (cntJ p.T s) vs) ∧ Below V.heap.size V w') := Lib.hid (fun V hV => by
    obtain ⟨b, hr⟩ := hV.ref
    rw [HPT.out]
    exact rcounts_any hr c.ok s (by have := HLEN.out; omega))
  have HRA : Hid (∀ V k, LC w V base lb p s mb c.T (.slice r.A1 n1 r.c1) (.slice r.A2 n2 r.c2) (.slice r.A3 n3 r.c3) (.slice r.A4 n4 r.c4) (.slice r.A5 n5 r.c5) → Calls Tryz.prog 37 #[.agg #[.slice r.A1 n1 r.c1, .slice r.A2 n2 r.c2], .string (bs (s.drop k))] V fun e w' => (∃ v, e = .returned v ∧ IntsIs w' V.heap.size v (atP p.T s k)) ∧ Below V.heap.size V w') := Lib.hid (fun V k hV => by
    obtain ⟨b, hr⟩ := hV.ref
    rw [HPT.out]
    exact rat_any hr c.ok c.ok.small (s.drop k) (by rw [List.length_drop]; have := HLEN.out; omega))
  have HSD : Hid (∀ (a : Nat) V, a ≤ s.length → (Instr.slice 9 (.string (bs s)) (some (.int .i64 (a : Int))) none none).run Tryz.prog V = .ok (.string (bs (s.drop a))) V) := Lib.hid (fun a V ha => slice_strD s a V ha)
  have m0 := HC.out.c0
  have m1 := HC.out.c1
  have HBY : Hid (∀ V, LatV V base lb p s → Calls Tryz.prog 30 #[.pointer (some ⟨lb, 0, none⟩)] V fun e w' => e = .returned (.string (bs s)) ∧ w' = V) := Lib.hid (fun V hV => hV.bytes)
  obtain ⟨Z, hZ⟩ : ∃ Z, bs s = Z := ⟨_, rfl⟩
  rw [hZ] at HRC HSD HDZ h12 h13 HBY
  rw [hZ]
  clear hZ
  go_upto_region 12 with (go_at_call 36; refine (HRC.out _ HC.out).mono ?_; rintro e W7 ⟨⟨g, vs, rfl, hdr⟩, hb⟩; (have HD : Hid (LD w W7 base lb p s mb c.T (.slice r.A1 n1 r.c1) (.slice r.A2 n2 r.c2) (.slice r.A3 n3 r.c3) (.slice r.A4 n4 r.c4) (.slice r.A5 n5 r.c5) g vs) := Lib.hid ⟨HC.out.below hb, _, hdr⟩); clear hdr hb HC HRC m0 m1)
  obtain ⟨N1, hN1⟩ : ∃ n, s.length + 1 = n := ⟨_, rfl⟩
  have HNN := Lib.hid hN1
  rw [hN1]
  clear hN1
  go_wp2_with fail
  go_loopg [14, 15] N1 (fun n v i W => ∃ k : Nat, k + n = N1 ∧ v = .int .i64 (edgN p.T s k : Nat) ∧ i = .int .i64 (k : Int) ∧ LD w W base lb p s mb c.T (.slice r.A1 n1 r.c1) (.slice r.A2 n2 r.c2) (.slice r.A3 n3 r.c3) (.slice r.A4 n4 r.c4) (.slice r.A5 n5 r.c5) g vs)
  case atStart => exact ⟨0, by omega, rfl, rfl, HD.out⟩
  case round =>
    obtain ⟨k, hk, rfl, rfl, hx⟩ := hrel
    clear HD
    rename World => W
    have HD := Lib.hid hx
    have HK := Lib.hid hk
    clear hx hk
    by_cases hlt : k ≤ Z.size
    · have f1 : (k : Int) ≤ (Z.size : Int) := by omega
      have f0 : (0 : Int) ≤ (k : Int) := by omega
      have HKS : Hid (k ≤ s.length) := Lib.hid (by have := HDZ.out; omega)
      have f2 : (k : Int) < (N1 : Int) := by have := HKS.out; have := HNN.out; omega
      have wk : IntKind.i64.wrap ((k : Int) + 1) = (k : Int) + 1 := IntWalk.i64_in _ (by have := HKS.out; have := HLEN.out; omega)
      have wsl : ∀ V, (Instr.slice 9 (.string Z) (some (.int .i64 (k : Int))) none none).run Tryz.prog V = .ok (.string (bs (s.drop k))) V := fun V => HSD.out k V HKS.out
      have m0 := HD.out.lc.c0
      have m1 := HD.out.lc.c1
      have hh := And.intro m0 m1
      clear hlt
      go_upto_region 16 with fail
      clear m0 m1
      refine wp_region_held_drew (S := fun V => V.cell? ⟨mb, 0, none⟩ = some (.slice r.A1 n1 r.c1) ∧ V.cell? ⟨mb, 1, none⟩ = some (.slice r.A2 n2 r.c2)) (by kernel_rfl) (by exact hh) (fun hHeld => ?_)
      refine tkH 0 74 ?_ rfl hHeld (.inl ⟨by rfl, ?_⟩) ?_; rotate_left; focus (intro w' hSw; (try dsimp only at hSw); go_simp; (try with_reducible rfl))
      try simp only [sIB, sC0, sCS]
      refine tkH 1 75 ?_ rfl hHeld (.inl ⟨by rfl, ?_⟩) ?_; rotate_left; focus (intro w' hSw; (try dsimp only at hSw); go_simp; (try with_reducible rfl))
      try simp only [sIB, sC0, sCS]
      refine tkH 2 76 ?_ rfl hHeld (.inl ⟨by rfl, ?_⟩) ?_; rotate_left; focus (intro w' hSw; (try dsimp only at hSw); go_simp; (try with_reducible rfl))
      try simp only [sIB, sC0, sCS]
      refine tkH 3 77 ?_ rfl hHeld (.inl ⟨by rfl, ?_⟩) ?_; rotate_left; focus (intro w' hSw; (try dsimp only at hSw); go_simp; (try with_reducible rfl))
      try simp only [sIB, sC0, sCS]
      refine tkH 4 78 ?_ rfl hHeld (.inl ⟨by rfl, ?_⟩) ?_; rotate_left; focus (intro w' hSw; (try dsimp only at hSw); go_simp; (try with_reducible rfl))
      try simp only [sIB, sC0, sCS]
      refine wpAnyH_ready (rs := [5]) (by kernel_rfl) (by simp) ?_
      refine AllReadyH.cons rfl (fun K hK => ?_) AllReadyH.nil
      (try go_simp)
      go_simp; refine (HRA.out _ k HD.out.drew.lc).mono ?_; rintro e W6 ⟨⟨v, rfl, A2, c2, rfl, hown⟩, hb⟩; (replace HD := Lib.hid (HD.out.drew.below hb)); have HA := Lib.hid (own_sl1 hown); have h := And.intro HD.out.lc.c0 HD.out.lc.c1; clear hown hb; go_simp
      go_wp2_with fail
      refine hK.out _ _ h (fun hHeld => ?_)
      clear hK K
      try simp only [Act.put, sIB, sC0, sCS]
      refine tkH 6 16 ?_ rfl hHeld (.inl ⟨by rfl, ?_⟩) ?_; rotate_left; focus (intro w' hSw; (try dsimp only at hSw); go_simp; (try with_reducible rfl))
      try simp only [sIB, sC0, sCS]
      refine wpAnyH_done (by kernel_rfl) ?_ _
      clear hh h hHeld wsl
      obtain ⟨L, hL⟩ : ∃ l, atP p.T s k = l := ⟨_, rfl⟩
      have HLL := Lib.hid hL
      rw [hL] at HA
      rw [hL]
      have HEG : Hid (edgN p.T s (k + 1) = edgN p.T s k + L.length) := Lib.hid (by rw [edgN, hL])
      have HEB : Hid (edgN p.T s k + L.length ≤ 20000) := Lib.hid (by
        have h1 := edgN_le p.T s (k + 1)
        rw [edgN, hL] at h1
        have h2 := HKS.out
        have h3 := HLEN.out
        have h4 : (k + 1) * s.length ≤ 101 * 100 := Nat.mul_le_mul (by omega) h3
        omega)
      have HLB : Hid (L.length ≤ 20000) := Lib.hid (by have := HEB.out; omega)
      clear hL
      obtain ⟨NL, hNL⟩ : ∃ n, L.length = n := ⟨_, rfl⟩
      have HNL := Lib.hid hNL
      rw [hNL] at HEG HEB
      rw [hNL]
      clear hNL
      obtain ⟨eg, heg⟩ : ∃ z, edgN p.T s k = z := ⟨_, rfl⟩
      rw [heg] at HEG HEB
      rw [heg]
      clear heg
      have weg : IntKind.i64.wrap ((eg : Int) + (NL : Int)) = ((eg + NL : Nat) : Int) := by rw [Int.natCast_add]; exact IntWalk.i64_in _ (by have := HEB.out; omega)
      go_upto_region 18 with fail
      clear weg
      obtain ⟨Aw, kw, cw, hvw⟩ : ∃ A k' c', vs[k]? = some (.slice A k' c') := by
        obtain ⟨w0, hd⟩ := HD.out.dr
        obtain ⟨A, k', c', q1, _⟩ := hd.dec k HKS.out
        exact ⟨A, k', c', q1⟩
      have HWV : Hid (∀ V, LD w V base lb p s mb c.T (.slice r.A1 n1 r.c1) (.slice r.A2 n2 r.c2) (.slice r.A3 n3 r.c3) (.slice r.A4 n4 r.c4) (.slice r.A5 n5 r.c5) g vs → V.cell? ⟨g, k, none⟩ = some (.slice Aw kw cw) ∧ DecIs V (.slice Aw kw cw) (cntJ p.T s k)) := Lib.hid (fun V hV => by
        obtain ⟨w0, hd⟩ := hV.dr
        obtain ⟨A, k', c', q1, q2⟩ := hd.dec k HKS.out
        rw [hvw] at q1
        injection q1 with q1
        rw [← q1] at q2
        have h9 := hd.row.cells (g := g) rfl k _ hvw
        rw [add_plain, Nat.zero_add] at h9
        exact ⟨h9, q2⟩)
      clear hvw
      have HFR : Hid (∀ V, LatV V base lb p s → Calls Tryz.prog 28 #[.pointer (some ⟨lb, 0, none⟩), .int .i64 (k : Int)] V fun e w' => ∃ A k' c, e = .returned (.agg #[.slice A k' c]) ∧ NatIs w' (.agg #[.slice A k' c]) (cntJ p.T s k) ∧ Ask V w' base lb p s) := Lib.hid (fun V hV => hV.from HD.out.lc.ll.ok (by have := HLEN.out; omega) k HKS.out)
      have HDG : Hid ((dg B32 (cntJ p.T s k)).length ≤ 100000 ∧ (dg 10 (cntJ p.T s k)).length ≤ 100000) := Lib.hid ⟨by have := cntJ_dg HD.out.lc.ll.ok s k; have := HLEN.out; omega, by have := cntJ_d10 HD.out.lc.ll.ok s k; have := HLEN.out; omega⟩
      have HAT : Hid (∀ V, LatV V base lb p s → Calls Tryz.prog 29 #[.pointer (some ⟨lb, 0, none⟩), .int .i64 (k : Int)] V fun e w' => (∃ A c, e = .returned (.slice A NL c) ∧ Sl1 w' A (Value.int .i64) L) ∧ Below V.heap.size V w') := Lib.hid (fun V hV => by
        refine (hV.atAny k HKS.out (by have := HLEN.out; omega)).mono ?_
        rintro e w' ⟨⟨v, rfl, A, c', rfl, ho⟩, hb⟩
        rw [HLL.out] at ho ⊢
        exact ⟨⟨A, c', by rw [HNL.out], own_sl1 ho⟩, hb⟩)
      have HIN : Hid (∀ V (A : Option Addr) (c' : Nat), Sl1 V A (Value.int .i64) L → Sl1 V A2 (Value.int .i64) L → Calls Tryz.prog 40 #[.slice A NL c', .slice A2 NL c2] V fun e w' => e = .returned (.bool true) ∧ Below V.heap.size V w') := Lib.hid (fun V A c' h1 h2 => by
        have h3 := ints_same L A A2 c' c2 V h1 h2 (by have := HLB.out; omega)
        rw [HNL.out] at h3
        exact h3)
      obtain ⟨tS, htS⟩ : ∃ t, decS (cntJ p.T s k) = t := ⟨_, rfl⟩
      have HST : Hid (∀ V A k' c', NatIs V (.agg #[.slice A k' c']) (cntJ p.T s k) → Calls Tryz.prog 38 #[.agg #[.slice A k' c']] V fun e w' => e = .returned (.string tS) ∧ Below V.heap.size V w') := Lib.hid (fun V A k' c' hn => by rw [← htS]; exact string_any _ _ V hn HDG.out.1 (Nat.le_trans HDG.out.2 (by decide)))
      have HPR : Hid (∀ V, DecIs V (.slice Aw kw cw) (cntJ p.T s k) → Calls Tryz.prog 39 #[.slice Aw kw cw] V fun e w' => e = .returned (.string tS) ∧ Below V.heap.size V w') := Lib.hid (fun V hn => by rw [← htS]; exact print_any _ _ V hn (Nat.le_trans HDG.out.2 (by decide)))
      clear htS
      have hh := (HWV.out _ HD.out).1
      refine wp_region_held_drew (S := fun V => V.cell? ⟨g, k, none⟩ = some (.slice Aw kw cw)) (by kernel_rfl) (by exact hh) (fun hHeld => ?_)
      refine tkH 0 84 ?_ rfl hHeld (.inl ⟨by rfl, ?_⟩) ?_; rotate_left; focus (intro w' hSw; (try dsimp only at hSw); go_simp; (try with_reducible rfl))
      try simp only [sIB, sC0, sCS]
      refine tkH 1 85 ?_ rfl hHeld (.inl ⟨by rfl, ?_⟩) ?_; rotate_left; focus (intro w' hSw; (try dsimp only at hSw); go_simp; (try with_reducible rfl))
      try simp only [sIB, sC0, sCS]
      refine tkH 4 88 ?_ rfl hHeld (.inl ⟨by rfl, ?_⟩) ?_; rotate_left; focus (intro w' hSw; (try dsimp only at hSw); go_simp; (try with_reducible rfl))
      try simp only [sIB, sC0, sCS]
      refine tkH 5 89 ?_ rfl hHeld (.inl ⟨by rfl, ?_⟩) ?_; rotate_left; focus (intro w' hSw; (try dsimp only at hSw); go_simp; (try with_reducible rfl))
      try simp only [sIB, sC0, sCS]
      refine tkH 6 90 ?_ rfl hHeld (.inl ⟨by rfl, ?_⟩) ?_; rotate_left; focus (intro w' hSw; (try dsimp only at hSw); go_simp; (try with_reducible rfl))
      try simp only [sIB, sC0, sCS]
      refine tkH 7 91 ?_ rfl hHeld (.inl ⟨by rfl, ?_⟩) ?_; rotate_left; focus (intro w' hSw; (try dsimp only at hSw); go_simp; (try with_reducible rfl))
      try simp only [sIB, sC0, sCS]
      refine wpAnyH_ready (rs := [2]) (by kernel_rfl) (by simp) ?_
      refine AllReadyH.cons rfl (fun K hK => ?_) AllReadyH.nil
      (try go_simp)
      go_simp; refine (HFR.out _ HD.out.drew.lc.ll.lat).mono ?_; rintro e W8 ⟨A8, k8, c8, rfl, hn, ha⟩; (replace HA := Lib.hid (sl_ask (HA.out.below (Below.refl _ _).drew (Nat.le_refl _)) HD.out.drew.lc.ll.lat ha)); (replace HD := Lib.hid (HD.out.drew.asks ha)); have HN8 := Lib.hid hn; have h := (HWV.out _ HD.out).1; clear hn ha; go_simp
      go_wp2_with fail
      refine hK.out _ _ h (fun hHeld => ?_)
      clear hK K
      try simp only [Act.put, sIB, sC0, sCS]
      refine wpAnyH_ready (rs := [3]) (by kernel_rfl) (by simp) ?_
      refine AllReadyH.cons rfl (fun K hK => ?_) AllReadyH.nil
      (try go_simp)
      go_simp; refine (HST.out _ _ _ _ HN8.out).mono ?_; rintro e W9 ⟨rfl, hb⟩; (replace HA := Lib.hid (HA.out.below hb (Nat.le_refl _))); (replace HD := Lib.hid (HD.out.below hb)); have h := (HWV.out _ HD.out).1; clear hb HN8; go_simp
      go_wp2_with fail
      refine hK.out _ _ h (fun hHeld => ?_)
      clear hK K
      try simp only [Act.put, sIB, sC0, sCS]
      refine wpAnyH_ready (rs := [8]) (by kernel_rfl) (by simp) ?_
      refine AllReadyH.cons rfl (fun K hK => ?_) AllReadyH.nil
      (try go_simp)
      go_simp; refine (HPR.out _ (HWV.out _ HD.out).2).mono ?_; rintro e W10 ⟨rfl, hb⟩; (replace HA := Lib.hid (HA.out.below hb (Nat.le_refl _))); (replace HD := Lib.hid (HD.out.below hb)); have h := (HWV.out _ HD.out).1; clear hb; go_simp
      go_wp2_with fail
      refine hK.out _ _ h (fun hHeld => ?_)
      clear hK K
      try simp only [Act.put, sIB, sC0, sCS]
      refine tkH 9 93 ?_ rfl hHeld (.inl ⟨by rfl, ?_⟩) ?_; rotate_left; focus (intro w' hSw; (try dsimp only at hSw); go_simp; (try with_reducible rfl))
      try simp only [sIB, sC0, sCS]
      refine tkH 10 94 ?_ rfl hHeld (.inl ⟨by rfl, ?_⟩) ?_; rotate_left; focus (intro w' hSw; (try dsimp only at hSw); go_simp; (try with_reducible rfl))
      try simp only [sIB, sC0, sCS]
      refine tkH 11 95 ?_ rfl hHeld (.inl ⟨by rfl, ?_⟩) ?_; rotate_left; focus (intro w' hSw; (try dsimp only at hSw); go_simp; (try with_reducible rfl))
      try simp only [sIB, sC0, sCS]
      refine tkH 12 96 ?_ rfl hHeld (.inl ⟨by rfl, ?_⟩) ?_; rotate_left; focus (intro w' hSw; (try dsimp only at hSw); go_simp; (try with_reducible rfl))
      try simp only [sIB, sC0, sCS]
      refine tkH 14 98 ?_ rfl hHeld (.inl ⟨by rfl, ?_⟩) ?_; rotate_left; focus (intro w' hSw; (try dsimp only at hSw); go_simp; (try with_reducible rfl))
      try simp only [sIB, sC0, sCS]
      refine wpAnyH_ready (rs := [13]) (by kernel_rfl) (by simp) ?_
      refine AllReadyH.cons rfl (fun K hK => ?_) AllReadyH.nil
      (try go_simp)
      go_simp; refine (HAT.out _ HD.out.lc.ll.lat).mono ?_; rintro e W11 ⟨⟨A11, c11, rfl, hu⟩, hb⟩; (replace HA := Lib.hid (HA.out.below hb (Nat.le_refl _))); (replace HD := Lib.hid (HD.out.below hb)); have HU := Lib.hid hu; have h := (HWV.out _ HD.out).1; clear hu hb; go_simp
      go_wp2_with fail
      refine hK.out _ _ h (fun hHeld => ?_)
      clear hK K
      try simp only [Act.put, sIB, sC0, sCS]
      refine wpAnyH_ready (rs := [15]) (by kernel_rfl) (by simp) ?_
      refine AllReadyH.cons rfl (fun K hK => ?_) AllReadyH.nil
      (try go_simp)
      go_simp; refine (HIN.out _ _ _ HU.out HA.out).mono ?_; rintro e W12 ⟨rfl, hb⟩; (replace HD := Lib.hid (HD.out.below hb)); have h := (HWV.out _ HD.out).1; clear hb HU HA; go_simp
      go_wp2_with fail
      refine hK.out _ _ h (fun hHeld => ?_)
      clear hK K
      try simp only [Act.put, sIB, sC0, sCS]
      refine tkH 16 100 ?_ rfl hHeld (.inl ⟨by rfl, ?_⟩) ?_; rotate_left; focus (intro w' hSw; (try dsimp only at hSw); go_simp; (try with_reducible rfl))
      try simp only [sIB, sC0, sCS]
      refine tkH 17 101 ?_ rfl hHeld (.inl ⟨by rfl, ?_⟩) ?_; rotate_left; focus (intro w' hSw; (try dsimp only at hSw); go_simp; (try with_reducible rfl))
      try simp only [sIB, sC0, sCS]
      refine wpAnyH_done (by kernel_rfl) ?_ _
      clear hh h hHeld
      go_wp2_with fail
      go_roundg (gk - 1)
      case measure => have := HK.out; have := HKS.out; have := HNN.out; omega
      case rel => exact ⟨k + 1, by have := HK.out; have := HKS.out; have := HNN.out; omega, by rw [HEG.out]; simp, by simp, HD.out⟩
    · have f1 : ¬ (k : Int) ≤ (Z.size : Int) := by omega
      have hke : k = s.length + 1 := by have := HK.out; have := HNN.out; have := HDZ.out; omega
      obtain ⟨eE, heE2⟩ : ∃ z, edgN p.T s k = z := ⟨_, rfl⟩
      have heE : edgN p.T s s.length = eE := by rw [← heE2, hke, edg_len]
      have HED : Hid (∀ V, LatV V base lb p s → Calls Tryz.prog 32 #[.pointer (some ⟨lb, 0, none⟩)] V fun e w' => e = .returned (.int .i64 (eE : Nat)) ∧ Below V.heap.size V w') := Lib.hid (fun V hV => by rw [← heE]; exact ledges_any hV (by have := HLEN.out; omega))
      rw [heE2]
      clear heE heE2 hke
      obtain ⟨sz, hsz⟩ : ∃ z, lenT p.T id = z := ⟨_, rfl⟩
      have HSZ : Hid (∀ V, LatV V base lb p s → Calls Tryz.prog 31 #[.pointer (some ⟨lb, 0, none⟩), .int .i64 id] V fun e w' => e = .returned (.int .i64 (sz : Nat)) ∧ w' = V) := Lib.hid (fun V hV => by rw [← hsz]; exact hV.size id)
      have HVO : Hid (∀ V, LatV V base lb p s → Calls Tryz.prog 33 #[.pointer (some ⟨lb, 0, none⟩)] V fun e w' => e = .returned (.pointer (some ⟨p.vb, 0, none⟩)) ∧ w' = V) := Lib.hid (fun V hV => hV.vocab)
      have HCO : Hid (∀ V, LatV V base lb p s → Calls Tryz.prog 25 #[.pointer (some ⟨lb, 0, none⟩)] V fun e w' => ∃ A k c, e = .returned (.agg #[.slice A k c]) ∧ NatIs w' (.agg #[.slice A k c]) (cntJ p.T s 0) ∧ Ask V w' base lb p s) := Lib.hid (fun V hV => hV.count HD.out.lc.ll.ok (by have := HLEN.out; omega))
      have HF0 : Hid (∀ V, LatV V base lb p s → Calls Tryz.prog 28 #[.pointer (some ⟨lb, 0, none⟩), .int .i64 0] V fun e w' => ∃ A k c, e = .returned (.agg #[.slice A k c]) ∧ NatIs w' (.agg #[.slice A k c]) (cntJ p.T s 0) ∧ Ask V w' base lb p s) := Lib.hid (fun V hV => hV.from HD.out.lc.ll.ok (by have := HLEN.out; omega) 0 (Nat.zero_le _))
      have HDG : Hid ((dg B32 (cntJ p.T s 0)).length ≤ 100000) := Lib.hid (by have := cntJ_dg HD.out.lc.ll.ok s 0; have := HLEN.out; omega)
      obtain ⟨ct, hct⟩ : ∃ z, cntJ p.T s 0 = z := ⟨_, rfl⟩
      rw [hct] at HCO HF0 HDG
      have HCM : Hid (cmpN ct ct = 0) := Lib.hid (by unfold cmpN; rw [if_neg (Nat.lt_irrefl _), if_neg (Nat.lt_irrefl _)])
      have HHA : Hid (∀ V, LC w V base lb p s mb c.T (.slice r.A1 n1 r.c1) (.slice r.A2 n2 r.c2) (.slice r.A3 n3 r.c3) (.slice r.A4 n4 r.c4) (.slice r.A5 n5 r.c5) → Calls Tryz.prog 41 #[.agg #[.slice r.A1 n1 r.c1, .slice r.A2 n2 r.c2], .int .i64 id] V fun e w' => e = .returned (.bool (hasT p.T id)) ∧ Below V.heap.size V w') := Lib.hid (fun V hV => by
        obtain ⟨b, hr⟩ := hV.ref
        rw [HPT.out]
        exact rhas_any id hr)
      have HAO : Hid (∀ V, LatV V base lb p s → ¬ (0 ≤ place ∧ place ≤ s.length) → Calls Tryz.prog 28 #[.pointer (some ⟨lb, 0, none⟩), .int .i64 place] V fun e w' => ∃ A k c, e = .returned (.agg #[.slice A k c]) ∧ NatIs w' (.agg #[.slice A k c]) 0 ∧ Below V.heap.size V w') := Lib.hid (fun V hV hp => by
        refine (lfrom_out hV place hp).mono ?_
        rintro e w' ⟨v, rfl, ⟨A, c', rfl, q1, q2⟩, hb⟩
        exact ⟨A, _, c', rfl, ⟨A, c', rfl, q1, q2⟩, hb⟩)
      have HAN : Hid (∀ V, LatV V base lb p s → ¬ (0 ≤ place ∧ place ≤ s.length) → Calls Tryz.prog 29 #[.pointer (some ⟨lb, 0, none⟩), .int .i64 place] V fun e w' => e = .returned (.slice none 0 0) ∧ w' = V) := Lib.hid (fun V hV hp => hV.atOut place (by omega))
      have m0 := HD.out.lc.c0
      have m1 := HD.out.lc.c1
      clear hct
      cases hh : hasT p.T id with
      | false =>
        have hz0 : sz = 0 := by
          rw [← hsz]
          unfold lenT bytesT
          rw [if_neg (by rw [hh]; decide)]
          rfl
        have HHF := Lib.hid hh
        subst hz0
        clear hh hsz
        go_upto_region 23 with (go_at_call 41; refine (HHA.out _ HD.out.lc).mono ?_; rintro e W13 ⟨rfl, hb⟩; rw [HHF.out]; (replace HD := Lib.hid (HD.out.below hb)); clear hb m0 m1)
        have hvne : ∀ V, (binOp .neq 50 (.pointer (some ⟨p.vb, 0, none⟩)) (.pointer (some ⟨p.vb, 0, none⟩))).run Tryz.prog V = .ok (.bool false) V := fun V => ptr_ne p.vb V
        go_upto_region 25 with (first
          | (go_at_call 30; refine (HBY.out _ HD.out.lc.ll.lat).mono ?_; rintro e W14 ⟨rfl, hw⟩; rw [hw]; clear hw W14)
          | (go_at_call 32; refine (HED.out _ HD.out.lc.ll.lat).mono ?_; rintro e W15 ⟨rfl, hb⟩; (replace HD := Lib.hid (HD.out.below hb)); clear hb)
          | (go_at_call 31; refine (HSZ.out _ HD.out.lc.ll.lat).mono ?_; rintro e W16 ⟨rfl, hw⟩; rw [hw]; clear hw W16)
          | (go_at_call 33; refine (HVO.out _ HD.out.lc.ll.lat).mono ?_; rintro e W17 ⟨rfl, hw⟩; rw [hw]; clear hw W17)
          | (go_at_call 25; refine (HCO.out _ HD.out.lc.ll.lat).mono ?_; rintro e W18 ⟨A18, k18, c18, rfl, hn, ha⟩; (replace HD := Lib.hid (HD.out.asks ha)); (have HN18 := Lib.hid hn); clear hn ha)
          | (go_at_call 28; refine (HF0.out _ HD.out.lc.ll.lat).mono ?_; rintro e W19 ⟨A19, k19, c19, rfl, hn, ha⟩; (replace HN18 := Lib.hid (ha.nat _ _ HN18.out)); (replace HD := Lib.hid (HD.out.asks ha)); (have HN19 := Lib.hid hn); clear hn ha)
          | (go_at_call 35; refine (compare_any _ _ ct ct _ HN18.out HN19.out HDG.out HDG.out).mono ?_; rintro e W20 ⟨rfl, hb⟩; rw [HCM.out]; (replace HD := Lib.hid (HD.out.below hb)); clear hb))
        by_cases hp0 : 0 ≤ place
        · by_cases hp1 : place ≤ (Z.size : Int)
          · go_wp2_with fail
            go_ret
            exact ⟨rfl, HD.out.lc.ll.blw⟩
          · have HPL : Hid (¬ (0 ≤ place ∧ place ≤ s.length)) := Lib.hid (by have := HDZ.out; omega)
            go_wp2_with (first
              | (go_at_call 28; refine (HAO.out _ HD.out.lc.ll.lat HPL.out).mono ?_; rintro e W21 ⟨A21, k21, c21, rfl, hn, hb⟩; (replace HD := Lib.hid (HD.out.below hb)); (have HN21 := Lib.hid hn); clear hn hb)
              | (go_at_call 27; refine (zero_any _ 0 _ HN21.out).mono ?_; rintro e W22 ⟨rfl, hb⟩; (replace HD := Lib.hid (HD.out.below hb)); clear hb)
              | (go_at_call 29; refine (HAN.out _ HD.out.lc.ll.lat HPL.out).mono ?_; rintro e W23 ⟨rfl, hw⟩; rw [hw]; clear hw W23))
            go_ret
            exact ⟨rfl, HD.out.lc.ll.blw⟩
        · have HPL : Hid (¬ (0 ≤ place ∧ place ≤ s.length)) := Lib.hid (by omega)
          go_wp2_with (first
            | (go_at_call 28; refine (HAO.out _ HD.out.lc.ll.lat HPL.out).mono ?_; rintro e W21 ⟨A21, k21, c21, rfl, hn, hb⟩; (replace HD := Lib.hid (HD.out.below hb)); (have HN21 := Lib.hid hn); clear hn hb)
            | (go_at_call 27; refine (zero_any _ 0 _ HN21.out).mono ?_; rintro e W22 ⟨rfl, hb⟩; (replace HD := Lib.hid (HD.out.below hb)); clear hb)
            | (go_at_call 29; refine (HAN.out _ HD.out.lc.ll.lat HPL.out).mono ?_; rintro e W23 ⟨rfl, hw⟩; rw [hw]; clear hw W23))
          go_ret
          exact ⟨rfl, HD.out.lc.ll.blw⟩
      | true =>
        obtain ⟨j, hjx, hj, hjt⟩ := hasT_at hh
        subst hjx
        obtain ⟨bv, ov, hAv, e2⟩ : ∃ b o, r.A1 = some ⟨b, o, none⟩ ∧ ∀ V, LC w V base lb p s mb c.T (.slice r.A1 n1 r.c1) (.slice r.A2 n2 r.c2) (.slice r.A3 n3 r.c3) (.slice r.A4 n4 r.c4) (.slice r.A5 n5 r.c5) → V.cell? ⟨b, o + j, none⟩ = some (strV (bytesT p.T (j : Int))) := by
          have h0 : (bytsT c.T)[j]? = some (bytesT p.T (j : Int)) := by
            rw [HPT.out] at hh hj ⊢
            unfold bytsT bytesT
            rw [if_pos hh, entT_nat _ _ hj, List.getElem?_map, List.getElem?_eq_getElem hj]
            rfl
          have key : ∀ V, LC w V base lb p s mb c.T (.slice r.A1 n1 r.c1) (.slice r.A2 n2 r.c2) (.slice r.A3 n3 r.c3) (.slice r.A4 n4 r.c4) (.slice r.A5 n5 r.c5) → ∃ b o, r.A1 = some ⟨b, o, none⟩ ∧ V.cell? ⟨b, o + j, none⟩ = some (strV (bytesT p.T (j : Int))) := fun V hV => by
            obtain ⟨b, hr⟩ := hV.ref
            have hrow := hr.row
            rw [← HN1.out] at hrow
            exact own_sl1 hrow j _ h0
          obtain ⟨b, o, h1, _⟩ := key _ HD.out.lc
          refine ⟨b, o, h1, fun V hV => ?_⟩
          obtain ⟨b', o', h2, h3⟩ := key V hV
          rw [h1] at h2
          cases h2
          exact h3
        obtain ⟨Bx, hBx⟩ : ∃ B, bs (bytesT p.T (j : Int)) = B := ⟨_, rfl⟩
        have hbz : sz = Bx.size := by rw [← hBx, bs_size, ← hsz]; rfl
        subst hbz
        unfold strV at e2
        rw [hBx] at e2
        have HBX := Lib.hid e2
        have j0 : (0 : Int) ≤ (j : Int) := by omega
        have j1 : (j : Int) < (n1 : Int) := by have := HN1.out; rw [HPT.out] at hj; omega
        have HHF := Lib.hid hh
        have HAV := Lib.hid hAv
        clear hh hsz hBx hj hjt e2 hAv
        go_upto_region 22 with (go_at_call 41; refine (HHA.out _ HD.out.lc).mono ?_; rintro e W13 ⟨rfl, hb⟩; rw [HHF.out]; (replace HD := Lib.hid (HD.out.below hb)); clear hb m0 m1)
        have m0 := HD.out.lc.c0
        have e2 := HBX.out _ HD.out.lc
        rw [HAV.out] at m0
        go_upto_region 23 with fail
        clear m0 e2 j0 j1
        have hvne : ∀ V, (binOp .neq 50 (.pointer (some ⟨p.vb, 0, none⟩)) (.pointer (some ⟨p.vb, 0, none⟩))).run Tryz.prog V = .ok (.bool false) V := fun V => ptr_ne p.vb V
        go_upto_region 25 with (first
          | (go_at_call 30; refine (HBY.out _ HD.out.lc.ll.lat).mono ?_; rintro e W14 ⟨rfl, hw⟩; rw [hw]; clear hw W14)
          | (go_at_call 32; refine (HED.out _ HD.out.lc.ll.lat).mono ?_; rintro e W15 ⟨rfl, hb⟩; (replace HD := Lib.hid (HD.out.below hb)); clear hb)
          | (go_at_call 31; refine (HSZ.out _ HD.out.lc.ll.lat).mono ?_; rintro e W16 ⟨rfl, hw⟩; rw [hw]; clear hw W16)
          | (go_at_call 33; refine (HVO.out _ HD.out.lc.ll.lat).mono ?_; rintro e W17 ⟨rfl, hw⟩; rw [hw]; clear hw W17)
          | (go_at_call 25; refine (HCO.out _ HD.out.lc.ll.lat).mono ?_; rintro e W18 ⟨A18, k18, c18, rfl, hn, ha⟩; (replace HD := Lib.hid (HD.out.asks ha)); (have HN18 := Lib.hid hn); clear hn ha)
          | (go_at_call 28; refine (HF0.out _ HD.out.lc.ll.lat).mono ?_; rintro e W19 ⟨A19, k19, c19, rfl, hn, ha⟩; (replace HN18 := Lib.hid (ha.nat _ _ HN18.out)); (replace HD := Lib.hid (HD.out.asks ha)); (have HN19 := Lib.hid hn); clear hn ha)
          | (go_at_call 35; refine (compare_any _ _ ct ct _ HN18.out HN19.out HDG.out HDG.out).mono ?_; rintro e W20 ⟨rfl, hb⟩; rw [HCM.out]; (replace HD := Lib.hid (HD.out.below hb)); clear hb))
        by_cases hp0 : 0 ≤ place
        · by_cases hp1 : place ≤ (Z.size : Int)
          · go_wp2_with fail
            go_ret
            exact ⟨rfl, HD.out.lc.ll.blw⟩
          · have HPL : Hid (¬ (0 ≤ place ∧ place ≤ s.length)) := Lib.hid (by have := HDZ.out; omega)
            go_wp2_with (first
              | (go_at_call 28; refine (HAO.out _ HD.out.lc.ll.lat HPL.out).mono ?_; rintro e W21 ⟨A21, k21, c21, rfl, hn, hb⟩; (replace HD := Lib.hid (HD.out.below hb)); (have HN21 := Lib.hid hn); clear hn hb)
              | (go_at_call 27; refine (zero_any _ 0 _ HN21.out).mono ?_; rintro e W22 ⟨rfl, hb⟩; (replace HD := Lib.hid (HD.out.below hb)); clear hb)
              | (go_at_call 29; refine (HAN.out _ HD.out.lc.ll.lat HPL.out).mono ?_; rintro e W23 ⟨rfl, hw⟩; rw [hw]; clear hw W23))
            go_ret
            exact ⟨rfl, HD.out.lc.ll.blw⟩
        · have HPL : Hid (¬ (0 ≤ place ∧ place ≤ s.length)) := Lib.hid (by omega)
          go_wp2_with (first
            | (go_at_call 28; refine (HAO.out _ HD.out.lc.ll.lat HPL.out).mono ?_; rintro e W21 ⟨A21, k21, c21, rfl, hn, hb⟩; (replace HD := Lib.hid (HD.out.below hb)); (have HN21 := Lib.hid hn); clear hn hb)
            | (go_at_call 27; refine (zero_any _ 0 _ HN21.out).mono ?_; rintro e W22 ⟨rfl, hb⟩; (replace HD := Lib.hid (HD.out.below hb)); clear hb)
            | (go_at_call 29; refine (HAN.out _ HD.out.lc.ll.lat HPL.out).mono ?_; rintro e W23 ⟨rfl, hw⟩; rw [hw]; clear hw W23))
          go_ret
          exact ⟨rfl, HD.out.lc.ll.blw⟩
end
section
variable {w : World} {c : CaseP} {AL AC AJ AX : Option Addr} {cL cC cJ cX : Nat}
set_option maxHeartbeats 8000000 in
theorem ctells_long (h : CaseIn w c AL AC AJ AX cL cC cJ cX) (hg : c.great = false) (s : List UInt8) (hlen : 4000 < s.length) (place id : Int) :
    Calls Tryz.prog 8 #[c.val AL AC AJ AX cL cC cJ cX, .string (bs s), .int .i64 place, .int .i64 id] w (RetTrue w) := by
  have HLEN := Lib.hid hlen
  have h12 : (100 : Int) < ((bs s).size : Int) := by rw [bs_size]; omega
  have h13 : ¬ ((bs s).size : Int) ≤ (4000 : Int) := by rw [bs_size]; omega
  have h14 : (4000 : Int) < ((bs s).size : Int) := by rw [bs_size]; omega
  clear hlen
  have HB0 := Lib.hid ((Below.refl w.heap.size w).alloc (Nat.le_refl _) (.cells #[.slice AL c.l.length cL, .slice AC c.cs.length cC, .slice AJ c.js.length cJ, .slice AX c.xs.length cX] 27))
  have HN0 := Lib.hid (blk_new w (.cells #[.slice AL c.l.length cL, .slice AC c.cs.length cC, .slice AJ c.js.length cJ, .slice AX c.xs.length cX] 27))
  have HGR : Hid (∀ V, Below w.heap.size w V → Calls Tryz.prog 16 #[.agg #[.slice AL c.l.length cL, .slice AC c.cs.length cC, .slice AJ c.js.length cJ, .slice AX c.xs.length cX]] V fun e w' => e = .returned (.int .i64 0) ∧ Below V.heap.size V w') := Lib.hid (fun V hV => great_no (h.below hV (Nat.le_refl _)) hg)
  have HOF : Hid (∀ V, Below w.heap.size w V → Calls Tryz.prog 23 #[.agg #[.slice AL c.l.length cL, .slice AC c.cs.length cC, .slice AJ c.js.length cJ, .slice AX c.xs.length cX]] V fun e w' => (∃ p r, e = .returned (.tuple #[.pointer (some ⟨p.vb, 0, none⟩), r.val c]) ∧ VocAt w' V.heap.size p none ∧ p.T = c.T ∧ p.s = c.spec ∧ RVocIs w' V.heap.size c r) ∧ Below V.heap.size V w') := Lib.hid (fun V hV => of12_any (h.here.below hV (Nat.le_refl _)) (h.ok hg))
  unfold CaseP.val
  clear h hg
  go_enter Tryz.func8, Tryz.ntmps8
  go_upto_region 1 with fail
  obtain ⟨cb, hcb⟩ : ∃ b, w.heap.size = b := ⟨_, rfl⟩
  rw [hcb] at HN0 ⊢
  clear hcb
  generalize w.alloc (.cells #[.slice AL c.l.length cL, .slice AC c.cs.length cC, .slice AJ c.js.length cJ, .slice AX c.xs.length cX] 27) = w1 at *
  have s0 := blk_cell HN0.out 0
  have s1 := blk_cell HN0.out 1
  have s2 := blk_cell HN0.out 2
  have s3 := blk_cell HN0.out 3
  simp only [List.getElem?_toArray, List.getElem?_cons_zero, List.getElem?_cons_succ] at s0 s1 s2 s3
  go_upto_region 3 with (first
    | (go_at_call 16; refine (HGR.out _ HB0.out).mono ?_; rintro e w2 ⟨rfl, hb⟩; (have HB1 := Lib.hid (HB0.out.trans (hb.mono HB0.out.size))); (have HN1 := Lib.hid (blk_below hb (blk_lt HN0.out) HN0.out)); clear hb s0 s1 s2 s3)
    | (go_at_call 22; refine (awake21_any _).mono ?_; rintro e w3 ⟨rfl, hb⟩; (have HB2 := Lib.hid (HB1.out.trans (hb.mono HB1.out.size))); (have HN2 := Lib.hid (blk_below hb (blk_lt HN1.out) HN1.out)); clear hb))
  have s0 := blk_cell HN2.out 0
  have s1 := blk_cell HN2.out 1
  have s2 := blk_cell HN2.out 2
  have s3 := blk_cell HN2.out 3
  simp only [List.getElem?_toArray, List.getElem?_cons_zero, List.getElem?_cons_succ] at s0 s1 s2 s3
  go_upto_region 6 with (go_at_call 23; refine (HOF.out _ HB2.out).mono ?_; rintro e w4 ⟨⟨p, r, rfl, hv, hpT, hps, hr⟩, hb⟩; (have HPT := Lib.hid hpT); (have HV4 := Lib.hid (And.intro hv (And.intro hr (HB2.out.trans (hb.mono HB2.out.size))))); (unfold RVoc.val); clear hv hpT hps hr hb s0 s1 s2 s3)
  have hba := (Below.refl w4.heap.size w4).alloc (Nat.le_refl _) (.cells #[.slice r.A1 c.T.length r.c1, .slice r.A2 (mrgsT c.T).length r.c2, .slice r.A3 (someC c.cs).length r.c3, .slice r.A4 (someJ c.js).length r.c4, .slice r.A5 (someX c.xs (min c.xs.length 6)).length r.c5] 38)
  have HM5 := Lib.hid (blk_new w4 (.cells #[.slice r.A1 c.T.length r.c1, .slice r.A2 (mrgsT c.T).length r.c2, .slice r.A3 (someC c.cs).length r.c3, .slice r.A4 (someJ c.js).length r.c4, .slice r.A5 (someX c.xs (min c.xs.length 6)).length r.c5] 38))
  have HV5 := Lib.hid (And.intro (HV4.out.1.below hba (Nat.le_refl _)) (And.intro (HV4.out.2.1.ref.below hba (Nat.le_refl _)) (HV4.out.2.2.trans (hba.mono HV4.out.2.2.size))))
  obtain ⟨mb, hmb⟩ : ∃ b, w4.heap.size = b := ⟨_, rfl⟩
  rw [hmb] at HM5 ⊢
  clear hmb hba HV4 HOF HGR HB0 HN0 HB1 HN1 HB2 HN2
  generalize w4.alloc (.cells #[.slice r.A1 c.T.length r.c1, .slice r.A2 (mrgsT c.T).length r.c2, .slice r.A3 (someC c.cs).length r.c3, .slice r.A4 (someJ c.js).length r.c4, .slice r.A5 (someX c.xs (min c.xs.length 6)).length r.c5] 38) = w5 at *
  have HTP : Hid (OkT p.T) := Lib.hid (by rw [HPT.out]; exact c.ok)
  go_wp2_with (go_at_call 24; refine (count_long p.vb (bs s) _ (by rw [bs_size]; exact HLEN.out)).mono ?_; rintro e W6 ⟨rfl, hw⟩; rw [hw]; clear hw W6)
  go_ret
  exact ⟨rfl, HV5.out.2.2⟩
theorem ctells_big (h : CaseIn w c AL AC AJ AX cL cC cJ cX) (z : ByteArray) (place id : Int) (hg : c.great = true ∨ c.great = false ∧ (100 < z.size ∧ z.size ≤ 4000)) :
    Calls Tryz.prog 8 #[c.val AL AC AJ AX cL cC cJ cX, .string z, .int .i64 place, .int .i64 id] w (RetTrue w) := by
  have HB0 := Lib.hid ((Below.refl w.heap.size w).alloc (Nat.le_refl _) (.cells #[.slice AL c.l.length cL, .slice AC c.cs.length cC, .slice AJ c.js.length cJ, .slice AX c.xs.length cX] 27))
  have HN0 := Lib.hid (blk_new w (.cells #[.slice AL c.l.length cL, .slice AC c.cs.length cC, .slice AJ c.js.length cJ, .slice AX c.xs.length cX] 27))
  have HGN : Hid (∀ V, Below w.heap.size w V → c.great = false → Calls Tryz.prog 16 #[.agg #[.slice AL c.l.length cL, .slice AC c.cs.length cC, .slice AJ c.js.length cJ, .slice AX c.xs.length cX]] V fun e w' => e = .returned (.int .i64 0) ∧ Below V.heap.size V w') := Lib.hid (fun V hV => great_no (h.below hV (Nat.le_refl _)))
  have HGY : Hid (∀ V, Below w.heap.size w V → c.great = true → Calls Tryz.prog 16 #[.agg #[.slice AL c.l.length cL, .slice AC c.cs.length cC, .slice AJ c.js.length cJ, .slice AX c.xs.length cX]] V fun e w' => e = .returned (.int .i64 1) ∧ Below V.heap.size V w') := Lib.hid (fun V hV => great_yes (h.below hV (Nat.le_refl _)))
  unfold CaseP.val
  clear h
  go_enter Tryz.func8, Tryz.ntmps8
  go_upto_region 1 with fail
  obtain ⟨cb, hcb⟩ : ∃ b, w.heap.size = b := ⟨_, rfl⟩
  rw [hcb] at HN0 ⊢
  clear hcb
  generalize w.alloc (.cells #[.slice AL c.l.length cL, .slice AC c.cs.length cC, .slice AJ c.js.length cJ, .slice AX c.xs.length cX] 27) = w1 at *
  have s0 := blk_cell HN0.out 0
  have s1 := blk_cell HN0.out 1
  have s2 := blk_cell HN0.out 2
  have s3 := blk_cell HN0.out 3
  simp only [List.getElem?_toArray, List.getElem?_cons_zero, List.getElem?_cons_succ] at s0 s1 s2 s3
  rcases hg with hg | ⟨hg, hn⟩
  · have HG := Lib.hid (HGY.out _ HB0.out hg)
    clear hg HGN HGY
    go_wp2_with (first
      | (go_at_call 16; refine HG.out.mono ?_; rintro e w2 ⟨rfl, hb⟩; (have HB1 := Lib.hid (HB0.out.trans (hb.mono HB0.out.size))); clear hb s0 s1 s2 s3)
      | (go_at_call 22; refine (awake21_any _).mono ?_; rintro e w3 ⟨rfl, hb⟩; (have HB2 := Lib.hid (HB1.out.trans (hb.mono HB1.out.size))); clear hb))
    go_ret
    exact ⟨rfl, HB2.out⟩
  · have HG := Lib.hid (HGN.out _ HB0.out hg)
    clear hg HGN HGY
    have hp0 : (100 : Int) < (z.size : Int) := by omega
    have hp9 : (z.size : Int) ≤ (4000 : Int) := by omega
    clear hn
    go_wp2_with (first
      | (go_at_call 16; refine HG.out.mono ?_; rintro e w2 ⟨rfl, hb⟩; (have HB1 := Lib.hid (HB0.out.trans (hb.mono HB0.out.size))); clear hb s0 s1 s2 s3)
      | (go_at_call 22; refine (awake21_any _).mono ?_; rintro e w3 ⟨rfl, hb⟩; (have HB2 := Lib.hid (HB1.out.trans (hb.mono HB1.out.size))); clear hb))
    go_ret
    exact ⟨rfl, HB2.out⟩
theorem ctells_law {P P2 P3 : Prop} (x0 : List Int) (A0 : Option Addr) (c0 : Nat) (x1 : List (List Int)) (A1 : Option Addr) (c1 : Nat) (x2 : List (List Int)) (A2 : Option Addr) (c2 : Nat) (x3 : List (Int × List UInt8)) (A3 : Option Addr) (c3 : Nat) (z : ByteArray) (place id : Int) (w : World)
    (l0 : x0.length ≤ c0) (m0 : c0 ≤ maxLen) (w0 : ∀ y ∈ x0, (Lit.int .u16 y).wf = true) (s0 : Sl1 w A0 (Value.int .u16) x0)
    (l1 : x1.length ≤ c1) (m1 : c1 ≤ maxLen) (w1 : ∀ y ∈ x1, y.length = 3 ∧ ∀ z ∈ y, (Lit.int .i64 z).wf = true) (s1 : Sl w A1 (encInts .i64) 3 x1)
    (l2 : x2.length ≤ c2) (m2 : c2 ≤ maxLen) (w2 : ∀ y ∈ x2, y.length = 2 ∧ ∀ z ∈ y, (Lit.int .i64 z).wf = true) (s2 : Sl w A2 (encInts .i64) 2 x2)
    (l3 : x3.length ≤ c3) (m3 : c3 ≤ maxLen) (w3 : ∀ y ∈ x3, (Lit.int .i64 y.1).wf = true ∧ y.2.length ≤ maxLen) (s3 : Sl w A3 encIS 2 x3)
    (_ : P) (_ : P2) (_ : P3) :
    Calls Tryz.prog 8 #[.agg #[.slice A0 x0.length c0, .slice A1 x1.length c1, .slice A2 x2.length c2, .slice A3 x3.length c3], .string z, .int .i64 place, .int .i64 id] w (RetTrue w) := by
  obtain ⟨c, hc, e⟩ := case_in l0 m0 w0 s0 l1 m1 w1 s1 l2 m2 w2 s2 l3 m3 w3 s3
  rw [e]
  cases hg : c.great with
  | true => exact ctells_big hc z place id (.inl hg)
  | false =>
    by_cases hn : z.size ≤ 100
    · have h2 := ctells_small hc hg z.data.toList (by rw [← bs_size, bs_data]; exact hn) place id
      rw [bs_data] at h2
      exact h2
    · by_cases hn2 : z.size ≤ 4000
      · exact ctells_big hc z place id (.inr ⟨hg, by omega, hn2⟩)
      · have h2 := ctells_long hc hg z.data.toList (by rw [← bs_size, bs_data]; omega) place id
        rw [bs_data] at h2
        exact h2
end
end Go.Proofs.YtkkcekgbnloegaaGreat
