/- Texts of several layers, one behind the other: Place2, Place3, Place4, Place6, Place5, Lat3, PlaceB0, CountC, RCnt0, Rows0, RCnt1, CountLawL. -/
import Derived.Test.YtkkcekgbnloegaaGreatZZF4
import Derived.WalkKit
import Derived.KernelRfl
import Derived.Lib.Hide
import Derived.Deep.QuietTactic
import Derived.BigQuiet
import Derived.OwnWalk
import Derived.Lib.Strings
import Derived.Deep.DeepCutAuto
import Derived.Deep.RegionHeld3
import Derived.StillTailTactics
import Derived.Maps.OwnSet
import Derived.Maps.OwnOps
import Derived.DeepKeys4
import Derived.WideKeyEntry
import Derived.Maps.AppendAt
import Derived.Test.YtkkcekgbnloegaaGreatProg
import Derived.Laws.ResultCell
import Derived.Laws.AppendOwnNone
import Derived.Laws.IdiomStrings
import Derived.Lib.AppendStr
import Derived.Deep.Slices
import Derived.Deep.Fields
import Derived.ChangeSame
import Derived.SliceStrings
import Derived.OpenShut
import Derived.Laws.LoneSync
import Derived.Laws.OwnMore
import Derived.Laws.MakeOwn
import Derived.Laws.Bits64b
import Derived.Laws.BitsAllLaws
import Derived.Tactics
import Derived.Tactics2
import Derived.Defers
import Derived.Laws.Pointers
import Derived.RegionTactic
import Derived.RegionCalls
import Derived.ChangeAlike
import Derived.Test.YtkkcekgbnloegaaGreatRows
import Derived.ProofKit
import Derived.ShutString
import Derived.ChangeOld
import Derived.Below
import Derived.Lib.SmallJoins
set_option maxRecDepth 100000
set_option linter.unusedVariables false
set_option linter.unusedSimpArgs false
namespace Go.Proofs.YtkkcekgbnloegaaGreat
open Go.RowKit Go.Maps Go.WideMaps
section
variable {w w' W W' : World} {base lb wb nb i m k c q : Nat} {p : VocP} {s : List UInt8} {A : Option Addr} {v : Value} {L F : List Int}
structure UnI (w W : World) (base lb wb nb i : Nat) (p : VocP) (s : List UInt8) (A : Option Addr) (k c m : Nat) (v : Value) (q : Nat) (L F : List Int) : Prop where
  ask : Ask w W base lb p s
  way : Way W lb wb i
  num : Var W lb nb A k c m
  out : OutI W w.heap.size v q L
  lo : w.heap.size ≤ nb
  lo2 : w.heap.size ≤ wb
  ilo : lb < w.heap.size
  le : i ≤ s.length
  div : ∃ D, (divA p.T (s.drop i))[m]? = some D ∧ L ++ D = F
  qi : q ≤ i
theorem UnI.asks (h : UnI w W base lb wb nb i p s A k c m v q L F) (ha : Ask W W' base lb p s) : UnI w W' base lb wb nb i p s A k c m v q L F :=
  ⟨h.ask.trans ha, h.way.ask ha, h.num.ask ha, h.out.ask h.ask.lat ha, h.lo, h.lo2, h.ilo, h.le, h.div, h.qi⟩
theorem UnI.below (h : UnI w W base lb wb nb i p s A k c m v q L F) (hb : Below W.heap.size W W') : UnI w W' base lb wb nb i p s A k c m v q L F := h.asks (Ask.of_below h.ask.lat hb)
theorem UnI.lt (h : UnI w W base lb wb nb i p s A k c m v q L F) : m < cntJ p.T s i := by
  obtain ⟨D, h1, _⟩ := h.div
  exact (List.getElem?_eq_some_iff.1 h1).1
structure UnQ (w W : World) (base lb wb nb i : Nat) (p : VocP) (s : List UInt8) (A : Option Addr) (k c m : Nat) (v : Value) (q : Nat) (L F : List Int) (X : Int) : Prop where
  ask : Ask w W base lb p s
  way : Way W lb wb i
  num : Var W lb nb A k c m
  out : OutI W w.heap.size v q L
  lo : w.heap.size ≤ nb
  lo2 : w.heap.size ≤ wb
  ilo : lb < w.heap.size
  div : ∃ D, (divA p.T (s.drop (i + lenT p.T X)))[m]? = some D ∧ L ++ X :: D = F
  le : i + lenT p.T X ≤ s.length
  pos : 0 < lenT p.T X
  qi : q ≤ i
structure UnP (w W : World) (base lb wb nb i : Nat) (p : VocP) (s : List UInt8) (A : Option Addr) (k c m : Nat) (v : Value) (q : Nat) (L F : List Int) (X : Int) : Prop where
  ask : Ask w W base lb p s
  way : Way W lb wb i
  num : Var W lb nb A k c m
  out : OutI W w.heap.size v q L
  lo : w.heap.size ≤ nb
  lo2 : w.heap.size ≤ wb
  ilo : lb < w.heap.size
  div : ∃ D, (divA p.T (s.drop (i + lenT p.T X)))[m]? = some D ∧ L ++ D = F
  le : i + lenT p.T X ≤ s.length
  pos : 0 < lenT p.T X
  qi : q ≤ i + 1
theorem UnP.below {X : Int} (h : UnP w W base lb wb nb i p s A k c m v q L F X) (hb : Below W.heap.size W W') : UnP w W' base lb wb nb i p s A k c m v q L F X :=
  have ha := Ask.of_below h.ask.lat hb
  ⟨h.ask.trans ha, h.way.ask ha, h.num.ask ha, h.out.ask h.ask.lat ha, h.lo, h.lo2, h.ilo, h.div, h.le, h.pos, h.qi⟩
theorem UnP.drew {X : Int} (h : UnP w W base lb wb nb i p s A k c m v q L F X) : UnP w W.drew base lb wb nb i p s A k c m v q L F X := h.below (Below.refl _ _).drew
theorem UnQ.grow {X : Int} {v' : Value} (h : UnQ w W base lb wb nb i p s A k c m v q L F X) (h0 : LatV w base lb p s) (ho : OutI W' w.heap.size v' (q + 1) (L ++ [X])) (hk : Keep (fun g => v.ownBlock = some g) W W') : UnP w W' base lb wb nb i p s A k c m v' (q + 1) (L ++ [X]) F X :=
  ⟨h.ask.app h0 h.out (Nat.le_refl _) hk, h.way.app h.out hk, h.num.app h.out h.ilo hk, ho, h.lo, h.lo2, h.ilo, by obtain ⟨D, h1, h2⟩ := h.div; exact ⟨D, h1, by rw [← h2]; simp⟩, h.le, h.pos, by have := h.qi; omega⟩
theorem UnP.step {X : Int} (h : UnP w W base lb wb nb i p s A k c m v q L F X) {J : Nat} (hJ : i + lenT p.T X = J) : UnI w (W.setCell ⟨wb, 1, none⟩ (.int .i64 (J : Int))) base lb wb nb J p s A k c m v q L F := by
  subst hJ
  exact ⟨h.ask.setWay h.way h.lo2 _, h.way.put _, h.num.setWay h.way _, h.out.far h.way.blk (by decide) _ _, h.lo, h.lo2, h.ilo, h.le, h.div, by have := h.pos; have := h.qi; omega⟩
end
theorem skip_bound {T : List Ent} {s : List UInt8} {id : Int} : ∀ {l : List Int} {k : Nat}, skipN T s id l = some k → id ∈ l ∧ k + cntA T (s.drop (lenT T id)) ≤ sumA T s l
  | [], k, h => by simp [skipN] at h
  | x :: l, k, h => by
    rw [skipN] at h
    rw [sumA_cons]
    by_cases hx : x = id
    · rw [if_pos hx] at h
      injection h with h
      subst hx
      exact ⟨List.mem_cons_self, by omega⟩
    · rw [if_neg hx, Option.map_eq_some_iff] at h
      obtain ⟨k', h1, h2⟩ := h
      obtain ⟨h3, h4⟩ := skip_bound h1
      exact ⟨List.mem_cons_of_mem _ h3, by omega⟩
section
variable {w w' W W' : World} {base lb wb rb nb kb i m k c q c2 : Nat} {p : VocP} {s : List UInt8} {A A2 : Option Addr} {ids : List Int}
structure RkI (w W : World) (base lb wb rb nb i : Nat) (p : VocP) (s : List UInt8) (A : Option Addr) (k c m : Nat) (A2 : Option Addr) (ids : List Int) (q : Nat) : Prop where
  ask : Ask w W base lb p s
  way : Way W lb wb i
  res : Var W lb rb none 0 0 0
  num : Var W lb nb A k c m
  sl : Sl1 W A2 (Value.int .i64) ids
  lo : w.heap.size ≤ rb
  lo2 : w.heap.size ≤ wb
  lo3 : w.heap.size ≤ nb
  ne : rb ≠ nb
  old : ∀ a, A2 = some a → ids ≠ [] → a.block < w.heap.size
  le : i ≤ s.length
  sum : m + cntJ p.T s i ≤ cntJ p.T s 0
  rel : rnk p.T s ids = (rnk p.T (s.drop i) (ids.drop q)).map (fun n => m + n)
theorem RkI.asks (h : RkI w W base lb wb rb nb i p s A k c m A2 ids q) (ha : Ask W W' base lb p s) : RkI w W' base lb wb rb nb i p s A k c m A2 ids q :=
  ⟨h.ask.trans ha, h.way.ask ha, h.res.ask ha, h.num.ask ha, sl_ask h.sl h.ask.lat ha, h.lo, h.lo2, h.lo3, h.ne, h.old, h.le, h.sum, h.rel⟩
theorem RkI.below (h : RkI w W base lb wb rb nb i p s A k c m A2 ids q) (hb : Below W.heap.size W W') : RkI w W' base lb wb rb nb i p s A k c m A2 ids q := h.asks (Ask.of_below h.ask.lat hb)
theorem RkI.drew (h : RkI w W base lb wb rb nb i p s A k c m A2 ids q) : RkI w W.drew base lb wb rb nb i p s A k c m A2 ids q := h.below (Below.refl _ _).drew
theorem sl_old (h : Sl1 W A2 (Value.int .i64) ids) (ho : ∀ a, A2 = some a → ids ≠ [] → a.block < w.heap.size) {a : Addr} (ha : w.heap.size ≤ a.block) (u : Value) : Sl1 (W.setCell a u) A2 (Value.int .i64) ids :=
  h.cellO (fun i x b o hx e he => by
    have h1 := ho _ e (by intro e2; rw [e2] at hx; simp at hx)
    have h2 : b = a.block := by rw [← he]
    simp only at h1
    omega) u
theorem RkI.put {A' : Option Addr} {k' c' K : Nat} (h : RkI w W base lb wb rb nb i p s A k c m A2 ids q) (hn : NatIs W (.agg #[.slice A' k' c']) K) :
    Ask w (W.setCell ⟨nb, 0, none⟩ (.slice A' k' c')) base lb p s ∧ Way (W.setCell ⟨nb, 0, none⟩ (.slice A' k' c')) lb wb i ∧ Var (W.setCell ⟨nb, 0, none⟩ (.slice A' k' c')) lb rb none 0 0 0 ∧ Var (W.setCell ⟨nb, 0, none⟩ (.slice A' k' c')) lb nb A' k' c' K ∧ Sl1 (W.setCell ⟨nb, 0, none⟩ (.slice A' k' c')) A2 (Value.int .i64) ids :=
  ⟨h.ask.setVar h.num h.lo3 _, h.way.far (fun e => h.way.ne h.num e.symm) _, h.res.far h.num.c0 (fun x => by simp) h.ne h.num.lo _, h.num.put hn, sl_old h.sl h.old h.lo3 _⟩
structure RkJ (w W : World) (base lb wb rb nb i : Nat) (p : VocP) (s : List UInt8) (A : Option Addr) (k c m : Nat) (A2 : Option Addr) (ids : List Int) (q J : Nat) : Prop where
  ask : Ask w W base lb p s
  way : Way W lb wb i
  res : Var W lb rb none 0 0 0
  num : Var W lb nb A k c m
  sl : Sl1 W A2 (Value.int .i64) ids
  lo : w.heap.size ≤ rb
  lo2 : w.heap.size ≤ wb
  lo3 : w.heap.size ≤ nb
  ne : rb ≠ nb
  old : ∀ a, A2 = some a → ids ≠ [] → a.block < w.heap.size
  le : J ≤ s.length
  sum : m + cntJ p.T s J ≤ cntJ p.T s 0
  rel : rnk p.T s ids = (rnk p.T (s.drop J) (ids.drop (q + 1))).map (fun n => m + n)
theorem RkI.add {A' : Option Addr} {k' c' K J : Nat} {id : Int} (h : RkI w W base lb wb rb nb i p s A k c m A2 ids q) (hT : OkT p.T) (hid : ids[q]? = some id) (hK : skipN p.T (s.drop i) id (atP p.T s i) = some K) (hJ : i + lenT p.T id = J) (hn : NatIs W (.agg #[.slice A' k' c']) (m + K)) :
    RkJ w (W.setCell ⟨nb, 0, none⟩ (.slice A' k' c')) base lb wb rb nb i p s A' k' c' (m + K) A2 ids q J := by
  obtain ⟨h1, h2, h3, h4, h5⟩ := h.put hn
  obtain ⟨g1, g2⟩ := skip_bound hK
  obtain ⟨f1, f2, f3, _⟩ := atA_has hT g1
  rw [List.length_drop] at f3
  subst hJ
  refine ⟨h1, h2, h3, h4, h5, h.lo, h.lo2, h.lo3, h.ne, h.old, by omega, ?_, ?_⟩
  · have h6 := h.sum
    have h7 : sumA p.T (s.drop i) (atP p.T s i) = cntJ p.T s i := (cntA_rec hT (by intro e; have := List.drop_eq_nil_iff.1 e; omega)).symm
    rw [h7, List.drop_drop] at g2
    unfold cntJ at *
    omega
  · rw [h.rel, drop_at hid, rnk]
    have h8 : skipN p.T (s.drop i) id (atA p.T (s.drop i)) = some K := hK
    rw [h8, List.drop_drop]
    simp only [Option.bind_some, Option.map_map]
    congr 1
    funext x
    simp [Nat.add_assoc]
theorem RkJ.below {J : Nat} (h : RkJ w W base lb wb rb nb i p s A k c m A2 ids q J) (hb : Below W.heap.size W W') : RkJ w W' base lb wb rb nb i p s A k c m A2 ids q J :=
  have ha := Ask.of_below h.ask.lat hb
  ⟨h.ask.trans ha, h.way.ask ha, h.res.ask ha, h.num.ask ha, sl_ask h.sl h.ask.lat ha, h.lo, h.lo2, h.lo3, h.ne, h.old, h.le, h.sum, h.rel⟩
theorem RkJ.drew {J : Nat} (h : RkJ w W base lb wb rb nb i p s A k c m A2 ids q J) : RkJ w W.drew base lb wb rb nb i p s A k c m A2 ids q J := h.below (Below.refl _ _).drew
theorem RkJ.step {J : Nat} (h : RkJ w W base lb wb rb nb i p s A k c m A2 ids q J) : RkI w (W.setCell ⟨wb, 1, none⟩ (.int .i64 (J : Int))) base lb wb rb nb J p s A k c m A2 ids (q + 1) :=
  ⟨h.ask.setWay h.way h.lo2 _, h.way.put _, h.res.setWay h.way _, h.num.setWay h.way _, sl_old h.sl h.old h.lo2 _, h.lo, h.lo2, h.lo3, h.ne, h.old, h.le, h.sum, h.rel⟩
end
section
variable {w w' W W' : World} {base lb nb m k c c2 : Nat} {p : VocP} {s : List UInt8} {A A2 : Option Addr} {ids F : List Int}
def byteI (s : List UInt8) : List Int := s.map (fun x => (x.toNat : Int))
structure LsI (w W : World) (base lb : Nat) (p : VocP) (s : List UInt8) (k : Nat) (v : Value) : Prop where
  lat : LatV W base lb p s
  blw : Below w.heap.size w W
  out : OutI W w.heap.size v k (byteI (s.take k))
theorem LsI.below {k : Nat} {v : Value} (h : LsI w W base lb p s k v) (hb : Below W.heap.size W W') : LsI w W' base lb p s k v := ⟨h.lat.below hb, h.blw.trans (hb.mono h.blw.size), h.out.below hb⟩
theorem LsI.grow {k : Nat} {v v' : Value} {L : List Int} (h0 : LatV w base lb p s) (h : LsI w W base lb p s k v) (ho : OutI W' w.heap.size v' (k + 1) (byteI (s.take k) ++ L)) (hL : byteI (s.take k) ++ L = byteI (s.take (k + 1))) (hk : Keep (fun g => v.ownBlock = some g) W W') : LsI w W' base lb p s (k + 1) v' :=
  ⟨((Ask.of_below h0 h.blw).app h0 h.out (Nat.le_refl _) hk).lat, h.blw.trans (hk.below h.blw.size (fun x hx => (h.out.row.lt x hx).1)), by rw [← hL]; exact ho⟩
end
theorem RefIs.ask {w W : World} {base base' lb : Nat} {p : VocP} {s : List UInt8} {T : List Ent} {vb vm : Value} (h : RefIs w base' T vb vm) (hl : LatV w base lb p s) (ha : Ask w W base lb p s) : RefIs W base' T vb vm := by
  obtain ⟨cs, fz, hb⟩ := hl.tag
  exact ⟨own_keep h.row ha.keep (row_off h.row hb (by decide)), own_keep h.mrg ha.keep (row_off h.mrg hb (by decide)), h.nil⟩
theorem VocAt.keepX {w w' : World} {base g : Nat} {p : VocP} {a : Array Value} {t : TypeId} {fz : Nat × Nat} (h : VocAt w base p none) (k : Keep (fun x => x = g) w w') (hgb : g < base) (hg : AllSl w g) (hc : w.heap[g]? = some (.cells a t fz)) (ht : 266 ≠ t) : VocAt w' base p none := by
  obtain ⟨l, dn, st, se, us, h1, h2⟩ := h
  refine ⟨l, dn, st, se, us, ?_, ?_⟩
  · obtain ⟨V0, a1, a2, a3, a4, a5, a6⟩ := h1.org
    obtain ⟨V', e1, e2, e3⟩ := keep_cut a6 k
    have hlt := h1.lt
    have hg0 : AllSl V0 g := fun o v hv => hg o v (below_cell a6 (Nat.le_refl _) hv)
    have hbk : p.bk ≠ g := by
      intro hbg
      have h3 := (VocQ.bnd h1).1
      rw [hbg, hc] at h3
      injection h3 with h3
      injection h3 with _ h3 _
      exact ht h3.symm
    refine ⟨k.blk h1.blk (by omega), ⟨V', by omega, a2.keepS e2 hg0, a3.keep e2 (fun x hx hf => ?_), ⟨e2.blk a4.1 hbk, a4.2⟩, ?_, e3⟩, h1.lt⟩
    · subst hf
      have hl := a3.lt
      rcases hx with hx | hx | hx | hx
      · omega
      · have := own_base a3.row _ hx
        omega
      · omega
      · omega
    · have hl := a5.lt
      exact ⟨e2.blk a5.blk (by omega), own_keep a5.row e2 (fun x hx hf => by have := own_base a5.row _ hx; omega), a5.ids.keep e2 (by omega), a5.txs.keep e2 (by omega), a5.ne, a5.lt⟩
  · rcases h2 with h2 | ⟨r, h3, _⟩
    · exact .inl h2
    · exact absurd h3 (by simp)
structure AwL (w W : World) (base lb : Nat) (p : VocP) : Prop where
  lat : LatV W base lb p abab
  T : p.T = awT21
  ok : OkT p.T
  blw : Below w.heap.size w W
  lo : w.heap.size ≤ lb
theorem AwL.asks {w W W' : World} {lb base : Nat} {p : VocP} (h : AwL w W base lb p) (ha : Ask W W' base lb p abab) : AwL w W' base lb p :=
  ⟨ha.lat, h.T, h.ok, h.blw.trans (ha.blw h.blw.size h.lo), h.lo⟩
theorem AwL.below {w W W' : World} {lb base : Nat} {p : VocP} (h : AwL w W base lb p) (hb : Below W.heap.size W W') : AwL w W' base lb p := h.asks (Ask.of_below h.lat hb)
theorem rnk_cons {T : List Ent} {s : List UInt8} {a : Int} {r : List Int} {X : Nat} (h : rnk T s (a :: r) = some X) : ∃ k x, skipN T s a (atA T s) = some k ∧ rnk T (s.drop (lenT T a)) r = some x ∧ X = k + x := by
  rw [rnk] at h
  obtain ⟨k, h1, h2⟩ := Option.bind_eq_some_iff.1 h
  obtain ⟨x, h3, h4⟩ := Option.map_eq_some_iff.1 h2
  exact ⟨k, x, h1, h3, h4.symm⟩
theorem div_rnk {T : List Ent} (hT : OkT T) {s : List UInt8} {n : Nat} {F : List Int} (h : (divA T s)[n]? = some F) : rnk T s F = some n := by
  have hlt : n < cntA T s := (List.getElem?_eq_some_iff.1 h).1
  have h1 := unrk_div hT s.length s n (Nat.le_refl _) hlt
  rw [h] at h1
  injection h1 with h1
  rw [h1]
  exact rnk_unrk hT s.length s n (Nat.le_refl _) hlt
theorem rnk_len {T : List Ent} (hT : OkT T) : ∀ (F : List Int) (s : List UInt8) (X : Nat), rnk T s F = some X → F.length ≤ s.length
  | [], s, X, _ => Nat.zero_le _
  | f :: F, s, X, h => by
    obtain ⟨ka, x, h1, h2, e1⟩ := rnk_cons h
    obtain ⟨_, h3, h4, _⟩ := atA_has hT (skip_get h1).1
    have := rnk_len hT F _ x h2
    rw [List.length_drop] at this
    simp only [List.length_cons]
    omega
structure LL (w W : World) (base lb : Nat) (p : VocP) (s : List UInt8) : Prop where
  lat : LatV W base lb p s
  ok : OkT p.T
  blw : Below w.heap.size w W
  lo : w.heap.size ≤ lb
section
variable {w W W' : World} {base lb : Nat} {p : VocP} {s : List UInt8}
theorem LL.asks (h : LL w W base lb p s) (ha : Ask W W' base lb p s) : LL w W' base lb p s := ⟨ha.lat, h.ok, h.blw.trans (ha.blw h.blw.size h.lo), h.lo⟩
theorem LL.below (h : LL w W base lb p s) (hb : Below W.heap.size W W') : LL w W' base lb p s := h.asks (Ask.of_below h.lat hb)
theorem LL.drew (h : LL w W base lb p s) : LL w W.drew base lb p s := h.below (Below.refl _ _).drew
end
section
variable {w w' W W' : World} {base lb k c : Nat} {p : VocP} {s : List UInt8} {A : Option Addr} {F : List Int}
structure LX (w W : World) (base lb : Nat) (p : VocP) (s : List UInt8) (xb : Nat) (Ax : Option Addr) (kx cx X : Nat) (yb : Nat) (Ay : Option Addr) (ky cy Y : Nat) (Au : Option Addr) (F : List Int) (Aw : Option Addr) (G : List Int) : Prop where
  ll : LL w W base lb p s
  vx : Var W lb xb Ax kx cx X
  vy : Var W lb yb Ay ky cy Y
  u : Sl1 W Au (Value.int .i64) F
  v : Sl1 W Aw (Value.int .i64) G
variable {xb kx cx X yb ky cy Y : Nat} {Ax Ay Au Aw : Option Addr} {G : List Int}
theorem LX.asks (h : LX w W base lb p s xb Ax kx cx X yb Ay ky cy Y Au F Aw G) (ha : Ask W W' base lb p s) : LX w W' base lb p s xb Ax kx cx X yb Ay ky cy Y Au F Aw G :=
  ⟨h.ll.asks ha, h.vx.ask ha, h.vy.ask ha, sl_ask h.u h.ll.lat ha, sl_ask h.v h.ll.lat ha⟩
theorem LX.below (h : LX w W base lb p s xb Ax kx cx X yb Ay ky cy Y Au F Aw G) (hb : Below W.heap.size W W') : LX w W' base lb p s xb Ax kx cx X yb Ay ky cy Y Au F Aw G := h.asks (Ask.of_below h.ll.lat hb)
theorem LX.drew (h : LX w W base lb p s xb Ax kx cx X yb Ay ky cy Y Au F Aw G) : LX w W.drew base lb p s xb Ax kx cx X yb Ay ky cy Y Au F Aw G := h.below (Below.refl _ _).drew
theorem LX.cc (h : LX w W base lb p s xb Ax kx cx X yb Ay ky cy Y Au F Aw G) : W.cell? ⟨xb, 0, none⟩ = some (.slice Ax kx cx) ∧ W.cell? ⟨yb, 0, none⟩ = some (.slice Ay ky cy) := ⟨h.vx.c0, h.vy.c0⟩
end
structure LC (w W : World) (base lb : Nat) (p : VocP) (s : List UInt8) (mb : Nat) (T : List Ent) (vb vm v3 v4 v5 : Value) : Prop where
  ll : LL w W base lb p s
  box : W.heap[mb]? = some (.cells #[vb, vm, v3, v4, v5] 38)
  ref : ∃ b, RefIs W b T vb vm
  ne : mb < lb
section
variable {w W W' : World} {base lb mb : Nat} {p : VocP} {s : List UInt8} {T : List Ent} {vb vm v3 v4 v5 : Value}
theorem LC.asks (h : LC w W base lb p s mb T vb vm v3 v4 v5) (ha : Ask W W' base lb p s) : LC w W' base lb p s mb T vb vm v3 v4 v5 :=
  ⟨h.ll.asks ha, ha.keep.blk h.box (fun e => by have := h.ne; omega), by obtain ⟨b, hr⟩ := h.ref; exact ⟨b, hr.ask h.ll.lat ha⟩, h.ne⟩
theorem LC.below (h : LC w W base lb p s mb T vb vm v3 v4 v5) (hb : Below W.heap.size W W') : LC w W' base lb p s mb T vb vm v3 v4 v5 := h.asks (Ask.of_below h.ll.lat hb)
theorem LC.drew (h : LC w W base lb p s mb T vb vm v3 v4 v5) : LC w W.drew base lb p s mb T vb vm v3 v4 v5 := h.below (Below.refl _ _).drew
theorem LC.c0 (h : LC w W base lb p s mb T vb vm v3 v4 v5) : W.cell? ⟨mb, 0, none⟩ = some vb := by have := blk_cell h.box 0; simpa using this
theorem LC.c1 (h : LC w W base lb p s mb T vb vm v3 v4 v5) : W.cell? ⟨mb, 1, none⟩ = some vm := by have := blk_cell h.box 1; simpa using this
end
theorem beg_64 {T : List Ent} (hT : OkT T) (s : List UInt8) (M : Nat) (hM : M = min s.length 64) : begT T s M = begT T s s.length := by
  have key : ∀ m, M ≤ m → m ≤ s.length → begT T s m = begT T s M := by
    intro m
    induction m with
    | zero => intro h _; rw [Nat.le_zero.1 h]
    | succ m ih =>
      intro h hm
      by_cases e : M = m + 1
      · rw [e]
      · rw [begT_succ, ih (by omega) (by omega), find_long hT (.inl (by rw [List.length_take]; omega))]
        simp
  exact (key _ (by omega) (Nat.le_refl _)).symm
structure RAtIs (w W : World) (rb : Nat) (T : List Ent) (s : List UInt8) (n k : Nat) (vb vm : Value) (L : List Int) (A : Option Addr) (c : Nat) : Prop where
  box : W.heap[rb]? = some (.cells #[vb, vm] 34)
  ref : ∃ b, RefIs W b T vb vm
  row : W.ownsRow w.heap.size 3 1 (.slice A k c) k (L.map (Value.int .i64))
  len : L.length = k
  all : L ++ (begT T s n).reverse = atA T s
  blw : Below w.heap.size w W
section
variable {w W W' : World} {rb n k c : Nat} {T : List Ent} {s : List UInt8} {vb vm : Value} {L : List Int} {A : Option Addr}
theorem RAtIs.below (h : RAtIs w W rb T s n k vb vm L A c) (hb : Below W.heap.size W W') : RAtIs w W' rb T s n k vb vm L A c :=
  ⟨blk_below hb (blk_lt h.box) h.box, by obtain ⟨b, hr⟩ := h.ref; exact ⟨b, hr.below hb (Nat.le_refl _)⟩, own_below h.row hb (Nat.le_refl _), h.len, h.all, h.blw.trans (hb.mono h.blw.size)⟩
theorem RAtIs.none (h : RAtIs w W rb T s (n + 1) k vb vm L A c) (hf : findT T (s.take (n + 1)) = .none) : RAtIs w W rb T s n k vb vm L A c :=
  ⟨h.box, h.ref, h.row, h.len, by have := h.all; rw [begT_succ, hf] at this; simpa using this, h.blw⟩
end
set_option maxHeartbeats 4000000 in
theorem rat_any {w : World} {base : Nat} {T : List Ent} {vb vm : Value} (h : RefIs w base T vb vm) (hT : OkT T) (hlen : T.length ≤ 1000) (s : List UInt8) (hs : s.length ≤ 1000000) :
    Calls Tryz.prog 37 #[.agg #[vb, vm], .string (bs s)] w fun e w' => (∃ v, e = .returned v ∧ IntsIs w' w.heap.size v (atA T s)) ∧ Below w.heap.size w w' := by
  obtain ⟨Av, cv, hvb⟩ := own_slice h.row
  obtain ⟨Am, cm, hvm⟩ := own_slice h.mrg
  subst hvb
  subst hvm
  obtain ⟨M, hM⟩ : ∃ M, min s.length 64 = M := ⟨_, rfl⟩
  have hb0 := (Below.refl w.heap.size w).alloc (Nat.le_refl _) (.cells #[.slice Av T.length cv, .slice Am (mrgsT T).length cm] 34)
  have HST : Hid (RAtIs w (w.alloc (.cells #[.slice Av T.length cv, .slice Am (mrgsT T).length cm] 34)) w.heap.size T s M 0 (.slice Av T.length cv) (.slice Am (mrgsT T).length cm) [] none 0) :=
    Lib.hid ⟨blk_new _ _, ⟨base, h.below hb0 (Nat.le_refl _)⟩, own_nil _ _ _ _, rfl, by rw [beg_64 hT s M hM.symm]; rfl, hb0⟩
  have HLE := Lib.hid hlen
  have HSL := Lib.hid hs
  have HDZ : Hid ((bs s).size = s.length) := Lib.hid (bs_size s)
  have HSS : Hid (∀ (n : Nat) W, n ≤ s.length → (Instr.slice 9 (.string (bs s)) none (some (.int .i64 (n : Int))) none).run Tryz.prog W = .ok (strV (s.take n)) W) := Lib.hid (fun n W hn => by
    have h1 := slice_strB (bs s) 0 n W (Nat.zero_le _) (by rw [bs_size]; exact hn)
    have h2 : (bs s).extract 0 n = bs (s.take n) := by
      have h3 := sub_bs s 0 n (Nat.zero_le _)
      rw [Nat.zero_add, Nat.min_eq_left hn, List.drop_zero] at h3
      exact h3
    rw [h2] at h1
    exact h1)
  have HMM := Lib.hid hM
  have hmin : (if (64 : Int) < ((bs s).size : Int) then (64 : Int) else ((bs s).size : Int)) = (M : Int) := by
    rw [bs_size, ← hM]
    split <;> omega
  clear h hT hs hlen hb0 hM
  obtain ⟨Z, hZ⟩ : ∃ Z, bs s = Z := ⟨_, rfl⟩
  rw [hZ] at HDZ HSS hmin
  rw [hZ]
  clear hZ
  go_enter Tryz.func37, Tryz.ntmps37
  go_wp2_with fail
  clear hmin
  obtain ⟨rb, hrb⟩ : ∃ b, w.heap.size = b := ⟨_, rfl⟩
  rw [hrb] at HST ⊢
  have HRB := Lib.hid hrb
  clear hrb
  generalize w.alloc (.cells #[.slice Av T.length cv, .slice Am (mrgsT T).length cm] 34) = w1 at *
  have HML : Hid (M ≤ 64 ∧ M ≤ s.length) := Lib.hid (by have := HMM.out; omega)
  go_loopg [5, 6] M (fun n v i W => ∃ (k : Nat) (L : List Int) (A : Option Addr) (c : Nat), n ≤ M ∧ k + n ≤ M ∧ v = .slice A k c ∧ i = .int .i64 (n : Int) ∧ RAtIs w W rb T s n k (.slice Av T.length cv) (.slice Am (mrgsT T).length cm) L A c)
  case atStart => exact ⟨0, [], none, 0, Nat.le_refl _, by omega, rfl, rfl, HST.out⟩
  case round =>
    obtain ⟨k, L, A, c, hn, hkn, rfl, rfl, hst⟩ := hrel
    obtain ⟨G0, hG0⟩ : ∃ G, G = gk := ⟨_, rfl⟩
    subst hG0
    clear HST
    rename World => W
    have HST := Lib.hid hst
    have HN := Lib.hid (And.intro hn hkn)
    clear hst hn hkn
    rcases G0 with _ | n
    · have g0 : ¬ ((0 : Nat) : Int) > 0 := by omega
      go_wp2_with fail
      go_ret
      have h9 := HST.out.all
      have e0 : begT T s 0 = [] := rfl
      rw [e0, List.reverse_nil, List.append_nil] at h9
      refine ⟨⟨_, rfl, A, c, ?_, ?_⟩, HST.out.blw⟩
      · rw [← h9, HST.out.len]
        rfl
      · rw [← h9, HST.out.len]
        exact HST.out.row
    · have g1 : (0 : Int) < ((n + 1 : Nat) : Int) := by omega
      have wn : IntKind.i64.wrap (((n + 1 : Nat) : Int) - 1) = (n : Int) := by rw [show ((n + 1 : Nat) : Int) - 1 = (n : Int) by omega]; exact IntWalk.i64_in _ (by have := HN.out; have := HML.out; omega)
      obtain ⟨N, hN⟩ : ∃ N, n + 1 = N := ⟨_, rfl⟩
      have HNN := Lib.hid hN
      have hsl := HSS.out N
      have HTK : Hid (N ≤ s.length) := Lib.hid (by have := HN.out; have := HML.out; omega)
      have d0 := blk_cell HST.out.box 0
      have d1 := blk_cell HST.out.box 1
      simp only [List.getElem?_toArray, List.getElem?_cons_zero, List.getElem?_cons_succ] at d0 d1
      rw [hN] at g1 wn ⊢
      have ws : ∀ W, (Instr.slice 9 (.string Z) none (some (.int .i64 (N : Int))) none).run Tryz.prog W = .ok (strV (s.take N)) W := fun W => hsl W HTK.out
      clear hsl hN
      have HF : Hid (∀ V, RAtIs w V rb T s N k (.slice Av T.length cv) (.slice Am (mrgsT T).length cm) L A c → Calls Tryz.prog 82 #[.agg #[.slice Av T.length cv, .slice Am (mrgsT T).length cm], strV (s.take N)] V fun e w' => e = .returned (.int .i64 (findI T (s.take N))) ∧ Below V.heap.size V w') := Lib.hid (fun V hV => by obtain ⟨b, hr⟩ := hV.ref; exact rfind_any (s.take N) hr HLE.out)
      rw [HNN.out] at HST
      go_upto_region 5 with fail
      refine wp_region_held_drew (S := fun V => V.cell? ⟨rb, 0, none⟩ = some (.slice Av T.length cv) ∧ V.cell? ⟨rb, 1, none⟩ = some (.slice Am (mrgsT T).length cm)) (by kernel_rfl) (by exact ⟨d0, d1⟩) (fun hHeld => ?_)
      refine tkH 0 15 ?_ rfl hHeld (.inl ⟨by rfl, ?_⟩) ?_; rotate_left; focus (intro w' hSw; (try dsimp only at hSw); go_simp; (try with_reducible rfl))
      try simp only [sIB, sC0, sCS]
      refine tkH 1 16 ?_ rfl hHeld (.inl ⟨by rfl, ?_⟩) ?_; rotate_left; focus (intro w' hSw; (try dsimp only at hSw); go_simp; (try with_reducible rfl))
      try simp only [sIB, sC0, sCS]
      refine tkH 2 17 ?_ rfl hHeld (.inl ⟨by rfl, ?_⟩) ?_; rotate_left; focus (intro w' hSw; (try dsimp only at hSw); go_simp; (try with_reducible rfl))
      try simp only [sIB, sC0, sCS]
      refine tkH 3 18 ?_ rfl hHeld (.inl ⟨by rfl, ?_⟩) ?_; rotate_left; focus (intro w' hSw; (try dsimp only at hSw); go_simp; (try with_reducible rfl))
      try simp only [sIB, sC0, sCS]
      refine wpAnyH_ready (rs := [4]) (by kernel_rfl) (by simp) ?_
      refine AllReadyH.cons rfl (fun K hK => ?_) AllReadyH.nil
      (try go_simp)
      go_simp; refine (HF.out _ (HST.out.below (Below.refl _ _).drew)).mono ?_; rintro e W6 ⟨rfl, hb⟩; (replace HST := Lib.hid (HST.out.below ((Below.refl _ _).drew.trans hb))); have h := And.intro (below_cell hb (Nat.le_refl _) hHeld.1) (below_cell hb (Nat.le_refl _) hHeld.2); clear hb; go_simp
      go_wp2_with fail
      refine hK.out _ _ h (fun hHeld => ?_)
      clear hK K
      try simp only [Act.put, sIB, sC0, sCS]
      refine tkH 5 7 ?_ rfl hHeld (.inl ⟨by rfl, ?_⟩) ?_; rotate_left; focus (intro w' hSw; (try dsimp only at hSw); go_simp; (try with_reducible rfl))
      try simp only [sIB, sC0, sCS]
      refine wpAnyH_done (by kernel_rfl) ?_ _
      clear d0 d1 h hHeld ws HF
      obtain ⟨fi, hfi⟩ : ∃ z, findI T (s.take N) = z := ⟨_, rfl⟩
      rw [hfi]
      cases hf : findT T (s.take N) with
      | none =>
        have hneg : fi < 0 := by rw [← hfi]; unfold findI; rw [hf]; decide
        have HS2 : Hid (RAtIs w W6 rb T s n k (.slice Av T.length cv) (.slice Am (mrgsT T).length cm) L A c) := Lib.hid (by
          have h9 := HST.out
          rw [← HNN.out] at h9 hf
          exact h9.none hf)
        clear hfi hf HST
        go_wp2_with fail
        go_roundg n
        case measure => omega
        case rel => exact ⟨k, L, A, c, by have := HN.out; omega, by have := HN.out; omega, rfl, rfl, HS2.out⟩
      | some j =>
        have hfj : fi = (j : Int) := by rw [← hfi]; unfold findI; rw [hf]
        have hpos : (0 : Int) ≤ (j : Int) := by omega
        have HALL : Hid ((L ++ [(j : Int)]) ++ (begT T s n).reverse = atA T s) := Lib.hid (by
          have h9 := HST.out.all
          rw [← HNN.out] at h9 hf
          rw [begT_succ, hf] at h9
          simpa using h9)
        have HKB : Hid (k ≤ 64 ∧ w.heap.size ≤ W6.heap.size) := Lib.hid ⟨by have := HN.out; have := HML.out; omega, HST.out.blw.size⟩
        subst hfj
        clear hfi hf
        go_wp2_with (at_builtin; refine app_one (w.heap.size) 48 3 (.int .i64 0) 1 8 [_] 1 _ _ rfl rfl Tryz.underlying48 info_int5 rfl (by decide) _ _ _ rfl rfl rfl (by intro u hu; simp at hu; subst hu; rfl) HST.out.row (by have := HKB.out; omega) (by have := HKB.out; omega) HKB.out.2 ?_)
        intro v' W8 hown hg8
        have hk8 : Keep (fun g => (Value.slice A k c).ownBlock = some g) W6 W8 := Keep.of_grown hg8 (fun g hg => hg)
        obtain ⟨A8, c8, rfl⟩ := own_slice hown
        have HS2 : Hid (RAtIs w W8 rb T s n (k + 1) (.slice Av T.length cv) (.slice Am (mrgsT T).length cm) (L ++ [(j : Int)]) A8 c8) := Lib.hid (by
          have h9 := HST.out
          have hrow := h9.row
          have hlo := fun x hx => own_base hrow x hx
          refine ⟨hk8.blk h9.box (fun e => ?_), ?_, by rw [List.map_append]; exact hown, by rw [List.length_append, h9.len]; rfl, HALL.out, h9.blw.trans (hk8.below h9.blw.size hlo)⟩
          · exact row_off hrow h9.box (by decide) _ e rfl
          · obtain ⟨b, hr⟩ := h9.ref
            exact ⟨b, own_keep hr.row hk8 (fun x hx e => by
              obtain ⟨cs, fz, h1⟩ := row_tag hr.row hx
              exact row_off hrow h1 (by decide) _ e rfl), own_keep hr.mrg hk8 (fun x hx e => by
              obtain ⟨cs, fz, h1⟩ := row_tag hr.mrg hx
              exact row_off hrow h1 (by decide) _ e rfl), hr.nil⟩)
        clear hown hg8 hk8 HST
        go_wp2_with fail
        go_roundg n
        case measure => omega
        case rel => exact ⟨k + 1, L ++ [(j : Int)], A8, c8, by have := HN.out; omega, by have := HN.out; omega, rfl, rfl, HS2.out⟩
theorem info_rows : (Tryz.prog.info? 48).map (fun i => (i.zero, i.size, i.bytes)) = some (some (.slice none 0 0), 1, 24) := by kernel_rfl
structure RsIs (W : World) (base : Nat) (v : Value) (L : List (List Int)) (vals : List Value) : Prop where
  row : W.ownsRow base 48 1 v L.length vals
  at' : ∀ (i : Nat) (D : List Int), L[i]? = some D → ∃ u, vals[i]? = some u ∧ IntsIs W base u D
section
variable {w w' W W' : World} {base b : Nat} {v : Value} {L : List (List Int)} {vals : List Value}
theorem RsIs.nil (W : World) (base : Nat) : RsIs W base (.slice none 0 0) [] [] := ⟨own_nil _ _ _ _, fun i D h => by simp at h⟩
theorem RsIs.below (h : RsIs W base v L vals) {B : Nat} (hb : Below B W W') (hB : W.heap.size ≤ B) : RsIs W' base v L vals :=
  ⟨own_below h.row hb hB, fun i D hi => by obtain ⟨u, h1, h2⟩ := h.at' i D hi; exact ⟨u, h1, ints_below h2 hb hB⟩⟩
theorem RsIs.less (h : RsIs W b v L vals) (hle : base ≤ b) : RsIs W base v L vals := ⟨own_less h.row hle, fun i D hi => by obtain ⟨u, h1, h2⟩ := h.at' i D hi; exact ⟨u, h1, ints_less h2 hle⟩⟩
theorem RsIs.keepT (h : RsIs W base v L vals) {g : Nat} {cs : Array Value} {t : TypeId} {fz : Nat × Nat} (hg : W.heap[g]? = some (.cells cs t fz)) (h1 : 48 ≠ t) (h2 : 3 ≠ t) (k : Keep (fun x => x = g) W W') : RsIs W' base v L vals :=
  ⟨own_keep h.row k (row_off h.row hg h1), fun i D hi => by
    obtain ⟨u, q1, A, c, rfl, q2⟩ := h.at' i D hi
    exact ⟨_, q1, A, c, rfl, own_keep q2 k (row_off q2 hg h2)⟩⟩
theorem RsIs.grow {v' u : Value} {D : List Int} (h : RsIs W base v L vals) (hk : Keep (fun g => v.ownBlock = some g) W W') (ho : W'.ownsRow base 48 1 v' (L.length + 1) (vals ++ [u])) (hu : IntsIs W base u D) : RsIs W' base v' (L ++ [D]) (vals ++ [u]) := by
  have hl : vals.length = L.length := by have := h.row.1; simpa using this
  have hoff : ∀ (x : Value) (E : List Int), IntsIs W base x E → IntsIs W' base x E := fun x E hx => by
    obtain ⟨A, c, rfl, q⟩ := hx
    refine ⟨A, c, rfl, own_keep q hk (fun g hg e => ?_)⟩
    obtain ⟨cs, fz, h1⟩ := row_tag h.row e
    exact row_off q h1 (by decide) g hg rfl
  refine ⟨by rw [List.length_append]; exact ho, fun i E hi => ?_⟩
  by_cases hlt : i < L.length
  · rw [List.getElem?_append_left hlt] at hi
    obtain ⟨x, q1, q2⟩ := h.at' i E hi
    exact ⟨x, by rw [List.getElem?_append_left (by omega)]; exact q1, hoff x E q2⟩
  · rw [List.getElem?_append_right (by omega)] at hi
    have hi0 : i - L.length = 0 := by
      rcases Nat.eq_zero_or_pos (i - L.length) with h0 | h0
      · exact h0
      · rw [List.getElem?_eq_none (by simp; omega)] at hi; cases hi
    rw [hi0] at hi
    simp at hi
    subst hi
    refine ⟨u, ?_, hoff u _ hu⟩
    rw [List.getElem?_append_right (by omega), hl, hi0]
    rfl
theorem RsIs.slice (h : RsIs W base v L vals) : ∃ A c, v = .slice A L.length c := own_slice h.row
theorem RsIs.cell {A : Option Addr} {c i : Nat} {D : List Int} (h : RsIs W base (.slice A L.length c) L vals) (hi : L[i]? = some D) : ∃ g A2 c2, A = some ⟨g, 0, none⟩ ∧ W.cell? ⟨g, i, none⟩ = some (.slice A2 D.length c2) ∧ IntsIs W base (.slice A2 D.length c2) D := by
  obtain ⟨u, h1, h2⟩ := h.at' i D hi
  have hlt := (List.getElem?_eq_some_iff.1 hi).1
  obtain ⟨g, cap, e, _, _, hc⟩ := own_open h.row (by omega)
  injection e with e1 e2 e3
  subst e1
  have h9 := h2
  obtain ⟨A2, c2, rfl, _⟩ := h2
  exact ⟨g, A2, c2, rfl, (hc i _ h1).1, h9⟩
end
theorem app_ints {w : World} {ops : Array Oper} {rest : List Oper} {o : Oper} {a : Act} {Q : Exit → Act → World → Prop} (base b2 : Nat) (s x : Operand)
    (hgd : o.guard = none) (ho : o.op = .call { callee := .builtin .append, args := #[s, x], argTypes := #[48, 48] })
    (v u : Value) (n : Nat) (L D : List Int) (hs : a.eval s = v) (hx : a.eval x = u) (hown : w.ownsRow base 3 1 v n (L.map (Value.int .i64))) (hu : IntsIs w b2 u D) (hn : n + D.length ≤ 1000000) (hbase : base ≤ w.heap.size)
    (h : ∀ v' w', w'.ownsRow base 3 1 v' (n + D.length) ((L ++ D).map (Value.int .i64)) → Keep (fun g => v.ownBlock = some g) w w' → wpList Tryz.prog ops Q rest (a.put o.dst v') w') : wpList Tryz.prog ops Q (o :: rest) a w := by
  obtain ⟨A, c, rfl, h2⟩ := hu
  rcases h2.2 with ⟨e, h0⟩ | ⟨g, cap, cur, e, _, _⟩
  · rw [e] at hx
    obtain ⟨i, hi, hz0, hz1, hz2⟩ := info_parts info_int5
    have hD : D = [] := List.eq_nil_of_length_eq_zero h0
    subst hD
    refine wpList_append_own_none hgd s x 48 ho base 3 i 1 Tryz.underlying48 hi v n (L.map (Value.int .i64)) hs hown hx ?_
    refine h v w ?_ (Keep.refl _ _)
    simpa using hown
  · injection e with e1 e2 e3
    subst e1
    refine wpList_plain hgd fun K hK => ?_
    refine wp_app_list base 48 3 (.int .i64 0) 1 8 (D.map (Value.int .i64)) c D.length ⟨g, 0, none⟩ s x ho Tryz.underlying48 info_int5 rfl (by decide) v n (L.map (Value.int .i64)) hs hx (by simp) (fun j y hy => h2.cells (g := g) rfl j y hy) (fun y hy => ?_) hown (by omega) (by omega) hbase (fun v' w' r1 r2 _ => ?_)
    · obtain ⟨z, _, rfl⟩ := List.mem_map.1 hy
      rfl
    · exact hK _ _ (h v' w' (by rw [List.map_append]; exact r1) (Keep.of_grown r2 (fun g hg => hg)))
def RowsP (w : World) (e : Ending) (w' : World) (L : List (List Int)) : Prop := (∃ v vals, e = .returned v ∧ RsIs w' w.heap.size v L vals) ∧ Below w.heap.size w w'
theorem bs_nilE : bs ([] : List UInt8) = ⟨#[]⟩ := rfl
theorem str_ne {s : List UInt8} (h : s ≠ []) : ((bs s).toList == []) = false := by
  rw [ByteArray.toList_eq]
  cases s with
  | nil => exact absurd rfl h
  | cons x s => rfl
theorem rfirst_few {T : List Ent} (s : List UInt8) (most : Int) (hm : most < 1) (w : World) (vb vm : Value) (hv : ∃ A n c A' n' c', vb = .slice A n c ∧ vm = .slice A' n' c') : Calls Tryz.prog 21 #[.agg #[vb, vm], .string (bs s), .int .i64 most] w fun e w' => RowsP w e w' ((divA T s).take most.toNat) := by
  obtain ⟨A, n, c, A', n', c', rfl, rfl⟩ := hv
  have HB := Lib.hid ((Below.refl w.heap.size w).alloc (Nat.le_refl _) (.cells #[.slice A n c, .slice A' n' c'] 34))
  have HM : Hid (most.toNat = 0) := Lib.hid (by omega)
  go_enter Tryz.func21, Tryz.ntmps21
  go_wp2_with fail
  go_ret
  refine ⟨⟨_, [], rfl, ?_⟩, HB.out⟩
  rw [HM.out]
  exact RsIs.nil _ _
theorem rfirst_nil {T : List Ent} (most : Int) (hm : 1 ≤ most) (w : World) (vb vm : Value) (hv : ∃ A n c A' n' c', vb = .slice A n c ∧ vm = .slice A' n' c') : Calls Tryz.prog 21 #[.agg #[vb, vm], .string (bs []), .int .i64 most] w fun e w' => RowsP w e w' ((divA T []).take most.toNat) := by
  obtain ⟨A, n, c, A', n', c', rfl, rfl⟩ := hv
  have hb0 := (Below.refl w.heap.size w).alloc (Nat.le_refl _) (.cells #[.slice A n c, .slice A' n' c'] 34)
  have HB0 := Lib.hid hb0
  have HM : Hid ((divA T []).take most.toNat = [[]]) := Lib.hid (by
    obtain ⟨k, hk⟩ : ∃ k, most.toNat = k + 1 := ⟨most.toNat - 1, by omega⟩
    rw [hk, divA_nil]
    simp)
  have hm2 : ¬ most < 1 := by omega
  clear hb0
  rw [bs_nilE]
  go_enter Tryz.func21, Tryz.ntmps21
  go_upto_region 1 with fail
  generalize w.alloc (.cells #[.slice A n c, .slice A' n' c'] 34) = w1 at *
  have HB2 := Lib.hid (HB0.out.alloc HB0.out.size (.cells #[.slice none 0 0] 48))
  have HN := Lib.hid (blk_new w1 (.cells #[.slice none 0 0] 48))
  go_wp2_with fail
  go_ret
  refine ⟨⟨_, [.slice none 0 0], rfl, ?_⟩, HB2.out⟩
  rw [HM.out]
  refine ⟨⟨rfl, .inr ⟨w1.heap.size, 1, _, rfl, HB0.out.size, HN.out, Nat.le_refl _, by decide, rfl, rfl⟩⟩, fun i D hi => ?_⟩
  match i, hi with
  | 0, hi =>
    simp at hi
    subst hi
    exact ⟨_, rfl, none, 0, rfl, own_nil _ _ _ _⟩
  | i + 1, hi => simp at hi
theorem slice_strD (s : List UInt8) (a : Nat) (w : World) (h1 : a ≤ s.length) : (Instr.slice 9 (.string (bs s)) (some (.int .i64 (a : Int))) none none).run Tryz.prog w = .ok (.string (bs (s.drop a))) w := by
  have h2 : (bs s).extract a (bs s).size = bs (s.drop a) := by
    rw [extract_bs]
    show bs ((s.drop a).take ((bs s).size - a)) = _
    rw [bs_size, List.take_of_length_le (by rw [List.length_drop]; exact Nat.le_refl _)]
  rw [← h2]
  have hz : a ≤ (bs s).size := by rw [bs_size]; exact h1
  generalize bs s = Z at *
  have p2 : (a : Int) ≤ (Z.size : Int) := by omega
  have p3 : ¬ (Z.size : Int) < (a : Int) := by omega
  simp [go_sem, hz, p2, p3]
structure RFI (w W : World) (rb : Nat) (T : List Ent) (vb vm : Value) (A8 : Option Addr) (c8 : Nat) (l : List Int) (out : Value) (L : List (List Int)) (vals : List Value) : Prop where
  box : W.heap[rb]? = some (.cells #[vb, vm] 34)
  ref : ∃ b, RefIs W b T vb vm
  ids : ∃ b, IntsIs W b (.slice A8 l.length c8) l
  out : RsIs W w.heap.size out L vals
  blw : Below w.heap.size w W
theorem RFI.below {w W W' : World} {rb : Nat} {T : List Ent} {vb vm : Value} {A8 : Option Addr} {c8 : Nat} {l : List Int} {out : Value} {L : List (List Int)} {vals : List Value} (h : RFI w W rb T vb vm A8 c8 l out L vals) (hb : Below W.heap.size W W') : RFI w W' rb T vb vm A8 c8 l out L vals :=
  ⟨blk_below hb (blk_lt h.box) h.box, by obtain ⟨b, hr⟩ := h.ref; exact ⟨b, hr.below hb (Nat.le_refl _)⟩, by obtain ⟨b, hr⟩ := h.ids; exact ⟨b, ints_below hr hb (Nat.le_refl _)⟩, h.out.below hb (Nat.le_refl _), h.blw.trans (hb.mono h.blw.size)⟩
theorem RFI.app {w W W' : World} {rb : Nat} {T : List Ent} {vb vm : Value} {A8 : Option Addr} {c8 : Nat} {l : List Int} {out v' u : Value} {L : List (List Int)} {vals : List Value} {D : List Int} (h : RFI w W rb T vb vm A8 c8 l out L vals) (hk : Keep (fun g => out.ownBlock = some g) W W')
    (ho : W'.ownsRow w.heap.size 48 1 v' (L.length + 1) (vals ++ [u])) (hu : IntsIs W w.heap.size u D) : RFI w W' rb T vb vm A8 c8 l v' (L ++ [D]) (vals ++ [u]) := by
  have hoff : ∀ {b n sz : Nat} {e : TypeId} {x : Value} {xs : List Value}, W.ownsRow b e sz x n xs → e ≠ 48 → W'.ownsRow b e sz x n xs := fun ho2 he => own_keep ho2 hk (fun g hg e2 => by
    obtain ⟨cs, fz, h1⟩ := row_tag h.out.row e2
    exact row_off ho2 h1 he g hg rfl)
  refine ⟨hk.blk h.box (fun e => row_off h.out.row h.box (by decide) _ e rfl), ?_, ?_, h.out.grow hk ho hu, h.blw.trans (hk.below h.blw.size (own_base h.out.row))⟩
  · obtain ⟨b, hr⟩ := h.ref
    exact ⟨b, hoff hr.row (by decide), hoff hr.mrg (by decide), hr.nil⟩
  · obtain ⟨b, A, c, e, hr⟩ := h.ids
    exact ⟨b, A, c, e, hoff hr (by decide)⟩
structure RFR (W : World) (br er : Nat) (A6 : Option Addr) (c6 : Nat) (R : List (List Int)) (rvals : List Value) : Prop where
  rows : RsIs W br (.slice A6 R.length c6) R rvals
  lt : ∀ g, (Value.slice A6 R.length c6).ownBlock = some g → br ≤ g ∧ g < er
theorem RFR.below {W W' : World} {br er : Nat} {A6 : Option Addr} {c6 : Nat} {R : List (List Int)} {rvals : List Value} (h : RFR W br er A6 c6 R rvals) (hb : Below W.heap.size W W') : RFR W' br er A6 c6 R rvals := ⟨h.rows.below hb (Nat.le_refl _), h.lt⟩
theorem RFR.app {W W' : World} {base br er : Nat} {A6 : Option Addr} {c6 : Nat} {R L : List (List Int)} {rvals vals : List Value} {out : Value} (h : RFR W br er A6 c6 R rvals) (ho : RsIs W base out L vals) (hoff : ∀ g, out.ownBlock = some g → g < br ∨ er ≤ g) (hk : Keep (fun g => out.ownBlock = some g) W W') : RFR W' br er A6 c6 R rvals := by
  refine ⟨⟨own_keep h.rows.row hk (fun g hg e => by
    have := h.lt g hg
    have := hoff g e
    omega), fun i D hi => ?_⟩, h.lt⟩
  obtain ⟨u, q1, A, c, rfl, q2⟩ := h.rows.at' i D hi
  exact ⟨_, q1, A, c, rfl, own_keep q2 hk (fun g hg e2 => by
    obtain ⟨cs, fz, h1⟩ := row_tag ho.row e2
    exact row_off q2 h1 (by decide) g hg rfl)⟩
theorem blkA_snoc {T : List Ent} {s : List UInt8} {l : List Int} {k : Nat} {x : Int} (h : l[k]? = some x) : blkA T s (l.take (k + 1)) = blkA T s (l.take k) ++ (divA T (s.drop (lenT T x))).map (fun d => x :: d) := by
  rw [List.take_add_one, h]
  unfold blkA
  rw [List.flatMap_append]
  simp
theorem blkA_pre (T : List Ent) (s : List UInt8) (l : List Int) (k : Nat) : ∃ r, blkA T s l = blkA T s (l.take k) ++ r := by
  refine ⟨blkA T s (l.drop k), ?_⟩
  unfold blkA
  rw [← List.flatMap_append, List.take_append_drop]
set_option maxHeartbeats 8000000 in
theorem rfirst_step {T : List Ent} (hT : OkT T) (hlen : T.length ≤ 1000) (s : List UInt8) (hne : s ≠ []) (hs : s.length ≤ 1000) (M : Nat) (hM : 1 ≤ M) (hM2 : M ≤ 100000) (w : World) (base : Nat) (Av Am : Option Addr) (cv cm : Nat) (h : RefIs w base T (.slice Av T.length cv) (.slice Am (mrgsT T).length cm))
    (IH : ∀ (s' : List UInt8) (m' : Int) (V : World) (b : Nat), s'.length < s.length → m' ≤ 100000 → RefIs V b T (.slice Av T.length cv) (.slice Am (mrgsT T).length cm) → Calls Tryz.prog 21 #[.agg #[.slice Av T.length cv, .slice Am (mrgsT T).length cm], .string (bs s'), .int .i64 m'] V fun e w' => RowsP V e w' ((divA T s').take m'.toNat)) :
    Calls Tryz.prog 21 #[.agg #[.slice Av T.length cv, .slice Am (mrgsT T).length cm], .string (bs s), .int .i64 (M : Int)] w fun e w' => RowsP w e w' ((divA T s).take M) := by
  have hb0 := (Below.refl w.heap.size w).alloc (Nat.le_refl _) (.cells #[.slice Av T.length cv, .slice Am (mrgsT T).length cm] 34)
  have HIH := Lib.hid IH
  have HT := Lib.hid hT
  have HSL := Lib.hid hs
  have HLE := Lib.hid hlen
  have HMM := Lib.hid (And.intro hM hM2)
  have HBX := Lib.hid (blk_new w (.cells #[.slice Av T.length cv, .slice Am (mrgsT T).length cm] 34))
  have HRF := Lib.hid (h.below hb0 (Nat.le_refl _))
  have HB0 := Lib.hid hb0
  have hstr := str_ne hne
  have hm1 : ¬ (M : Int) < 1 := by omega
  have HNE := Lib.hid hne
  clear IH hT hs hlen h hb0 hne hM hM2
  obtain ⟨NT, hNT⟩ : ∃ n, T.length = n := ⟨_, rfl⟩
  obtain ⟨NM, hNM⟩ : ∃ n, (mrgsT T).length = n := ⟨_, rfl⟩
  have HNT := Lib.hid hNT
  rw [hNT, hNM] at HIH
  rw [hNT, hNM] at HBX HRF HB0
  rw [hNT, hNM]
  rw [hNT] at HLE
  clear hNT hNM
  have HSD : Hid (∀ (a : Nat) V, a ≤ s.length → (Instr.slice 9 (.string (bs s)) (some (.int .i64 (a : Int))) none none).run Tryz.prog V = .ok (.string (bs (s.drop a))) V) := Lib.hid (fun a V ha => slice_strD s a V ha)
  have HAT : Hid (∀ V b, RefIs V b T (.slice Av NT cv) (.slice Am NM cm) → Calls Tryz.prog 37 #[.agg #[.slice Av NT cv, .slice Am NM cm], .string (bs s)] V fun e w' => (∃ v, e = .returned v ∧ IntsIs w' V.heap.size v (atA T s)) ∧ Below V.heap.size V w') := Lib.hid (fun V b hV => rat_any hV HT.out (by rw [HNT.out]; exact HLE.out) s (by have := HSL.out; omega))
  obtain ⟨Z, hZ⟩ : ∃ Z, bs s = Z := ⟨_, rfl⟩
  rw [hZ] at hstr HSD HAT
  rw [hZ]
  clear hZ
  go_enter Tryz.func21, Tryz.ntmps21
  go_upto_region 6 with fail
  obtain ⟨rb, hrb⟩ : ∃ b, w.heap.size = b := ⟨_, rfl⟩
  have HRB := Lib.hid hrb
  rw [hrb] at HBX ⊢
  clear hrb hstr
  generalize w.alloc (.cells #[.slice Av NT cv, .slice Am NM cm] 34) = w1 at *
  have d0 := blk_cell HBX.out 0
  have d1 := blk_cell HBX.out 1
  simp only [List.getElem?_toArray, List.getElem?_cons_zero, List.getElem?_cons_succ] at d0 d1
  go_upto_region 7 with (go_at_call 37; refine (HAT.out _ _ HRF.out).mono ?_; rintro e W2 ⟨⟨v, rfl, A8, c8, rfl, hown⟩, hb⟩; (have HST : Hid (RFI w W2 rb T (.slice Av NT cv) (.slice Am NM cm) A8 c8 (atA T s) (.slice none 0 0) [] []) := Lib.hid ⟨blk_below hb (blk_lt HBX.out) HBX.out, ⟨_, HRF.out.below hb (Nat.le_refl _)⟩, ⟨_, A8, c8, rfl, hown⟩, RsIs.nil _ _, HB0.out.trans (hb.mono HB0.out.size)⟩); clear hown hb d0 d1 HBX HRF HB0 HAT)
  obtain ⟨l, hl⟩ : ∃ l, atA T s = l := ⟨_, rfl⟩
  have HL := Lib.hid hl
  rw [hl] at HST
  rw [hl]
  clear hl
  obtain ⟨N, hN⟩ : ∃ n, l.length = n := ⟨_, rfl⟩
  have HN := Lib.hid hN
  have HNS : Hid (N ≤ 1000) := Lib.hid (by
    have h1 := begT_le T s s.length
    have h2 : (atA T s).length = (begT T s s.length).length := List.length_reverse
    rw [HL.out] at h2
    have := HSL.out
    omega)
  rw [hN]
  clear hN
  go_wp2_with fail
  go_loopg [7, 9] N (fun n out i W => ∃ (k : Nat) (L : List (List Int)) (vals : List Value), k + n = N ∧ i = .int .i64 (k : Int) ∧ RFI w W rb T (.slice Av NT cv) (.slice Am NM cm) A8 c8 l out L vals ∧ L = (blkA T s (l.take k)).take M)
  case atStart => exact ⟨0, [], [], by omega, rfl, HST.out, by simp [blkA]⟩
  case round =>
    obtain ⟨k, L, vals, hk, rfl, hst, hL⟩ := hrel
    obtain ⟨G0, hG0⟩ : ∃ G, G = gk := ⟨_, rfl⟩
    subst hG0
    clear HST
    rename World => W
    rename Value => out
    have HST := Lib.hid hst
    have HK := Lib.hid hk
    have HLL := Lib.hid hL
    have HLM : Hid (L.length ≤ M) := Lib.hid (by rw [hL, List.length_take]; exact Nat.min_le_left _ _)
    clear hst hk hL
    obtain ⟨A3, c3, rfl⟩ := HST.out.out.slice
    obtain ⟨NL, hNL⟩ : ∃ n, L.length = n := ⟨_, rfl⟩
    have HNL := Lib.hid hNL
    rw [hNL] at HLM
    rw [hNL]
    clear hNL
    by_cases hkn : k < N
    · have f1 : (k : Int) < (N : Int) := by omega
      by_cases hlm : NL < M
      · have f2 : (NL : Int) < (M : Int) := by omega
        obtain ⟨x, hx⟩ : ∃ x, l[k]? = some x := ⟨_, List.getElem?_eq_getElem (by have := HN.out; omega)⟩
        have hmem : x ∈ atA T s := by rw [HL.out]; exact List.mem_of_getElem? hx
        obtain ⟨g1, g2, g3, _⟩ := atA_has HT.out hmem
        obtain ⟨j, hjx, hj, hjt⟩ := hasT_at g1
        subst hjx
        obtain ⟨b8, o8, hA8, e1⟩ : ∃ b o, A8 = some ⟨b, o, none⟩ ∧ W.cell? ⟨b, o + k, none⟩ = some (.int .i64 (j : Int)) := by
          obtain ⟨b, A, c, e, ho⟩ := HST.out.ids
          injection e with e1 _ e2
          subst e1
          exact own_sl1 ho k _ hx
        obtain ⟨bv, ov, hAv, e2⟩ : ∃ b o, Av = some ⟨b, o, none⟩ ∧ W.cell? ⟨b, o + j, none⟩ = some (strV (bytesT T (j : Int))) := by
          obtain ⟨b, hr⟩ := HST.out.ref
          have h0 : (bytsT T)[j]? = some (bytesT T (j : Int)) := by
            unfold bytsT bytesT
            rw [if_pos g1, entT_nat _ _ hj, List.getElem?_map, List.getElem?_eq_getElem hj]
            rfl
          have hrow := hr.row
          rw [← HNT.out] at hrow
          exact own_sl1 hrow j _ h0
        obtain ⟨Bx, hBx⟩ : ∃ B, bs (bytesT T (j : Int)) = B := ⟨_, rfl⟩
        have hbz : Bx.size = lenT T (j : Int) := by rw [← hBx, bs_size]; rfl
        unfold strV at e2
        rw [hBx] at e2
        obtain ⟨s', hs'⟩ : ∃ z, s.drop (lenT T (j : Int)) = z := ⟨_, rfl⟩
        have ws : ∀ V, (Instr.slice 9 (.string Z) (some (.int .i64 (Bx.size : Int))) none none).run Tryz.prog V = .ok (.string (bs s')) V := fun V => by
          rw [← hs', hbz]
          exact HSD.out _ V g3
        have HS' : Hid (s'.length < s.length ∧ blkA T s (l.take (k + 1)) = blkA T s (l.take k) ++ (divA T s').map (fun d => (j : Int) :: d)) := Lib.hid ⟨by rw [← hs', List.length_drop]; omega, by rw [← hs']; exact blkA_snoc hx⟩
        obtain ⟨M', hM'⟩ : ∃ m, M - NL = m := ⟨_, rfl⟩
        have HM' : Hid (M' = M - NL ∧ M' ≤ 100000) := Lib.hid ⟨hM'.symm, by have := HMM.out; omega⟩
        have wm : IntKind.i64.wrap ((M : Int) - (NL : Int)) = (M' : Int) := by rw [show (M : Int) - (NL : Int) = (M' : Int) by omega]; exact IntWalk.i64_in _ (by have := HM'.out; omega)
        have q0 : (0 : Int) ≤ (k : Int) := by omega
        have j0 : (0 : Int) ≤ (j : Int) := by omega
        have j1 : (j : Int) < (NT : Int) := by have := HNT.out; omega
        have wk : IntKind.i64.wrap ((k : Int) + 1) = (k : Int) + 1 := IntWalk.i64_in _ (by have := HNS.out; omega)
        have d0 := blk_cell HST.out.box 0
        have d1 := blk_cell HST.out.box 1
        simp only [List.getElem?_toArray, List.getElem?_cons_zero, List.getElem?_cons_succ] at d0 d1
        have HC : Hid (∀ V b, RefIs V b T (.slice Av NT cv) (.slice Am NM cm) → Calls Tryz.prog 21 #[.agg #[.slice Av NT cv, .slice Am NM cm], .string (bs s'), .int .i64 (M' : Int)] V fun e w' => RowsP V e w' ((divA T s').take M')) := Lib.hid (fun V b hV => HIH.out s' (M' : Int) V b HS'.out.1 (by have := HM'.out; omega) hV)
        obtain ⟨R, hR⟩ : ∃ R, (divA T s').take M' = R := ⟨_, rfl⟩
        have HR := Lib.hid hR
        rw [hR] at HC
        obtain ⟨NR, hNR⟩ : ∃ n, R.length = n := ⟨_, rfl⟩
        have HNR := Lib.hid hNR
        have HNR2 : Hid (NR ≤ M') := Lib.hid (by rw [← hNR, ← hR, List.length_take]; exact Nat.min_le_left _ _)
        have HX := Lib.hid hx
        clear hjt hR hNR
        clear hx hmem g1 g2 g3 hj hBx hbz hs' hM'
        subst hA8
        subst hAv
        have hh := And.intro d0 (And.intro d1 (And.intro e1 e2))
        go_upto_region 10 with fail
        clear d0 d1 e1 e2
        have HSTW := HST
        refine wp_region_held_drew (S := fun V => V.cell? ⟨rb, 0, none⟩ = some (.slice (some ⟨bv, ov, none⟩) NT cv) ∧ V.cell? ⟨rb, 1, none⟩ = some (.slice Am NM cm) ∧ V.cell? ⟨b8, o8 + k, none⟩ = some (.int .i64 (j : Int)) ∧ V.cell? ⟨bv, ov + j, none⟩ = some (.string Bx)) (by kernel_rfl) (by exact hh) (fun hHeld => ?_)
        refine tkH 0 33 ?_ rfl hHeld (.inl ⟨by rfl, ?_⟩) ?_; rotate_left; focus (intro w' hSw; (try dsimp only at hSw); go_simp; (try with_reducible rfl))
        try simp only [sIB, sC0, sCS]
        refine tkH 1 34 ?_ rfl hHeld (.inl ⟨by rfl, ?_⟩) ?_; rotate_left; focus (intro w' hSw; (try dsimp only at hSw); go_simp; (try with_reducible rfl))
        try simp only [sIB, sC0, sCS]
        refine tkH 2 35 ?_ rfl hHeld (.inl ⟨by rfl, ?_⟩) ?_; rotate_left; focus (intro w' hSw; (try dsimp only at hSw); go_simp; (try with_reducible rfl))
        try simp only [sIB, sC0, sCS]
        refine tkH 3 36 ?_ rfl hHeld (.inl ⟨by rfl, ?_⟩) ?_; rotate_left; focus (intro w' hSw; (try dsimp only at hSw); go_simp; (try with_reducible rfl))
        try simp only [sIB, sC0, sCS]
        refine tkH 4 37 ?_ rfl hHeld (.inl ⟨by rfl, ?_⟩) ?_; rotate_left; focus (intro w' hSw; (try dsimp only at hSw); go_simp; (try with_reducible rfl))
        try simp only [sIB, sC0, sCS]
        refine tkH 5 38 ?_ rfl hHeld (.inl ⟨by rfl, ?_⟩) ?_; rotate_left; focus (intro w' hSw; (try dsimp only at hSw); go_simp; (try with_reducible rfl))
        try simp only [sIB, sC0, sCS]
        refine tkH 6 39 ?_ rfl hHeld (.inl ⟨by rfl, ?_⟩) ?_; rotate_left; focus (intro w' hSw; (try dsimp only at hSw); go_simp; (try with_reducible rfl))
        try simp only [sIB, sC0, sCS]
        refine tkH 7 40 ?_ rfl hHeld (.inl ⟨by rfl, ?_⟩) ?_; rotate_left; focus (intro w' hSw; (try dsimp only at hSw); go_simp; (try with_reducible rfl))
        try simp only [sIB, sC0, sCS]
        refine tkH 8 41 ?_ rfl hHeld (.inl ⟨by rfl, ?_⟩) ?_; rotate_left; focus (intro w' hSw; (try dsimp only at hSw); go_simp; (try with_reducible rfl))
        try simp only [sIB, sC0, sCS]
        refine tkH 9 42 ?_ rfl hHeld (.inl ⟨by rfl, ?_⟩) ?_; rotate_left; focus (intro w' hSw; (try dsimp only at hSw); go_simp; (try with_reducible rfl))
        try simp only [sIB, sC0, sCS]
        refine tkH 10 43 ?_ rfl hHeld (.inl ⟨by rfl, ?_⟩) ?_; rotate_left; focus (intro w' hSw; (try dsimp only at hSw); go_simp; (try with_reducible rfl))
        try simp only [sIB, sC0, sCS]
        refine tkH 11 44 ?_ rfl hHeld (.inl ⟨by rfl, ?_⟩) ?_; rotate_left; focus (intro w' hSw; (try dsimp only at hSw); go_simp; (try with_reducible rfl))
        try simp only [sIB, sC0, sCS]
        refine tkH 12 45 ?_ rfl hHeld (.inl ⟨by rfl, ?_⟩) ?_; rotate_left; focus (intro w' hSw; (try dsimp only at hSw); go_simp; (try with_reducible rfl))
        try simp only [sIB, sC0, sCS]
        refine tkH 13 46 ?_ rfl hHeld (.inl ⟨by rfl, ?_⟩) ?_; rotate_left; focus (intro w' hSw; (try dsimp only at hSw); go_simp; (try with_reducible rfl))
        try simp only [sIB, sC0, sCS]
        refine tkH 14 47 ?_ rfl hHeld (.inl ⟨by rfl, ?_⟩) ?_; rotate_left; focus (intro w' hSw; (try dsimp only at hSw); go_simp; (try with_reducible rfl))
        try simp only [sIB, sC0, sCS]
        refine tkH 15 48 ?_ rfl hHeld (.inl ⟨by rfl, ?_⟩) ?_; rotate_left; focus (intro w' hSw; (try dsimp only at hSw); go_simp; (try with_reducible rfl))
        try simp only [sIB, sC0, sCS]
        refine wpAnyH_ready (rs := [16]) (by kernel_rfl) (by simp) ?_
        refine AllReadyH.cons rfl (fun K hK => ?_) AllReadyH.nil
        (try go_simp)
        go_simp; obtain ⟨rbb, hrf⟩ := HST.out.ref; refine (HC.out _ _ (hrf.below (Below.refl _ _).drew (Nat.le_refl _))).mono ?_; rintro e W6 ⟨⟨v, rvals, rfl, hrs⟩, hb⟩; (replace HST := Lib.hid (HST.out.below ((Below.refl _ _).drew.trans hb))); obtain ⟨A6, c6, rfl⟩ := hrs.slice; have HRR : Hid (RFR W6 W.drew.heap.size W6.heap.size A6 c6 R rvals) := Lib.hid ⟨hrs, hrs.row.lt⟩; rw [HNR.out]; have HWS : Hid (W.heap.size ≤ W.drew.heap.size) := Lib.hid (Nat.le_refl _); have h := And.intro (below_cell hb (Nat.le_refl _) hHeld.1) (And.intro (below_cell hb (Nat.le_refl _) hHeld.2.1) (And.intro (below_cell hb (Nat.le_refl _) hHeld.2.2.1) (below_cell hb (Nat.le_refl _) hHeld.2.2.2))); clear hb hrs hrf; go_simp
        go_wp2_with fail
        refine hK.out _ _ h (fun hHeld => ?_)
        clear hK K
        try simp only [Act.put, sIB, sC0, sCS]
        refine tkH 17 10 ?_ rfl hHeld (.inl ⟨by rfl, ?_⟩) ?_; rotate_left; focus (intro w' hSw; (try dsimp only at hSw); go_simp; (try with_reducible rfl))
        try simp only [sIB, sC0, sCS]
        refine wpAnyH_done (by kernel_rfl) ?_ _
        clear hh h hHeld ws wm
        have HRO : Hid (∀ g, (Value.slice A3 L.length c3).ownBlock = some g → g < W.drew.heap.size ∨ W6.heap.size ≤ g) := Lib.hid (fun g hg => by
          have h9 := HSTW.out.out.row.lt g hg
          exact .inl (Nat.lt_of_lt_of_le h9.2 HWS.out))
        obtain ⟨br, hbr⟩ : ∃ b, W.drew.heap.size = b := ⟨_, rfl⟩
        obtain ⟨er, her⟩ : ∃ b, W6.heap.size = b := ⟨_, rfl⟩
        have HER : Hid (er ≤ W6.heap.size) := Lib.hid (Nat.le_of_eq her.symm)
        rw [hbr, her] at HRR HRO
        clear hbr her HWS HSTW HC
        go_wp2_with fail
        go_loopg [7, 11] NR (fun n out i V => ∃ (q : Nat) (L2 : List (List Int)) (vals2 : List Value), q + n = NR ∧ i = .int .i64 (q : Int) ∧ RFI w V rb T (.slice (some ⟨bv, ov, none⟩) NT cv) (.slice Am NM cm) (some ⟨b8, o8, none⟩) c8 l out L2 vals2 ∧ RFR V br er A6 c6 R rvals ∧ er ≤ V.heap.size ∧ (∀ g, out.ownBlock = some g → g < br ∨ er ≤ g) ∧ L2 = L ++ (R.take q).map (fun d => (j : Int) :: d))
        case atStart => exact ⟨0, L, vals, by omega, rfl, by rw [← HNL.out]; exact HST.out, HRR.out, HER.out, by rw [← HNL.out]; exact HRO.out, by simp⟩
        case round =>
          obtain ⟨q, L2, vals2, hq, rfl, hst, hrr, her, hro, hL2⟩ := hrel
          clear HST HRR HER HRO
          rename World => V
          rename Value => out2
          have HST := Lib.hid hst
          have HRR := Lib.hid hrr
          have HER := Lib.hid her
          have HRO := Lib.hid hro
          have HQ := Lib.hid hq
          have HL2 := Lib.hid hL2
          have HL2N : Hid (L2.length = NL + q) := Lib.hid (by rw [hL2, List.length_append, List.length_map, List.length_take, HNL.out, HNR.out]; omega)
          clear hst hrr her hro hq hL2
          obtain ⟨A5, c5, rfl⟩ := HST.out.out.slice
          by_cases hqn : q < NR
          · have p1 : (q : Int) < (NR : Int) := by omega
            have p0 : (0 : Int) ≤ (q : Int) := by omega
            have wq : IntKind.i64.wrap ((q : Int) + 1) = (q : Int) + 1 := IntWalk.i64_in _ (by have := HNR2.out; have := HM'.out; omega)
            obtain ⟨D, hD⟩ : ∃ D, R[q]? = some D := ⟨_, List.getElem?_eq_getElem (by have := HNR.out; omega)⟩
            have HL2B : Hid (L2.length ≤ 300000) := Lib.hid (by have := HL2N.out; have := HNR2.out; have := HM'.out; have := HLM.out; have := HMM.out; omega)
            obtain ⟨g6, A9, c9, hA6, e1, hin⟩ := HRR.out.rows.cell hD
            have e2 : V.cell? ⟨b8, o8 + k, none⟩ = some (.int .i64 (j : Int)) := by
              obtain ⟨b, A, c, e, ho⟩ := HST.out.ids
              injection e with e9 _ _
              obtain ⟨b', o', e8, hc⟩ := own_sl1 ho k _ HX.out
              rw [← e9] at e8
              cases e8
              exact hc
            have HIN := Lib.hid hin
            have HDD := Lib.hid hD
            have q0 : (0 : Int) ≤ (k : Int) := by omega
            obtain ⟨ND, hND⟩ : ∃ n, D.length = n := ⟨_, rfl⟩
            have HND := Lib.hid hND
            have HDL : Hid (ND ≤ 1000) := Lib.hid (by
              have h1 := HR.out
              have h2 : D ∈ divA T s' := by
                have h3 : D ∈ R := List.mem_of_getElem? hD
                rw [← h1] at h3
                exact List.mem_of_mem_take h3
              obtain ⟨n, hn⟩ := List.mem_iff_getElem?.1 h2
              have h4 := rnk_len HT.out D s' n (div_rnk HT.out hn)
              have := HS'.out.1
              have := HSL.out
              omega)
            rw [hND] at e1
            clear hin hD hND
            subst hA6
            go_wp2_with (at_builtin; refine app_new (w.heap.size) 48 3 (.int .i64 0) 1 8 [_] 1 _ _ rfl rfl Tryz.underlying48 info_int5 rfl (by decide) (.slice none 0 0) 0 [] rfl rfl rfl (by intro u hu; simp at hu; subst hu; rfl) (own_nil _ _ _ _) (by omega) (by omega) HST.out.blw.size ?_)
            intro v1 V1 hown1 hg1 hnew1
            have hb1 : Below V.heap.size V V1 := ⟨hg1.os, hg1.tape, hg1.output, hg1.size, fun x hx => hg1.block x hx (by simp [Value.ownBlock])⟩
            obtain ⟨g7, hg7, hg7l⟩ : ∃ g, v1.ownBlock = some g ∧ V.heap.size ≤ g := by
              rcases hnew1 with h9 | h9
              · exfalso
                rcases hown1.2 with ⟨_, h8⟩ | ⟨g, cap, cur, rfl, _⟩
                · omega
                · simp [Value.ownBlock] at h9
              · exact h9
            have e3 := below_cell hb1 (Nat.le_refl _) e1
            have HIN1 := Lib.hid (ints_below HIN.out hb1 (Nat.le_refl _))
            have HOWN1 := Lib.hid hown1
            have HB1 := Lib.hid hb1
            have HG7 := Lib.hid (And.intro hg7 hg7l)
            obtain ⟨A7, c7, rfl⟩ := own_slice hown1
            clear hown1 hg1 hnew1 hb1 hg7 hg7l e1 e2
            go_wp2_with (at_builtin; refine app_ints (w.heap.size) br _ _ rfl rfl _ _ 1 [(j : Int)] D rfl (by rw [← HND.out]; rfl) HOWN1.out HIN1.out (by have := HDL.out; have := HND.out; omega) (Nat.le_trans HST.out.blw.size HB1.out.size) ?_)
            intro v2 V2 hown2 hk2
            have HB2 : Hid (Below V.heap.size V V2) := Lib.hid (HB1.out.trans (hk2.below HB1.out.size (fun x hx => by
              have h9 := HG7.out
              rw [h9.1] at hx
              injection hx with hx
              omega)))
            have HU2 : Hid (IntsIs V2 w.heap.size v2 ((j : Int) :: D)) := Lib.hid (by
              obtain ⟨A, c, rfl⟩ := own_slice hown2
              refine ⟨A, c, by rw [List.length_cons, Nat.add_comm], ?_⟩
              rw [List.length_cons, Nat.add_comm D.length 1]
              exact hown2)
            obtain ⟨A10, n10, c10, hv2⟩ : ∃ A n c, v2 = .slice A n c := by
              obtain ⟨A, c, e⟩ := own_slice hown2
              exact ⟨_, _, _, e⟩
            subst hv2
            replace HST := Lib.hid (HST.out.below HB2.out)
            replace HRR := Lib.hid (HRR.out.below HB2.out)
            replace HER : Hid (er ≤ V2.heap.size) := Lib.hid (Nat.le_trans HER.out HB2.out.size)
            clear hown2 hk2 e3 HIN HIN1 HOWN1 HG7 HB1 HB2
            go_wp2_with (at_builtin; refine app_new (w.heap.size) 41 48 (.slice none 0 0) 1 24 [_] 1 _ _ rfl rfl Tryz.underlying41 info_rows rfl (by decide) _ _ _ rfl rfl rfl (by intro u hu; simp at hu; subst hu; rfl) HST.out.out.row (by have := HL2B.out; omega) (by have := HL2B.out; omega) HST.out.blw.size ?_)
            intro v3 V3 hown3 hg3 hnew3
            have hk3 : Keep (fun g => (Value.slice A5 L2.length c5).ownBlock = some g) V2 V3 := Keep.of_grown hg3 (fun g hg => hg)
            have HST3 := Lib.hid (HST.out.app hk3 hown3 HU2.out)
            have HRR3 := Lib.hid (HRR.out.app HST.out.out HRO.out hk3)
            have HER3 : Hid (er ≤ V3.heap.size) := Lib.hid (Nat.le_trans HER.out hk3.size)
            have HRO3 : Hid (∀ g, v3.ownBlock = some g → g < br ∨ er ≤ g) := Lib.hid (fun g hg => by
              rcases hnew3 with h9 | ⟨g', h9, h8⟩
              · exact HRO.out g (by rw [← h9]; exact hg)
              · rw [h9] at hg
                injection hg with hg
                exact .inr (by have := HER.out; omega))
            have HL3 : Hid (L2 ++ [(j : Int) :: D] = L ++ (R.take (q + 1)).map (fun d => (j : Int) :: d)) := Lib.hid (by
              rw [HL2.out, List.take_add_one, HDD.out]
              simp)
            obtain ⟨A11, n11, c11, hv3⟩ : ∃ A n c, v3 = .slice A n c := by
              obtain ⟨A, c, e⟩ := own_slice hown3
              exact ⟨_, _, _, e⟩
            subst hv3
            clear hown3 hg3 hnew3 hk3 HST HRR HER HRO HU2
            go_wp2_with fail
            go_roundg (gk - 1)
            case measure => have := HQ.out; omega
            case rel => exact ⟨q + 1, _, _, by have := HQ.out; omega, by simp, HST3.out, HRR3.out, HER3.out, HRO3.out, HL3.out⟩
          · have p1 : ¬ (q : Int) < (NR : Int) := by omega
            have HLN : Hid (L2 = (blkA T s (l.take (k + 1))).take M) := Lib.hid (by
              have h1 := HNL.out
              rw [HLL.out, List.length_take] at h1
              have h2 : (blkA T s (l.take k)).length = NL := by have := HM'.out; omega
              rw [HS'.out.2, HL2.out, List.take_of_length_le (show R.length ≤ q by have := HNR.out; omega), ← HR.out, HLL.out, List.take_append, h2, ← HM'.out.1, List.map_take])
            go_wp2_with fail
            go_roundg (G0 - 1)
            case measure => have := HK.out; omega
            case rel => exact ⟨k + 1, L2, vals2, by have := HK.out; omega, by simp, HST.out, HLN.out⟩
      · have f2 : ¬ (NL : Int) < (M : Int) := by omega
        have HE : Hid ((divA T s).take M = L) := Lib.hid (by
          rw [divA_blk HT.out HNE.out, HL.out]
          obtain ⟨r, hr⟩ := blkA_pre T s l k
          have h1 := HNL.out
          have h2 := HLL.out
          have h3 : M ≤ (blkA T s (l.take k)).length := by rw [h2, List.length_take] at h1; omega
          rw [hr, List.take_append_of_le_length h3, h2])
        go_wp2_with fail
        go_ret
        refine ⟨⟨_, vals, rfl, ?_⟩, HST.out.blw⟩
        rw [HE.out, ← HNL.out]
        exact HST.out.out
    · have f1 : ¬ (k : Int) < (N : Int) := by omega
      have HE : Hid ((divA T s).take M = L) := Lib.hid (by
        rw [divA_blk HT.out HNE.out, HL.out, HLL.out, List.take_of_length_le (show l.length ≤ k by have := HN.out; omega)])
      go_wp2_with fail
      go_ret
      refine ⟨⟨_, vals, rfl, ?_⟩, HST.out.blw⟩
      rw [HE.out, ← HNL.out]
      exact HST.out.out
theorem rfirst_ind {T : List Ent} (hT : OkT T) (hlen : T.length ≤ 1000) (Av Am : Option Addr) (cv cm : Nat) : ∀ (n : Nat) (s : List UInt8) (m : Int) (w : World) (base : Nat), s.length < n → s.length ≤ 1000 → m ≤ 100000 → RefIs w base T (.slice Av T.length cv) (.slice Am (mrgsT T).length cm) →
    Calls Tryz.prog 21 #[.agg #[.slice Av T.length cv, .slice Am (mrgsT T).length cm], .string (bs s), .int .i64 m] w fun e w' => RowsP w e w' ((divA T s).take m.toNat) := by
  intro n
  induction n with
  | zero => intro s m w base h; omega
  | succ n ih =>
    intro s m w base hn hs hm hr
    by_cases h1 : m < 1
    · exact rfirst_few s m h1 w _ _ ⟨_, _, _, _, _, _, rfl, rfl⟩
    · by_cases h2 : s = []
      · subst h2
        exact rfirst_nil m (by omega) w _ _ ⟨_, _, _, _, _, _, rfl, rfl⟩
      · obtain ⟨M, hM⟩ : ∃ M : Nat, m = (M : Int) := ⟨m.toNat, by omega⟩
        subst hM
        exact rfirst_step hT hlen s h2 hs M (by omega) (by omega) w base Av Am cv cm hr (fun s' m' V b h3 h4 h5 => ih s' m' V b (by omega) (by omega) h4 h5)
theorem rfirst_any {T : List Ent} (hT : OkT T) (hlen : T.length ≤ 1000) {w : World} {base : Nat} {vb vm : Value} (h : RefIs w base T vb vm) (s : List UInt8) (hs : s.length ≤ 1000) (m : Int) (hm : m ≤ 100000) :
    Calls Tryz.prog 21 #[.agg #[vb, vm], .string (bs s), .int .i64 m] w fun e w' => RowsP w e w' ((divA T s).take m.toNat) := by
  obtain ⟨A, c, rfl⟩ := own_slice h.row
  obtain ⟨A2, c2, hvm⟩ := own_slice h.mrg
  subst hvm
  exact rfirst_ind hT hlen A A2 c c2 _ s m w base (Nat.lt_succ_self _) hs hm h
section
variable {w : World} {c : CaseP} {AL AC AJ AX : Option Addr} {cL cC cJ cX : Nat}
set_option maxHeartbeats 8000000 in
theorem clists_small (h : CaseIn w c AL AC AJ AX cL cC cJ cX) (hg : c.great = false) (s : List UInt8) (hlen : s.length ≤ 10) :
    Calls Tryz.prog 5 #[c.val AL AC AJ AX cL cC cJ cX, .string (bs s)] w (RetTrue w) := by
  have HLEN := Lib.hid hlen
  have h12 : ¬ (10 : Int) < ((bs s).size : Int) := by rw [bs_size]; omega
  have HB0 := Lib.hid ((Below.refl w.heap.size w).alloc (Nat.le_refl _) (.cells #[.slice AL c.l.length cL, .slice AC c.cs.length cC, .slice AJ c.js.length cJ, .slice AX c.xs.length cX] 27))
  have HN0 := Lib.hid (blk_new w (.cells #[.slice AL c.l.length cL, .slice AC c.cs.length cC, .slice AJ c.js.length cJ, .slice AX c.xs.length cX] 27))
  have HGR : Hid (∀ V, Below w.heap.size w V → Calls Tryz.prog 16 #[.agg #[.slice AL c.l.length cL, .slice AC c.cs.length cC, .slice AJ c.js.length cJ, .slice AX c.xs.length cX]] V fun e w' => e = .returned (.int .i64 0) ∧ Below V.heap.size V w') := Lib.hid (fun V hV => great_no (h.below hV (Nat.le_refl _)) hg)
  have HOF : Hid (∀ V, Below w.heap.size w V → Calls Tryz.prog 23 #[.agg #[.slice AL c.l.length cL, .slice AC c.cs.length cC, .slice AJ c.js.length cJ, .slice AX c.xs.length cX]] V fun e w' => (∃ p r, e = .returned (.tuple #[.pointer (some ⟨p.vb, 0, none⟩), r.val c]) ∧ VocAt w' V.heap.size p none ∧ p.T = c.T ∧ p.s = c.spec ∧ RVocIs w' V.heap.size c r) ∧ Below V.heap.size V w') := Lib.hid (fun V hV => of12_any (h.here.below hV (Nat.le_refl _)) (h.ok hg))
  unfold CaseP.val
  clear h hg
  go_enter Tryz.func5, Tryz.ntmps5
  go_upto_region 1 with fail
  obtain ⟨cb, hcb⟩ : ∃ b, w.heap.size = b := ⟨_, rfl⟩
  rw [hcb] at HN0 ⊢
  clear hcb
  generalize w.alloc (.cells #[.slice AL c.l.length cL, .slice AC c.cs.length cC, .slice AJ c.js.length cJ, .slice AX c.xs.length cX] 27) = w1 at *
  have s0 := blk_cell HN0.out 0
  have s1 := blk_cell HN0.out 1
  have s2 := blk_cell HN0.out 2
  have s3 := blk_cell HN0.out 3
  simp only [List.getElem?_toArray, List.getElem?_cons_zero, List.getElem?_cons_succ] at s0 s1 s2 s3
  go_upto_region 3 with (first
    | (go_at_call 16; refine (HGR.out _ HB0.out).mono ?_; rintro e w2 ⟨rfl, hb⟩; (have HB1 := Lib.hid (HB0.out.trans (hb.mono HB0.out.size))); (have HN1 := Lib.hid (blk_below hb (blk_lt HN0.out) HN0.out)); clear hb s0 s1 s2 s3)
    | (go_at_call 22; refine (awake21_any _).mono ?_; rintro e w3 ⟨rfl, hb⟩; (have HB2 := Lib.hid (HB1.out.trans (hb.mono HB1.out.size))); (have HN2 := Lib.hid (blk_below hb (blk_lt HN1.out) HN1.out)); clear hb))
  have s0 := blk_cell HN2.out 0
  have s1 := blk_cell HN2.out 1
  have s2 := blk_cell HN2.out 2
  have s3 := blk_cell HN2.out 3
  simp only [List.getElem?_toArray, List.getElem?_cons_zero, List.getElem?_cons_succ] at s0 s1 s2 s3
  go_upto_region 6 with (go_at_call 23; refine (HOF.out _ HB2.out).mono ?_; rintro e w4 ⟨⟨p, r, rfl, hv, hpT, hps, hr⟩, hb⟩; (have HPT := Lib.hid hpT); (have HV4 := Lib.hid (And.intro hv (And.intro hr (HB2.out.trans (hb.mono HB2.out.size))))); (unfold RVoc.val); clear hv hpT hps hr hb s0 s1 s2 s3)
  have hba := (Below.refl w4.heap.size w4).alloc (Nat.le_refl _) (.cells #[.slice r.A1 c.T.length r.c1, .slice r.A2 (mrgsT c.T).length r.c2, .slice r.A3 (someC c.cs).length r.c3, .slice r.A4 (someJ c.js).length r.c4, .slice r.A5 (someX c.xs (min c.xs.length 6)).length r.c5] 38)
  have HM5 := Lib.hid (blk_new w4 (.cells #[.slice r.A1 c.T.length r.c1, .slice r.A2 (mrgsT c.T).length r.c2, .slice r.A3 (someC c.cs).length r.c3, .slice r.A4 (someJ c.js).length r.c4, .slice r.A5 (someX c.xs (min c.xs.length 6)).length r.c5] 38))
  have HV5 := Lib.hid (And.intro (HV4.out.1.below hba (Nat.le_refl _)) (And.intro (HV4.out.2.1.ref.below hba (Nat.le_refl _)) (HV4.out.2.2.trans (hba.mono HV4.out.2.2.size))))
  obtain ⟨mb, hmb⟩ : ∃ b, w4.heap.size = b := ⟨_, rfl⟩
  rw [hmb] at HM5 ⊢
  clear hmb hba HV4 HOF HGR HB0 HN0 HB1 HN1 HB2 HN2
  generalize w4.alloc (.cells #[.slice r.A1 c.T.length r.c1, .slice r.A2 (mrgsT c.T).length r.c2, .slice r.A3 (someC c.cs).length r.c3, .slice r.A4 (someJ c.js).length r.c4, .slice r.A5 (someX c.xs (min c.xs.length 6)).length r.c5] 38) = w5 at *
  have HTP : Hid (OkT p.T) := Lib.hid (by rw [HPT.out]; exact c.ok)
  go_upto_region 7 with (go_at_call 24; refine (count_newV HV5.out.1 HTP.out s (by have := HLEN.out; omega)).mono ?_; rintro e W6 ⟨⟨lb, rfl, hlo, hl⟩, hb⟩; (have HC : Hid (LC w W6 _ lb p s mb c.T _ _ _ _ _) := Lib.hid ⟨⟨hl, HTP.out, HV5.out.2.2.trans (hb.mono HV5.out.2.2.size), Nat.le_trans HV5.out.2.2.size hlo⟩, blk_below hb (blk_lt HM5.out) HM5.out, ⟨_, HV5.out.2.1.below hb (Nat.le_refl _)⟩, Nat.lt_of_lt_of_le (blk_lt HM5.out) hlo⟩); clear hlo hl hb HM5 HV5 HTP)
  generalize w5.heap.size = base at HC
  have hct : cntJ p.T s 0 ≤ 1024 := Nat.le_trans (cnt_pow HC.out.ll.ok _ (s.drop 0) (Nat.le_refl _)) (Nat.le_trans (Nat.pow_le_pow_right (by decide) (show (s.drop 0).length ≤ 10 by rw [List.drop_zero]; exact HLEN.out)) (by decide))
  have HCT := Lib.hid hct
  have HCL := Lib.hid (HC.out.ll.lat.count HC.out.ll.ok (by have := HLEN.out; omega))
  have HD : Hid ((dg B32 (cntJ p.T s 0)).length ≤ 100000) := Lib.hid (by have := cntJ_dg HC.out.ll.ok s 0; have := HLEN.out; omega)
  have HRF : Hid (∀ V, LC w V base lb p s mb c.T (.slice r.A1 c.T.length r.c1) (.slice r.A2 (mrgsT c.T).length r.c2) (.slice r.A3 (someC c.cs).length r.c3) (.slice r.A4 (someJ c.js).length r.c4) (.slice r.A5 (someX c.xs (min c.xs.length 6)).length r.c5) → Calls Tryz.prog 21 #[.agg #[.slice r.A1 c.T.length r.c1, .slice r.A2 (mrgsT c.T).length r.c2], .string (bs s), .int .i64 2000] V fun e w' => (∃ A c', e = .returned (.slice A (cntJ p.T s 0) c')) ∧ Below V.heap.size V w') := Lib.hid (fun V hV => by
    obtain ⟨b, hr⟩ := hV.ref
    refine (rfirst_any c.ok c.ok.small hr s (by have := HLEN.out; omega) 2000 (by decide)).mono ?_
    rintro e w' ⟨⟨v, vals, rfl, hrs⟩, hb⟩
    obtain ⟨A, c', rfl⟩ := hrs.slice
    have e9 : ((divA c.T s).take (2000 : Int).toNat).length = cntJ p.T s 0 := by
      rw [List.length_take, ← HPT.out]
      have h9 : (divA p.T s).length = cntJ p.T s 0 := rfl
      have := HCT.out
      rw [h9]
      exact Nat.min_eq_right (by show _ ≤ 2000; omega)
    exact ⟨⟨A, c', by rw [e9]⟩, hb⟩)
  obtain ⟨ct, hctn⟩ : ∃ z, cntJ p.T s 0 = z := ⟨_, rfl⟩
  rw [hctn] at HCT HCL HD HRF
  have hif : (if ct < 18446744073709551616 then (ct : Int) else 0) = (ct : Int) := if_pos (by have := HCT.out; omega)
  have HIF := Lib.hid (And.intro hif (decide_eq_true (show ct < 18446744073709551616 by have := HCT.out; omega)))
  have wu : IntKind.i64.wrap (ct : Int) = (ct : Int) := IntWalk.i64_in _ (by have := HCT.out; omega)
  clear hctn hct hif
  obtain ⟨n1, hn1⟩ : ∃ n, c.T.length = n := ⟨_, rfl⟩
  obtain ⟨n2, hn2⟩ : ∃ n, (mrgsT c.T).length = n := ⟨_, rfl⟩
  rw [hn1, hn2] at HC HRF
  rw [hn1, hn2]
  clear hn1 hn2
  go_upto_region 8 with (first
    | (go_at_call 25; refine HCL.out.mono ?_; rintro e W7 ⟨A7, k7, c7, rfl, hn, ha⟩; (replace HC := Lib.hid (HC.out.asks ha)); (have HN7 := Lib.hid hn); clear hn ha)
    | (go_at_call 26; refine (uint64_any _ ct _ HN7.out HD.out).mono ?_; rintro e W8 ⟨rfl, hb⟩; rw [HIF.out.1, HIF.out.2]; (replace HC := Lib.hid (HC.out.below hb)); clear hb))
  have m0 := HC.out.c0
  have m1 := HC.out.c1
  go_wp2_with (go_at_call 21; refine (HRF.out _ HC.out).mono ?_; rintro e W9 ⟨⟨A9, c9, rfl⟩, hb⟩; (replace HC := Lib.hid (HC.out.below hb)); clear hb)
  go_ret
  exact ⟨rfl, HC.out.ll.blw⟩
theorem clists_big (h : CaseIn w c AL AC AJ AX cL cC cJ cX) (z : ByteArray) (hg : c.great = true ∨ c.great = false ∧ (10 < z.size)) :
    Calls Tryz.prog 5 #[c.val AL AC AJ AX cL cC cJ cX, .string z] w (RetTrue w) := by
  have HB0 := Lib.hid ((Below.refl w.heap.size w).alloc (Nat.le_refl _) (.cells #[.slice AL c.l.length cL, .slice AC c.cs.length cC, .slice AJ c.js.length cJ, .slice AX c.xs.length cX] 27))
  have HN0 := Lib.hid (blk_new w (.cells #[.slice AL c.l.length cL, .slice AC c.cs.length cC, .slice AJ c.js.length cJ, .slice AX c.xs.length cX] 27))
  have HGN : Hid (∀ V, Below w.heap.size w V → c.great = false → Calls Tryz.prog 16 #[.agg #[.slice AL c.l.length cL, .slice AC c.cs.length cC, .slice AJ c.js.length cJ, .slice AX c.xs.length cX]] V fun e w' => e = .returned (.int .i64 0) ∧ Below V.heap.size V w') := Lib.hid (fun V hV => great_no (h.below hV (Nat.le_refl _)))
  have HGY : Hid (∀ V, Below w.heap.size w V → c.great = true → Calls Tryz.prog 16 #[.agg #[.slice AL c.l.length cL, .slice AC c.cs.length cC, .slice AJ c.js.length cJ, .slice AX c.xs.length cX]] V fun e w' => e = .returned (.int .i64 1) ∧ Below V.heap.size V w') := Lib.hid (fun V hV => great_yes (h.below hV (Nat.le_refl _)))
  unfold CaseP.val
  clear h
  go_enter Tryz.func5, Tryz.ntmps5
  go_upto_region 1 with fail
  obtain ⟨cb, hcb⟩ : ∃ b, w.heap.size = b := ⟨_, rfl⟩
  rw [hcb] at HN0 ⊢
  clear hcb
  generalize w.alloc (.cells #[.slice AL c.l.length cL, .slice AC c.cs.length cC, .slice AJ c.js.length cJ, .slice AX c.xs.length cX] 27) = w1 at *
  have s0 := blk_cell HN0.out 0
  have s1 := blk_cell HN0.out 1
  have s2 := blk_cell HN0.out 2
  have s3 := blk_cell HN0.out 3
  simp only [List.getElem?_toArray, List.getElem?_cons_zero, List.getElem?_cons_succ] at s0 s1 s2 s3
  rcases hg with hg | ⟨hg, hn⟩
  · have HG := Lib.hid (HGY.out _ HB0.out hg)
    clear hg HGN HGY
    go_wp2_with (first
      | (go_at_call 16; refine HG.out.mono ?_; rintro e w2 ⟨rfl, hb⟩; (have HB1 := Lib.hid (HB0.out.trans (hb.mono HB0.out.size))); clear hb s0 s1 s2 s3)
      | (go_at_call 22; refine (awake21_any _).mono ?_; rintro e w3 ⟨rfl, hb⟩; (have HB2 := Lib.hid (HB1.out.trans (hb.mono HB1.out.size))); clear hb))
    go_ret
    exact ⟨rfl, HB2.out⟩
  · have HG := Lib.hid (HGN.out _ HB0.out hg)
    clear hg HGN HGY
    have hp0 : (10 : Int) < (z.size : Int) := by omega
    clear hn
    go_wp2_with (first
      | (go_at_call 16; refine HG.out.mono ?_; rintro e w2 ⟨rfl, hb⟩; (have HB1 := Lib.hid (HB0.out.trans (hb.mono HB0.out.size))); clear hb s0 s1 s2 s3)
      | (go_at_call 22; refine (awake21_any _).mono ?_; rintro e w3 ⟨rfl, hb⟩; (have HB2 := Lib.hid (HB1.out.trans (hb.mono HB1.out.size))); clear hb))
    go_ret
    exact ⟨rfl, HB2.out⟩
theorem clists_law {P : Prop} (x0 : List Int) (A0 : Option Addr) (c0 : Nat) (x1 : List (List Int)) (A1 : Option Addr) (c1 : Nat) (x2 : List (List Int)) (A2 : Option Addr) (c2 : Nat) (x3 : List (Int × List UInt8)) (A3 : Option Addr) (c3 : Nat) (z : ByteArray) (w : World)
    (l0 : x0.length ≤ c0) (m0 : c0 ≤ maxLen) (w0 : ∀ y ∈ x0, (Lit.int .u16 y).wf = true) (s0 : Sl1 w A0 (Value.int .u16) x0)
    (l1 : x1.length ≤ c1) (m1 : c1 ≤ maxLen) (w1 : ∀ y ∈ x1, y.length = 3 ∧ ∀ z ∈ y, (Lit.int .i64 z).wf = true) (s1 : Sl w A1 (encInts .i64) 3 x1)
    (l2 : x2.length ≤ c2) (m2 : c2 ≤ maxLen) (w2 : ∀ y ∈ x2, y.length = 2 ∧ ∀ z ∈ y, (Lit.int .i64 z).wf = true) (s2 : Sl w A2 (encInts .i64) 2 x2)
    (l3 : x3.length ≤ c3) (m3 : c3 ≤ maxLen) (w3 : ∀ y ∈ x3, (Lit.int .i64 y.1).wf = true ∧ y.2.length ≤ maxLen) (s3 : Sl w A3 encIS 2 x3)
    (_ : P) :
    Calls Tryz.prog 5 #[.agg #[.slice A0 x0.length c0, .slice A1 x1.length c1, .slice A2 x2.length c2, .slice A3 x3.length c3], .string z] w (RetTrue w) := by
  obtain ⟨c, hc, e⟩ := case_in l0 m0 w0 s0 l1 m1 w1 s1 l2 m2 w2 s2 l3 m3 w3 s3
  rw [e]
  cases hg : c.great with
  | true => exact clists_big hc z (.inl hg)
  | false =>
    by_cases hn : z.size ≤ 10
    · have h2 := clists_small hc hg z.data.toList (by rw [← bs_size, bs_data]; exact hn)
      rw [bs_data] at h2
      exact h2
    · exact clists_big hc z (.inr ⟨hg, by omega⟩)
end
end Go.Proofs.YtkkcekgbnloegaaGreat
