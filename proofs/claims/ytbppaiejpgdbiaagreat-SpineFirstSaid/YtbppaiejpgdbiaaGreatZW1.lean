/- Texts of several layers, one behind the other: Mem, Bound0, Bound1, Open, Open2, Maps, Right0, Region, Tok, Token0, Token1, Token2, Token3, Token4, Token5, Right1, Heap0, Heap1, Chain0, Chain1, Region2, HeapW2, HeapW3. -/
import Derived.WalkKit
import Derived.KernelRfl
import Derived.Lib.Hide
import Derived.Deep.QuietTactic
import Derived.BigQuiet
import Derived.OwnWalk
import Derived.Lib.Strings
import Derived.Deep.DeepCutAuto
import Derived.Deep.RegionHeld3
import Derived.StillTailTactics
import Derived.Test.YtbppaiejpgdbiaaGreatProg
import Derived.Deep.Slices
import Derived.Deep.Fields
import Derived.ChangeSame
import Derived.SliceStrings
import Derived.OpenShut
import Derived.Maps.OwnSet
import Derived.Maps.OwnOps
import Derived.DeepKeys4
import Derived.WideKeyEntry
import Derived.Maps.AppendAt
import Derived.Laws.ResultCell
import Derived.Laws.IdiomStrings
import Derived.Laws.AppendOwnNone
import Derived.Lib.AppendStr
import Derived.Laws.LoneSync
import Derived.Tactics
import Derived.Tactics2
import Derived.Defers
import Derived.Laws.Pointers
import Derived.RegionTactic
import Derived.RegionCalls
import Derived.ChangeAlike
import Derived.Test.YtbppaiejpgdbiaaGreatRows
import Derived.ProofKit
import Derived.ShutString
import Derived.ChangeOld
import Derived.Below
import Derived.Lib.SmallJoins
set_option maxRecDepth 100000
set_option linter.unusedVariables false
set_option linter.unusedSimpArgs false
namespace Go.Proofs.YtbppaiejpgdbiaaGreat
open Go.RowKit
theorem blk_lt {w : World} {g : Nat} {o : Obj} (h : w.heap[g]? = some o) : g < w.heap.size := (Array.getElem?_eq_some_iff.1 h).1
theorem blk_cell {w : World} {g : Nat} {t : TypeId} {cs : Array Value} {fz : Nat × Nat} (h : w.heap[g]? = some (.cells cs t fz)) (i : Nat) : w.cell? ⟨g, i, none⟩ = cs[i]? := by
  simp [World.cell?, h]
theorem blk_froz {w : World} {g : Nat} {t : TypeId} {cs : Array Value} (h : w.heap[g]? = some (.cells cs t (0, 0))) (i : Nat) : w.frozen? ⟨g, i, none⟩ = false := by
  simp [World.frozen?, h]
theorem blk_below {B : Nat} {w w' : World} (hb : Below B w w') {g : Nat} {o : Obj} (hg : g < B) (h : w.heap[g]? = some o) : w'.heap[g]? = some o := (hb.block g hg).trans h
theorem blk_new (w : World) (o : Obj) : (w.alloc o).heap[w.heap.size]? = some o := heap_alloc_new w o
theorem blk_alloc {w : World} {g : Nat} {o : Obj} (h : w.heap[g]? = some o) (o' : Obj) : (w.alloc o').heap[g]? = some o := (Below.heap_alloc w o' g (blk_lt h)).trans h
theorem blk_set {w : World} {g : Nat} {t : TypeId} {cs : Array Value} {fz : Nat × Nat} (h : w.heap[g]? = some (.cells cs t fz)) (i : Nat) (u : Value) : (w.setCell ⟨g, i, none⟩ u).heap[g]? = some (.cells (cs.setIfInBounds i u) t fz) := by
  simp [World.setCell, Array.getElem?_modify, h]
theorem blk_far {w : World} {g : Nat} {o : Obj} (h : w.heap[g]? = some o) {p : Addr} (hp : g ≠ p.block) (u : Value) : (w.setCell p u).heap[g]? = some o := (Below.heap_setCell w p u g hp).trans h
theorem blk_drew {w : World} {g : Nat} {o : Obj} (h : w.heap[g]? = some o) : w.drew.heap[g]? = some o := h
theorem blk_drewN {w : World} {g : Nat} {o : Obj} (h : w.heap[g]? = some o) (n : Nat) : (w.drewN n).heap[g]? = some o := h
theorem size_alloc (w : World) (o : Obj) : (w.alloc o).heap.size = w.heap.size + 1 := by simp
theorem below_then {B : Nat} {w w1 w2 : World} (h : Below B w w1) {C : Nat} (hC : B ≤ C) (k : Below C w1 w2) : Below B w w2 := h.trans (k.mono hC)
theorem below_drewN {B : Nat} {w W : World} (h : Below B w W) (n : Nat) : Below B w (W.drewN n) := ⟨h.os, h.tape, h.output, h.size, h.block⟩
theorem below_cell {B : Nat} {w w1 : World} (h : Below B w w1) (hB : w.heap.size ≤ B) {a : Addr} {v : Value} (hc : w.cell? a = some v) : w1.cell? a = some v := (h.cell (Nat.lt_of_lt_of_le (World.block_lt_of_cell? w a hc) hB)).trans hc
theorem ret_bool {a b : Bool} (h : a = b) : Ending.returned (.bool a) = .returned (.bool b) := by rw [h]
theorem ret_int {k : IntKind} {a b : Int} (h : a = b) : Ending.returned (.int k a) = .returned (.int k b) := by rw [h]
theorem add_plain (g o j : Nat) : (⟨g, o, none⟩ : Addr).add j = ⟨g, o + j, none⟩ := by unfold Addr.add; split <;> simp_all
def Sl {α : Type} (w : World) (A : Option Addr) (enc : α → List Value) (sz : Nat) (xs : List α) : Prop :=
  ∀ i x, xs[i]? = some x → ∃ b o, A = some ⟨b, o, none⟩ ∧ ∀ j v, (enc x)[j]? = some v → w.cell? ⟨b, o + i * sz + j, none⟩ = some v
theorem Sl.nil {α : Type} (w : World) (A : Option Addr) (enc : α → List Value) (sz : Nat) : Sl w A enc sz [] := fun i x h => by simp at h
theorem Sl.below {α : Type} {w w' : World} {A : Option Addr} {enc : α → List Value} {sz : Nat} {xs : List α} (h : Sl w A enc sz xs) {B : Nat} (hb : Below B w w') (hB : w.heap.size ≤ B) : Sl w' A enc sz xs := by
  intro i x hx
  obtain ⟨b, o, e, hc⟩ := h i x hx
  exact ⟨b, o, e, fun j v hv => below_cell hb hB (hc j v hv)⟩
theorem Sl.at {α : Type} {w : World} {A : Option Addr} {enc : α → List Value} {sz : Nat} {xs : List α} (h : Sl w A enc sz xs) (i : Nat) (hi : i < xs.length) :
    ∃ b o, A = some ⟨b, o, none⟩ ∧ ∀ j v, (enc xs[i])[j]? = some v → w.cell? ⟨b, o + i * sz + j, none⟩ = some v := h i xs[i] (by simp)
def Sl1 {α : Type} (w : World) (A : Option Addr) (enc : α → Value) (xs : List α) : Prop :=
  ∀ i x, xs[i]? = some x → ∃ b o, A = some ⟨b, o, none⟩ ∧ w.cell? ⟨b, o + i, none⟩ = some (enc x)
theorem Sl1.nil {α : Type} (w : World) (A : Option Addr) (enc : α → Value) : Sl1 w A enc [] := fun i x h => by simp at h
theorem Sl1.below {α : Type} {w w' : World} {A : Option Addr} {enc : α → Value} {xs : List α} (h : Sl1 w A enc xs) {B : Nat} (hb : Below B w w') (hB : w.heap.size ≤ B) : Sl1 w' A enc xs := by
  intro i x hx
  obtain ⟨b, o, e, hc⟩ := h i x hx
  exact ⟨b, o, e, below_cell hb hB hc⟩
theorem Sl1.at {α : Type} {w : World} {A : Option Addr} {enc : α → Value} {xs : List α} (h : Sl1 w A enc xs) (i : Nat) (hi : i < xs.length) :
    ∃ b o, A = some ⟨b, o, none⟩ ∧ w.cell? ⟨b, o + i, none⟩ = some (enc xs[i]) := h i xs[i] (by simp)
theorem app_one {P : Program} {w : World} {ops : Array Oper} {rest : List Oper} {o : Oper} {a : Act} {Q : Exit → Act → World → Prop} (base : Nat) (t e : TypeId) (z : Value) (size bytes : Nat) (news : List Value) (c : Nat) (s x : Operand)
    (hgd : o.guard = none) (ho : o.op = .call { callee := .builtin .append, args := #[s, x], argTypes := #[t, t] })
    (ht : P.underlying t = some (.slice e)) (hinfo : (P.info? e).map (fun i => (i.zero, i.size, i.bytes)) = some (some z, size, bytes)) (hzs : z.cells.size = size) (hsz : 0 < size)
    (v : Value) (n : Nat) (xs : List Value) (hs : a.eval s = v) (hx : a.eval x = .slice (some ⟨w.heap.size, 0, none⟩) 1 c) (hl : news.length = size) (h1 : ∀ u ∈ news, u.oneCell' = true)
    (hown : w.ownsRow base e size v n xs) (hbytes : (n + 1) * bytes ≤ 140737488355328) (h63 : n < 9000000000000000000) (hbase : base ≤ w.heap.size)
    (h : ∀ v' w', w'.ownsRow base e size v' (n + 1) (xs ++ news) → w.grownBy w' v.ownBlock → wpList P ops Q rest (a.put o.dst v') w') : wpList P ops Q (o :: rest) a (w.alloc (.cells news.toArray e)) := by
  obtain ⟨i, hi, hz0, hz1, hz2⟩ := info_parts hinfo
  have hadd : ∀ j, (⟨w.heap.size, 0, none⟩ : Addr).add j = ⟨w.heap.size, j, none⟩ := by intro j; unfold Addr.add; split <;> simp_all
  refine wpList_append_own _ hgd s x t ho base e i z size bytes ht hi hz0 hz1 hz2 hzs hsz v n xs hs (hown.alloc _) ⟨w.heap.size, 0, none⟩ 1 c news hx (by rw [hl]; omega) ?_ h1 ?_ hbytes (by simp; omega) ?_
  · intro j u hu
    rw [hadd, blk_cell (blk_new w _) j]
    simpa using hu
  · unfold maxLen; omega
  · intro v' w' ho' hg' _
    refine h v' w' ho' ?_
    have h0 := World.grownBy_alloc w (.cells news.toArray e) v.ownBlock
    exact ⟨hg'.os.trans h0.os, hg'.tape.trans h0.tape, hg'.output.trans h0.output, Nat.le_trans h0.size hg'.size, fun k hk hne => (hg'.block k (by have := h0.size; omega) hne).trans (h0.block k hk hne)⟩
theorem own_slice {w : World} {base n : Nat} {e : TypeId} {size : Nat} {v : Value} {xs : List Value} (h : w.ownsRow base e size v n xs) : ∃ A c, v = .slice A n c := by
  rcases h.2 with ⟨rfl, rfl⟩ | ⟨g, cap, cur, rfl, _⟩
  · exact ⟨_, _, rfl⟩
  · exact ⟨_, _, rfl⟩
theorem own_sl1 {α : Type} {w : World} {base n c : Nat} {e : TypeId} {A : Option Addr} {enc : α → Value} {xs : List α} (h : w.ownsRow base e 1 (.slice A n c) n (xs.map enc)) : Sl1 w A enc xs := by
  intro i x hx
  have hlen := h.1
  rw [List.length_map] at hlen
  have hi : i < xs.length := (List.getElem?_eq_some_iff.1 hx).1
  rcases h.2 with ⟨e1, rfl⟩ | ⟨g, cap, cur, e1, _⟩
  · omega
  · cases e1
    refine ⟨g, 0, rfl, ?_⟩
    have := h.cells (g := g) rfl i (enc x) (by simp [hx])
    have hadd : (⟨g, 0, none⟩ : Addr).add i = ⟨g, i, none⟩ := by unfold Addr.add; split <;> simp_all
    rw [hadd] at this
    simpa using this
theorem own_sl {α : Type} {w : World} {base n c : Nat} {e : TypeId} {A : Option Addr} {enc : α → List Value} {sz : Nat} {xs : List α} (hsz : ∀ x, (enc x).length = sz) (h : w.ownsRow base e sz (.slice A n c) n (xs.flatMap enc)) (h0 : 0 < sz) : Sl w A enc sz xs := by
  have key : ∀ (xs : List α) (i : Nat) (x : α) (j : Nat) (v : Value), xs[i]? = some x → (enc x)[j]? = some v → (xs.flatMap enc)[i * sz + j]? = some v := by
    intro xs
    induction xs with
    | nil => intro i x j v h _; simp at h
    | cons y ys ih =>
      intro i x j v hx hv
      have hj : j < sz := by have := (List.getElem?_eq_some_iff.1 hv).1; rw [hsz] at this; exact this
      cases i with
      | zero =>
        simp at hx
        subst hx
        rw [List.flatMap_cons, List.getElem?_append_left (by rw [hsz]; omega)]
        simpa using hv
      | succ i =>
        simp at hx
        rw [List.flatMap_cons, List.getElem?_append_right (by rw [hsz, Nat.succ_mul]; omega), hsz]
        have := ih i x j v hx hv
        rw [show (i + 1) * sz + j - sz = i * sz + j by rw [Nat.succ_mul]; omega]
        exact this
  intro i x hx
  have hi : i < xs.length := (List.getElem?_eq_some_iff.1 hx).1
  rcases h.2 with ⟨e1, rfl⟩ | ⟨g, cap, cur, e1, _⟩
  · have hlen := h.1
    have : (xs.flatMap enc).length = xs.length * sz := by
      clear h hx hi hlen key
      induction xs with
      | nil => simp
      | cons y ys ih => rw [List.flatMap_cons, List.length_append, hsz, ih, List.length_cons, Nat.succ_mul]; omega
    rw [this, Nat.zero_mul] at hlen
    rcases Nat.mul_eq_zero.1 hlen with h1 | h1 <;> omega
  · cases e1
    refine ⟨g, 0, rfl, fun j v hv => ?_⟩
    have := h.cells (g := g) rfl (i * sz + j) v (key xs i x j v hx hv)
    have hadd : ∀ k, (⟨g, 0, none⟩ : Addr).add k = ⟨g, k, none⟩ := by intro k; unfold Addr.add; split <;> simp_all
    rw [hadd] at this
    simpa using this
theorem own_open {w : World} {base n : Nat} {e : TypeId} {size : Nat} {v : Value} {xs : List Value} (h : w.ownsRow base e size v n xs) (hn : 0 < n) :
    ∃ g cap, v = .slice (some ⟨g, 0, none⟩) n cap ∧ base ≤ g ∧ g < w.heap.size ∧ ∀ j u, xs[j]? = some u → w.cell? ⟨g, j, none⟩ = some u ∧ w.frozen? ⟨g, j, none⟩ = false := by
  have h' := h
  rcases h.2 with ⟨_, rfl⟩ | ⟨g, cap, cur, rfl, hb, hg, _⟩
  · omega
  · refine ⟨g, cap, rfl, hb, blk_lt hg, fun j u hu => ⟨?_, blk_froz hg j⟩⟩
    have := h'.cells (g := g) rfl j u hu
    have hadd : ∀ k, (⟨g, 0, none⟩ : Addr).add k = ⟨g, k, none⟩ := by intro k; unfold Addr.add; split <;> simp_all
    rwa [hadd] at this
theorem own_set {w : World} {base n cap g : Nat} {e : TypeId} {size : Nat} {xs : List Value} (h : w.ownsRow base e size (.slice (some ⟨g, 0, none⟩) n cap) n xs) (i : Nat) (u : Value) :
    (w.setCell ⟨g, i, none⟩ u).ownsRow base e size (.slice (some ⟨g, 0, none⟩) n cap) n (xs.set i u) := by
  obtain ⟨hl, h⟩ := h
  refine ⟨by rw [List.length_set]; exact hl, ?_⟩
  rcases h with ⟨h1, _⟩ | ⟨g', cap', cur, h1, hb, hg, hc1, hc2, hc3, ht⟩
  · cases h1
  · cases h1
    refine .inr ⟨g, cap, cur.setIfInBounds i u, rfl, hb, blk_set hg i u, hc1, hc2, by rw [Array.size_setIfInBounds]; exact hc3, ?_⟩
    rw [Array.toList_setIfInBounds, List.take_set, ht]
theorem own_nil (W : World) (base : Nat) (e : TypeId) (size : Nat) : W.ownsRow base e size (.slice none 0 0) 0 [] := ⟨by simp, .inl ⟨rfl, rfl⟩⟩
theorem own_base {w : World} {base : Nat} {e : TypeId} {size n : Nat} {v : Value} {xs : List Value} (h : w.ownsRow base e size v n xs) : ∀ k, v.ownBlock = some k → base ≤ k := by
  intro k hk
  rcases h.2 with ⟨rfl, _⟩ | ⟨g, cap, cur, rfl, hb, _⟩
  · simp [Value.ownBlock] at hk
  · simp only [Value.ownBlock, Option.some.injEq] at hk; omega
theorem own_below {w w1 : World} {base B : Nat} {e : TypeId} {size n : Nat} {v : Value} {xs : List Value} (h : w.ownsRow base e size v n xs) (hb : Below B w w1) (hB : w.heap.size ≤ B) : w1.ownsRow base e size v n xs :=
  h.kept (row := none) ⟨hb.os, hb.tape, hb.output, hb.size, fun k hk _ => hb.block k (by omega)⟩ (by cases hv : v.ownBlock <;> simp)
theorem own_less {W : World} {b base n : Nat} {e : TypeId} {size : Nat} {v : Value} {xs : List Value} (h : W.ownsRow b e size v n xs) (hle : base ≤ b) : W.ownsRow base e size v n xs := by
  obtain ⟨hl, h⟩ := h
  refine ⟨hl, ?_⟩
  rcases h with h | ⟨g, cap, cur, h1, hb, r⟩
  · exact .inl h
  · exact .inr ⟨g, cap, cur, h1, Nat.le_trans hle hb, r⟩
theorem own_drew {W : World} {base n : Nat} {e : TypeId} {size : Nat} {v : Value} {xs : List Value} (h : W.ownsRow base e size v n xs) : W.drew.ownsRow base e size v n xs := h
theorem own_drewN {W : World} {base n : Nat} {e : TypeId} {size : Nat} {v : Value} {xs : List Value} (h : W.ownsRow base e size v n xs) (m : Nat) : (W.drewN m).ownsRow base e size v n xs := h
def bs (l : List UInt8) : ByteArray := ⟨l.toArray⟩
def strV (l : List UInt8) : Value := .string (bs l)
theorem bs_inj {a b : List UInt8} (h : bs a = bs b) : a = b := by simpa [bs] using h
theorem bs_data (s : ByteArray) : bs s.data.toList = s := by cases s; rfl
theorem extract_bs (s : ByteArray) (a b : Nat) : s.extract a b = bs ((s.data.toList.drop a).take (b - a)) := by
  rw [← Lib.extract_data, bs_data]
theorem wpAnyH_takeD {P : Program} {md : Region.Mode} {ops : Array Oper} {Q : Exit → Act → World → Prop} {S : World → Prop} {i d : Nat} {oi : Oper} {v : Value} {fuel : Nat} {listed : Array Bool} {tmps : Array Value} {df : List Deferred} {w : World}
    (hi : ops[i]? = some oi) (hd : oi.dst = some d)
    (hs : Region.noSelect ops = true) (hf : Region.free md ops listed i = true) (hr : (Region.ready md ops listed).contains i = true)
    (hQ : ∀ c a w, Q (.panic c) (a.put oi.dst v) w → Q (.panic c) a w) (hy : YieldsIf P ops S oi v ⟨tmps, df⟩) (hS : S w)
    (h : wpAnyH P md ops Q S fuel (listed.setIfInBounds i true) ⟨tmps.setIfInBounds d v, df⟩ w) : wpAnyH P md ops Q S (fuel + 1) listed ⟨tmps, df⟩ w :=
  wpAnyH_take hi hs hf hr hQ hy hS (by rw [hd]; exact h)
theorem sIB {α : Type} (l : List α) (i : Nat) (a : α) : l.toArray.setIfInBounds i a = (l.set i a).toArray := List.setIfInBounds_toArray ..
theorem sC0 {α : Type} (x : α) (l : List α) (a : α) : (x :: l).set 0 a = a :: l := List.set_cons_zero
theorem sCS {α : Type} (x : α) (l : List α) (n : Nat) (a : α) : (x :: l).set (n + 1) a = x :: l.set n a := List.set_cons_succ
theorem tkH {P : Program} {md : Region.Mode} {ops : Array Oper} {Q : Exit → Act → World → Prop} {S : World → Prop} (i d : Nat) (v : Value) {oi : Oper} {fuel : Nat} {listed : Array Bool} {tmps : Array Value} {df : List Deferred} {w : World}
    (hi : ops[i]? = some oi) (hS : S w) (hy : YieldsIf P ops S oi v ⟨tmps, df⟩) (h : wpAnyH P md ops Q S fuel (listed.setIfInBounds i true) ⟨tmps.setIfInBounds d v, df⟩ w)
    (hd : oi.dst = some d := by rfl) (hs : Region.noSelect ops = true := by kernel_rfl) (hf : Region.free md ops listed i = true := by kernel_rfl) (hr : (Region.ready md ops listed).contains i = true := by kernel_rfl)
    (hQ : ∀ c a w, Q (.panic c) (a.put oi.dst v) w → Q (.panic c) a w := by exact fun _ _ _ h => h) : wpAnyH P md ops Q S (fuel + 1) listed ⟨tmps, df⟩ w := wpAnyH_takeD hi hd hs hf hr hQ hy hS h
theorem take_snoc {α : Type} {l : List α} {k : Nat} (h : k < l.length) : l.take (k + 1) = l.take k ++ [l[k]] := by rw [List.take_succ_eq_append_getElem h]
structure Cls where
  lo : Int
  hi : Int
  n : Int
structure Jn where
  a : Int
  b : Int
def encCls (c : Cls) : List Value := [.int .i64 c.lo, .int .i64 c.hi, .int .i64 c.n]
def encJn (c : Jn) : List Value := [.int .i64 c.a, .int .i64 c.b]
def tabCell (C : Nat → Int) (J : Nat → Nat → Bool) (i : Nat) : Value := if i < 256 then .int .i64 (C i) else .bool (J ((i - 256) / 16) ((i - 256) % 16))
def tabArr (C : Nat → Int) (J : Nat → Nat → Bool) : Array Value := Array.ofFn (n := 512) fun i => tabCell C J i
theorem zero_tab : Tryz.zeroCells220 = tabArr (fun _ => 0) (fun _ _ => false) := by
  have : Tryz.zeroCells220.toList = (tabArr (fun _ => 0) (fun _ _ => false)).toList := by
    unfold tabArr
    rw [Array.toList_ofFn]
    kernel_rfl
  exact Array.toList_inj.1 this
theorem tab_get (C : Nat → Int) (J : Nat → Nat → Bool) (i : Nat) (h : i < 512) : (tabArr C J)[i]? = some (tabCell C J i) := by
  simp [tabArr, h]
theorem tab_cls (C : Nat → Int) (J : Nat → Nat → Bool) (i : Nat) (h : i < 256) : (tabArr C J)[i]? = some (.int .i64 (C i)) := by
  rw [tab_get _ _ _ (by omega), tabCell, if_pos h]
theorem tab_jn (C : Nat → Int) (J : Nat → Nat → Bool) (x y : Nat) (hx : x < 16) (hy : y < 16) : (tabArr C J)[256 + x * 16 + y]? = some (.bool (J x y)) := by
  rw [tab_get _ _ _ (by omega), tabCell, if_neg (by omega)]
  have e1 : (256 + x * 16 + y - 256) / 16 = x := by omega
  have e2 : (256 + x * 16 + y - 256) % 16 = y := by omega
  rw [e1, e2]
theorem tab_setC (C : Nat → Int) (J : Nat → Nat → Bool) (i : Nat) (n : Int) (h : i < 256) : (tabArr C J).setIfInBounds i (.int .i64 n) = tabArr (fun j => if j = i then n else C j) J := by
  apply Array.ext_getElem?
  intro j
  rw [Array.getElem?_setIfInBounds]
  by_cases hj : j < 512
  · by_cases e : i = j
    · subst e
      rw [if_pos rfl, if_pos (by simp [tabArr]; omega), tab_cls _ _ _ h, if_pos rfl]
    · rw [if_neg e, tab_get _ _ _ hj, tab_get _ _ _ hj]
      unfold tabCell
      simp only [Option.some.injEq]
      split
      · rw [if_neg (by omega)]
      · rfl
  · have e : i ≠ j := by omega
    rw [if_neg e]
    simp [tabArr, hj]
theorem tab_setJ (C : Nat → Int) (J : Nat → Nat → Bool) (x y : Nat) (u : Bool) (hx : x < 16) (hy : y < 16) : (tabArr C J).setIfInBounds (256 + x * 16 + y) (.bool u) = tabArr C (fun a b => if a = x ∧ b = y then u else J a b) := by
  apply Array.ext_getElem?
  intro j
  rw [Array.getElem?_setIfInBounds]
  by_cases hj : j < 512
  · by_cases e : 256 + x * 16 + y = j
    · subst e
      rw [if_pos rfl, if_pos (by simp [tabArr]; omega), tab_jn _ _ _ _ hx hy, if_pos ⟨rfl, rfl⟩]
    · rw [if_neg e, tab_get _ _ _ hj, tab_get _ _ _ hj]
      unfold tabCell
      simp only [Option.some.injEq]
      split
      · rfl
      · rw [if_neg (by omega)]
  · have e : 256 + x * 16 + y ≠ j := by omega
    rw [if_neg e]
    simp [tabArr, hj]
def clsB (n : Int) : Bool := decide (0 ≤ n ∧ n < 16)
def spanB (c : Cls) : Bool := decide (0 ≤ c.lo ∧ c.lo ≤ c.hi ∧ c.hi < 256 ∧ 0 ≤ c.n ∧ c.n < 16)
def jnB (j : Jn) : Bool := clsB j.a && clsB j.b
theorem class_any (n : Int) (w : World) : Calls Tryz.prog 130 #[.int .i64 n] w fun e w' => e = .returned (.bool (clsB n)) ∧ w = w' := by
  by_cases h : 0 ≤ n
  · by_cases h2 : n < 16
    · have e : clsB n = true := by simp [clsB, h, h2]
      rw [e]
      go_enter Tryz.func130, Tryz.ntmps130
      go_wp2
      go_ret
      exact ⟨by simp, rfl⟩
    · have e : clsB n = false := by simp [clsB, h, h2]
      rw [e]
      go_enter Tryz.func130, Tryz.ntmps130
      go_wp2
      go_ret
      exact ⟨by simp, rfl⟩
  · have e : clsB n = false := by simp [clsB, h]
    rw [e]
    go_enter Tryz.func130, Tryz.ntmps130
    go_wp2
    go_ret
    exact ⟨by simp, rfl⟩
theorem span_yes (lo hi n : Int) (w : World) (h0 : 0 ≤ lo) (h1 : lo ≤ hi) (h2 : hi < 256) : Calls Tryz.prog 129 #[.agg #[.int .i64 lo, .int .i64 hi, .int .i64 n]] w fun e w' => e = .returned (.bool (clsB n)) ∧ Below w.heap.size w w' := by
  go_enter Tryz.func129, Tryz.ntmps129
  go_wp2_with (go_at_call 130; refine (class_any _ _).mono ?_; rintro e w' ⟨rfl, rfl⟩)
  go_ret
  exact ⟨by simp, (Below.refl _ _).alloc (Nat.le_refl _) _⟩
theorem span_no (lo hi n : Int) (w : World) (h : ¬ (0 ≤ lo ∧ lo ≤ hi ∧ hi < 256)) : Calls Tryz.prog 129 #[.agg #[.int .i64 lo, .int .i64 hi, .int .i64 n]] w fun e w' => e = .returned (.bool false) ∧ Below w.heap.size w w' := by
  by_cases h0 : 0 ≤ lo
  · by_cases h1 : lo ≤ hi
    · have h2 : decide (hi < 256) = false := by simp; omega
      clear h
      go_enter Tryz.func129, Tryz.ntmps129
      go_wp2
      go_ret
      exact ⟨by simp, (Below.refl _ _).alloc (Nat.le_refl _) _⟩
    · have h2 : decide (lo ≤ hi) = false := by simp; omega
      clear h h1
      go_enter Tryz.func129, Tryz.ntmps129
      go_wp2
      go_ret
      exact ⟨by simp, (Below.refl _ _).alloc (Nat.le_refl _) _⟩
  · have h2 : decide (0 ≤ lo) = false := by simp; omega
    clear h h0
    go_enter Tryz.func129, Tryz.ntmps129
    go_wp2
    go_ret
    exact ⟨by simp, (Below.refl _ _).alloc (Nat.le_refl _) _⟩
theorem span_any (c : Cls) (w : World) : Calls Tryz.prog 129 #[.agg #[.int .i64 c.lo, .int .i64 c.hi, .int .i64 c.n]] w fun e w' => e = .returned (.bool (spanB c)) ∧ Below w.heap.size w w' := by
  by_cases h : 0 ≤ c.lo ∧ c.lo ≤ c.hi ∧ c.hi < 256
  · refine (span_yes c.lo c.hi c.n w h.1 h.2.1 h.2.2).mono ?_
    rintro e w' ⟨rfl, hb⟩
    refine ⟨?_, hb⟩
    congr 2
    simp only [spanB, clsB, h.1, h.2.1, h.2.2, true_and]
  · refine (span_no c.lo c.hi c.n w h).mono ?_
    rintro e w' ⟨rfl, hb⟩
    refine ⟨?_, hb⟩
    congr 2
    simp only [spanB]
    symm
    rw [decide_eq_false_iff_not]
    omega
def BTab (w : World) (bk : Nat) (C : Nat → Int) (J : Nat → Nat → Bool) : Prop :=
  w.heap[bk]? = some (.cells (tabArr C J) 220 (0, 0)) ∧ ∀ i, 0 ≤ C i ∧ C i < 16
theorem BTab.below {B : Nat} {w w' : World} {bk : Nat} {C : Nat → Int} {J : Nat → Nat → Bool} (h : BTab w bk C J) (hb : Below B w w') (hB : bk < B) : BTab w' bk C J := ⟨blk_below hb hB h.1, h.2⟩
def cutB (C : Nat → Int) (J : Nat → Nat → Bool) (a b : Nat) : Bool := decide (C a ≠ C b) && !J (C a).toNat (C b).toNat
theorem cuts_nil (a b : Int) (w : World) : Calls Tryz.prog 137 #[.pointer none, .int .u8 a, .int .u8 b] w fun e w' => e = .returned (.bool false) ∧ ∃ m, w' = w.drewN m := by
  go_enter Tryz.func137, Tryz.ntmps137
  go_wp2
  go_ret
  exact ⟨rfl, 0, rfl⟩
theorem cuts_ne (bk : Nat) (a b : Nat) (x y : Int) (j : Bool) (w : World) (ha : a < 256) (hb : b < 256)
   (hx0 : 0 ≤ x) (hx : x < 16) (hy0 : 0 ≤ y) (hy : y < 16)
   (h1 : w.cell? ⟨bk, a, none⟩ = some (.int .i64 x)) (h2 : w.cell? ⟨bk, b, none⟩ = some (.int .i64 y))
   (h3 : w.cell? ⟨bk, 256 + x.toNat * 16 + y.toNat, none⟩ = some (.bool j)) (hne : (x == y) = false) (hne' : (x != y) = true) :
   Calls Tryz.prog 137 #[.pointer (some ⟨bk, 0, none⟩), .int .u8 (a : Int), .int .u8 (b : Int)] w fun e w' => e = .returned (.bool (!j)) ∧ ∃ m, w' = w.drewN m := by
  go_enter Tryz.func137, Tryz.ntmps137
  go_wp2
  go_quiet (fail)
  go_wp2
  go_ret
  exact ⟨by simp, _, rfl⟩
theorem cuts_eq (bk : Nat) (a b : Nat) (x : Int) (w : World) (ha : a < 256) (hb : b < 256)
   (h1 : w.cell? ⟨bk, a, none⟩ = some (.int .i64 x)) (h2 : w.cell? ⟨bk, b, none⟩ = some (.int .i64 x)) :
   Calls Tryz.prog 137 #[.pointer (some ⟨bk, 0, none⟩), .int .u8 (a : Int), .int .u8 (b : Int)] w fun e w' => e = .returned (.bool false) ∧ ∃ m, w' = w.drewN m := by
  go_enter Tryz.func137, Tryz.ntmps137
  go_wp2
  go_quiet (fail)
  go_wp2
  go_ret
  exact ⟨by simp, _, rfl⟩
theorem cuts_tab (bk : Nat) (C : Nat → Int) (J : Nat → Nat → Bool) (a b : Nat) (w : World) (ha : a < 256) (hb : b < 256) (h : BTab w bk C J) :
    Calls Tryz.prog 137 #[.pointer (some ⟨bk, 0, none⟩), .int .u8 (a : Int), .int .u8 (b : Int)] w fun e w' => e = .returned (.bool (cutB C J a b)) ∧ ∃ m, w' = w.drewN m := by
  have h1 := blk_cell h.1 a
  rw [tab_cls _ _ _ ha] at h1
  have h2 := blk_cell h.1 b
  rw [tab_cls _ _ _ hb] at h2
  have ra := h.2 a
  have rb := h.2 b
  have h3 := blk_cell h.1 (256 + (C a).toNat * 16 + (C b).toNat)
  rw [tab_jn _ _ _ _ (by omega) (by omega)] at h3
  by_cases e : C a = C b
  · have e' : cutB C J a b = false := by simp [cutB, e]
    rw [e']
    rw [← e] at h2
    exact cuts_eq bk a b (C a) w ha hb h1 h2
  · have e' : cutB C J a b = !J (C a).toNat (C b).toNat := by simp [cutB, e]
    rw [e']
    exact cuts_ne bk a b (C a) (C b) _ w ha hb ra.1 ra.2 rb.1 rb.2 h1 h2 h3 (beq_eq_false_iff_ne.2 e) (by rw [bne_iff_ne]; exact e)
def putC (C : Nat → Int) (c : Cls) : Nat → Int := fun j => if c.lo ≤ (j : Int) ∧ (j : Int) ≤ c.hi then c.n else C j
def putJ (J : Nat → Nat → Bool) (j : Jn) : Nat → Nat → Bool := fun x y => if (x : Int) = j.a ∧ (y : Int) = j.b then true else J x y
def Cof (l : List Cls) : Nat → Int := l.foldl putC (fun _ => 0)
def Jof (l : List Jn) : Nat → Nat → Bool := l.foldl putJ (fun _ _ => false)
theorem Cof_snoc (l : List Cls) (c : Cls) : Cof (l ++ [c]) = putC (Cof l) c := by simp [Cof]
theorem Jof_snoc (l : List Jn) (c : Jn) : Jof (l ++ [c]) = putJ (Jof l) c := by simp [Jof]
theorem all_snoc {α : Type} (p : α → Bool) (l : List α) (c : α) : (l ++ [c]).all p = (l.all p && p c) := by simp
theorem all_false {α : Type} {p : α → Bool} {l : List α} {c : α} {k : Nat} (h : l[k]? = some c) (hp : p c = false) : l.all p = false := by
  rw [List.all_eq_false]
  exact ⟨c, List.mem_of_getElem? h, by simp [hp]⟩
def NewPost (cs : List Cls) (js : List Jn) (w : World) (e : Ending) (w' : World) : Prop :=
  Below w.heap.size w w' ∧
  if cs.all spanB && js.all jnB then ∃ bk, w.heap.size ≤ bk ∧ e = .returned (.tuple #[.pointer (some ⟨bk, 0, none⟩), .int .i64 0]) ∧ BTab w' bk (Cof cs) (Jof js)
  else e = .returned (.tuple #[.pointer none, .int .i64 1])
theorem Cof_small0 (l : List Cls) : ∀ C : Nat → Int, (∀ i, 0 ≤ C i ∧ C i < 16) → l.all spanB = true → ∀ i, 0 ≤ l.foldl putC C i ∧ l.foldl putC C i < 16 := by
  induction l with
  | nil => intro C h _ i; exact h i
  | cons c l ih =>
    intro C h ha i
    rw [List.all_cons, Bool.and_eq_true] at ha
    rw [List.foldl_cons]
    refine ih _ (fun j => ?_) ha.2 i
    unfold putC
    split
    · have := ha.1
      simp only [spanB, decide_eq_true_eq] at this
      omega
    · exact h j
theorem Cof_small (l : List Cls) (h : l.all spanB = true) (i : Nat) : 0 ≤ Cof l i ∧ Cof l i < 16 := Cof_small0 l _ (fun _ => by simp) h i
theorem new_bad {cs : List Cls} {js : List Jn} {w w' : World} (hb : Below w.heap.size w w') (h : cs.all spanB = false ∨ js.all jnB = false) : NewPost cs js w (.returned (.tuple #[.pointer none, .int .i64 1])) w' := by
  refine ⟨hb, ?_⟩
  rw [if_neg (by rcases h with h | h <;> simp [h])]
theorem new_good {cs : List Cls} {js : List Jn} {w w' : World} {bk : Nat} (hb : Below w.heap.size w w') (h : cs.all spanB = true) (h' : js.all jnB = true) (hbk : w.heap.size ≤ bk)
    (ht : w'.heap[bk]? = some (.cells (tabArr (Cof cs) (Jof js)) 220 (0, 0))) : NewPost cs js w (.returned (.tuple #[.pointer (some ⟨bk, 0, none⟩), .int .i64 0])) w' := by
  refine ⟨hb, ?_⟩
  rw [if_pos (by simp [h, h'])]
  exact ⟨bk, hbk, rfl, ht, Cof_small cs h⟩
def Half (cs : List Cls) (js : List Jn) (w : World) (k : Nat) (wr : World) : Prop :=
  Below w.heap.size w wr ∧ w.heap.size < wr.heap.size ∧ (js.take k).all jnB = true ∧ wr.heap[w.heap.size]? = some (.cells (tabArr (Cof cs) (Jof (js.take k))) 220 (0, 0))
def HalfC (cs : List Cls) (w : World) (k : Nat) (wr : World) : Prop :=
  Below w.heap.size w wr ∧ w.heap.size < wr.heap.size ∧ (cs.take k).all spanB = true ∧ wr.heap[w.heap.size]? = some (.cells (tabArr (Cof (cs.take k)) (fun _ _ => false)) 220 (0, 0))
theorem fill_step (C : Nat → Int) (lo q : Nat) (n : Int) (h : lo ≤ q) : (fun j => if j = q then n else if lo ≤ j ∧ j < q then n else C j) = (fun j => if lo ≤ j ∧ j < q + 1 then n else C j) := by
  funext j
  by_cases e : j = q
  · rw [if_pos e, if_pos (by omega)]
  · rw [if_neg e]
    by_cases f : lo ≤ j ∧ j < q
    · rw [if_pos f, if_pos (by omega)]
    · rw [if_neg f, if_neg (by omega)]
set_option maxHeartbeats 1000000 in
theorem bnew_any (cs : List Cls) (js : List Jn) (A B : Option Addr) (cA cB : Nat) (w : World) (hA : Sl w A encCls 3 cs) (hB : Sl w B encJn 2 js) (hcs : cs.length < 9000000000000000000) (hjs : js.length < 9000000000000000000) :
  Calls Tryz.prog 91 #[.slice A cs.length cA, .slice B js.length cB] w (NewPost cs js w) := by
  have HB := Lib.hid hB
  have HSA := Lib.hid hA
  clear hB hA
  go_enter Tryz.func91, Tryz.ntmps91
  go_wp2
  go_loopw [16] (fun i wr => ∃ k : Nat, k ≤ cs.length ∧ i = .int .i64 k ∧ HalfC cs w k wr) (fun i wr => cs.length - (intOf i).toNat)
  case atStart =>
    refine ⟨0, by omega, rfl, (Below.refl _ _).alloc (Nat.le_refl _) _, by simp, rfl, ?_⟩
    simp only [List.take_zero, List.foldl_nil, Cof]; rw [← zero_tab]; exact blk_new _ _
  case round =>
   obtain ⟨k, hk, rfl, hb, hsz, hall, hblk⟩ := hrel
   by_cases hlt : k < cs.length
   · have hck : cs[k]? = some cs[k] := by simp
     obtain ⟨b, o, rfl, hc0⟩ := HSA.out.at k hlt
     have g0 : wr.cell? ⟨b, o + k * 3, none⟩ = some (.int .i64 cs[k].lo) := below_cell hb (Nat.le_refl _) (hc0 0 _ rfl)
     have g1 : wr.cell? ⟨b, o + k * 3 + 1, none⟩ = some (.int .i64 cs[k].hi) := below_cell hb (Nat.le_refl _) (hc0 1 _ rfl)
     have g2 : wr.cell? ⟨b, o + k * 3 + 2, none⟩ = some (.int .i64 cs[k].n) := below_cell hb (Nat.le_refl _) (hc0 2 _ rfl)
     have HT := Lib.hid (take_snoc hlt)
     have HCK := Lib.hid hck
     generalize cs[k] = c at *
     have HA := Lib.hid hall
     have HK := Lib.hid hblk
     have HBE := Lib.hid hb
     clear hc0 hck hall hblk hb
     go_wp2_with fail
     refine (span_any c _).mono ?_
     rintro e w1 ⟨rfl, hb1⟩
     have hs1 := hb1.size
     rw [size_alloc] at hs1 hb1
     have hw1 : w1.heap[wr.heap.size]? = some (.cells #[.int .i64 c.lo, .int .i64 c.hi, .int .i64 c.n] 132 (0, 0)) := blk_below hb1 (by omega) (blk_new _ _)
     have hw2 : w1.heap[w.heap.size]? = some (.cells (tabArr (Cof (cs.take k)) (fun _ _ => false)) 220 (0, 0)) := blk_below hb1 (by omega) (blk_alloc HK.out _)
     have hb2 : Below w.heap.size w w1 := below_then (HBE.out.alloc HBE.out.size _) (by omega) hb1
     have c0 : w1.cell? ⟨wr.heap.size, 0, none⟩ = some (.int .i64 c.lo) := blk_cell hw1 0
     have c1 : w1.cell? ⟨wr.heap.size, 1, none⟩ = some (.int .i64 c.hi) := blk_cell hw1 1
     have c2 : w1.cell? ⟨wr.heap.size, 2, none⟩ = some (.int .i64 c.n) := blk_cell hw1 2
     have HB2 := Lib.hid hb2
     have HW2 := Lib.hid hw2
     have HW1 := Lib.hid hw1
     clear hb1 hb2 hw1 hw2 HBE HK g0 g1 g2
     cases hs : spanB c with
     | false =>
       have HF := Lib.hid (all_false HCK.out hs)
       clear hs
       go_wp2_with fail
       go_ret2
       exact new_bad HB2.out (.inl HF.out)
     | true =>
       have hsb := hs
       simp only [spanB, decide_eq_true_eq] at hsb
       obtain ⟨s0, s1, s2, s3, s4⟩ := hsb
       have HS := Lib.hid hs
       clear hs
       obtain ⟨lo, hi, n⟩ := c
       simp only at *
       obtain ⟨lo, rfl⟩ := Int.eq_ofNat_of_zero_le s0
       obtain ⟨hi, rfl⟩ := Int.eq_ofNat_of_zero_le (show 0 ≤ hi by omega)
       have HT2 := Lib.hid (show lo ≤ hi from by omega)
       go_wp2_with fail
       go_loopw [9] (fun i wi => ∃ q : Nat, lo ≤ q ∧ q ≤ hi + 1 ∧ i = .int .i64 q ∧ Below w.heap.size w wi ∧ wr.heap.size < wi.heap.size ∧
          wi.heap[wr.heap.size]? = some (.cells #[.int .i64 (lo : Int), .int .i64 (hi : Int), .int .i64 n] 132 (0, 0)) ∧
          wi.heap[w.heap.size]? = some (.cells (tabArr (fun j => if lo ≤ j ∧ j < q then n else Cof (cs.take k) j) (fun _ _ => false)) 220 (0, 0))) (fun i _ => hi + 1 - (intOf i).toNat)
       case atStart =>
         refine ⟨lo, Nat.le_refl _, by omega, rfl, HB2.out, by omega, HW1.out, ?_⟩
         rw [HW2.out]
         congr 3
         funext j
         rw [if_neg (by omega)]
       case round =>
         obtain ⟨q, q1, q2, rfl, k1, k2, k3, k4⟩ := hrel
         have H1 := Lib.hid k1
         have H3 := Lib.hid k3
         have H4 := Lib.hid k4
         clear c0 c1 c2
         rename World => wi
         have c1 : wi.cell? ⟨wr.heap.size, 1, none⟩ = some (.int .i64 (hi : Int)) := blk_cell k3 1
         have c2 : wi.cell? ⟨wr.heap.size, 2, none⟩ = some (.int .i64 n) := blk_cell k3 2
         clear k1 k3 k4
         by_cases hq : q ≤ hi
         · have d1 := blk_cell H4.out q
           rw [tab_cls _ _ _ (by omega)] at d1
           have d2 := blk_froz H4.out q
           go_wp2_with fail
           go_region
           go_wp2_with fail
           go_roundw
           case rel =>
             refine ⟨q + 1, by omega, by omega, by go_num, ?_, ?_, ?_, ?_⟩
             · exact ((H1.out.drew).setCell (Nat.le_refl _) _)
             · simpa using k2
             · exact blk_far H3.out (by simp; omega) _
             · refine (blk_set (w := wi.drew) H4.out q _).trans ?_
               rw [tab_setC _ _ _ _ (by omega), fill_step _ _ _ _ q1]
           case measure => simp [intOf]; omega
         · obtain rfl : q = hi + 1 := by omega
           go_wp2_with fail
           go_roundw
           case rel =>
             refine ⟨k + 1, by omega, by go_num, H1.out, by omega, ?_, ?_⟩
             · rw [HT.out, all_snoc, HA.out, HS.out]; rfl
             · rw [H4.out, HT.out, Cof_snoc]
               congr 3
               funext j
               unfold putC
               simp only
               congr 1
               simp only [eq_iff_iff]
               omega
           case measure => simp [intOf]; omega
   · obtain rfl : k = cs.length := by omega
     rw [List.take_length] at hall hblk
     have HA := Lib.hid hall
     have HBE := Lib.hid hb
     have HK := Lib.hid hblk
     clear hall hb hblk
     go_wp2_with fail
     go_loopw [41] (fun i wr => ∃ k : Nat, k ≤ js.length ∧ i = .int .i64 k ∧ Half cs js w k wr) (fun i wr => js.length - (intOf i).toNat)
     case atStart => exact ⟨0, by omega, rfl, HBE.out, hsz, rfl, HK.out⟩
     case round =>
      obtain ⟨k, hk, rfl, hb, hsz, hall, hblk⟩ := hrel
      clear HK HBE
      rename World => wj
      by_cases hlt : k < js.length
      · have hck : js[k]? = some js[k] := by simp
        obtain ⟨b, o, rfl, hc0⟩ := HB.out.at k hlt
        have g0 : wj.cell? ⟨b, o + k * 2, none⟩ = some (.int .i64 js[k].a) := below_cell hb (Nat.le_refl _) (hc0 0 _ rfl)
        have g1 : wj.cell? ⟨b, o + k * 2 + 1, none⟩ = some (.int .i64 js[k].b) := below_cell hb (Nat.le_refl _) (hc0 1 _ rfl)
        have HT := Lib.hid (take_snoc hlt)
        have HCK := Lib.hid hck
        generalize js[k] = c at *
        have HAJ := Lib.hid hall
        have HK := Lib.hid hblk
        have HBE := Lib.hid hb
        clear hc0 hck hall hblk hb
        cases ha : clsB c.a with
        | false =>
          have HF := Lib.hid (all_false (p := jnB) HCK.out (by simp [jnB, ha]))
          have HNA := Lib.hid ha
          clear ha
          go_wp2_with (go_at_call 130; refine (class_any _ _).mono ?_; rw [HNA.out]; rintro e w' ⟨rfl, rfl⟩)
          go_ret2
          exact new_bad (HBE.out.alloc HBE.out.size _) (.inr HF.out)
        | true =>
          have HNA := Lib.hid ha
          clear ha
          cases hb' : clsB c.b with
          | false =>
            have HF := Lib.hid (all_false (p := jnB) HCK.out (by simp [jnB, hb']))
            have HNB := Lib.hid hb'
            clear hb'
            go_wp2_with (go_at_call 130; refine (class_any _ _).mono ?_; (first | rw [HNA.out] | rw [HNB.out]); rintro e w' ⟨rfl, rfl⟩)
            go_ret2
            exact new_bad (HBE.out.alloc HBE.out.size _) (.inr HF.out)
          | true =>
            have HJ := Lib.hid (show jnB c = true by simp [jnB, HNA.out, hb'])
            have HNB := Lib.hid hb'
            clear hb'
            obtain ⟨ja, jb⟩ := c
            simp only at *
            have ba := HNA.out
            have bb := HNB.out
            simp only [clsB, decide_eq_true_eq] at ba bb
            obtain ⟨ba0, ba1⟩ := ba
            obtain ⟨bb0, bb1⟩ := bb
            obtain ⟨ja, rfl⟩ := Int.eq_ofNat_of_zero_le ba0
            obtain ⟨jb, rfl⟩ := Int.eq_ofNat_of_zero_le bb0
            have d1 := blk_cell HK.out (256 + ja * 16 + jb)
            rw [tab_jn _ _ _ _ (by omega) (by omega)] at d1
            have d2 := blk_froz HK.out (256 + ja * 16 + jb)
            have d1' : (wj.alloc (.cells #[.int .i64 (ja : Int), .int .i64 (jb : Int)] 133)).cell? ⟨w.heap.size, 256 + ja * 16 + jb, none⟩ = _ := below_cell ((Below.refl wj.heap.size wj).alloc (Nat.le_refl _) _) (Nat.le_refl _) d1
            have d2' : (wj.alloc (.cells #[.int .i64 (ja : Int), .int .i64 (jb : Int)] 133)).frozen? ⟨w.heap.size, 256 + ja * 16 + jb, none⟩ = false := blk_froz (blk_alloc HK.out _) _
            go_wp2_with (go_at_call 130; refine (class_any _ _).mono ?_; (first | rw [HNA.out] | rw [HNB.out]); rintro e w' ⟨rfl, rfl⟩)
            go_region
            go_wp2_with fail
            go_roundw
            case rel =>
              refine ⟨k + 1, by omega, by go_num, ?_, ?_, ?_, ?_⟩
              · exact (((HBE.out.setCell (p := ⟨w.heap.size, _, none⟩) (Nat.le_refl _) _).alloc (by have := HBE.out.size; simp; omega) _).drew)
              · simp; omega
              · rw [HT.out, all_snoc, HAJ.out, HJ.out]; rfl
              · refine (blk_drew (blk_alloc (blk_set HK.out _ _) _)).trans ?_
                rw [tab_setJ _ _ _ _ _ (by omega) (by omega), HT.out, Jof_snoc]
                congr 3
                funext x y
                unfold putJ
                simp only
                congr 1
                simp only [eq_iff_iff]
                omega
            case measure => simp [intOf]; omega
      · obtain rfl : k = js.length := by omega
        rw [List.take_length] at hall hblk
        have HAJ := Lib.hid hall
        have HBE := Lib.hid hb
        have HK := Lib.hid hblk
        clear hall hb hblk
        go_wp2_with fail
        go_ret2
        exact new_good HBE.out HA.out HAJ.out (Nat.le_refl _) HK.out
open Go.ChangeShapes Go.WideShapes Go.Deep
def RetTrue (w : World) (e : Ending) (w' : World) : Prop := e = .returned (.bool true) ∧ Go.RowKit.Below w.heap.size w w'
theorem addr_plain {w : World} {a : Addr} {v : Value} (h : w.cell? a = some v) : a = ⟨a.block, a.off, none⟩ := by
  have := World.cell?_spot h
  cases a
  simp_all
def encInts (k : IntKind) (l : List Int) : List Value := l.map (Value.int k)
section
variable {H : Type} {enc : TypeId × Value → H} {P : Program} {w : World} {base : Nat} {spare : Nat → Bool} {held : Bool}
theorem arg_ints {t e : TypeId} {k : IntKind} {fuel : Nat} {A : Option Addr} {n c : Nat} {x : DataW H × List MemPlace} (ht : P.underlying t = some (.slice e)) (he : P.underlying e = some (.int k)) (hC : P.cellsOf e = 1)
    (h : DataW.trod enc P w base spare held fuel t [.slice A n c] = some x) :
    ∃ xs : List Int, xs.length = n ∧ n ≤ c ∧ c ≤ maxLen ∧ (∀ y ∈ xs, (Lit.int k y).wf = true) ∧ Sl1 w A (Value.int k) xs := by
  rcases open_slice1 ht hC h with ⟨h0, _⟩ | ⟨a, len, cap, m, f, V, D, Pl, hcs, hb, hl, hm, hmm, hx, hi⟩
  · cases h0
    exact ⟨[], rfl, Nat.le_refl _, Nat.zero_le _, by simp, Sl1.nil _ _ _⟩
  · cases hcs
    have hlm : n ≤ m := by rw [hmm]; split <;> omega
    obtain ⟨g, hg⟩ := choose_lt (α := Int) (p := fun i y => V i = .int k y ∧ (Lit.int k y).wf = true) (n := m) (fun i him => by
      obtain ⟨_, h2⟩ := hi i him
      obtain ⟨y, e1, _, e3⟩ := DataW.trod_int he h2
      exact ⟨y, by simpa using e1, e3⟩)
    refine ⟨(List.range n).map g, by simp, hl, hm, ?_, ?_⟩
    · intro y hy
      obtain ⟨i, hir, rfl⟩ := List.mem_map.1 hy
      rw [List.mem_range] at hir
      exact (hg i (by omega)).2
    · intro i y hy
      rw [List.getElem?_map, Option.map_eq_some_iff] at hy
      obtain ⟨i', hi', rfl⟩ := hy
      obtain ⟨hlt, hi''⟩ := List.getElem?_eq_some_iff.1 hi'
      rw [List.getElem_range] at hi''
      subst hi''
      rw [List.length_range] at hlt
      have hc := (hi i (by omega)).1
      rw [(hg i (by omega)).1] at hc
      have h0 := addr_plain (hi 0 (by omega)).1
      have ha : a = ⟨a.block, a.off, none⟩ := by
        have : a.add 0 = a := by unfold Addr.add; simp
        rwa [this] at h0
      refine ⟨a.block, a.off, by rw [← ha], ?_⟩
      rw [ha] at hc
      have hadd := add_plain a.block a.off i
      rwa [hadd] at hc
def allInts (P : Program) (fs : Array Field) : Prop := ∀ (j : Nat) (f : Field), fs[j]? = some f → P.underlying f.type = some (.int .i64)
theorem arg_structs {t e : TypeId} {fs : Array Field} {fuel : Nat} {A : Option Addr} {n c : Nat} {x : DataW H × List MemPlace} (ht : P.underlying t = some (.slice e)) (he : P.underlying e = some (.struct fs))
    (hone : oneCellFields P fs = true) (hC : P.cellsOf e = fs.size) (hint : allInts P fs) (h0s : 0 < fs.size)
    (h : DataW.trod enc P w base spare held fuel t [.slice A n c] = some x) :
    ∃ xs : List (List Int), xs.length = n ∧ n ≤ c ∧ c ≤ maxLen ∧ (∀ y ∈ xs, y.length = fs.size ∧ ∀ z ∈ y, (Lit.int .i64 z).wf = true) ∧ Sl w A (encInts .i64) fs.size xs := by
  rcases open_slice ht h with ⟨h0, _⟩ | ⟨a, len, cap, m, f, D, Pl, hcs, hb, hl, hm, hmm, hx, hi⟩
  · cases h0
    exact ⟨[], rfl, Nat.le_refl _, Nat.zero_le _, by simp, Sl.nil _ _ _ _⟩
  · cases hcs
    have hlm : n ≤ m := by rw [hmm]; split <;> omega
    obtain ⟨g, hg⟩ := choose_lt (α := List Int) (p := fun i y => y.length = fs.size ∧ (∀ z ∈ y, (Lit.int .i64 z).wf = true) ∧ ∀ j z, y[j]? = some z → w.cell? (a.add (i * fs.size + j)) = some (.int .i64 z)) (n := m) (fun i him => by
      obtain ⟨cs', hc, ht'⟩ := hi i him
      rw [hC] at hc
      obtain ⟨ys, n', hn', hy, hlen, hyl, hf⟩ := DataW.trod_struct he ht'
      obtain ⟨_, hcl, hat⟩ := World.cells?_some hc
      have key : ∀ j, j < fs.size → ∃ z, cs'[j]? = some (.int .i64 z) ∧ (Lit.int .i64 z).wf = true := by
        intro j hjl
        obtain ⟨fj, hj⟩ : ∃ fj, fs[j]? = some fj := ⟨fs[j], by simp [hjl]⟩
        obtain ⟨ho, hk⟩ := hone_of hone j fj hj
        have h1 := hf j fj hj
        rw [ho, hk] at h1
        have hone' : (cs'.drop j).take 1 = [cs'[j]'(by omega)] := by
          rw [List.drop_eq_getElem_cons (by omega)]
          rfl
        rw [hone'] at h1
        have hys : ys[j]? = some (ys[j]'(by omega)) := List.getElem?_eq_getElem (by omega)
        rw [hys] at h1
        obtain ⟨z, e1, _, e3⟩ := DataW.trod_int (hint j fj hj) h1
        refine ⟨z, ?_, e3⟩
        rw [List.getElem?_eq_getElem (by omega)]
        simpa using e1
      obtain ⟨q, hq⟩ := choose_lt (α := Int) key
      refine ⟨(List.range fs.size).map q, by simp, ?_, ?_⟩
      · intro z hz
        obtain ⟨j, hj, rfl⟩ := List.mem_map.1 hz
        exact (hq j (List.mem_range.1 hj)).2
      · intro j z hz
        rw [List.getElem?_map, Option.map_eq_some_iff] at hz
        obtain ⟨j', hj', rfl⟩ := hz
        obtain ⟨hlt, hj''⟩ := List.getElem?_eq_some_iff.1 hj'
        rw [List.getElem_range] at hj''
        subst hj''
        rw [List.length_range] at hlt
        rw [← Go.Deep.add_add, hat j hlt, (hq j hlt).1])
    refine ⟨(List.range n).map g, by simp, hl, hm, ?_, ?_⟩
    · intro y hy
      obtain ⟨i, hir, rfl⟩ := List.mem_map.1 hy
      rw [List.mem_range] at hir
      exact ⟨(hg i (by omega)).1, (hg i (by omega)).2.1⟩
    · intro i y hy
      rw [List.getElem?_map, Option.map_eq_some_iff] at hy
      obtain ⟨i', hi', rfl⟩ := hy
      obtain ⟨hlt, hi''⟩ := List.getElem?_eq_some_iff.1 hi'
      rw [List.getElem_range] at hi''
      subst hi''
      rw [List.length_range] at hlt
      obtain ⟨z0, hz0⟩ : ∃ z, (g 0)[0]? = some z := ⟨(g 0)[0]'(by rw [(hg 0 (by omega)).1]; exact h0s), by simp⟩
      have h0 := addr_plain ((hg 0 (by omega)).2.2 0 z0 hz0)
      have ha : a = ⟨a.block, a.off, none⟩ := by
        have : a.add (0 * fs.size + 0) = a := by unfold Addr.add; simp
        rwa [this] at h0
      refine ⟨a.block, a.off, by rw [← ha], fun j v hv => ?_⟩
      unfold encInts at hv
      rw [List.getElem?_map, Option.map_eq_some_iff] at hv
      obtain ⟨z, hz, rfl⟩ := hv
      have hc := (hg i (by omega)).2.2 j z hz
      rw [ha] at hc
      have hadd := add_plain a.block a.off
      rw [hadd, ← Nat.add_assoc] at hc
      exact hc
end
section
variable {H : Type} {enc : TypeId × Value → H} {P : Program} {w : World} {base : Nat} {spare : Nat → Bool} {held : Bool}
theorem open_fields {r : Reach} {b0 : Nat} {t : TypeId} {fs : Array Field} {v : Value} {d : DataW H} {p : List MemPlace} (hs : P.underlying t = some (.struct fs)) (hone : oneCellFields P fs = true) (hC : P.cellsOf t = fs.size)
    (hv : Value.okWide P w r b0 t v) (h : DataW.Trod enc P w base spare held t v d p) :
    ∃ (vs : List Value) (n : Nat), v = .agg vs.toArray ∧ vs.length = fs.size ∧ ∀ (j : Nat) (f : Field), fs[j]? = some f → ∃ x y, vs[j]? = some x ∧ DataW.trod enc P w base spare held n f.type [x] = some y := by
  obtain ⟨cs, rfl, hsz⟩ := okWide_struct hs hv
  obtain ⟨fuel, hf⟩ := h
  obtain ⟨ys, n, hn, hx, hlen, hyl, hfy⟩ := DataW.trod_struct hs hf
  have hcs : cs.size = fs.size := hsz.trans hC
  refine ⟨cs.toList, n, by simp, by simpa using hcs, ?_⟩
  intro j f hj
  obtain ⟨ho, hk⟩ := hone_of hone j f hj
  have hjl : j < fs.size := (Array.getElem?_eq_some_iff.1 hj).1
  have h1 := hfy j f hj
  rw [ho, hk] at h1
  have hjc : j < cs.toList.length := by rw [Array.length_toList, hcs]; exact hjl
  have hv1 : (Value.agg cs).cells.toList = cs.toList := rfl
  have hone' : (cs.toList.drop j).take 1 = [cs.toList[j]'hjc] := by
    rw [List.drop_eq_getElem_cons hjc]
    rfl
  have hys : ys[j]? = some (ys[j]'(by omega)) := List.getElem?_eq_getElem (by omega)
  rw [hv1, hone', hys] at h1
  exact ⟨_, _, List.getElem?_eq_getElem hjc, h1⟩
theorem list4 {α : Type} {l : List α} (h : l.length = 4) : ∃ a b c d, l = [a, b, c, d] := by
  match l, h with
  | [a, b, c, d], _ => exact ⟨a, b, c, d, rfl⟩
theorem arg_cells {t e : TypeId} {fs : Array Field} {fuel : Nat} {A : Option Addr} {n c : Nat} {x : DataW H × List MemPlace} (ht : P.underlying t = some (.slice e)) (he : P.underlying e = some (.struct fs))
    (hone : oneCellFields P fs = true) (hC : P.cellsOf e = fs.size) (h0s : 0 < fs.size)
    (h : DataW.trod enc P w base spare held fuel t [.slice A n c] = some x) :
    ∃ xs : List (List Value), xs.length = n ∧ n ≤ c ∧ c ≤ maxLen ∧ (∀ y ∈ xs, y.length = fs.size ∧ ∀ (j : Nat) (f : Field) (v : Value), fs[j]? = some f → y[j]? = some v → ∃ m d, DataW.trod enc P w base spare held m f.type [v] = some d) ∧ Sl w A (fun y => y) fs.size xs := by
  rcases open_slice ht h with ⟨h0, _⟩ | ⟨a, len, cap, m, f, D, Pl, hcs, hb, hl, hm, hmm, hx, hi⟩
  · cases h0
    exact ⟨[], rfl, Nat.le_refl _, Nat.zero_le _, by simp, Sl.nil _ _ _ _⟩
  · cases hcs
    have hlm : n ≤ m := by rw [hmm]; split <;> omega
    obtain ⟨g, hg⟩ := choose_lt (α := List Value) (p := fun i y => y.length = fs.size ∧ (∀ (j : Nat) (f : Field) (v : Value), fs[j]? = some f → y[j]? = some v → ∃ m d, DataW.trod enc P w base spare held m f.type [v] = some d) ∧ ∀ j z, y[j]? = some z → w.cell? (a.add (i * fs.size + j)) = some z) (n := m) (fun i him => by
      obtain ⟨cs', hc, ht'⟩ := hi i him
      rw [hC] at hc
      obtain ⟨ys, n', hn', hy, hlen, hyl, hf⟩ := DataW.trod_struct he ht'
      obtain ⟨_, hcl, hat⟩ := World.cells?_some hc
      have hcl2 : cs'.length = fs.size := by rw [hlen]; exact hC
      refine ⟨cs', hcl2, ?_, ?_⟩
      · intro j fj v hj hv
        obtain ⟨ho, hk⟩ := hone_of hone j fj hj
        have hjl : j < fs.size := (Array.getElem?_eq_some_iff.1 hj).1
        have h1 := hf j fj hj
        rw [ho, hk] at h1
        have hjc : j < cs'.length := by omega
        have hone' : (cs'.drop j).take 1 = [cs'[j]'hjc] := by
          rw [List.drop_eq_getElem_cons hjc]
          rfl
        rw [List.getElem?_eq_getElem hjc] at hv
        have hv := Option.some.inj hv
        rw [hone', hv] at h1
        have hys : ys[j]? = some (ys[j]'(by omega)) := List.getElem?_eq_getElem (by omega)
        rw [hys] at h1
        exact ⟨_, _, h1⟩
      · intro j z hz
        obtain ⟨hjc, hz⟩ := List.getElem?_eq_some_iff.1 hz
        rw [← Go.Deep.add_add, hat j (by omega), List.getElem?_eq_getElem hjc, hz])
    refine ⟨(List.range n).map g, by simp, hl, hm, ?_, ?_⟩
    · intro y hy
      obtain ⟨i, hir, rfl⟩ := List.mem_map.1 hy
      rw [List.mem_range] at hir
      exact ⟨(hg i (by omega)).1, (hg i (by omega)).2.1⟩
    · intro i y hy
      rw [List.getElem?_map, Option.map_eq_some_iff] at hy
      obtain ⟨i', hi', rfl⟩ := hy
      obtain ⟨hlt, hi''⟩ := List.getElem?_eq_some_iff.1 hi'
      rw [List.getElem_range] at hi''
      subst hi''
      rw [List.length_range] at hlt
      obtain ⟨z0, hz0⟩ : ∃ z, (g 0)[0]? = some z := ⟨(g 0)[0]'(by rw [(hg 0 (by omega)).1]; exact h0s), by simp⟩
      have h0 := addr_plain ((hg 0 (by omega)).2.2 0 z0 hz0)
      have ha : a = ⟨a.block, a.off, none⟩ := by
        have : a.add (0 * fs.size + 0) = a := by unfold Addr.add; simp
        rwa [this] at h0
      refine ⟨a.block, a.off, by rw [← ha], fun j v hv => ?_⟩
      have hc := (hg i (by omega)).2.2 j v hv
      rw [ha] at hc
      have hadd := add_plain a.block a.off
      rw [hadd, ← Nat.add_assoc] at hc
      exact hc
def encIS (x : Int × List UInt8) : List Value := [.int .i64 x.1, strV x.2]
theorem choose_list {α β : Type} {p : α → β → Prop} : ∀ (xs : List α), (∀ x ∈ xs, ∃ y, p x y) → ∃ ys : List β, ys.length = xs.length ∧ ∀ (i : Nat) (y : β), ys[i]? = some y → ∃ x, xs[i]? = some x ∧ p x y
  | [], _ => ⟨[], rfl, fun i y h => by simp at h⟩
  | x :: xs, h => by
    obtain ⟨y, hy⟩ := h x (by simp)
    obtain ⟨ys, hl, hys⟩ := choose_list xs (fun z hz => h z (by simp [hz]))
    refine ⟨y :: ys, by simp [hl], ?_⟩
    intro i z hz
    cases i with
    | zero => simp at hz; subst hz; exact ⟨x, rfl, hy⟩
    | succ i => simp at hz; obtain ⟨u, h1, h2⟩ := hys i z hz; exact ⟨u, by simpa using h1, h2⟩
theorem arg_pairs {t e : TypeId} {f0 f1 : Field} {fuel : Nat} {A : Option Addr} {n c : Nat} {x : DataW H × List MemPlace} (ht : P.underlying t = some (.slice e)) (he : P.underlying e = some (.struct #[f0, f1]))
    (hone : oneCellFields P #[f0, f1] = true) (hC : P.cellsOf e = 2) (h0 : P.underlying f0.type = some (.int .i64)) (h1 : P.underlying f1.type = some .string)
    (h : DataW.trod enc P w base spare held fuel t [.slice A n c] = some x) :
    ∃ xs : List (Int × List UInt8), xs.length = n ∧ n ≤ c ∧ c ≤ maxLen ∧ (∀ y ∈ xs, (Lit.int .i64 y.1).wf = true ∧ y.2.length ≤ maxLen) ∧ Sl w A encIS 2 xs := by
  obtain ⟨xs, hl, hn, hc, hw, hs⟩ := arg_cells ht he hone hC (by show 0 < 2; decide) h
  obtain ⟨ys, hyl, hys⟩ := choose_list (p := fun y (z : Int × List UInt8) => y = [.int .i64 z.1, strV z.2] ∧ (Lit.int .i64 z.1).wf = true ∧ z.2.length ≤ maxLen) xs (by
    intro y hy
    obtain ⟨h2, h3⟩ := hw y hy
    match y, h2 with
    | [a, b], _ =>
      obtain ⟨m0, d0, t0⟩ := h3 0 f0 a rfl rfl
      obtain ⟨m1, d1, t1⟩ := h3 1 f1 b rfl rfl
      obtain ⟨z, e0, _, w0⟩ := DataW.trod_int h0 t0
      obtain ⟨s, e1, _, w1⟩ := DataW.trod_string h1 t1
      simp at e0 e1
      subst e0; subst e1
      exact ⟨(z, s.data.toList), by simp [strV, bs_data], w0, by simpa using w1⟩)
  refine ⟨ys, by rw [hyl, hl], hn, hc, ?_, ?_⟩
  · intro y hy
    obtain ⟨i, hi, rfl⟩ := List.getElem_of_mem hy
    obtain ⟨x, _, _, h2⟩ := hys i _ (List.getElem?_eq_getElem hi)
    exact h2
  · intro i y hy
    obtain ⟨x, hx, h2, _⟩ := hys i y hy
    obtain ⟨b, o, e, hcc⟩ := hs i x hx
    exact ⟨b, o, e, fun j v hv => hcc j v (by rw [h2]; exact hv)⟩
end
open Go.RowKit Go.Maps
structure Keep (F : Nat → Prop) (w w' : World) : Prop where
  os : w'.os = w.os
  tape : w'.tape = w.tape
  output : w'.output = w.output
  size : w.heap.size ≤ w'.heap.size
  block : ∀ k, k < w.heap.size → ¬ F k → w'.heap[k]? = w.heap[k]?
theorem Keep.refl (F : Nat → Prop) (w : World) : Keep F w w := ⟨rfl, rfl, rfl, Nat.le_refl _, fun _ _ _ => rfl⟩
theorem Keep.trans {F G : Nat → Prop} {a b c : World} (h : Keep F a b) (k : Keep G b c) (hG : ∀ x, G x → F x ∨ a.heap.size ≤ x) : Keep F a c :=
  ⟨k.os.trans h.os, k.tape.trans h.tape, k.output.trans h.output, Nat.le_trans h.size k.size, fun i hi hf => (k.block i (Nat.lt_of_lt_of_le hi h.size) (fun g => by rcases hG i g with h1 | h1; exact hf h1; omega)).trans (h.block i hi hf)⟩
theorem Keep.mono {F G : Nat → Prop} {a b : World} (h : Keep F a b) (hFG : ∀ x, F x → G x) : Keep G a b := ⟨h.os, h.tape, h.output, h.size, fun k hk hg => h.block k hk (fun hf => hg (hFG k hf))⟩
theorem Keep.below {F : Nat → Prop} {w w' : World} (h : Keep F w w') {B : Nat} (hB : B ≤ w.heap.size) (hF : ∀ x, F x → B ≤ x) : Below B w w' :=
  ⟨h.os, h.tape, h.output, h.size, fun k hk => h.block k (by omega) (fun hf => by have := hF k hf; omega)⟩
theorem Keep.of_below {F : Nat → Prop} {w w' : World} (h : Below w.heap.size w w') : Keep F w w' := ⟨h.os, h.tape, h.output, h.size, fun k hk _ => h.block k hk⟩
theorem Keep.of_grown {F : Nat → Prop} {w w' : World} {row : Option Nat} (h : w.grownBy w' row) (hr : ∀ k, row = some k → F k) : Keep F w w' :=
  ⟨h.os, h.tape, h.output, h.size, fun k hk hf => h.block k hk (fun e => hf (hr k e.symm))⟩
theorem Keep.drew {F : Nat → Prop} {a w : World} (h : Keep F a w) : Keep F a w.drew := ⟨h.os, h.tape, h.output, h.size, h.block⟩
theorem Keep.drewN {F : Nat → Prop} {a w : World} (h : Keep F a w) (n : Nat) : Keep F a (w.drewN n) := ⟨h.os, h.tape, h.output, h.size, h.block⟩
theorem Keep.alloc {F : Nat → Prop} {a w : World} (h : Keep F a w) (o : Obj) : Keep F a (w.alloc o) :=
  ⟨h.os, h.tape, h.output, Nat.le_trans h.size (by simp), fun k hk hf => (Below.heap_alloc w o k (Nat.lt_of_lt_of_le hk h.size)).trans (h.block k hk hf)⟩
theorem Keep.setCell {F : Nat → Prop} {a w : World} (h : Keep F a w) {p : Addr} (hp : F p.block ∨ a.heap.size ≤ p.block) (u : Value) : Keep F a (w.setCell p u) :=
  ⟨h.os, h.tape, h.output, Nat.le_trans h.size (by simp [World.setCell]), fun k hk hf => (Below.heap_setCell w p u k (fun e => by subst e; rcases hp with h1 | h1; exact hf h1; omega)).trans (h.block k hk hf)⟩
theorem Keep.blk {F : Nat → Prop} {w w' : World} (h : Keep F w w') {g : Nat} {o : Obj} (hb : w.heap[g]? = some o) (hf : ¬ F g) : w'.heap[g]? = some o := (h.block g (blk_lt hb) hf).trans hb
theorem own_keep {F : Nat → Prop} {w w' : World} {base : Nat} {e : TypeId} {size n : Nat} {v : Value} {xs : List Value} (h : w.ownsRow base e size v n xs) (k : Keep F w w') (hf : ∀ g, v.ownBlock = some g → ¬ F g) : w'.ownsRow base e size v n xs := by
  obtain ⟨hl, h⟩ := h
  refine ⟨hl, ?_⟩
  rcases h with h | ⟨g, cap, cur, rfl, hb, hg, r⟩
  · exact .inl h
  · exact .inr ⟨g, cap, cur, rfl, hb, k.blk hg (hf g rfl), r⟩
theorem sl1_keep {α : Type} {F : Nat → Prop} {w w' : World} {A : Option Addr} {enc : α → Value} {xs : List α} (h : Sl1 w A enc xs) (k : Keep F w w') (hf : ∀ a, A = some a → ¬ F a.block) : Sl1 w' A enc xs := by
  intro i x hx
  obtain ⟨b, o, rfl, hc⟩ := h i x hx
  exact ⟨b, o, rfl, (World.cell?_of_block (w := w) (k.block b (World.block_lt_of_cell? w _ hc) (hf _ rfl))).trans hc⟩
theorem sl_keep {α : Type} {F : Nat → Prop} {w w' : World} {A : Option Addr} {enc : α → List Value} {sz : Nat} {xs : List α} (h : Sl w A enc sz xs) (k : Keep F w w') (hf : ∀ a, A = some a → ¬ F a.block) : Sl w' A enc sz xs := by
  intro i x hx
  obtain ⟨b, o, rfl, hc⟩ := h i x hx
  exact ⟨b, o, rfl, fun j v hv => (World.cell?_of_block (w := w) (k.block b (World.block_lt_of_cell? w _ (hc j v hv)) (hf _ rfl))).trans (hc j v hv)⟩
def MapOf {α : Type} (P : Program) (K E : TypeId) (kv : α → Value) (w : World) (b n : Nat) (f : α → Option Int) : Prop :=
  ∃ D : DataW Unit, w.ownsMap P K (plainElem P E) b n D ∧ IsMap D ∧ ∀ a l, keyOf P K (kv a) = some l → Maps.has D l = (f a).isSome ∧ ∀ v, f a = some v → D.atKey l (.lit (.int .i64 0)) = .lit (.int .i64 v)
section
variable {α : Type} {P : Program} {K E : TypeId} {kv : α → Value} {w w' : World} {b n : Nat} {f : α → Option Int}
theorem MapOf.made (w : World) (P : Program) (K E : TypeId) (kv : α → Value) : MapOf P K E kv (w.alloc (.map #[] 0)) w.heap.size 0 (fun _ => none) :=
  ⟨.map [], World.ownsMap_made _ _ _ _, isMap_empty, fun a l _ => ⟨rfl, fun v h => by simp at h⟩⟩
theorem MapOf.lt (h : MapOf P K E kv w b n f) : b < w.heap.size := by obtain ⟨D, h1, _⟩ := h; exact h1.lt
theorem MapOf.kept {row : Option Nat} (h : MapOf P K E kv w b n f) (hg : w.grownBy w' row) (hne : some b ≠ row) : MapOf P K E kv w' b n f := by
  obtain ⟨D, h1, h2⟩ := h; exact ⟨D, h1.kept hg hne, h2⟩
theorem MapOf.keep {F : Nat → Prop} (h : MapOf P K E kv w b n f) (k : Keep F w w') (hf : ¬ F b) : MapOf P K E kv w' b n f := by
  obtain ⟨D, ⟨es, clock, hb, r⟩, h2⟩ := h
  exact ⟨D, ⟨es, clock, k.blk hb hf, r⟩, h2⟩
theorem MapOf.below {B : Nat} (h : MapOf P K E kv w b n f) (hb : Below B w w') (hB : b < B) : MapOf P K E kv w' b n f := by
  obtain ⟨D, ⟨es, clock, hm, r⟩, h2⟩ := h
  exact ⟨D, ⟨es, clock, blk_below hb hB hm, r⟩, h2⟩
theorem MapOf.isMap (h : MapOf P K E kv w b n f) : ∃ es clock, w.heap[b]? = some (.map es clock) := by
  obtain ⟨D, ⟨es, clock, hm, _⟩, _⟩ := h; exact ⟨es, clock, hm⟩
theorem map_look {ops : Array Oper} {rest : List Oper} {o : Oper} {a : Act} {Q : Exit → Act → World → Prop} (t : TypeId) (m x : Operand)
    (hg : o.guard = none) (hop : o.op = Op.lookup t m x true)
    (law : Keyed P K) (ht : P.underlying t = some (.map K E)) (he : P.underlying E = some (.int .i64)) (hz : (zeroValue E).run P w = .ok (.int .i64 0) w)
    (hm : a.eval m = .map (some b)) (h : MapOf P K E kv w b n f) (y : α) (hx : a.eval x = kv y) (hkey : ∃ l, keyOf P K (kv y) = some l)
    (hK : wpList P ops Q rest (a.put o.dst (.tuple #[.int .i64 ((f y).getD 0), .bool (f y).isSome])) w) : wpList P ops Q (o :: rest) a w := by
  obtain ⟨D, hown, hD, hf⟩ := h
  obtain ⟨l, hl⟩ := hkey
  obtain ⟨h1, h2⟩ := hf y l hl
  refine wpList_lookup_own_ok_int w hg m x t hop K E .i64 law ht he hz b n D hm hown _ l hx hl ?_
  intro c hc _
  rw [h1]
  cases hy : f y with
  | none =>
    rw [hy] at h1 hK
    have := atKey_of_not_has (by rw [h1]; rfl) (.lit (.int .i64 0) : DataW Unit)
    rw [this] at hc
    cases hc
    exact hK
  | some v =>
    have hc2 := h2 v hy
    rw [hc2] at hc
    cases hc
    rw [hy] at hK
    exact hK
theorem map_put [DecidableEq α] {ops : Array Oper} {rest : List Oper} {o : Oper} {a : Act} {Q : Exit → Act → World → Prop} (t : TypeId) (m x v : Operand)
    (hg : o.guard = none) (hop : o.op = Op.mapUpdate t m x v)
    (law : Keyed P K) (ht : P.underlying t = some (.map K E)) (he : P.underlying E = some (.int .i64)) (hinj : ∀ x y, kv x = kv y → x = y)
    (hm : a.eval m = .map (some b)) (h : MapOf P K E kv w b n f) (hn : n < maxLen) (y : α) (hx : a.eval x = kv y) (hkey : ∃ l, keyOf P K (kv y) = some l)
    (c : Int) (hv : a.eval v = .int .i64 c) (hc : (Lit.int .i64 c).wf = true)
    (hK : ∀ w', MapOf P K E kv w' b (n + 1) (fun x => if x = y then some c else f x) → w.grownBy w' (some b) → wpList P ops Q rest (a.put o.dst undef) w') : wpList P ops Q (o :: rest) a w := by
  obtain ⟨D, hown, hD, hf⟩ := h
  obtain ⟨l, hl⟩ := hkey
  refine wpList_mapUpdate_own w hg m x v t hop K E law ht (plainElem P E) b n D hm hown hn _ _ l hx hv hl (.lit (.int .i64 c)) [] (plainElem_int he hc) ?_
  intro w' hown' hgr
  refine hK w' ⟨_, hown', hD.put _ _, ?_⟩ hgr
  intro a' l' hl'
  by_cases e : a' = y
  · subst e
    have : l' = l := by rw [hl] at hl'; exact (Option.some.inj hl').symm
    subst this
    rw [has_put_same hD (law.key hl')]
    dsimp only
    rw [if_pos rfl]
    refine ⟨rfl, fun v hv => ?_⟩
    cases hv
    exact atKey_put_same hD (law.key hl') _ _
  · have hne : l' ≠ l := by
      intro h
      subst h
      exact e (hinj _ _ (law.inj hl' hl))
    rw [has_put_other hne]
    dsimp only
    rw [if_neg e]
    obtain ⟨h1, h2⟩ := hf a' l' hl'
    refine ⟨h1, fun v hv => ?_⟩
    rw [atKey_put_other hne]
    exact h2 v hv
end
open Go.RowKit Go.Maps Go.WideMaps
def inR (n lo hi : Int) : Bool := decide (lo ≤ n) && decide (n ≤ hi)
def mrgR (x : Int × Int) : Bool := inR x.1 0 999 && inR x.2 0 999
def txtR (x : ByteArray) : Bool := inR x.size 2 64
def splR (x : Int × ByteArray) : Bool := inR x.1 0 1073741824 && inR x.2.size 1 64
def clsR (x : Cls) : Bool := inR x.lo 0 x.hi && decide (x.hi ≤ 255) && inR x.n 0 15
def jnR (x : Jn) : Bool := inR x.a 0 15 && inR x.b 0 15
theorem within_any (n lo hi : Int) (w : World) : Calls Tryz.prog 118 #[.int .i64 n, .int .i64 lo, .int .i64 hi] w fun e w' => e = .returned (.bool (inR n lo hi)) ∧ w' = w := by
  unfold inR
  by_cases h : lo ≤ n
  · rw [decide_eq_true h]
    go_enter Tryz.func118, Tryz.ntmps118
    go_wp2_with fail
    go_ret
    exact ⟨rfl, rfl⟩
  · rw [decide_eq_false h]
    go_enter Tryz.func118, Tryz.ntmps118
    go_wp2_with fail
    go_ret
    exact ⟨rfl, rfl⟩
theorem pred_Mrg (x : Int × Int) (w : World) : Calls Tryz.prog 78 #[.agg #[.int .i64 x.1, .int .i64 x.2]] w fun e w' => e = .returned (.bool (mrgR x)) ∧ Below w.heap.size w w' := by
  obtain ⟨x1, x2⟩ := x
  have HB := Lib.hid ((Below.refl w.heap.size w).alloc (Nat.le_refl _) (.cells #[.int .i64 x1, .int .i64 x2] 55))
  unfold mrgR
  (try simp only)
  obtain ⟨b0, hb0⟩ : ∃ b, (inR x1 0 999) = b := ⟨_, rfl⟩
  rw [hb0]
  have B0 := Lib.hid hb0
  clear hb0
  obtain ⟨b1, hb1⟩ : ∃ b, (inR x2 0 999) = b := ⟨_, rfl⟩
  rw [hb1]
  have B1 := Lib.hid hb1
  clear hb1
  rcases b0 with _ | _
  ·
    go_enter Tryz.func78, Tryz.ntmps78
    go_wp2_with (go_at_call 118; (refine (within_any _ _ _ _).mono ?_); (rintro e V1 ⟨rfl, rfl⟩); (try rw [B0.out]); (try rw [B1.out]))
    go_ret
    exact ⟨rfl, HB.out⟩
  ·
    rcases b1 with _ | _
    ·
      go_enter Tryz.func78, Tryz.ntmps78
      go_wp2_with (go_at_call 118; (refine (within_any _ _ _ _).mono ?_); (rintro e V1 ⟨rfl, rfl⟩); (try rw [B0.out]); (try rw [B1.out]))
      go_ret
      exact ⟨rfl, HB.out⟩
    ·
      go_enter Tryz.func78, Tryz.ntmps78
      go_wp2_with (go_at_call 118; (refine (within_any _ _ _ _).mono ?_); (rintro e V1 ⟨rfl, rfl⟩); (try rw [B0.out]); (try rw [B1.out]))
      go_ret
      exact ⟨rfl, HB.out⟩
theorem pred_Txt (x : ByteArray) (w : World) : Calls Tryz.prog 80 #[.string x] w fun e w' => e = .returned (.bool (txtR x)) ∧ Below w.heap.size w w' := by
  have HB := Lib.hid (Below.refl w.heap.size w)
  unfold txtR
  (try simp only)
  obtain ⟨b0, hb0⟩ : ∃ b, (inR x.size 2 64) = b := ⟨_, rfl⟩
  rw [hb0]
  have B0 := Lib.hid hb0
  clear hb0
  rcases b0 with _ | _
  ·
    go_enter Tryz.func80, Tryz.ntmps80
    go_wp2_with (go_at_call 118; (refine (within_any _ _ _ _).mono ?_); (rintro e V1 ⟨rfl, rfl⟩); (try rw [B0.out]))
    go_ret
    exact ⟨rfl, HB.out⟩
  ·
    go_enter Tryz.func80, Tryz.ntmps80
    go_wp2_with (go_at_call 118; (refine (within_any _ _ _ _).mono ?_); (rintro e V1 ⟨rfl, rfl⟩); (try rw [B0.out]))
    go_ret
    exact ⟨rfl, HB.out⟩
theorem pred_Spl (x : Int × ByteArray) (w : World) : Calls Tryz.prog 82 #[.agg #[.int .i64 x.1, .string x.2]] w fun e w' => e = .returned (.bool (splR x)) ∧ Below w.heap.size w w' := by
  obtain ⟨x1, x2⟩ := x
  have HB := Lib.hid ((Below.refl w.heap.size w).alloc (Nat.le_refl _) (.cells #[.int .i64 x1, .string x2] 98))
  unfold splR
  (try simp only)
  obtain ⟨b0, hb0⟩ : ∃ b, (inR x1 0 1073741824) = b := ⟨_, rfl⟩
  rw [hb0]
  have B0 := Lib.hid hb0
  clear hb0
  obtain ⟨b1, hb1⟩ : ∃ b, (inR x2.size 1 64) = b := ⟨_, rfl⟩
  rw [hb1]
  have B1 := Lib.hid hb1
  clear hb1
  rcases b0 with _ | _
  ·
    go_enter Tryz.func82, Tryz.ntmps82
    go_wp2_with (go_at_call 118; (refine (within_any _ _ _ _).mono ?_); (rintro e V1 ⟨rfl, rfl⟩); (try rw [B0.out]); (try rw [B1.out]))
    go_ret
    exact ⟨rfl, HB.out⟩
  ·
    rcases b1 with _ | _
    ·
      go_enter Tryz.func82, Tryz.ntmps82
      go_wp2_with (go_at_call 118; (refine (within_any _ _ _ _).mono ?_); (rintro e V1 ⟨rfl, rfl⟩); (try rw [B0.out]); (try rw [B1.out]))
      go_ret
      exact ⟨rfl, HB.out⟩
    ·
      go_enter Tryz.func82, Tryz.ntmps82
      go_wp2_with (go_at_call 118; (refine (within_any _ _ _ _).mono ?_); (rintro e V1 ⟨rfl, rfl⟩); (try rw [B0.out]); (try rw [B1.out]))
      go_ret
      exact ⟨rfl, HB.out⟩
theorem pred_Cls (x : Cls) (w : World) : Calls Tryz.prog 84 #[.agg #[.int .i64 x.lo, .int .i64 x.hi, .int .i64 x.n]] w fun e w' => e = .returned (.bool (clsR x)) ∧ Below w.heap.size w w' := by
  obtain ⟨x1, x2, x3⟩ := x
  have HB := Lib.hid ((Below.refl w.heap.size w).alloc (Nat.le_refl _) (.cells #[.int .i64 x1, .int .i64 x2, .int .i64 x3] 132))
  unfold clsR
  (try simp only)
  obtain ⟨b0, hb0⟩ : ∃ b, (inR x1 0 x2) = b := ⟨_, rfl⟩
  rw [hb0]
  have B0 := Lib.hid hb0
  clear hb0
  obtain ⟨b2, hb2⟩ : ∃ b, (inR x3 0 15) = b := ⟨_, rfl⟩
  rw [hb2]
  have B2 := Lib.hid hb2
  clear hb2
  rcases b0 with _ | _
  ·
    go_enter Tryz.func84, Tryz.ntmps84
    go_wp2_with (go_at_call 118; (refine (within_any _ _ _ _).mono ?_); (rintro e V1 ⟨rfl, rfl⟩); (try rw [B0.out]); (try rw [B2.out]))
    go_ret
    exact ⟨rfl, HB.out⟩
  ·
    by_cases g1 : x2 ≤ 255
    ·
      rw [decide_eq_true g1]
      rcases b2 with _ | _
      ·
        go_enter Tryz.func84, Tryz.ntmps84
        go_wp2_with (go_at_call 118; (refine (within_any _ _ _ _).mono ?_); (rintro e V1 ⟨rfl, rfl⟩); (try rw [B0.out]); (try rw [B2.out]))
        go_ret
        exact ⟨rfl, HB.out⟩
      ·
        go_enter Tryz.func84, Tryz.ntmps84
        go_wp2_with (go_at_call 118; (refine (within_any _ _ _ _).mono ?_); (rintro e V1 ⟨rfl, rfl⟩); (try rw [B0.out]); (try rw [B2.out]))
        go_ret
        exact ⟨rfl, HB.out⟩
    ·
      rw [decide_eq_false g1]
      go_enter Tryz.func84, Tryz.ntmps84
      go_wp2_with (go_at_call 118; (refine (within_any _ _ _ _).mono ?_); (rintro e V1 ⟨rfl, rfl⟩); (try rw [B0.out]); (try rw [B2.out]))
      go_ret
      exact ⟨rfl, HB.out⟩
theorem pred_Jns (x : Jn) (w : World) : Calls Tryz.prog 86 #[.agg #[.int .i64 x.a, .int .i64 x.b]] w fun e w' => e = .returned (.bool (jnR x)) ∧ Below w.heap.size w w' := by
  obtain ⟨x1, x2⟩ := x
  have HB := Lib.hid ((Below.refl w.heap.size w).alloc (Nat.le_refl _) (.cells #[.int .i64 x1, .int .i64 x2] 133))
  unfold jnR
  (try simp only)
  obtain ⟨b0, hb0⟩ : ∃ b, (inR x1 0 15) = b := ⟨_, rfl⟩
  rw [hb0]
  have B0 := Lib.hid hb0
  clear hb0
  obtain ⟨b1, hb1⟩ : ∃ b, (inR x2 0 15) = b := ⟨_, rfl⟩
  rw [hb1]
  have B1 := Lib.hid hb1
  clear hb1
  rcases b0 with _ | _
  ·
    go_enter Tryz.func86, Tryz.ntmps86
    go_wp2_with (go_at_call 118; (refine (within_any _ _ _ _).mono ?_); (rintro e V1 ⟨rfl, rfl⟩); (try rw [B0.out]); (try rw [B1.out]))
    go_ret
    exact ⟨rfl, HB.out⟩
  ·
    rcases b1 with _ | _
    ·
      go_enter Tryz.func86, Tryz.ntmps86
      go_wp2_with (go_at_call 118; (refine (within_any _ _ _ _).mono ?_); (rintro e V1 ⟨rfl, rfl⟩); (try rw [B0.out]); (try rw [B1.out]))
      go_ret
      exact ⟨rfl, HB.out⟩
    ·
      go_enter Tryz.func86, Tryz.ntmps86
      go_wp2_with (go_at_call 118; (refine (within_any _ _ _ _).mono ?_); (rintro e V1 ⟨rfl, rfl⟩); (try rw [B0.out]); (try rw [B1.out]))
      go_ret
      exact ⟨rfl, HB.out⟩
section
variable {P : Program} {ops : Array Oper} {Q : Exit → Act → World → Prop} {md : Region.Mode} {S : World → Prop} {D : Nat}
def wpAnyG (P : Program) (md : Region.Mode) (ops : Array Oper) (Q : Exit → Act → World → Prop) (S : World → Prop) (D : Nat) : Nat → Array Bool → Act → World → Prop
  | 0, listed, a, w => Region.ready md ops listed = [] ∧ Q .normal a w
  | fuel + 1, listed, a, w =>
    (Region.ready md ops listed = [] → Q .normal a w) ∧
    ∀ i ∈ Region.ready md ops listed, wpOp P ops Q i (fun a' w' => (i = D ∨ S w') ∧ wpAnyG P md ops Q S D fuel (listed.setIfInBounds i true) a' w') a w
theorem wpAny_of_G : ∀ (fuel : Nat) (listed : Array Bool) (a : Act) (w : World), wpAnyG P md ops Q S D fuel listed a w → wpAny P md ops Q fuel listed a w
  | 0, _, _, _, h => h
  | fuel + 1, _, _, _, h => ⟨h.1, fun i hi => wpOp_mono (fun a' w' h' => wpAny_of_G fuel _ a' w' h'.2) (h.2 i hi)⟩
theorem wpAnyG_first {i : Nat} {oi : Oper} {v : Value} (hi : ops[i]? = some oi) (hsel : ∀ (j : Nat) (o : Oper) cs b, ops[j]? = some o → o.op ≠ .select cs b)
    (hQ : ∀ c a w, Q (.panic c) (a.put oi.dst v) w → Q (.panic c) a w) (hiD : i ≠ D) (hD : Region.waitsFor md ops D i = true) :
    ∀ (fuel : Nat) (listed : Array Bool) (a : Act) (w : World),
      (∀ j oj, ops[j]? = some oj → j ≠ i → listed.getD j true = false → (∀ e ∈ oj.after, Region.binds md e = true → e.on ≠ i) → oi.apart ops oj = true) →
      i ∈ Region.ready md ops listed → YieldsIf P ops S oi v a → S w →
      wpAnyG P md ops Q S D fuel (listed.setIfInBounds i true) (a.put oi.dst v) w → wpAnyG P md ops Q S D (fuel + 1) listed a w := by
  intro fuel
  induction fuel with
  | zero =>
    intro listed a w _ hr hy hS H
    refine ⟨fun h => (by rw [h] at hr; cases hr), fun j hj => ?_⟩
    by_cases hji : j = i
    · subst hji; exact hy.wpOp hi hS ⟨Or.inr hS, H⟩
    · have := ready_mono hj hji
      rw [H.1] at this
      cases this
  | succ fuel ih =>
    intro listed a w hfree hr hy hS H
    refine ⟨fun h => (by rw [h] at hr; cases hr), fun j hj => ?_⟩
    by_cases hji : j = i
    · subst hji; exact hy.wpOp hi hS ⟨Or.inr hS, H⟩
    · have h1 := H.2 j (ready_mono hj hji)
      obtain ⟨hjun, oj, hoj, hall⟩ := mem_ready.1 hj
      have hnot : ∀ e ∈ oj.after, Region.binds md e = true → e.on ≠ i := by
        intro e he hb heq
        have h1 := hall e he hb
        have h0 := (mem_ready.1 hr).1
        rw [heq] at h1
        rcases Nat.lt_or_ge i listed.size with h' | h'
        · simp [h'] at h0 h1; rw [h0] at h1; cases h1
        · simp [Array.getElem?_eq_none h'] at h1
      have hjD : j ≠ D := by
        intro e
        obtain ⟨od, hod, x, hx, hb, hxi⟩ := Region.waitsFor_spec hD
        subst e
        rw [hoj] at hod
        cases hod
        exact hnot x hx hb hxi
      have h2 := wpOp_putIf hoj (hfree j oj hoj hji hjun hnot) (fun cs b => hsel i oi cs b hi) (fun cs b => hsel j oj cs b hoj) hQ hy h1
      have hfree' : ∀ k ok, ops[k]? = some ok → k ≠ i → (listed.setIfInBounds j true).getD k true = false →
          (∀ e ∈ ok.after, Region.binds md e = true → e.on ≠ i) → oi.apart ops ok = true := by
        intro k ok hk hki hun hno
        refine hfree k ok hk hki ?_ hno
        by_cases hjk : j = k
        · subst hjk; exact hjun
        · rw [getD_set_ne true hjk] at hun; exact hun
      refine wpOp_mono (fun a' w' h3 => ⟨h3.2.1, ?_⟩) h2
      refine ih (listed.setIfInBounds j true) a' w' hfree' (ready_mono hr (Ne.symm hji)) h3.1 (h3.2.1.resolve_left hjD) ?_
      rw [Array.setIfInBounds_comm _ _ hji]
      exact h3.2.2
theorem wpAnyG_takeD {i d : Nat} {oi : Oper} {v : Value} {fuel : Nat} {listed : Array Bool} {tmps : Array Value} {df : List Deferred} {w : World}
    (hi : ops[i]? = some oi) (hd : oi.dst = some d) (hiD : (Region.waitsFor md ops D i && !(i == D)) = true)
    (hs : Region.noSelect ops = true) (hf : Region.free md ops listed i = true) (hr : (Region.ready md ops listed).contains i = true)
    (hQ : ∀ c a w, Q (.panic c) (a.put oi.dst v) w → Q (.panic c) a w) (hy : YieldsIf P ops S oi v ⟨tmps, df⟩) (hS : S w)
    (h : wpAnyG P md ops Q S D fuel (listed.setIfInBounds i true) ⟨tmps.setIfInBounds d v, df⟩ w) : wpAnyG P md ops Q S D (fuel + 1) listed ⟨tmps, df⟩ w := by
  simp only [Bool.and_eq_true, Bool.not_eq_true', beq_eq_false_iff_ne, ne_eq] at hiD
  refine wpAnyG_first hi (Region.noSelect_spec hs) hQ hiD.2 hiD.1 fuel listed _ w (Region.free_spec hi hf) (by simpa using hr) hy hS ?_
  rw [hd]
  exact h
theorem tkG (i d : Nat) (v : Value) {oi : Oper} {fuel : Nat} {listed : Array Bool} {tmps : Array Value} {df : List Deferred} {w : World}
    (hi : ops[i]? = some oi) (hS : S w) (hy : YieldsIf P ops S oi v ⟨tmps, df⟩) (h : wpAnyG P md ops Q S D fuel (listed.setIfInBounds i true) ⟨tmps.setIfInBounds d v, df⟩ w)
    (hd : oi.dst = some d := by rfl) (hiD : (Region.waitsFor md ops D i && !(i == D)) = true := by kernel_rfl) (hs : Region.noSelect ops = true := by kernel_rfl) (hf : Region.free md ops listed i = true := by kernel_rfl) (hr : (Region.ready md ops listed).contains i = true := by kernel_rfl)
    (hQ : ∀ c a w, Q (.panic c) (a.put oi.dst v) w → Q (.panic c) a w := by exact fun _ _ _ h => h) : wpAnyG P md ops Q S D (fuel + 1) listed ⟨tmps, df⟩ w := wpAnyG_takeD hi hd hiD hs hf hr hQ hy hS h
theorem wpAnyG_one {i : Nat} {o : Oper} {fuel : Nat} {listed : Array Bool} {a : Act} {w : World} (hr : Region.ready md ops listed = [i]) (ho : ops[i]? = some o)
    (hw : Region.wanted o (yielded ops a.tmps) = true)
    (h : ∀ K' : Act → World → Prop, Shut (∀ a w, S w → (S w → wpAnyG P md ops Q S D fuel (listed.setIfInBounds i true) a w) → K' a w) → Oper.wp P o a w K' Q) :
    wpAnyG P md ops Q S D (fuel + 1) listed a w := by
  refine ⟨fun h0 => (by rw [hr] at h0; cases h0), fun j hj => ?_⟩
  rw [hr] at hj
  have : j = i := by simpa using hj
  subst this
  refine wpOp_step ho (fun K' hK => ?_)
  rw [if_pos hw]
  exact h K' (fun a w hS hW => hK a w ⟨Or.inr hS, hW hS⟩)
theorem wpAnyG_last {o : Oper} {fuel : Nat} {listed : Array Bool} {a : Act} {w : World} (hr : Region.ready md ops listed = [D]) (ho : ops[D]? = some o)
    (hw : Region.wanted o (yielded ops a.tmps) = true)
    (h : ∀ K' : Act → World → Prop, Shut (∀ a w, wpAnyG P md ops Q S D fuel (listed.setIfInBounds D true) a w → K' a w) → Oper.wp P o a w K' Q) :
    wpAnyG P md ops Q S D (fuel + 1) listed a w := by
  refine ⟨fun h0 => (by rw [hr] at h0; cases h0), fun j hj => ?_⟩
  rw [hr] at hj
  have : j = D := by simpa using hj
  subst this
  refine wpOp_step ho (fun K' hK => ?_)
  rw [if_pos hw]
  exact h K' (fun a w hW => hK a w ⟨Or.inl rfl, hW⟩)
theorem wpAnyG_two {i j : Nat} {oi oj : Oper} {fuel : Nat} {listed : Array Bool} {a : Act} {w : World} (hr : Region.ready md ops listed = [i, j]) (hoi : ops[i]? = some oi) (hoj : ops[j]? = some oj)
    (hwi : Region.wanted oi (yielded ops a.tmps) = true) (hwj : Region.wanted oj (yielded ops a.tmps) = true)
    (hi : ∀ K' : Act → World → Prop, Shut (∀ a w, S w → (S w → wpAnyG P md ops Q S D fuel (listed.setIfInBounds i true) a w) → K' a w) → Oper.wp P oi a w K' Q)
    (hj : ∀ K' : Act → World → Prop, Shut (∀ a w, S w → (S w → wpAnyG P md ops Q S D fuel (listed.setIfInBounds j true) a w) → K' a w) → Oper.wp P oj a w K' Q) :
    wpAnyG P md ops Q S D (fuel + 1) listed a w := by
  refine ⟨fun h0 => (by rw [hr] at h0; cases h0), fun k hk => ?_⟩
  rw [hr] at hk
  have : k = i ∨ k = j := by simpa using hk
  rcases this with rfl | rfl
  · refine wpOp_step hoi (fun K' hK => ?_)
    rw [if_pos hwi]
    exact hi K' (fun a w hS hW => hK a w ⟨Or.inr hS, hW hS⟩)
  · refine wpOp_step hoj (fun K' hK => ?_)
    rw [if_pos hwj]
    exact hj K' (fun a w hS hW => hK a w ⟨Or.inr hS, hW hS⟩)
theorem wpAnyG_done {listed : Array Bool} {a : Act} {w : World} (hr : Region.ready md ops listed = []) (h : Q .normal a w) :
    ∀ fuel, wpAnyG P md ops Q S D fuel listed a w
  | 0 => ⟨hr, h⟩
  | _ + 1 => ⟨fun _ => h, by rw [hr]; simp⟩
theorem wp_region_G {id : Nat} {a : Act} {w : World} (hm : P.follows .mixedOrders = true) (hS : S w.drew)
    (h : S w.drew → wpAnyG P .any ops Q S D ops.size (Array.replicate ops.size false) a w.drew) : (Code.region id ops true).wp P Q a w :=
  wp_region_any hm (wpAny_of_G _ _ _ _ (h hS))
end
theorem wp_app_one {P : Program} {w : World} {o : Oper} {a : Act} {K : Act → World → Prop} {Q : Exit → Act → World → Prop} (base : Nat) (t e : TypeId) (z : Value) (size bytes : Nat) (news : List Value) (c : Nat) (s x : Operand)
    (ho : o.op = .call { callee := .builtin .append, args := #[s, x], argTypes := #[t, t] })
    (ht : P.underlying t = some (.slice e)) (hinfo : (P.info? e).map (fun i => (i.zero, i.size, i.bytes)) = some (some z, size, bytes)) (hzs : z.cells.size = size) (hsz : 0 < size)
    (v : Value) (n : Nat) (xs : List Value) (hs : a.eval s = v) (g : Nat) (hg : w.heap.size = g) (hx : a.eval x = .slice (some ⟨g, 0, none⟩) 1 c) (hl : news.length = size) (h1 : ∀ u ∈ news, u.oneCell' = true)
    (hown : w.ownsRow base e size v n xs) (hbytes : (n + 1) * bytes ≤ 140737488355328) (h63 : n < 9000000000000000000) (hbase : base ≤ w.heap.size)
    (h : ∀ v' w', w'.ownsRow base e size v' (n + 1) (xs ++ news) → w.grownBy w' v.ownBlock → (v'.ownBlock = v.ownBlock ∨ ∃ g, v'.ownBlock = some g ∧ w.heap.size ≤ g) → K (a.put o.dst v') w') : Oper.wp P o a (w.alloc (.cells news.toArray e)) K Q := by
  subst hg
  obtain ⟨i, hi, hz0, hz1, hz2⟩ := info_parts hinfo
  have hadd : ∀ j, (⟨w.heap.size, 0, none⟩ : Addr).add j = ⟨w.heap.size, j, none⟩ := by intro j; unfold Addr.add; split <;> simp_all
  obtain ⟨v', w', hr, h2, h3, _, h5⟩ := run_append_own_at (P := P) (w.alloc (.cells news.toArray e)) base t o.type e i z size bytes ht hi hz0 hz1 hz2 hzs hsz v n xs (hown.alloc _) ⟨w.heap.size, 0, none⟩ 1 c news (by rw [hl]; omega)
    (by intro j u hu; rw [hadd, blk_cell (blk_new w _) j]; simpa using hu) h1 (by unfold maxLen; omega) hbytes (by simp; omega)
  unfold Oper.wp execOp
  simp only [ho, resolve, invoke, builtin, Sem.run_bind, Sem.run_pure, Result.andThen_ok, List.map_toArray, List.map_cons, List.map_nil, hs, hx, hr]
  refine h v' w' h2 ?_ ?_
  · have h0 := World.grownBy_alloc w (.cells news.toArray e) v.ownBlock
    exact ⟨h3.os.trans h0.os, h3.tape.trans h0.tape, h3.output.trans h0.output, Nat.le_trans h0.size h3.size, fun k hk hne => (h3.block k (by have := h0.size; omega) hne).trans (h0.block k hk hne)⟩
  · rcases h5 with h5 | h5
    · exact .inl h5
    · exact .inr ⟨_, h5, by simp⟩
theorem wp_app_at {P : Program} {w : World} {o : Oper} {a : Act} {K : Act → World → Prop} {Q : Exit → Act → World → Prop} (base : Nat) (t e : TypeId) (z : Value) (size bytes : Nat) (news : List Value) (c g : Nat) (s x : Operand)
    (ho : o.op = .call { callee := .builtin .append, args := #[s, x], argTypes := #[t, t] })
    (ht : P.underlying t = some (.slice e)) (hinfo : (P.info? e).map (fun i => (i.zero, i.size, i.bytes)) = some (some z, size, bytes)) (hzs : z.cells.size = size) (hsz : 0 < size)
    (v : Value) (n : Nat) (xs : List Value) (hs : a.eval s = v) (hx : a.eval x = .slice (some ⟨g, 0, none⟩) 1 c) (hl : news.length = size) (h1 : ∀ u ∈ news, u.oneCell' = true)
    (hblk : w.heap[g]? = some (.cells news.toArray e))
    (hown : w.ownsRow base e size v n xs) (hbytes : (n + 1) * bytes ≤ 140737488355328) (h63 : n < 9000000000000000000) (hbase : base ≤ w.heap.size)
    (h : ∀ v' w', w'.ownsRow base e size v' (n + 1) (xs ++ news) → w.grownBy w' v.ownBlock → (v'.ownBlock = v.ownBlock ∨ ∃ g, v'.ownBlock = some g ∧ w.heap.size ≤ g) → K (a.put o.dst v') w') : Oper.wp P o a w K Q := by
  obtain ⟨i, hi, hz0, hz1, hz2⟩ := info_parts hinfo
  have hadd : ∀ j, (⟨g, 0, none⟩ : Addr).add j = ⟨g, j, none⟩ := by intro j; unfold Addr.add; split <;> simp_all
  obtain ⟨v', w', hr, h2, h3, _, h5⟩ := run_append_own_at (P := P) w base t o.type e i z size bytes ht hi hz0 hz1 hz2 hzs hsz v n xs hown ⟨g, 0, none⟩ 1 c news (by rw [hl]; omega)
    (by intro j u hu; rw [hadd, blk_cell hblk j]; simpa using hu) h1 (by unfold maxLen; omega) hbytes hbase
  unfold Oper.wp execOp
  simp only [ho, resolve, invoke, builtin, Sem.run_bind, Sem.run_pure, Result.andThen_ok, List.map_toArray, List.map_cons, List.map_nil, hs, hx, hr]
  refine h v' w' h2 h3 ?_
  rcases h5 with h5 | h5
  · exact .inl h5
  · exact .inr ⟨_, h5, Nat.le_refl _⟩
theorem row_row_ne {w : World} {base base' e e' : TypeId} {size size' n n' : Nat} {v v' : Value} {xs xs' : List Value} (h : w.ownsRow base e size v n xs) (h' : w.ownsRow base' e' size' v' n' xs') (hne : e ≠ e') : ∀ g, v.ownBlock = some g → v'.ownBlock ≠ some g := by
  rcases h.2 with ⟨rfl, _⟩ | ⟨g, cap, cur, rfl, _, hg, _⟩
  · intro g hg; simp [Value.ownBlock] at hg
  · rcases h'.2 with ⟨rfl, _⟩ | ⟨g', cap', cur', rfl, _, hg', _⟩
    · intro g _; simp [Value.ownBlock]
    · intro k hk hk'
      simp only [Value.ownBlock, Option.some.injEq] at hk hk'
      subst hk hk'
      rw [hg] at hg'
      simp only [Option.some.injEq, Obj.cells.injEq] at hg'
      exact hne hg'.2.1
theorem wp_mapEntry {P : Program} {w w1 : World} {o : Oper} {a : Act} {K : Act → World → Prop} {Q : Exit → Act → World → Prop} {v : Value} (t : TypeId) (m x : Operand) (mv xv : Value)
    (ho : o.op = .mapEntry t m x) (hm : a.eval m = mv) (hx : a.eval x = xv) (hr : (Instr.mapEntry t mv xv).run P w = .ok v w1) (h : K (a.put o.dst v) w1) : Oper.wp P o a w K Q := by
  unfold Oper.wp execOp
  simp [ho, hm, hx, hr, Result.andThen]
  exact h
theorem wp_entryStore {P : Program} {w w1 : World} {o : Oper} {a : Act} {K : Act → World → Prop} {Q : Exit → Act → World → Prop} (t : TypeId) (m s x : Operand) (mv sv xv : Value)
    (ho : o.op = .entryStore t m s x) (hm : a.eval m = mv) (hs : a.eval s = sv) (hx : a.eval x = xv) (hr : (Instr.entryStore t mv sv xv).run P w = .ok () w1) (h : K (a.put o.dst undef) w1) : Oper.wp P o a w K Q := by
  unfold Oper.wp execOp
  simp [ho, hm, hs, hx, hr, Result.andThen]
  exact h
section
open Go.WideElems Go.ChangeShapes Go.ChangeMaps
theorem setBlock_twice {w : World} {b : Nat} {o o' : Obj} : setBlock (setBlock w b o) b o' = setBlock w b o' := by
  unfold setBlock
  simp
theorem setBlock_keep {w : World} {b : Nat} {o : Obj} : Keep (fun k => k = b) w (setBlock w b o) := by
  refine ⟨rfl, rfl, rfl, by simp [setBlock], fun k hk hne => ?_⟩
  have : b ≠ k := fun e => hne e.symm
  simp [setBlock, this]
theorem setBlock_at {w : World} {b : Nat} {o : Obj} (h : b < w.heap.size) : (setBlock w b o).heap[b]? = some o := by
  simp [setBlock, h]
theorem entry_new {α : Type} [DecidableEq α] {P : Program} {K E : TypeId} {kv : α → Value} {w : World} {b n : Nat} {f : α → Option Int} {t : TypeId}
    (law : Keyed P K) (ht : P.underlying t = some (.map K E)) (he : P.underlying E = some (.int .i64)) (hz : ∀ u : World, (zeroValue E).run P u = .ok (.int .i64 0) u) (hinj : ∀ x y, kv x = kv y → x = y)
    (h : MapOf P K E kv w b n f) (hn : n < maxLen) (y : α) (hkey : ∃ l, keyOf P K (kv y) = some l) (hf : f y = none) (c : Int) (hc : (Lit.int .i64 c).wf = true) :
    ∃ (st : Nat) (o1 o2 : Obj), (Instr.mapEntry t (.map (some b)) (kv y)).run P w = .ok (.tuple #[.int .i64 0, .int .i64 st]) (setBlock w b o1) ∧
      (∀ u : World, u.heap[b]? = some o1 → (Instr.entryStore t (.map (some b)) (.int .i64 st) (.int .i64 c)).run P u = .ok () (setBlock u b o2)) ∧
      MapOf P K E kv (setBlock w b o2) b (n + 1) (fun x => if x = y then some c else f x) := by
  obtain ⟨D, hown, hD, hfd⟩ := h
  obtain ⟨l, hl⟩ := hkey
  obtain ⟨v0, ps0, hlook, _⟩ := hown.look_ok law ht (hz w) (plainElem_int he (by decide)) hl
  obtain ⟨w', hrun, hown', _⟩ := hown.store law ht hn hl (plainElem_int he hc)
  obtain ⟨es, clock, hb, F, hs, hDe⟩ := hown
  obtain ⟨s1, s2, _⟩ := F.stamped
  have hno : (Instr.findKey K (kv y) es.toList).run P w = .ok none w := by
    rcases law.find w hl es.toList (fun e he => by obtain ⟨z, hz⟩ := F.reads e he; exact ⟨_, rd_key hz⟩) with ⟨h1, _⟩ | ⟨j, e0, h1, h2, h3⟩
    · exact h1
    · exfalso
      have hhas : Maps.has D l = false := by rw [(hfd y l hl).1, hf]; rfl
      rw [hhas] at hlook
      have hj : es[j]? = some e0 := by simpa using h2
      simp [Instr.lookup, run_underlying ht, MapKept.run_getObj_map hb, law.check w es.isEmpty hl, h1, Result.andThen] at hlook
  have hup : w' = setBlock w b (.map (es.push ⟨kv y, .int .i64 c, clock⟩) (clock + 1)) := by
    simp [Instr.mapUpdate, run_underlying ht, MapKept.run_getObj_map hb, law.check w false hl, hno, MapKept.run_setObj_map _ hb, Result.andThen] at hrun
    exact hrun.symm
  refine ⟨clock, .map (es.push ⟨kv y, .int .i64 0, clock⟩) (clock + 1), .map (es.push ⟨kv y, .int .i64 c, clock⟩) (clock + 1), ?_, ?_, ?_⟩
  · simp [Instr.mapEntry, run_underlying ht, MapKept.run_getObj_map hb, law.check w false hl, hno, hz, MapKept.run_setObj_map _ hb, Result.andThen, setBlock, goInt]
  · intro u hu
    have hidx : (es.push ⟨kv y, .int .i64 0, clock⟩).findIdx? (fun e => ((e.born : Nat) : Int) == ((clock : Nat) : Int)) = some es.size := by
      rw [findIdx_arr]
      refine findIdx_born (j := es.size) (e0 := ⟨kv y, .int .i64 0, clock⟩) ?_ (by simp)
      rw [Array.toList_push, List.map_append]
      refine List.nodup_append.2 ⟨s2, by simp, fun a ha c hc e => ?_⟩
      obtain ⟨x, hx, rfl⟩ := List.mem_map.1 ha
      have h3 := s1 x hx
      simp only [List.map_cons, List.map_nil, List.mem_singleton] at hc
      omega
    have hmod : (es.push ⟨kv y, .int .i64 0, clock⟩).modify es.size (fun e => { e with val := .int .i64 c }) = es.push ⟨kv y, .int .i64 c, clock⟩ := by
      apply Array.ext'
      rw [Array.toList_modify, Array.toList_push, Array.toList_push, ← Array.length_toList, modify_last]
    simp [Instr.entryStore, MapKept.run_getObj_map hu, asInt, asIntOf, hidx, hmod, MapKept.run_setObj_map _ hu, Result.andThen, setBlock]
  · rw [← hup]
    refine ⟨_, hown', hD.put _ _, ?_⟩
    intro a' l' hl'
    by_cases e : a' = y
    · subst e
      have : l' = l := by rw [hl] at hl'; exact (Option.some.inj hl').symm
      subst this
      rw [has_put_same hD (law.key hl')]
      dsimp only
      rw [if_pos rfl]
      refine ⟨rfl, fun v hv => ?_⟩
      cases hv
      exact atKey_put_same hD (law.key hl') _ _
    · have hne : l' ≠ l := by
        intro h
        subst h
        exact e (hinj _ _ (law.inj hl' hl))
      rw [has_put_other hne]
      dsimp only
      rw [if_neg e]
      obtain ⟨h1, h2⟩ := hfd a' l' hl'
      refine ⟨h1, fun v hv => ?_⟩
      rw [atKey_put_other hne]
      exact h2 v hv
end
abbrev Ent := List UInt8 × Int × Int
def baseT : List Ent := (List.range 256).map fun i => ([UInt8.ofNat i], -1, -1)
def hasT (T : List Ent) (id : Int) : Bool := decide (0 ≤ id) && decide (id < (T.length : Int))
def entT (T : List Ent) (id : Int) : Ent := T.getD id.toNat ([], -1, -1)
def findT (T : List Ent) (s : List UInt8) : Option Nat := T.findIdx? (fun e => e.1 == s)
def pairT (T : List Ent) (m : Int × Int) : Option Nat := T.findIdx? (fun e => e.2 == m && m != (-1, -1))
def longT (T : List Ent) : Nat := T.foldl (fun n e => max n e.1.length) 1
def addT (T : List Ent) (a b : Int) : Int × Int × List Ent :=
  if !(hasT T a && hasT T b) then (0, 4, T)
  else if ((entT T a).1 ++ (entT T b).1).length > 64 then (0, 3, T)
  else if T.length ≥ 1000 then (0, 5, T)
  else if (findT T ((entT T a).1 ++ (entT T b).1)).isSome then (0, 10, T)
  else (T.length, 0, T ++ [((entT T a).1 ++ (entT T b).1, a, b)])
theorem find_snoc {α : Type} (p : α → Bool) (l : List α) (x : α) : (l ++ [x]).findIdx? p = if (l.findIdx? p).isSome then l.findIdx? p else if p x then some l.length else none := by
  rw [List.findIdx?_append]
  cases h : l.findIdx? p with
  | some i => simp
  | none => cases hp : p x <;> simp [List.findIdx?_cons, hp]
theorem findT_snoc (T : List Ent) (s : List UInt8) (e : Ent) (h : findT T e.1 = none) : findT (T ++ [e]) s = if s = e.1 then some T.length else findT T s := by
  unfold findT at *
  rw [find_snoc]
  by_cases hs : s = e.1
  · subst hs
    rw [h]
    simp
  · rw [if_neg hs]
    cases hf : T.findIdx? (fun e => e.1 == s) with
    | some i => simp
    | none => simp; exact fun h => hs h.symm
theorem pairT_snoc (T : List Ent) (m : Int × Int) (e : Ent) (h : pairT T e.2 = none) (he : e.2 ≠ (-1, -1)) : pairT (T ++ [e]) m = if m = e.2 then some T.length else pairT T m := by
  unfold pairT at *
  rw [find_snoc]
  by_cases hs : m = e.2
  · subst hs
    rw [h]
    simp [he]
  · rw [if_neg hs]
    cases hf : T.findIdx? (fun e => e.2 == m && m != (-1, -1)) with
    | some i => simp
    | none => simp; exact fun h => absurd h.symm hs
theorem longT_snoc (T : List Ent) (e : Ent) : longT (T ++ [e]) = max (longT T) e.1.length := by simp [longT]
structure OkT (T : List Ent) : Prop where
  base : ∃ M, T = baseT ++ M
  small : T.length ≤ 1000
  len : ∀ e ∈ T, 0 < e.1.length ∧ e.1.length ≤ 64
  nodup : ∀ i j, i < T.length → j < T.length → (entT T (i : Nat)).1 = (entT T (j : Nat)).1 → i = j
  made : ∀ i, 256 ≤ i → i < T.length → 0 ≤ (entT T (i : Nat)).2.1 ∧ (entT T (i : Nat)).2.1 < (i : Int) ∧ 0 ≤ (entT T (i : Nat)).2.2 ∧ (entT T (i : Nat)).2.2 < (i : Int) ∧ (entT T (i : Nat)).1 = (entT T (entT T (i : Nat)).2.1).1 ++ (entT T (entT T (i : Nat)).2.2).1
theorem base_len : baseT.length = 256 := by simp [baseT]
theorem entT_nat (T : List Ent) (i : Nat) (h : i < T.length) : entT T (i : Int) = T[i] := by
  simp [entT, List.getD_eq_getElem?_getD, h]
theorem base_at (i : Nat) (h : i < 256) : baseT[i]'(by rw [base_len]; exact h) = ([UInt8.ofNat i], -1, -1) := by simp [baseT]
theorem okT_base : OkT baseT := by
  refine ⟨⟨[], by simp⟩, by simp [base_len], ?_, ?_, ?_⟩
  · intro e he
    obtain ⟨i, _, rfl⟩ := List.mem_map.1 he
    simp
  · intro i j hi hj h
    rw [entT_nat _ _ hi, entT_nat _ _ hj] at h
    rw [base_len] at hi hj
    rw [base_at i hi, base_at j hj] at h
    simp only [List.cons.injEq, and_true] at h
    have h1 : (UInt8.ofNat i).toNat = (UInt8.ofNat j).toNat := by rw [h]
    simp only [UInt8.toNat_ofNat'] at h1
    omega
  · intro i h1 h2
    rw [base_len] at h2
    omega
theorem entT_append (T : List Ent) (e : Ent) (i : Int) (h : hasT T i = true) : entT (T ++ [e]) i = entT T i := by
  simp only [hasT, Bool.and_eq_true, decide_eq_true_eq] at h
  unfold entT
  rw [List.getD_eq_getElem?_getD, List.getD_eq_getElem?_getD, List.getElem?_append_left (by omega)]
theorem entT_last (T : List Ent) (e : Ent) : entT (T ++ [e]) (T.length : Nat) = e := by
  unfold entT
  simp
theorem findT_none {T : List Ent} {s : List UInt8} (h : findT T s = none) (i : Nat) (hi : i < T.length) : (entT T (i : Nat)).1 ≠ s := by
  rw [entT_nat _ _ hi]
  unfold findT at h
  rw [List.findIdx?_eq_none_iff] at h
  have := h T[i] (List.getElem_mem hi)
  simpa using this
theorem okT_add {T : List Ent} (h : OkT T) (a b : Int) (he : (addT T a b).2.1 = 0) : OkT (addT T a b).2.2 := by
  unfold addT at *
  by_cases h1 : (!(hasT T a && hasT T b)) = true
  · rw [if_pos h1] at he; simp at he
  rw [if_neg h1] at he ⊢
  by_cases h2 : ((entT T a).1 ++ (entT T b).1).length > 64
  · rw [if_pos h2] at he; simp at he
  rw [if_neg h2] at he ⊢
  by_cases h3 : T.length ≥ 1000
  · rw [if_pos h3] at he; simp at he
  rw [if_neg h3] at he ⊢
  by_cases h4 : (findT T ((entT T a).1 ++ (entT T b).1)).isSome = true
  · rw [if_pos h4] at he; simp at he
  rw [if_neg h4]
  simp only [Bool.not_eq_true', Bool.not_eq_false, Bool.and_eq_true] at h1
  have h4' : findT T ((entT T a).1 ++ (entT T b).1) = none := by
    cases hf : findT T ((entT T a).1 ++ (entT T b).1) with
    | none => rfl
    | some i => rw [hf] at h4; simp at h4
  have ha := h1.1
  have hb := h1.2
  have ha' := ha
  have hb' := hb
  simp only [hasT, Bool.and_eq_true, decide_eq_true_eq] at ha' hb'
  obtain ⟨M, hM⟩ := h.base
  have hlen : ∀ i : Int, hasT T i = true → 0 < (entT T i).1.length := by
    intro i hi
    simp only [hasT, Bool.and_eq_true, decide_eq_true_eq] at hi
    obtain ⟨k, rfl⟩ := Int.eq_ofNat_of_zero_le hi.1
    rw [entT_nat _ _ (by omega)]
    exact (h.len _ (List.getElem_mem _)).1
  refine ⟨⟨M ++ [_], by rw [hM, List.append_assoc]⟩, by simp; omega, ?_, ?_, ?_⟩
  · intro e hm
    rcases List.mem_append.1 hm with hm | hm
    · exact h.len e hm
    · rw [List.mem_singleton] at hm
      subst hm
      refine ⟨?_, by simpa using h2⟩
      have := hlen a ha
      simp only [List.length_append]
      omega
  · intro i j hi hj hij
    simp only [List.length_append, List.length_singleton] at hi hj
    by_cases hi' : i < T.length
    · have e1 : hasT T (i : Int) = true := by simp [hasT]; omega
      rw [entT_append _ _ _ e1] at hij
      by_cases hj' : j < T.length
      · have e2 : hasT T (j : Int) = true := by simp [hasT]; omega
        rw [entT_append _ _ _ e2] at hij
        exact h.nodup i j hi' hj' hij
      · have : j = T.length := by omega
        subst this
        rw [entT_last] at hij
        exact absurd hij (findT_none h4' i hi')
    · have : i = T.length := by omega
      subst this
      rw [entT_last] at hij
      by_cases hj' : j < T.length
      · have e2 : hasT T (j : Int) = true := by simp [hasT]; omega
        rw [entT_append _ _ _ e2] at hij
        exact absurd hij.symm (findT_none h4' j hj')
      · omega
  · intro i hi1 hi2
    simp only [List.length_append, List.length_singleton] at hi2
    by_cases hi' : i < T.length
    · have e1 : hasT T (i : Int) = true := by simp [hasT]; omega
      rw [entT_append _ _ _ e1]
      obtain ⟨q1, q2, q3, q4, q5⟩ := h.made i hi1 hi'
      refine ⟨q1, q2, q3, q4, ?_⟩
      rw [entT_append _ _ _ (by simp only [hasT, Bool.and_eq_true, decide_eq_true_eq]; omega), entT_append _ _ _ (by simp only [hasT, Bool.and_eq_true, decide_eq_true_eq]; omega)]
      exact q5
    · have : i = T.length := by omega
      subst this
      rw [entT_last]
      refine ⟨ha'.1, ha'.2, hb'.1, hb'.2, ?_⟩
      simp only
      rw [entT_append _ _ _ ha, entT_append _ _ _ hb]
theorem pairT_none {T : List Ent} (h : OkT T) {a b : Int} (hn : findT T ((entT T a).1 ++ (entT T b).1) = none) (hab : (a, b) ≠ ((-1 : Int), (-1 : Int))) : pairT T (a, b) = none := by
  unfold pairT
  rw [List.findIdx?_eq_none_iff]
  intro e he
  obtain ⟨i, hi, rfl⟩ := List.getElem_of_mem he
  rw [Bool.eq_false_iff]
  intro hh
  simp only [Bool.and_eq_true, beq_iff_eq] at hh
  have he2 := hh.1
  by_cases h256 : i < 256
  · obtain ⟨M, hM⟩ := h.base
    have : T[i] = ([UInt8.ofNat i], -1, -1) := by
      have h0 : (baseT ++ M)[i]? = some ([UInt8.ofNat i], -1, -1) := by
        rw [List.getElem?_append_left (by rw [base_len]; exact h256), List.getElem?_eq_getElem (by rw [base_len]; exact h256), base_at i h256]
      rw [← hM, List.getElem?_eq_getElem hi] at h0
      exact Option.some.inj h0
    rw [this] at he2
    exact hab he2.symm
  · obtain ⟨q1, q2, q3, q4, q5⟩ := h.made i (by omega) hi
    rw [entT_nat _ _ hi, he2] at q5
    have := findT_none hn i hi
    rw [entT_nat _ _ hi] at this
    exact this q5
theorem bs_size (a : List UInt8) : (bs a).size = a.length := by simp [bs, ByteArray.size]
def pairV (m : Int × Int) : Value := .agg #[.int .i64 m.1, .int .i64 m.2]
theorem pairV_inj : ∀ x y, pairV x = pairV y → x = y := by
  intro x y h
  simp only [pairV, Value.agg.injEq, Array.mk.injEq, List.cons.injEq, Value.int.injEq, true_and, and_true] at h
  exact Prod.ext h.1 h.2
theorem strV_inj : ∀ x y, strV x = strV y → x = y := by
  intro x y h
  simp only [strV, Value.string.injEq] at h
  exact bs_inj h
theorem keyed_str : Keyed Tryz.prog 9 := string_keyed Tryz.underlying9
theorem key_str (s : List UInt8) (h : s.length ≤ maxLen) : ∃ l, keyOf Tryz.prog 9 (strV s) = some l := ⟨_, keyOf_string_mk Tryz.underlying9 (by show (bs s).size ≤ maxLen; rw [bs_size]; exact h)⟩
theorem mrg_laidOut : laidOutB Tryz.prog = true := by kernel_rfl
theorem mrg_row : (55 : TypeId) < Tryz.prog.types.size := of_decide_eq_true (by kernel_rfl)
theorem mrg_wide : (match Tryz.prog.underlying 55 with | some (.array _ _) | some (.struct _) => true | _ => false) = true := by rw [Tryz.underlying55]
theorem keyed_mrg : Keyed Tryz.prog 55 := Keyed.of_law (deep_law_laid mrg_laidOut (m := 2) (by omega) mrg_row (by kernel_rfl) mrg_wide)
theorem key_mrg (m : Int × Int) (h1 : (Lit.int .i64 m.1).wf = true) (h2 : (Lit.int .i64 m.2).wf = true) : ∃ l, keyOf Tryz.prog 55 (pairV m) = some l := by
  have hk : Tryz.prog.keyType 55 = true := by kernel_rfl
  have hc : Tryz.prog.cellsOf 55 = 2 := by kernel_rfl
  have hi : Tryz.prog.cellsOf 3 = 1 := by kernel_rfl
  obtain ⟨n, hn⟩ : ∃ n, Tryz.prog.types.size = n + 1 := Nat.exists_eq_succ_of_ne_zero (Nat.ne_of_gt (Nat.lt_of_le_of_lt (Nat.zero_le _) mrg_row))
  have h3 : ∀ d c, (Lit.int .i64 c).wf = true → Tryz.prog.keyLits (d + 1) 3 [.int .i64 c] = some [.int .i64 c] := fun d c hcw => by simp [Program.keyLits, Tryz.underlying3, hcw]
  refine ⟨.string (keyBytes [.int .i64 m.1, .int .i64 m.2]), ?_⟩
  unfold keyOf
  rw [Tryz.underlying55]
  simp only []
  rw [hk, hn]
  have hcl : (pairV m).cells.toList = [.int .i64 m.1, .int .i64 m.2] := rfl
  rw [hcl]
  unfold Program.keyLits
  rw [Tryz.underlying55]
  simp [hc, hi, h3, h1, h2, Value.formed, pairV, Tryz.underlying55]
theorem zero_int (w : World) : (zeroValue 3).run Tryz.prog w = .ok (.int .i64 0) w := by kernel_rfl
def encE (e : Ent) : List Value := [strV e.1, .int .i64 e.2.1, .int .i64 e.2.2]
structure TabIs (w : World) (base tb : Nat) (T : List Ent) (sv : Value) (mb mp : Nat) : Prop where
  blk : w.heap[tb]? = some (.cells #[sv, .map (some mb), .map (some mp), .int .i64 (longT T : Nat)] 190)
  row : w.ownsRow base 192 3 sv T.length (T.flatMap encE)
  bys : MapOf Tryz.prog 9 3 strV w mb T.length (fun s => (findT T s).map Int.ofNat)
  prs : MapOf Tryz.prog 55 3 pairV w mp T.length (fun m => (pairT T m).map Int.ofNat)
  ne : mb ≠ mp
  lt : base ≤ tb ∧ base ≤ mb ∧ base ≤ mp
def tabF (tb : Nat) (sv : Value) (mb mp : Nat) (k : Nat) : Prop := k = tb ∨ sv.ownBlock = some k ∨ k = mb ∨ k = mp
theorem TabIs.drewN {w : World} {base tb : Nat} {T : List Ent} {sv : Value} {mb mp : Nat} (h : TabIs w base tb T sv mb mp) (n : Nat) : TabIs (w.drewN n) base tb T sv mb mp := ⟨h.blk, h.row, h.bys, h.prs, h.ne, h.lt⟩
theorem TabIs.drew {w : World} {base tb : Nat} {T : List Ent} {sv : Value} {mb mp : Nat} (h : TabIs w base tb T sv mb mp) : TabIs w.drew base tb T sv mb mp := ⟨h.blk, h.row, h.bys, h.prs, h.ne, h.lt⟩
theorem TabIs.keep {F : Nat → Prop} {w w' : World} {base tb : Nat} {T : List Ent} {sv : Value} {mb mp : Nat} (h : TabIs w base tb T sv mb mp) (k : Keep F w w') (hF : ∀ x, tabF tb sv mb mp x → ¬ F x) : TabIs w' base tb T sv mb mp :=
  ⟨k.blk h.blk (hF _ (.inl rfl)), own_keep h.row k (fun g hg => hF _ (.inr (.inl hg))), h.bys.keep k (hF _ (.inr (.inr (.inl rfl)))), h.prs.keep k (hF _ (.inr (.inr (.inr rfl)))), h.ne, h.lt⟩
theorem TabIs.below {B : Nat} {w w' : World} {base tb : Nat} {T : List Ent} {sv : Value} {mb mp : Nat} (h : TabIs w base tb T sv mb mp) (hb : Below B w w') (hB : w.heap.size ≤ B) : TabIs w' base tb T sv mb mp :=
  ⟨blk_below hb (Nat.lt_of_lt_of_le (blk_lt h.blk) hB) h.blk, own_below h.row hb hB, h.bys.below hb (Nat.lt_of_lt_of_le h.bys.lt hB), h.prs.below hb (Nat.lt_of_lt_of_le h.prs.lt hB), h.ne, h.lt⟩
section
variable {w : World} {base tb : Nat} {T : List Ent} {sv : Value} {mb mp : Nat}
theorem len_tab (h : TabIs w base tb T sv mb mp) : Calls Tryz.prog 66 #[.pointer (some ⟨tb, 0, none⟩)] w fun e w' => e = .returned (.int .i64 (T.length : Nat)) ∧ w' = w := by
  obtain ⟨A, c, rfl⟩ := own_slice h.row
  have c0 := blk_cell h.blk 0
  simp only [List.getElem?_toArray, List.getElem?_cons_zero] at c0
  go_enter Tryz.func66, Tryz.ntmps66
  go_wp2
  go_ret
  exact ⟨rfl, rfl⟩
theorem has_tab (id : Int) (h : TabIs w base tb T sv mb mp) : Calls Tryz.prog 101 #[.pointer (some ⟨tb, 0, none⟩), .int .i64 id] w fun e w' => e = .returned (.bool (hasT T id)) ∧ w' = w := by
  have HT := Lib.hid h
  clear h
  go_enter Tryz.func101, Tryz.ntmps101
  by_cases h0 : 0 ≤ id
  · go_wp2_with fail
    refine (len_tab HT.out).mono ?_
    rintro e w' ⟨rfl, rfl⟩
    go_wp2_with fail
    go_ret
    exact ⟨ret_bool (by simp [hasT, h0]), rfl⟩
  · go_wp2_with fail
    go_ret
    exact ⟨ret_bool (by simp [hasT]; omega), rfl⟩
theorem ofNat_getD (o : Option Nat) : (o.map Int.ofNat).getD 0 = ((o.getD 0 : Nat) : Int) := by cases o <;> rfl
theorem pair_tab (a b : Int) (ha : (Lit.int .i64 a).wf = true) (hb : (Lit.int .i64 b).wf = true) (h : TabIs w base tb T sv mb mp) : Calls Tryz.prog 138 #[.pointer (some ⟨tb, 0, none⟩), .int .i64 a, .int .i64 b] w fun e w' => e = .returned (.tuple #[.int .i64 ((pairT T (a, b)).getD 0 : Nat), .bool (pairT T (a, b)).isSome]) ∧ w' = w := by
  have c2 := blk_cell h.blk 2
  simp only [List.getElem?_toArray, List.getElem?_cons_zero, List.getElem?_cons_succ] at c2
  have HB := Lib.hid h.prs
  clear h
  go_enter Tryz.func138, Tryz.ntmps138
  go_wp2_with (refine map_look 187 _ _ rfl rfl keyed_mrg Tryz.underlying187 Tryz.underlying3 (zero_int _) rfl HB.out (a, b) rfl (key_mrg (a, b) ha hb) ?_)
  go_ret2
  refine ⟨?_, rfl⟩
  rw [ofNat_getD]
  simp
end
def bytesT (T : List Ent) (id : Int) : List UInt8 := if hasT T id then (entT T id).1 else []
def bornT (T : List Ent) (id : Int) : Bool := hasT T id && (entT T id).2 != (-1, -1)
def parT (T : List Ent) (id : Int) : Int × Int := if bornT T id then (entT T id).2 else (0, 0)
theorem encE_len (e : Ent) : (encE e).length = 3 := rfl
theorem hasT_at {T : List Ent} {id : Int} (h : hasT T id = true) : ∃ k : Nat, id = (k : Int) ∧ ∃ hk : k < T.length, entT T id = T[k] := by
  simp only [hasT, Bool.and_eq_true, decide_eq_true_eq] at h
  obtain ⟨k, rfl⟩ := Int.eq_ofNat_of_zero_le h.1
  have hk : k < T.length := by omega
  exact ⟨k, rfl, hk, entT_nat _ _ hk⟩
section
variable {w : World} {base tb : Nat} {T : List Ent} {sv : Value} {mb mp : Nat}
theorem tab_at (h : TabIs w base tb T sv mb mp) (k : Nat) (hk : k < T.length) : ∃ b o c, sv = .slice (some ⟨b, o, none⟩) T.length c ∧
    w.cell? ⟨b, o + k * 3, none⟩ = some (strV T[k].1) ∧ w.cell? ⟨b, o + k * 3 + 1, none⟩ = some (.int .i64 T[k].2.1) ∧ w.cell? ⟨b, o + k * 3 + 2, none⟩ = some (.int .i64 T[k].2.2) := by
  have hr := h.row
  obtain ⟨A, c, rfl⟩ := own_slice hr
  obtain ⟨b, o, rfl, hc⟩ := (own_sl encE_len hr (by decide)).at k hk
  exact ⟨b, o, c, rfl, hc 0 _ rfl, hc 1 _ rfl, hc 2 _ rfl⟩
theorem bytes_tab (id : Int) (h : TabIs w base tb T sv mb mp) : Calls Tryz.prog 97 #[.pointer (some ⟨tb, 0, none⟩), .int .i64 id] w fun e w' => e = .returned (.tuple #[strV (bytesT T id), .bool (hasT T id)]) ∧ w' = w := by
  have HH := Lib.hid (has_tab id h)
  cases hh : hasT T id with
  | false =>
    have HF := Lib.hid hh
    clear hh h
    go_enter Tryz.func97, Tryz.ntmps97
    go_wp2_with fail
    refine HH.out.mono ?_
    rintro e w' ⟨rfl, rfl⟩
    rw [HF.out]
    go_wp2_with fail
    go_ret2
    refine ⟨?_, rfl⟩
    simp only [bytesT, HF.out]
    rfl
  | true =>
    have HF := Lib.hid hh
    obtain ⟨k, rfl, hk, hE⟩ := hasT_at hh
    obtain ⟨b, o, c, rfl, g0, _, _⟩ := tab_at h k hk
    have c0 := blk_cell h.blk 0
    simp only [List.getElem?_toArray, List.getElem?_cons_zero] at c0
    have HE := Lib.hid hE
    unfold strV at g0
    obtain ⟨x, hx⟩ : ∃ x, bs T[k].1 = x := ⟨_, rfl⟩
    rw [hx] at g0
    have HX := Lib.hid hx
    clear hh h hE hx
    go_enter Tryz.func97, Tryz.ntmps97
    go_wp2_with fail
    refine HH.out.mono ?_
    rintro e w' ⟨rfl, rfl⟩
    rw [HF.out]
    go_wp2_with fail
    go_ret2
    refine ⟨?_, rfl⟩
    simp only [bytesT, HF.out, if_true, HE.out, strV, HX.out]
    rfl
theorem ret_cell {P : Program} {fn : Func} {R : Ending → World → Prop} {tmps : Array Value} {w : World} {r : Nat} {x y : Int} {u : Bool} {p q : Tmp} {ty : TypeId} {t0 t1 : TypeId}
    (h : fn.results = #[.cell p ty, .tmp q]) (hp : tmps.getD p undef = .pointer (some ⟨r, 0, none⟩)) (hq : tmps.getD q undef = .bool u)
    (hl : (loadVar ty ⟨r, 0, none⟩).run P w = .ok (.agg #[.int .i64 x, .int .i64 y]) w)
    (hR : R (.returned (.tuple #[pairV (x, y), .bool u])) w) : bodyPost P fn R .ret ⟨tmps, []⟩ w := by
  refine bodyPost_ret (v := .tuple #[pairV (x, y), .bool u]) ?_ rfl hR
  rw [results_cell_tmp h, hp, hq]
  simp [asAddr, hl, Result.andThen, pairV]
theorem load_mrg {w : World} {r : Nat} {x y : Int} (h : w.heap[r]? = some (.cells #[.int .i64 x, .int .i64 y] 55)) : (loadVar 55 ⟨r, 0, none⟩).run Tryz.prog w = .ok (.agg #[.int .i64 x, .int .i64 y]) w := by
  have n0 := blk_cell h 0
  have n1 := blk_cell h 1
  simp only [List.getElem?_toArray, List.getElem?_cons_zero, List.getElem?_cons_succ] at n0 n1
  simp [go_sem, n0, n1]
theorem par_tab (id : Int) (h : TabIs w base tb T sv mb mp) : Calls Tryz.prog 57 #[.pointer (some ⟨tb, 0, none⟩), .int .i64 id] w fun e w' => e = .returned (.tuple #[pairV (parT T id), .bool (bornT T id)]) ∧ Below w.heap.size w w' := by
  have hb0 := (Below.refl w.heap.size w).alloc (Nat.le_refl _) (.cells #[.int .i64 0, .int .i64 0] 55)
  have HH := Lib.hid (has_tab id (h.below hb0 (Nat.le_refl _)))
  have HB := Lib.hid hb0
  clear hb0
  cases hh : hasT T id with
  | false =>
    have HF := Lib.hid hh
    have HN := Lib.hid (show bornT T id = false by simp [bornT, hh])
    clear hh h
    go_enter Tryz.func57, Tryz.ntmps57
    go_wp2_with fail
    refine HH.out.mono ?_
    rintro e w' ⟨rfl, rfl⟩
    rw [HF.out]
    clear HH
    go_wp2_with fail
    refine bodyPost_ret (v := .tuple #[pairV (0, 0), .bool false]) (by simp [results, Tryz.results57, go_sem, pairV]) rfl ⟨?_, HB.out⟩
    rw [HN.out]
    simp only [parT, HN.out]
    rfl
  | true =>
    have HF := Lib.hid hh
    obtain ⟨k, rfl, hk, hE⟩ := hasT_at hh
    obtain ⟨b, o, c, rfl, _, g1o, g2o⟩ := tab_at h k hk
    have c0o := blk_cell h.blk 0
    simp only [List.getElem?_toArray, List.getElem?_cons_zero] at c0o
    have hne : b ≠ w.heap.size := Nat.ne_of_lt (World.block_lt_of_cell? w _ g1o)
    have g1 := below_cell HB.out (Nat.le_refl _) g1o
    have g2 := below_cell HB.out (Nat.le_refl _) g2o
    have c0 := below_cell HB.out (Nat.le_refl _) c0o
    have bnew := blk_new w (.cells #[.int .i64 0, .int .i64 0] 55)
    have n0 := blk_cell bnew 0
    have n1 := blk_cell bnew 1
    have z0 := blk_froz bnew 0
    have z1 := blk_froz bnew 1
    simp only [List.getElem?_toArray, List.getElem?_cons_zero, List.getElem?_cons_succ] at n0 n1
    have HN := Lib.hid (show bornT T (k : Int) = (T[k].2 != (-1, -1)) by simp [bornT, hh, hE])
    have HE := Lib.hid hE
    obtain ⟨x, hx⟩ : ∃ x, T[k].2 = x := ⟨_, rfl⟩
    rw [hx] at g1 g2
    have HX := Lib.hid hx
    clear hh h hE hx
    obtain ⟨x, y⟩ := x
    simp only [] at g1 g2
    have HBN := Lib.hid bnew
    clear c0o g1o g2o bnew
    go_enter Tryz.func57, Tryz.ntmps57
    go_wp2_with fail
    refine HH.out.mono ?_
    rintro e w' ⟨rfl, rfl⟩
    rw [HF.out]
    clear HH
    generalize hW : w.alloc (.cells #[.int .i64 0, .int .i64 0] 55) = W at *
    generalize hr : w.heap.size = r at *
    have HR := Lib.hid hr
    clear hW hr
    cases hq : ((x, y) != ((-1 : Int), (-1 : Int))) with
    | false =>
      have HQ := Lib.hid hq
      simp only [bne_eq_false_iff_eq, Prod.mk.injEq] at hq
      obtain ⟨rfl, rfl⟩ := hq
      go_wp2_with fail
      refine ret_cell (r := r) (x := 0) (y := 0) (u := false) (t0 := 0) (t1 := 0) rfl rfl rfl (load_mrg (by exact blk_set (blk_set HBN.out 0 _) 1 _)) ⟨?_, ?_⟩
      · rw [HN.out, HX.out, HQ.out]
        simp only [parT, HN.out, HX.out, HQ.out]
        rfl
      · have hb := HB.out
        rw [← HR.out] at hb ⊢
        exact (hb.setCell (Nat.le_refl _) _).setCell (Nat.le_refl _) _
    | true =>
      have HQ := Lib.hid hq
      have hq1 : ¬ (x = -1 ∧ y = -1) := by
        rintro ⟨rfl, rfl⟩
        simp at hq
      clear hq
      go_wp2_with fail
      all_goals (first | (exfalso; omega) | skip)
      all_goals
        refine ret_cell (r := r) (x := _) (y := y) (u := true) (t0 := 0) (t1 := 0) rfl rfl rfl (load_mrg (by exact blk_set (blk_set HBN.out 0 _) 1 _)) ⟨?_, ?_⟩
        · rw [HN.out, HX.out, HQ.out]
          simp only [parT, HN.out, HX.out, HQ.out, HE.out, if_true]
          try (subst_vars; rfl)
        · have hb := HB.out
          rw [← HR.out] at hb ⊢
          exact (hb.setCell (Nat.le_refl _) _).setCell (Nat.le_refl _) _
end
theorem info_ent : (Tryz.prog.info? 192).map (fun i => (i.zero, i.size, i.bytes)) = some (some (.agg #[.string ⟨#[]⟩, .int .i64 0, .int .i64 0]), 3, 32) := by kernel_rfl
theorem wf_i64 {c : Int} (h1 : -9223372036854775808 ≤ c) (h2 : c ≤ 9223372036854775807) : (Lit.int .i64 c).wf = true := by
  have e1 : IntKind.i64.min = -9223372036854775808 := by decide
  have e2 : IntKind.i64.max = 9223372036854775807 := by decide
  simp only [Lit.wf, e1, e2, Bool.and_eq_true, decide_eq_true_eq]
  exact ⟨h1, h2⟩
theorem base_take (k : Nat) (h : k < 256) : baseT.take (k + 1) = baseT.take k ++ [([UInt8.ofNat k], -1, -1)] := by
  rw [take_snoc (by rw [base_len]; exact h), base_at k h]
theorem base_take_len (k : Nat) (h : k ≤ 256) : (baseT.take k).length = k := by rw [List.length_take, base_len]; omega
theorem base_take_find (k : Nat) (h : k < 256) : findT (baseT.take k) [UInt8.ofNat k] = none := by
  unfold findT
  rw [List.findIdx?_eq_none_iff]
  intro e he
  obtain ⟨i, hi, rfl⟩ := List.getElem_of_mem he
  rw [base_take_len k (by omega)] at hi
  rw [List.getElem_take, base_at i (by omega)]
  simp only [beq_eq_false_iff_ne, ne_eq, List.cons.injEq, and_true]
  intro e
  have h1 : (UInt8.ofNat i).toNat = (UInt8.ofNat k).toNat := by rw [e]
  simp only [UInt8.toNat_ofNat'] at h1
  omega
theorem base_pair (m : Int × Int) : pairT baseT m = none := by
  unfold pairT
  rw [List.findIdx?_eq_none_iff]
  intro e he
  obtain ⟨i, _, rfl⟩ := List.mem_map.1 he
  by_cases h : m = (-1, -1)
  · subst h; simp
  · have : (((-1 : Int), (-1 : Int)) == m) = false := by rw [beq_eq_false_iff_ne]; exact fun e => h e.symm
    simp [this]
theorem base_long : longT baseT = 1 := by
  have : ∀ l : List Nat, ((l.map fun i => (([UInt8.ofNat i], -1, -1) : Ent)).foldl (fun n e => max n e.1.length) 1) = 1 := by
    intro l
    induction l with
    | nil => rfl
    | cons a l ih => simpa using ih
  exact this _
theorem MapOf.mono {α : Type} {P : Program} {K E : TypeId} {kv : α → Value} {w : World} {b n m : Nat} {f : α → Option Int} (h : MapOf P K E kv w b n f) (hn : n ≤ m) : MapOf P K E kv w b m f := by
  obtain ⟨D, ⟨es, clock, hb, F, hs, hD⟩, h2⟩ := h
  exact ⟨D, ⟨es, clock, hb, F, Nat.le_trans hs hn, hD⟩, h2⟩
theorem MapOf.congr {α : Type} {P : Program} {K E : TypeId} {kv : α → Value} {w : World} {b n : Nat} {f g : α → Option Int} (h : MapOf P K E kv w b n f) (hg : ∀ a, f a = g a) : MapOf P K E kv w b n g := by
  have : f = g := funext hg
  rwa [← this]
theorem row_ne {w : World} {base e : TypeId} {size n : Nat} {v : Value} {xs : List Value} {tb : Nat} {cs : Array Value} {t : TypeId} {fz : Nat × Nat} (h : w.ownsRow base e size v n xs) (hb : w.heap[tb]? = some (.cells cs t fz)) (hne : t ≠ e) : v.ownBlock ≠ some tb := by
  rcases h.2 with ⟨rfl, _⟩ | ⟨g, cap, cur, rfl, _, hg, _⟩
  · simp [Value.ownBlock]
  · simp only [Value.ownBlock, ne_eq, Option.some.injEq]
    rintro rfl
    rw [hb] at hg
    simp only [Option.some.injEq, Obj.cells.injEq] at hg
    exact hne hg.2.1
theorem row_ne_map {w : World} {base e : TypeId} {size n : Nat} {v : Value} {xs : List Value} {mb : Nat} {es : Array MapEntry} {c : Nat} (h : w.ownsRow base e size v n xs) (hb : w.heap[mb]? = some (.map es c)) : v.ownBlock ≠ some mb := by
  rcases h.2 with ⟨rfl, _⟩ | ⟨g, cap, cur, rfl, _, hg, _⟩
  · simp [Value.ownBlock]
  · simp only [Value.ownBlock, ne_eq, Option.some.injEq]
    rintro rfl
    rw [hb] at hg
    cases hg
theorem MapOf.row_ne {α : Type} {P : Program} {K E : TypeId} {kv : α → Value} {w : World} {b m : Nat} {f : α → Option Int} {base e : TypeId} {size n : Nat} {v : Value} {xs : List Value} (h : MapOf P K E kv w b m f) (hr : w.ownsRow base e size v n xs) : v.ownBlock ≠ some b := by
  obtain ⟨es, c, hb⟩ := h.isMap
  exact row_ne_map hr hb
theorem MapOf.blk_ne {α : Type} {P : Program} {K E : TypeId} {kv : α → Value} {w : World} {b m : Nat} {f : α → Option Int} {tb : Nat} {cs : Array Value} {t : TypeId} {fz : Nat × Nat} (h : MapOf P K E kv w b m f) (hb : w.heap[tb]? = some (.cells cs t fz)) : b ≠ tb := by
  obtain ⟨es, c, hm⟩ := h.isMap
  rintro rfl
  rw [hb] at hm
  cases hm
structure BegIs (w0 w : World) (tb mb mp k : Nat) : Prop where
  ex : ∃ sv, w.heap[tb]? = some (.cells #[sv, .map (some mb), .map (some mp), .int .i64 1] 190) ∧ w.ownsRow w0.heap.size 192 3 sv k ((baseT.take k).flatMap encE)
  bys : MapOf Tryz.prog 9 3 strV w mb k (fun s => (findT (baseT.take k) s).map Int.ofNat)
  prs : MapOf Tryz.prog 55 3 pairV w mp 0 (fun _ => none)
  below : Below w0.heap.size w0 w
  ne : mb ≠ mp
  lt : w0.heap.size ≤ tb ∧ w0.heap.size ≤ mb ∧ w0.heap.size ≤ mp
theorem beg_done {w0 w : World} {tb mb mp : Nat} (h : BegIs w0 w tb mb mp 256) : ∃ sv, TabIs w w0.heap.size tb baseT sv mb mp := by
  obtain ⟨sv, h1, h2⟩ := h.ex
  have e : baseT.take 256 = baseT := by rw [List.take_of_length_le (by rw [base_len]; decide)]
  rw [e] at h2
  have h3 := h.bys
  rw [e] at h3
  refine ⟨sv, ⟨?_, ?_, ?_, ?_, h.ne, h.lt⟩⟩
  · rw [base_long]; exact h1
  · rw [base_len]; exact h2
  · rw [base_len]; exact h3
  · exact (h.prs.mono (Nat.zero_le _)).congr (fun a => by rw [base_pair]; rfl)
theorem beg_start (w : World) : BegIs w (((w.alloc (.map #[] 0)).alloc (.map #[] 0)).alloc (.cells #[.slice none 0 0, .map (some w.heap.size), .map (some (w.heap.size + 1)), .int .i64 1] 190)) (w.heap.size + 1 + 1) w.heap.size (w.heap.size + 1) 0 := by
  refine ⟨⟨.slice none 0 0, ?_, own_nil _ _ _ _⟩, ?_, ?_, ?_, by omega, by omega⟩
  · have := blk_new ((w.alloc (.map #[] 0)).alloc (.map #[] 0)) (.cells #[.slice none 0 0, .map (some w.heap.size), .map (some (w.heap.size + 1)), .int .i64 1] 190)
    simpa [size_alloc] using this
  · refine ((MapOf.made w Tryz.prog 9 3 strV).keep (F := fun _ => False) ((Keep.refl _ _).alloc _ |>.alloc _) (fun h => h)).congr (fun a => ?_)
    rfl
  · have := MapOf.made (w.alloc (.map #[] 0)) Tryz.prog 55 3 pairV
    rw [size_alloc] at this
    exact this.keep (F := fun _ => False) ((Keep.refl _ _).alloc _) (fun h => h)
  · exact (((Below.refl _ _).alloc (Nat.le_refl _) _).alloc (by simp) _).alloc (by simp; omega) _
set_option maxHeartbeats 1000000 in
theorem begin_any (w : World) : Calls Tryz.prog 55 #[] w fun e w' => ∃ tb sv mb mp, e = .returned (.pointer (some ⟨tb, 0, none⟩)) ∧ TabIs w' w.heap.size tb baseT sv mb mp ∧ Below w.heap.size w w' := by
  have hmm := @run_makeMap Tryz.prog
  have HS := Lib.hid (beg_start w)
  go_enter Tryz.func55, Tryz.ntmps55
  go_wp2_with fail
  clear hmm
  generalize hW : (((w.alloc (.map #[] 0)).alloc (.map #[] 0)).alloc (.cells #[.slice none 0 0, .map (some w.heap.size), .map (some (w.heap.size + 1)), .int .i64 1] 190)) = W0 at *
  clear hW
  obtain ⟨tb, ht⟩ : ∃ tb, w.heap.size + 1 + 1 = tb := ⟨_, rfl⟩
  obtain ⟨mp, hp⟩ : ∃ mp, w.heap.size + 1 = mp := ⟨_, rfl⟩
  obtain ⟨mb, hm⟩ : ∃ mb, w.heap.size = mb := ⟨_, rfl⟩
  have HS : Hid (BegIs w W0 tb mb mp 0) := Lib.hid (by rw [← ht, ← hp, ← hm]; exact HS.out)
  rw [ht, hp, hm]
  have HMB0 := Lib.hid hm
  have HTB : Hid (w.heap.size ≤ tb) := Lib.hid (by omega)
  clear ht hp hm
  go_loopg [8] 256 (fun n i W => ∃ k : Nat, k + n = 256 ∧ i = .int .i64 (k : Int) ∧ BegIs w W tb mb mp k)
  case atStart => exact ⟨0, rfl, rfl, HS.out⟩
  case round =>
    obtain ⟨k, hk, rfl, hW⟩ := hrel
    have HW := Lib.hid hW
    clear HS
    rename World => W
    by_cases hlt : k < 256
    · obtain ⟨sv, hbk, hrow⟩ := hW.ex
      have hfr0 := blk_froz hbk 0
      have c0 := blk_cell hbk 0
      simp only [List.getElem?_toArray, List.getElem?_cons_zero] at c0
      obtain ⟨svA, svc, rfl⟩ := own_slice hrow
      have hlt' : (k : Int) < 256 := by omega
      have hbyte : IntKind.u8.wrap (k : Int) = k := IntWalk.u8_in _ (by omega)
      have hconv : (convert 126 9 (.slice (some ⟨W.heap.size, 0, none⟩) 1 1)).run Tryz.prog (W.alloc (.cells #[.int .u8 (k : Int)] 5)) = .ok (.string (bs [UInt8.ofNat k])) (W.alloc (.cells #[.int .u8 (k : Int)] 5)) := by
        refine run_convert_bytes_back _ _ _ 5 ⟨W.heap.size, 0, none⟩ 1 [UInt8.ofNat k] Tryz.underlying126 Tryz.underlying5 Tryz.underlying9 ?_
        intro j hj
        have : j = 0 := by simpa using hj
        subst this
        rw [add_plain, blk_cell (blk_new W _) 0]
        have : k % 256 = k := by omega
        simp [this]
      obtain ⟨x, hx⟩ : ∃ x, bs [UInt8.ofNat k] = x := ⟨_, rfl⟩
      rw [hx] at hconv
      have HX := Lib.hid hx
      have hb5 := (Below.refl W.heap.size W).alloc (Nat.le_refl _) (.cells #[.int .u8 (k : Int)] 5)
      have c0 := below_cell hb5 (Nat.le_refl _) c0
      have hrow5 := own_below hrow hb5 (Nat.le_refl _)
      have hbk5 := blk_alloc hbk (.cells #[.int .u8 (k : Int)] 5)
      have hby5 := hW.bys.below hb5 hW.bys.lt
      have hpr5 := hW.prs.below hb5 hW.prs.lt
      have HB5 := Lib.hid (below_then hW.below hW.below.size hb5)
      have HNE := Lib.hid (row_ne hrow5 hbk5 (by decide))
      have HNM := Lib.hid (hby5.row_ne hrow5)
      have HNP := Lib.hid (hpr5.row_ne hrow5)
      have HMB := Lib.hid (hby5.blk_ne hbk5)
      have HMP := Lib.hid (hpr5.blk_ne hbk5)
      have HROW := Lib.hid hrow5
      have HBK := Lib.hid hbk5
      have HBY := Lib.hid hby5
      have HPR := Lib.hid hpr5
      have HLE := Lib.hid hW.below.size
      rename_i c0o
      clear c0o hx hbk hrow hrow5 hbk5 hby5 hpr5 hb5 hfr0 hW
      have HGEN := Lib.hid (show w.heap.size ≤ (W.alloc (.cells #[.int .u8 (k : Int)] 5)).heap.size by rw [size_alloc]; have := HLE.out; omega)
      go_upto_region 6 with fail
      clear hconv HLE
      generalize hW5 : W.alloc (.cells #[.int .u8 (k : Int)] 5) = W5 at *
      clear hW5
      go_wp2_with (at_builtin; refine app_one (w.heap.size) 188 192 (.agg #[.string ⟨#[]⟩, .int .i64 0, .int .i64 0]) 3 32 [_, _, _] 1 _ _ rfl rfl Tryz.underlying188 info_ent rfl (by decide) _ _ _ rfl rfl rfl (by intro u hu; simp at hu; rcases hu with rfl | rfl | rfl <;> rfl) HROW.out (by omega) (by omega) HGEN.out ?_)
      intro v' w1 hown1 hg1
      obtain ⟨A1, cA1, rfl⟩ := own_slice hown1
      have hk1 : Keep (fun g => (Value.slice svA k svc).ownBlock = some g) W5 w1 := Keep.of_grown hg1 (fun g hg => hg)
      have hbk1 := hk1.blk HBK.out HNE.out
      have hby1 := HBY.out.keep hk1 HNM.out
      have hpr1 := HPR.out.keep hk1 HNP.out
      have hb1 := HB5.out.trans (hk1.below HGEN.out (own_base HROW.out))
      have c0 := blk_cell hbk1 0
      have z0 := blk_froz hbk1 0
      simp only [List.getElem?_toArray, List.getElem?_cons_zero] at c0
      have hk2 : Keep (fun g => g = tb) w1 (w1.setCell ⟨tb, 0, none⟩ (.slice A1 (k + 1) cA1)) := Keep.setCell (F := fun g => g = tb) (p := ⟨tb, 0, none⟩) (Keep.refl _ _) (Or.inl rfl) (.slice A1 (k + 1) cA1)
      have hbk2 := blk_set hbk1 0 (.slice A1 (k + 1) cA1)
      have HROW2 := Lib.hid (own_keep hown1 hk2 (fun g hg e => row_ne hown1 hbk1 (by decide) (by rw [hg, e])))
      have HBY2 := Lib.hid (hby1.keep hk2 HMB.out)
      have HPR2 := Lib.hid (hpr1.keep hk2 HMP.out)
      have HB2 := Lib.hid (hb1.setCell (p := ⟨tb, 0, none⟩) HTB.out (.slice A1 (k + 1) cA1))
      have c1 := blk_cell hbk2 1
      have HBK2 := Lib.hid hbk2
      simp only [List.setIfInBounds_toArray, List.set_cons_zero, List.getElem?_toArray, List.getElem?_cons_zero, List.getElem?_cons_succ] at c1 HBK2
      rename_i c0o
      clear hown1 hg1 hk1 hbk1 hby1 hpr1 hb1 hk2 hbk2 HBY HPR HBK HROW HNE HNM HNP HGEN HB5 c0o
      go_upto_region 7 with fail
      generalize hw2 : w1.setCell ⟨tb, 0, none⟩ (.slice A1 (k + 1) cA1) = w2 at *
      clear hw2 c0 z0
      have hxs : strV [UInt8.ofNat k] = .string x := by unfold strV; rw [HX.out]
      have hwf : (Lit.int .i64 (k : Int)).wf = true := wf_i64 (by omega) (by omega)
      have hke := key_str [UInt8.ofNat k] (by unfold maxLen; simp)
      go_wp2_with (refine map_put 186 _ _ _ rfl rfl keyed_str Tryz.underlying186 Tryz.underlying3 strV_inj rfl HBY2.out (by unfold maxLen; omega) [UInt8.ofNat k] hxs.symm hke (k : Int) rfl hwf ?_)
      intro w3 hm3 hg3
      have hk3 : Keep (fun g => g = mb) w2 w3 := Keep.of_grown hg3 (fun g hg => (Option.some.inj hg).symm)
      have HM3 := Lib.hid hm3
      have HK3 := Lib.hid hk3
      clear hm3 hg3 hk3
      go_wp2_with fail
      go_roundg (gk - 1)
      case measure => omega
      case rel =>
        have hle := HTB.out
        have hro := HROW2.out
        have hlt3 := HW.out.lt
        refine ⟨k + 1, by omega, by simp, ⟨⟨_, HK3.out.blk HBK2.out HMB.out.symm, ?_⟩, ?_, HPR2.out.keep HK3.out HW.out.ne.symm, HB2.out.trans (HK3.out.below HB2.out.size (fun g hg => by rw [hg]; exact hlt3.2.1)), HW.out.ne, hlt3⟩⟩
        · have h5 := own_keep hro HK3.out (fun g hg e => HBY2.out.row_ne hro (by rw [hg, e]))
          rw [base_take k hlt, List.flatMap_append]
          have e5 : [(([UInt8.ofNat k], -1, -1) : Ent)].flatMap encE = [Value.string x, .int .i64 (-1), .int .i64 (-1)] := by simp [encE, strV, HX.out]
          rw [e5]
          exact h5
        · refine HM3.out.congr (fun s => ?_)
          rw [base_take k hlt, findT_snoc _ _ _ (base_take_find k hlt), base_take_len k (by omega)]
          simp only []
          split <;> rfl
    · have : k = 256 := by omega
      subst this
      clear hW
      go_wp2_with fail
      go_ret
      obtain ⟨sv, h⟩ := beg_done HW.out
      exact ⟨_, sv, _, _, rfl, h, HW.out.below⟩
theorem bs_append (a b : List UInt8) : bs a ++ bs b = bs (a ++ b) := by
  apply ByteArray.ext
  simp [bs]
theorem addT_long {T : List Ent} {a b : Int} {X Y : List UInt8} (ha : hasT T a = true) (hb : hasT T b = true) (hx : (entT T a).1 = X) (hy : (entT T b).1 = Y) (h : 64 < (X ++ Y).length) : addT T a b = (0, 3, T) := by
  subst hx hy
  unfold addT
  rw [ha, hb, if_neg (by simp), if_pos h]
theorem addT_full {T : List Ent} {a b : Int} {X Y : List UInt8} (ha : hasT T a = true) (hb : hasT T b = true) (hx : (entT T a).1 = X) (hy : (entT T b).1 = Y) (h : ¬ 64 < (X ++ Y).length) (h1 : 1000 ≤ T.length) : addT T a b = (0, 5, T) := by
  subst hx hy
  unfold addT
  rw [ha, hb, if_neg (by simp), if_neg h, if_pos h1]
theorem addT_twice {T : List Ent} {a b : Int} {X Y : List UInt8} (ha : hasT T a = true) (hb : hasT T b = true) (hx : (entT T a).1 = X) (hy : (entT T b).1 = Y) (h : ¬ 64 < (X ++ Y).length) (h1 : ¬ 1000 ≤ T.length) (h2 : (findT T (X ++ Y)).isSome = true) : addT T a b = (0, 10, T) := by
  subst hx hy
  unfold addT
  rw [ha, hb, if_neg (by simp), if_neg h, if_neg h1, if_pos h2]
theorem addT_ok {T : List Ent} {a b : Int} {X Y : List UInt8} (ha : hasT T a = true) (hb : hasT T b = true) (hx : (entT T a).1 = X) (hy : (entT T b).1 = Y) (h : ¬ 64 < (X ++ Y).length) (h1 : ¬ 1000 ≤ T.length) (h2 : (findT T (X ++ Y)).isSome = false) : addT T a b = ((T.length : Int), 0, T ++ [(X ++ Y, a, b)]) := by
  subst hx hy
  unfold addT
  rw [ha, hb, if_neg (by simp), if_neg h, if_neg h1, if_neg (by rw [h2]; simp)]
structure Added (w w' : World) (base tb : Nat) (T' : List Ent) (sv : Value) (mb mp : Nat) : Prop where
  ex : ∃ sv', TabIs w' base tb T' sv' mb mp ∧ (sv'.ownBlock = sv.ownBlock ∨ ∃ g, sv'.ownBlock = some g ∧ w.heap.size ≤ g)
  keep : Keep (tabF tb sv mb mp) w w'
section
variable {w : World} {base tb : Nat} {T : List Ent} {sv : Value} {mb mp : Nat}
set_option maxHeartbeats 2000000 in
theorem add_err (a b : Int) (h : TabIs w base tb T sv mb mp) (hT : OkT T) (he : (addT T a b).2.1 ≠ 0) :
    Calls Tryz.prog 56 #[.pointer (some ⟨tb, 0, none⟩), .agg #[.int .i64 a, .int .i64 b]] w fun e w' => e = .returned (.tuple #[.int .i64 0, .int .i64 (addT T a b).2.1]) ∧ Below w.heap.size w w' := by
  have hb0 := (Below.refl w.heap.size w).alloc (Nat.le_refl _) (.cells #[.int .i64 a, .int .i64 b] 55)
  have HB := Lib.hid hb0
  have h0 := h.below hb0 (Nat.le_refl _)
  have bnew := blk_new w (.cells #[.int .i64 a, .int .i64 b] 55)
  have n0 := blk_cell bnew 0
  have n1 := blk_cell bnew 1
  simp only [List.getElem?_toArray, List.getElem?_cons_zero, List.getElem?_cons_succ] at n0 n1
  have HT := Lib.hid h0
  have HA := Lib.hid (has_tab a h0)
  have HE := Lib.hid he
  have HOK := Lib.hid hT
  clear h h0 bnew hb0 he hT
  go_enter Tryz.func56, Tryz.ntmps56
  go_wp2_with fail
  generalize hW : w.alloc (.cells #[.int .i64 a, .int .i64 b] 55) = W at *
  clear hW
  refine HA.out.mono ?_
  rintro e w' ⟨rfl, rfl⟩
  clear HA
  cases ha : hasT T a with
  | false =>
    go_wp2_with fail
    go_ret2
    refine ⟨?_, HB.out⟩
    simp [addT, ha]
  | true =>
    have HA := Lib.hid ha
    have HC := Lib.hid (has_tab b HT.out)
    clear ha
    go_wp2_with fail
    refine HC.out.mono ?_
    rintro e w' ⟨rfl, rfl⟩
    clear HC
    cases hb : hasT T b with
    | false =>
      go_wp2_with fail
      go_ret2
      refine ⟨?_, HB.out⟩
      simp [addT, hb]
    | true =>
      have HAB := Lib.hid hb
      obtain ⟨k, rfl, hk, ek⟩ := hasT_at HA.out
      obtain ⟨l, rfl, hl, el⟩ := hasT_at hb
      obtain ⟨ba, o, c, rfl, g0, _, _⟩ := tab_at HT.out k hk
      obtain ⟨ba', o', c', e', g1, _, _⟩ := tab_at HT.out l hl
      cases e'
      have c0 := blk_cell HT.out.blk 0
      simp only [List.getElem?_toArray, List.getElem?_cons_zero] at c0
      have hX := HOK.out.len T[k] (List.getElem_mem hk)
      have hY := HOK.out.len T[l] (List.getElem_mem hl)
      have EK := Lib.hid ek
      have EL := Lib.hid el
      have HS := Lib.hid HOK.out.small
      obtain ⟨X, hXe⟩ : ∃ X, T[k].1 = X := ⟨_, rfl⟩
      obtain ⟨Y, hYe⟩ : ∃ Y, T[l].1 = Y := ⟨_, rfl⟩
      rw [hXe] at g0 hX
      rw [hYe] at g1 hY
      have HXE := Lib.hid hXe
      have HYE := Lib.hid hYe
      have hbig : (9223372036854775807 < (bs X).size + (bs Y).size) = False := by rw [eq_iff_iff, iff_false, bs_size, bs_size]; omega
      have HX := Lib.hid hX
      have HY := Lib.hid hY
      unfold strV at g0 g1
      have q0 : 0 ≤ (k : Int) := by omega
      have q1 : (k : Int) < (T.length : Int) := by omega
      have q2 : 0 ≤ (l : Int) := by omega
      have q3 : (l : Int) < (T.length : Int) := by omega
      rename_i j1 j2 j3 j4
      clear hb ek el hXe hYe hX hY j1 j2 j3 j4
      go_wp2_with fail
      go_quiet (fail)
      rw [bs_append]
      obtain ⟨z, hz⟩ : ∃ z, bs (X ++ Y) = z := ⟨_, rfl⟩
      have hzs : z.size = (X ++ Y).length := by rw [← hz, bs_size]
      have HZ := Lib.hid hz
      have HZS := Lib.hid hzs
      rw [hz]
      clear hz hbig g0 g1 q0 q1 q2 q3 hzs
      by_cases h64 : (64 : Int) < (z.size : Int)
      · go_wp2_with fail
        go_ret2
        refine ⟨?_, below_drewN HB.out _⟩
        rw [addT_long HA.out HAB.out (by rw [EK.out, HXE.out]) (by rw [EL.out, HYE.out]) (by have := HZS.out; omega)]
        rfl
      · by_cases h1000 : (1000 : Int) ≤ (T.length : Int)
        · go_wp2_with fail
          go_ret2
          refine ⟨?_, below_drewN HB.out _⟩
          rw [addT_full HA.out HAB.out (by rw [EK.out, HXE.out]) (by rw [EL.out, HYE.out]) (by have := HZS.out; omega) (by omega)]
          rfl
        · have hkz : strV (X ++ Y) = .string z := by unfold strV; rw [HZ.out]
          have hke := key_str (X ++ Y) (by have := HX.out; have := HY.out; rw [List.length_append]; unfold maxLen; omega)
          have c1 : (w'.drewN nq).cell? ⟨tb, 1, none⟩ = _ := blk_cell HT.out.blk 1
          simp only [List.getElem?_toArray, List.getElem?_cons_zero, List.getElem?_cons_succ] at c1
          cases hf : (findT T (X ++ Y)).isSome with
          | true =>
            go_wp2_with (refine map_look 186 _ _ rfl rfl keyed_str Tryz.underlying186 Tryz.underlying3 (zero_int _) rfl (HT.out.drewN nq).bys (X ++ Y) hkz.symm hke ?_)
            go_ret2
            refine ⟨?_, below_drewN HB.out _⟩
            rw [addT_twice HA.out HAB.out (by rw [EK.out, HXE.out]) (by rw [EL.out, HYE.out]) (by have := HZS.out; omega) (by omega) hf]
            rfl
          | false =>
            exfalso
            have := HE.out
            rw [addT_ok HA.out HAB.out (by rw [EK.out, HXE.out]) (by rw [EL.out, HYE.out]) (by have := HZS.out; omega) (by omega) hf] at this
            exact this rfl
end
section
variable {w : World} {base tb : Nat} {T : List Ent} {sv : Value} {mb mp : Nat}
set_option maxHeartbeats 2000000 in
theorem add_ok (a b : Int) (h : TabIs w base tb T sv mb mp) (hT : OkT T) (he : (addT T a b).2.1 = 0) (hbase : base ≤ w.heap.size) :
    Calls Tryz.prog 56 #[.pointer (some ⟨tb, 0, none⟩), .agg #[.int .i64 a, .int .i64 b]] w fun e w' => e = .returned (.tuple #[.int .i64 (addT T a b).1, .int .i64 0]) ∧ Added w w' base tb (addT T a b).2.2 sv mb mp := by
  have hb0 := (Below.refl w.heap.size w).alloc (Nat.le_refl _) (.cells #[.int .i64 a, .int .i64 b] 55)
  have HB := Lib.hid hb0
  have h0 := h.below hb0 (Nat.le_refl _)
  have bnew := blk_new w (.cells #[.int .i64 a, .int .i64 b] 55)
  have n0 := blk_cell bnew 0
  have n1 := blk_cell bnew 1
  simp only [List.getElem?_toArray, List.getElem?_cons_zero, List.getElem?_cons_succ] at n0 n1
  have HT := Lib.hid h0
  have HA := Lib.hid (has_tab a h0)
  have HE := Lib.hid he
  have HBASE := Lib.hid hbase
  have HNEW := Lib.hid bnew
  have HOK := Lib.hid hT
  clear h h0 bnew hb0 he hT hbase
  go_enter Tryz.func56, Tryz.ntmps56
  go_wp2_with fail
  generalize hW : w.alloc (.cells #[.int .i64 a, .int .i64 b] 55) = W at *
  clear hW
  refine HA.out.mono ?_
  rintro e w' ⟨rfl, rfl⟩
  clear HA
  cases ha : hasT T a with
  | false => exact absurd HE.out (by simp [addT, ha])
  | true =>
    have HA := Lib.hid ha
    have HC := Lib.hid (has_tab b HT.out)
    clear ha
    go_wp2_with fail
    refine HC.out.mono ?_
    rintro e w' ⟨rfl, rfl⟩
    clear HC
    cases hb : hasT T b with
    | false => exact absurd HE.out (by simp [addT, hb])
    | true =>
      have HAB := Lib.hid hb
      obtain ⟨k, rfl, hk, ek⟩ := hasT_at HA.out
      obtain ⟨l, rfl, hl, el⟩ := hasT_at hb
      obtain ⟨ba, o, c, rfl, g0, _, _⟩ := tab_at HT.out k hk
      obtain ⟨ba', o', c', e', g1, _, _⟩ := tab_at HT.out l hl
      cases e'
      have c0 := blk_cell HT.out.blk 0
      simp only [List.getElem?_toArray, List.getElem?_cons_zero] at c0
      have hX := HOK.out.len T[k] (List.getElem_mem hk)
      have hY := HOK.out.len T[l] (List.getElem_mem hl)
      have EK := Lib.hid ek
      have EL := Lib.hid el
      have HS := Lib.hid HOK.out.small
      obtain ⟨X, hXe⟩ : ∃ X, T[k].1 = X := ⟨_, rfl⟩
      obtain ⟨Y, hYe⟩ : ∃ Y, T[l].1 = Y := ⟨_, rfl⟩
      rw [hXe] at g0 hX
      rw [hYe] at g1 hY
      have HXE := Lib.hid hXe
      have HYE := Lib.hid hYe
      have hbig : (9223372036854775807 < (bs X).size + (bs Y).size) = False := by rw [eq_iff_iff, iff_false, bs_size, bs_size]; omega
      have HX := Lib.hid hX
      have HY := Lib.hid hY
      unfold strV at g0 g1
      have q0 : 0 ≤ (k : Int) := by omega
      have q1 : (k : Int) < (T.length : Int) := by omega
      have q2 : 0 ≤ (l : Int) := by omega
      have q3 : (l : Int) < (T.length : Int) := by omega
      rename_i j1 j2 j3 j4
      clear hb ek el hXe hYe hX hY j1 j2 j3 j4
      go_wp2_with fail
      go_quiet (fail)
      rw [bs_append]
      obtain ⟨z, hz⟩ : ∃ z, bs (X ++ Y) = z := ⟨_, rfl⟩
      have hzs : z.size = (X ++ Y).length := by rw [← hz, bs_size]
      have HZ := Lib.hid hz
      have HZS := Lib.hid hzs
      rw [hz]
      clear hz hbig g0 g1 q0 q1 q2 q3 hzs
      by_cases h64 : (64 : Int) < (z.size : Int)
      · exact absurd HE.out (by rw [addT_long HA.out HAB.out (by rw [EK.out, HXE.out]) (by rw [EL.out, HYE.out]) (by have := HZS.out; omega)]; simp)
      · by_cases h1000 : (1000 : Int) ≤ (T.length : Int)
        · exact absurd HE.out (by rw [addT_full HA.out HAB.out (by rw [EK.out, HXE.out]) (by rw [EL.out, HYE.out]) (by have := HZS.out; omega) (by omega)]; simp)
        · have hkz : strV (X ++ Y) = .string z := by unfold strV; rw [HZ.out]
          have hke := key_str (X ++ Y) (by have := HX.out; have := HY.out; rw [List.length_append]; unfold maxLen; omega)
          have c1 : (w'.drewN nq).cell? ⟨tb, 1, none⟩ = _ := blk_cell HT.out.blk 1
          simp only [List.getElem?_toArray, List.getElem?_cons_zero, List.getElem?_cons_succ] at c1
          cases hf : (findT T (X ++ Y)).isSome with
          | true => exact absurd HE.out (by rw [addT_twice HA.out HAB.out (by rw [EK.out, HXE.out]) (by rw [EL.out, HYE.out]) (by have := HZS.out; omega) (by omega) hf]; simp)
          | false =>
            have HADD := Lib.hid (addT_ok HA.out HAB.out (by rw [EK.out, HXE.out]) (by rw [EL.out, HYE.out]) (by have := HZS.out; omega) (by omega) hf)
            have HF := Lib.hid hf
            have HU := Lib.hid (HT.out.drewN nq)
            have HBU := Lib.hid (below_drewN HB.out nq)
            have HNU := Lib.hid (blk_drewN HNEW.out nq)
            have n0u : (w'.drewN nq).cell? ⟨w.heap.size, 0, none⟩ = _ := n0
            have n1u : (w'.drewN nq).cell? ⟨w.heap.size, 1, none⟩ = _ := n1
            have c0u : (w'.drewN nq).cell? ⟨tb, 0, none⟩ = _ := c0
            have HKE := Lib.hid hke
            have HKZ := Lib.hid hkz
            clear n0 n1 c0 HT HB HNEW
            go_upto_region 14 with (refine map_look 186 _ _ rfl rfl keyed_str Tryz.underlying186 Tryz.underlying3 (zero_int _) rfl HU.out.bys (X ++ Y) hkz.symm hke ?_)
            generalize hU : w'.drewN nq = U at *
            have c2u : U.cell? ⟨tb, 2, none⟩ = _ := blk_cell HU.out.blk 2
            simp only [List.getElem?_toArray, List.getElem?_cons_zero, List.getElem?_cons_succ] at c2u
            have HRT := Lib.hid (row_ne HU.out.row HU.out.blk (by decide))
            have HRR := Lib.hid (row_ne HU.out.row HNU.out (by decide))
            have HRB := Lib.hid (HU.out.bys.row_ne HU.out.row)
            have HRP := Lib.hid (HU.out.prs.row_ne HU.out.row)
            have HBT := Lib.hid (HU.out.bys.blk_ne HU.out.blk)
            have HPT := Lib.hid (HU.out.prs.blk_ne HU.out.blk)
            have HBR := Lib.hid (HU.out.bys.blk_ne HNU.out)
            have HPR := Lib.hid (HU.out.prs.blk_ne HNU.out)
            have hrt : w.heap.size ≠ tb := by
              intro e
              have h1 := HNU.out
              rw [e, HU.out.blk] at h1
              simp at h1
            have hown := own_drew HU.out.row
            have HGEN := Lib.hid (show base ≤ U.drew.heap.size from Nat.le_trans HBASE.out HBU.out.size)
            have HKU : Hid (Keep (fun _ => False) w U) := Lib.hid (Keep.of_below HBU.out)
            clear hU hke hkz hf
            have HOWN := Lib.hid hown
            have hs1000 := HS.out
            clear hown
            refine wp_region_G (D := 12) (S := fun V => V.cell? ⟨tb, 0, none⟩ = some (.slice (some ⟨ba, o, none⟩) T.length c) ∧ V.cell? ⟨w.heap.size, 0, none⟩ = some (.int .i64 (k : Int)) ∧ V.cell? ⟨w.heap.size, 1, none⟩ = some (.int .i64 (l : Int))) (by kernel_rfl) (by exact ⟨c0u, n0u, n1u⟩) (fun hHeld => ?_)
            refine tkG 0 69 ?_ rfl hHeld (.inl ⟨by rfl, ?_⟩) ?_; rotate_left; focus (intro w' hSw; (try dsimp only at hSw); go_simp; (try with_reducible rfl))
            try simp only [sIB, sC0, sCS]
            refine tkG 1 70 ?_ rfl hHeld (.inl ⟨by rfl, ?_⟩) ?_; rotate_left; focus (intro w' hSw; (try dsimp only at hSw); go_simp; (try with_reducible rfl))
            try simp only [sIB, sC0, sCS]
            refine tkG 2 71 ?_ rfl hHeld (.inl ⟨by rfl, ?_⟩) ?_; rotate_left; focus (intro w' hSw; (try dsimp only at hSw); go_simp; (try with_reducible rfl))
            try simp only [sIB, sC0, sCS]
            refine tkG 3 72 ?_ rfl hHeld (.inl ⟨by rfl, ?_⟩) ?_; rotate_left; focus (intro w' hSw; (try dsimp only at hSw); go_simp; (try with_reducible rfl))
            try simp only [sIB, sC0, sCS]
            refine tkG 4 73 ?_ rfl hHeld (.inl ⟨by rfl, ?_⟩) ?_; rotate_left; focus (intro w' hSw; (try dsimp only at hSw); go_simp; (try with_reducible rfl))
            try simp only [sIB, sC0, sCS]
            refine tkG 5 74 ?_ rfl hHeld (.inl ⟨by rfl, ?_⟩) ?_; rotate_left; focus (intro w' hSw; (try dsimp only at hSw); go_simp; (try with_reducible rfl))
            try simp only [sIB, sC0, sCS]
            refine tkG 6 75 ?_ rfl hHeld (.inl ⟨by rfl, ?_⟩) ?_; rotate_left; focus (intro w' hSw; (try dsimp only at hSw); go_simp; (try with_reducible rfl))
            try simp only [sIB, sC0, sCS]
            refine tkG 7 76 ?_ rfl hHeld (.inl ⟨by rfl, ?_⟩) ?_; rotate_left; focus (intro w' hSw; (try dsimp only at hSw); go_simp; (try with_reducible rfl))
            try simp only [sIB, sC0, sCS]
            refine wpAnyG_one (i := 8) (by kernel_rfl) rfl (by rfl) (fun K hK => ?_)
            go_simp; have hbl := (Below.refl U.drew.heap.size U.drew).alloc (Nat.le_refl _) (.cells #[.string z, .int .i64 (k : Int), .int .i64 (l : Int)] 192); have h := And.intro (below_cell hbl (Nat.le_refl _) hHeld.1) (And.intro (below_cell hbl (Nat.le_refl _) hHeld.2.1) (below_cell hbl (Nat.le_refl _) hHeld.2.2)); clear hbl
            refine hK.out _ _ h (fun hHeld => ?_)
            clear hK K
            try simp only [Act.put, sIB, sC0, sCS]
            refine wpAnyG_one (i := 9) (by kernel_rfl) rfl (by rfl) (fun K hK => ?_)
            refine wp_app_one base 188 192 (.agg #[.string ⟨#[]⟩, .int .i64 0, .int .i64 0]) 3 32 [_, _, _] 1 _ _ rfl Tryz.underlying188 info_ent rfl (by decide) _ _ _ rfl _ rfl rfl rfl (by intro u hu; simp at hu; rcases hu with rfl | rfl | rfl <;> rfl) HOWN.out (by omega) (by omega) HGEN.out ?_; intro v' w1 hown1 hg1 hnew; obtain ⟨A1, cA1, rfl⟩ := own_slice hown1; have hk1 : Keep (fun g => (Value.slice (some ⟨ba, o, none⟩) T.length c).ownBlock = some g) U w1 := ((Keep.refl _ U).drew).trans (Keep.of_grown hg1 (fun g hg => hg)) (fun x hx => .inl hx); have b1 := hk1.blk HU.out.blk HRT.out; have r1 := hk1.blk HNU.out HRR.out; have h := And.intro (blk_cell b1 0) (And.intro (blk_cell r1 0) (blk_cell r1 1))
            refine hK.out _ _ h (fun hHeld => ?_)
            clear hK K
            try simp only [Act.put, sIB, sC0, sCS]
            refine wpAnyG_one (i := 10) (by kernel_rfl) rfl (by rfl) (fun K hK => ?_)
            go_simp
            refine hK.out _ _ hHeld (fun hHeld => ?_)
            clear hK K
            try simp only [Act.put, sIB, sC0, sCS]
            refine tkG 11 80 ?_ rfl hHeld (.inl ⟨by rfl, ?_⟩) ?_; rotate_left; focus (intro w' hSw; (try dsimp only at hSw); go_simp; (try with_reducible rfl))
            try simp only [sIB, sC0, sCS]
            refine wpAnyG_last (by kernel_rfl) rfl (by rfl) (fun K hK => ?_)
            have z0 := blk_froz b1 0; have c0 := hHeld.1; go_simp
            refine hK.out _ _ ?_
            clear hK K
            try simp only [Act.put, sIB, sC0, sCS]
            refine wpAnyG_done (by kernel_rfl) ?_ _
            have hF := HF.out
            have hfn : findT T (X ++ Y) = none := by
              cases hq : findT T (X ++ Y) with
              | none => rfl
              | some i => rw [hq] at hF; cases hF
            have HPN := Lib.hid (pairT_none HOK.out (a := (k : Int)) (b := (l : Int)) (by rw [EK.out, HXE.out, EL.out, HYE.out]; exact hfn) (by intro e; cases e))
            have K2 : Keep (fun g => g = tb) w1 (w1.setCell ⟨tb, 0, none⟩ (.slice A1 (T.length + 1) cA1)) := Keep.setCell (F := fun g => g = tb) (p := ⟨tb, 0, none⟩) (Keep.refl _ _) (Or.inl rfl) (.slice A1 (T.length + 1) cA1)
            have b2 := blk_set b1 0 (.slice A1 (T.length + 1) cA1)
            simp only [List.setIfInBounds_toArray, List.set_cons_zero] at b2
            have r2 := blk_far (p := ⟨tb, 0, none⟩) r1 hrt (.slice A1 (T.length + 1) cA1)
            have own2 := own_keep hown1 K2 (fun g hg e => row_ne hown1 b1 (by decide) (by rw [hg, e]))
            have bys2 := (HU.out.bys.keep hk1 HRB.out).keep K2 HBT.out
            have prs2 := (HU.out.prs.keep hk1 HRP.out).keep K2 HPT.out
            have KW2 : Keep (tabF tb (.slice (some ⟨ba, o, none⟩) T.length c) mb mp) w (w1.setCell ⟨tb, 0, none⟩ (.slice A1 (T.length + 1) cA1)) :=
              ((HKU.out.mono (fun x hx => hx.elim)).trans hk1 (fun x hx => .inl (.inr (.inl hx)))).trans K2 (fun x hx => .inl (.inl hx))
            have HNEW2 : Hid ((Value.slice A1 (T.length + 1) cA1).ownBlock = (Value.slice (some ⟨ba, o, none⟩) T.length c).ownBlock ∨ ∃ g, (Value.slice A1 (T.length + 1) cA1).ownBlock = some g ∧ w.heap.size ≤ g) :=
              Lib.hid (hnew.elim (fun e => .inl e) (fun ⟨g, e, hg⟩ => .inr ⟨g, e, Nat.le_trans HBU.out.size hg⟩))
            clear hHeld hF hnew hg1 hown1 z0 c0 c1 n0u n1u c0u c2u HOWN HGEN hs1000 b1 r1
            generalize w1.setCell ⟨tb, 0, none⟩ (.slice A1 (T.length + 1) cA1) = w2 at *
            have bys3 : MapOf Tryz.prog 9 3 strV w2.drew mb T.length (fun s => (findT T s).map Int.ofNat) := bys2.keep ((Keep.refl (fun _ => False) _).drew) (fun h => h)
            have prs3 : MapOf Tryz.prog 55 3 pairV w2.drew mp T.length (fun m => (pairT T m).map Int.ofNat) := prs2.keep ((Keep.refl (fun _ => False) _).drew) (fun h => h)
            have hlen := HS.out
            obtain ⟨st1, o1, o2, hE1, hS1, hM1⟩ := entry_new (t := 186) keyed_str Tryz.underlying186 Tryz.underlying3 zero_int strV_inj bys3 (by unfold maxLen; omega) (X ++ Y) HKE.out (by rw [hfn]; rfl) (T.length : Int) (wf_i64 (by omega) (by omega))
            rw [HKZ.out] at hE1
            have prs4 := prs3.keep (setBlock_keep (w := w2.drew) (b := mb) (o := o2)) (fun e => HU.out.ne e.symm)
            obtain ⟨st2, p1, p2, hE2, hS2, hM2⟩ := entry_new (t := 187) keyed_mrg Tryz.underlying187 Tryz.underlying3 zero_int pairV_inj prs4 (by unfold maxLen; omega) ((k : Int), (l : Int)) (key_mrg _ (wf_i64 (by omega) (by omega)) (wf_i64 (by omega) (by omega))) (by rw [HPN.out]; rfl) (T.length : Int) (wf_i64 (by omega) (by omega))
            have hmlt : mb < w2.drew.heap.size := bys3.lt
            have hplt : mp < (Go.ChangeMaps.setBlock w2.drew mb o2).heap.size := prs4.lt
            have d1 : w2.drew.heap[tb]? = _ := b2
            have e1 : w2.drew.heap[w.heap.size]? = _ := r2
            have d2 := (setBlock_keep (w := w2.drew) (b := mb) (o := o1)).blk d1 (fun e => HBT.out e.symm)
            have e2 := (setBlock_keep (w := w2.drew) (b := mb) (o := o1)).blk e1 (fun e => HBR.out e.symm)
            have d3 := (setBlock_keep (w := w2.drew) (b := mb) (o := o2)).blk d1 (fun e => HBT.out e.symm)
            have e3 := (setBlock_keep (w := w2.drew) (b := mb) (o := o2)).blk e1 (fun e => HBR.out e.symm)
            have d4 := (setBlock_keep (w := Go.ChangeMaps.setBlock w2.drew mb o2) (b := mp) (o := p1)).blk d3 (fun e => HPT.out e.symm)
            have e4 := (setBlock_keep (w := Go.ChangeMaps.setBlock w2.drew mb o2) (b := mp) (o := p1)).blk e3 (fun e => HPR.out e.symm)
            have d5 := (setBlock_keep (w := Go.ChangeMaps.setBlock w2.drew mb o2) (b := mp) (o := p2)).blk d3 (fun e => HPT.out e.symm)
            have e5 := (setBlock_keep (w := Go.ChangeMaps.setBlock w2.drew mb o2) (b := mp) (o := p2)).blk e3 (fun e => HPR.out e.symm)
            have D1 := Lib.hid d1
            have D2 := Lib.hid d2
            have D3 := Lib.hid d3
            have D4 := Lib.hid d4
            have D5 := Lib.hid d5
            have E1 := Lib.hid e1
            have E2 := Lib.hid e2
            have E3 := Lib.hid e3
            have E4 := Lib.hid e4
            have E5 := Lib.hid e5
            have RE1 := Lib.hid hE1
            have RS1 := Lib.hid (hS1 _ (setBlock_at hmlt))
            have RE2 := Lib.hid hE2
            have RS2 := Lib.hid (hS2 _ (setBlock_at hplt))
            have HM1 := Lib.hid hM1
            have HM2 := Lib.hid hM2
            have HOWN2 := Lib.hid own2
            have HBYS2 := Lib.hid bys2
            have HPRS2 := Lib.hid prs2
            have HKW2 := Lib.hid KW2
            have HB2 := Lib.hid b2
            have HR2 := Lib.hid r2
            have HHK1 := Lib.hid hk1
            clear d1 d2 d3 d4 d5 e1 e2 e3 e4 e5 hE1 hS1 hE2 hS2 hM1 hM2 own2 KW2 b2 r2 hk1 K2 bys2 prs2 bys3 prs3 prs4 hmlt hplt h
            have HFN := Lib.hid hfn
            clear hfn
            go_upto_region 15 with fail
            refine wp_region_G (D := 17) (S := fun V => V.cell? ⟨tb, 1, none⟩ = some (.map (some mb)) ∧ V.cell? ⟨tb, 2, none⟩ = some (.map (some mp)) ∧ V.cell? ⟨w.heap.size, 0, none⟩ = some (.int .i64 (k : Int)) ∧ V.cell? ⟨w.heap.size, 1, none⟩ = some (.int .i64 (l : Int))) (by kernel_rfl) (by exact ⟨blk_cell D1.out 1, blk_cell D1.out 2, blk_cell E1.out 0, blk_cell E1.out 1⟩) (fun hHeld => ?_)
            refine tkG 0 81 ?_ rfl hHeld (.inl ⟨by rfl, ?_⟩) ?_; rotate_left; focus (intro w' hSw; (try dsimp only at hSw); go_simp; (try with_reducible rfl))
            try simp only [sIB, sC0, sCS]
            refine tkG 1 82 ?_ rfl hHeld (.inl ⟨by rfl, ?_⟩) ?_; rotate_left; focus (intro w' hSw; (try dsimp only at hSw); go_simp; (try with_reducible rfl))
            try simp only [sIB, sC0, sCS]
            refine tkG 2 83 ?_ rfl hHeld (.inl ⟨by rfl, ?_⟩) ?_; rotate_left; focus (intro w' hSw; (try dsimp only at hSw); go_simp; (try with_reducible rfl))
            try simp only [sIB, sC0, sCS]
            refine tkG 3 84 ?_ rfl hHeld (.inl ⟨by rfl, ?_⟩) ?_; rotate_left; focus (intro w' hSw; (try dsimp only at hSw); go_simp; (try with_reducible rfl))
            try simp only [sIB, sC0, sCS]
            refine tkG 4 85 ?_ rfl hHeld (.inl ⟨by rfl, ?_⟩) ?_; rotate_left; focus (intro w' hSw; (try dsimp only at hSw); go_simp; (try with_reducible rfl))
            try simp only [sIB, sC0, sCS]
            refine tkG 5 86 ?_ rfl hHeld (.inl ⟨by rfl, ?_⟩) ?_; rotate_left; focus (intro w' hSw; (try dsimp only at hSw); go_simp; (try with_reducible rfl))
            try simp only [sIB, sC0, sCS]
            refine tkG 6 87 ?_ rfl hHeld (.inl ⟨by rfl, ?_⟩) ?_; rotate_left; focus (intro w' hSw; (try dsimp only at hSw); go_simp; (try with_reducible rfl))
            try simp only [sIB, sC0, sCS]
            refine tkG 7 88 ?_ rfl hHeld (.inl ⟨by rfl, ?_⟩) ?_; rotate_left; focus (intro w' hSw; (try dsimp only at hSw); go_simp; (try with_reducible rfl))
            try simp only [sIB, sC0, sCS]
            refine tkG 8 89 ?_ rfl hHeld (.inl ⟨by rfl, ?_⟩) ?_; rotate_left; focus (intro w' hSw; (try dsimp only at hSw); go_simp; (try with_reducible rfl))
            try simp only [sIB, sC0, sCS]
            refine tkG 9 90 ?_ rfl hHeld (.inl ⟨by rfl, ?_⟩) ?_; rotate_left; focus (intro w' hSw; (try dsimp only at hSw); go_simp; (try with_reducible rfl))
            try simp only [sIB, sC0, sCS]
            refine tkG 10 91 ?_ rfl hHeld (.inl ⟨by rfl, ?_⟩) ?_; rotate_left; focus (intro w' hSw; (try dsimp only at hSw); go_simp; (try with_reducible rfl))
            try simp only [sIB, sC0, sCS]
            refine tkG 11 92 ?_ rfl hHeld (.inl ⟨by rfl, ?_⟩) ?_; rotate_left; focus (intro w' hSw; (try dsimp only at hSw); go_simp; (try with_reducible rfl))
            try simp only [sIB, sC0, sCS]
            refine wpAnyG_one (i := 12) (by kernel_rfl) rfl (by rfl) (fun K hK => ?_)
            refine wp_mapEntry 186 _ _ _ _ rfl rfl rfl RE1.out ?_; have h := And.intro (blk_cell D2.out 1) (And.intro (blk_cell D2.out 2) (And.intro (blk_cell E2.out 0) (blk_cell E2.out 1)))
            refine hK.out _ _ h (fun hHeld => ?_)
            clear hK K
            try simp only [Act.put, sIB, sC0, sCS]
            refine tkG 13 94 ?_ rfl hHeld (.inl ⟨by rfl, ?_⟩) ?_; rotate_left; focus (intro w' hSw; (try dsimp only at hSw); go_simp; (try with_reducible rfl))
            try simp only [sIB, sC0, sCS]
            refine wpAnyG_one (i := 14) (by kernel_rfl) rfl (by rfl) (fun K hK => ?_)
            refine wp_entryStore 186 _ _ _ _ _ _ rfl rfl rfl rfl RS1.out ?_; rw [setBlock_twice]; have h := And.intro (blk_cell D3.out 1) (And.intro (blk_cell D3.out 2) (And.intro (blk_cell E3.out 0) (blk_cell E3.out 1)))
            refine hK.out _ _ h (fun hHeld => ?_)
            clear hK K
            try simp only [Act.put, sIB, sC0, sCS]
            refine wpAnyG_one (i := 15) (by kernel_rfl) rfl (by rfl) (fun K hK => ?_)
            refine wp_mapEntry 187 _ _ _ _ rfl rfl rfl RE2.out ?_; have h := And.intro (blk_cell D4.out 1) (And.intro (blk_cell D4.out 2) (And.intro (blk_cell E4.out 0) (blk_cell E4.out 1)))
            refine hK.out _ _ h (fun hHeld => ?_)
            clear hK K
            try simp only [Act.put, sIB, sC0, sCS]
            refine tkG 16 96 ?_ rfl hHeld (.inl ⟨by rfl, ?_⟩) ?_; rotate_left; focus (intro w' hSw; (try dsimp only at hSw); go_simp; (try with_reducible rfl))
            try simp only [sIB, sC0, sCS]
            refine wpAnyG_last (by kernel_rfl) rfl (by rfl) (fun K hK => ?_)
            refine wp_entryStore 187 _ _ _ _ _ _ rfl rfl rfl rfl RS2.out ?_; rw [setBlock_twice]
            refine hK.out _ _ ?_
            clear hK K
            try simp only [Act.put, sIB, sC0, sCS]
            refine wpAnyG_done (by kernel_rfl) ?_ _
            clear hHeld
            have KA : Keep (fun g => g = mb) w2 (Go.ChangeMaps.setBlock w2.drew mb o2) := ((Keep.refl (fun g => g = mb) w2).drew).trans setBlock_keep (fun x hx => .inl hx)
            have KB : Keep (fun g => g = mp) (Go.ChangeMaps.setBlock w2.drew mb o2) (Go.ChangeMaps.setBlock (Go.ChangeMaps.setBlock w2.drew mb o2) mp p2) := setBlock_keep
            have own3 := own_keep HOWN2.out KA (fun g hg e => HBYS2.out.row_ne HOWN2.out (by rw [hg, e]))
            have prs3 := HPRS2.out.keep KA (fun e => HU.out.ne e.symm)
            have HOWN4 := Lib.hid (own_keep own3 KB (fun g hg e => prs3.row_ne own3 (by rw [hg, e])))
            have HBY4 := Lib.hid (HM1.out.keep KB (fun e => HU.out.ne e))
            have HKW4 := Lib.hid ((HKW2.out.trans KA (fun x hx => .inl (.inr (.inr (.inl hx))))).trans KB (fun x hx => .inl (.inr (.inr (.inr hx)))))
            have c3 := blk_cell D5.out 3
            have z3 := blk_froz D5.out 3
            simp only [List.getElem?_toArray, List.getElem?_cons_zero, List.getElem?_cons_succ] at c3
            clear KA KB own3 prs3 RE1 RS1 RE2 RS2 HM1 D1 D2 D3 D4 E1 E2 E3 E4 E5 HHK1
            generalize Go.ChangeMaps.setBlock (Go.ChangeMaps.setBlock w2.drew mb o2) mp p2 = w4 at *
            have FIN : Hid (∀ M : Nat, M = max (longT T) z.size → Added w (w4.setCell ⟨tb, 3, none⟩ (.int .i64 (M : Int))) base tb (addT T (k : Int) (l : Int)).2.2 (.slice (some ⟨ba, o, none⟩) T.length c) mb mp) := by
              refine Lib.hid (fun M hM => ?_)
              have K5 : Keep (fun g => g = tb) w4 (w4.setCell ⟨tb, 3, none⟩ (.int .i64 (M : Int))) := Keep.setCell (F := fun g => g = tb) (p := ⟨tb, 3, none⟩) (Keep.refl _ _) (Or.inl rfl) _
              have b5 := blk_set D5.out 3 (.int .i64 (M : Int))
              simp only [List.setIfInBounds_toArray, List.set_cons_zero, List.set_cons_succ] at b5
              rw [HADD.out]
              have hlen1 : (T ++ [(X ++ Y, (k : Int), (l : Int))]).length = T.length + 1 := by simp
              refine ⟨⟨.slice A1 (T.length + 1) cA1, ⟨?_, ?_, ?_, ?_, HU.out.ne, HU.out.lt⟩, HNEW2.out⟩, HKW4.out.trans K5 (fun x hx => .inl (.inl hx))⟩
              · simp only []
                rw [longT_snoc]
                simp only []
                rw [← HZS.out, ← hM]
                exact b5
              · simp only []
                rw [hlen1, List.flatMap_append]
                have e5 : [((X ++ Y, (k : Int), (l : Int)) : Ent)].flatMap encE = [Value.string z, .int .i64 (k : Int), .int .i64 (l : Int)] := by simp [encE, HKZ.out]
                rw [e5]
                exact own_keep HOWN4.out K5 (fun g hg e => row_ne HOWN4.out D5.out (by decide) (by rw [hg, e]))
              · simp only []
                rw [hlen1]
                refine (HBY4.out.keep K5 HBT.out).congr (fun s => ?_)
                rw [findT_snoc _ _ _ HFN.out]
                simp only []
                split <;> rfl
              · simp only []
                rw [hlen1]
                refine (HM2.out.keep K5 HPT.out).congr (fun s => ?_)
                rw [pairT_snoc _ _ _ HPN.out (by intro e; cases e)]
                simp only []
                split <;> rfl
            obtain ⟨L, hL⟩ : ∃ L, longT T = L := ⟨_, rfl⟩
            have HLL := Lib.hid hL
            rw [hL] at c3
            clear hL
            rename_i j1 j2 j3 j4 j5 j6
            go_wp2_with fail
            all_goals
              go_ret2
              refine ⟨by rw [HADD.out]; rfl, ?_⟩
              first
                | exact FIN.out z.size (by rw [HLL.out]; omega)
                | exact FIN.out L (by rw [HLL.out]; omega)
end
def addsT (T : List Ent) : List (Int × Int) → Option (List Ent)
  | [] => some T
  | m :: r => if (addT T m.1 m.2).2.1 = 0 then addsT (addT T m.1 m.2).2.2 r else none
theorem addsT_snoc (l : List (Int × Int)) (m : Int × Int) : ∀ T, addsT T (l ++ [m]) = (addsT T l).bind (fun T' => if (addT T' m.1 m.2).2.1 = 0 then some (addT T' m.1 m.2).2.2 else none) := by
  induction l with
  | nil => intro T; simp [addsT]
  | cons a l ih =>
    intro T
    simp only [List.cons_append, addsT]
    split
    · rw [ih]
    · rfl
def encM (m : Int × Int) : List Value := [.int .i64 m.1, .int .i64 m.2]
structure NewIs (w W : World) (l : List (Int × Int)) (tb mb mp k : Nat) : Prop where
  ex : ∃ T sv, addsT baseT (l.take k) = some T ∧ OkT T ∧ TabIs W w.heap.size tb T sv mb mp
  below : Below w.heap.size w W
set_option maxHeartbeats 2000000 in
theorem new_any (l : List (Int × Int)) (A : Option Addr) (c : Nat) (w : World) (hl : Sl w A encM 2 l) (hlen : l.length < 9000000000000000000) :
    Calls Tryz.prog 21 #[.slice A l.length c] w fun e w' => Below w.heap.size w w' ∧
      ((∃ T tb sv mb mp, e = .returned (.tuple #[.pointer (some ⟨tb, 0, none⟩), .int .i64 (l.length : Nat), .int .i64 0]) ∧ addsT baseT l = some T ∧ OkT T ∧ TabIs w' w.heap.size tb T sv mb mp) ∨
      (∃ (k : Nat) (hk : k < l.length) (T : List Ent), addsT baseT (l.take k) = some T ∧ OkT T ∧ (addT T l[k].1 l[k].2).2.1 ≠ 0 ∧ e = .returned (.tuple #[.pointer none, .int .i64 (k : Nat), .int .i64 (addT T l[k].1 l[k].2).2.1]))) := by
  have HL := Lib.hid hl
  clear hl
  go_enter Tryz.func21, Tryz.ntmps21
  go_wp2_with fail
  refine (begin_any _).mono ?_
  rintro e w0 ⟨tb, sv, mb, mp, rfl, h0, hb0⟩
  have HS := Lib.hid (show NewIs w w0 l tb mb mp 0 from ⟨⟨baseT, sv, by simp [addsT], okT_base, h0⟩, hb0⟩)
  clear h0 hb0
  go_wp2_with fail
  go_loopg [13] l.length (fun n i W => ∃ k : Nat, k + n = l.length ∧ i = .int .i64 (k : Int) ∧ NewIs w W l tb mb mp k)
  case atStart => exact ⟨0, by omega, rfl, HS.out⟩
  case round =>
    obtain ⟨k, hk, rfl, hW⟩ := hrel
    clear HS
    rename World => W
    by_cases hlt : k < l.length
    · obtain ⟨T, sv, ha, hok, ht⟩ := hW.ex
      obtain ⟨ba, o, rfl, hc0⟩ := (HL.out.below hW.below (Nat.le_refl _)).at k hlt
      have g0 : W.cell? ⟨ba, o + k * 2, none⟩ = some (.int .i64 l[k].1) := hc0 0 _ rfl
      have g1 : W.cell? ⟨ba, o + k * 2 + 1, none⟩ = some (.int .i64 l[k].2) := hc0 1 _ rfl
      obtain ⟨x, hx⟩ : ∃ x, l[k].1 = x := ⟨_, rfl⟩
      obtain ⟨y, hy⟩ : ∃ y, l[k].2 = y := ⟨_, rfl⟩
      rw [hx] at g0
      rw [hy] at g1
      have HX := Lib.hid hx
      have HY := Lib.hid hy
      have HA := Lib.hid ha
      have HOK := Lib.hid hok
      have HT := Lib.hid ht
      have HB := Lib.hid hW.below
      have q0 : 0 ≤ (k : Int) := by omega
      have q1 : (k : Int) < (l.length : Int) := by omega
      have hb1 := (Below.refl W.heap.size W).alloc (Nat.le_refl _) (.cells #[.int .i64 l[k].1, .int .i64 l[k].2] 55)
      have HT1 := Lib.hid (ht.below hb1 (Nat.le_refl _))
      have HB1 := Lib.hid (hW.below.trans (hb1.mono hW.below.size))
      rw [hx, hy] at HT1 HB1
      clear hx hy hc0 ha hok ht hW hb1
      go_wp2_with fail
      clear g0 g1
      generalize W.alloc (.cells #[.int .i64 x, .int .i64 y] 55) = W1 at *
      by_cases he : (addT T x y).2.1 = 0
      · have HE := Lib.hid he
        refine (add_ok x y HT1.out HOK.out he HB1.out.size).mono ?_
        rintro e w' ⟨rfl, had⟩
        obtain ⟨sv', ht', hn⟩ := had.ex
        have HT2 := Lib.hid ht'
        have HB2 := Lib.hid (HB1.out.trans (had.keep.below HB1.out.size (fun g hg => by
          rcases hg with rfl | hg | rfl | rfl
          · exact HT1.out.lt.1
          · exact own_base HT1.out.row g hg
          · exact HT1.out.lt.2.1
          · exact HT1.out.lt.2.2)))
        clear ht' hn had he
        go_wp2_with fail
        go_roundg (gk - 1)
        case measure => omega
        case rel =>
          refine ⟨k + 1, by omega, by simp, ⟨⟨(addT T x y).2.2, sv', ?_, okT_add HOK.out _ _ HE.out, HT2.out⟩, HB2.out⟩⟩
          rw [take_snoc hlt, addsT_snoc, HA.out]
          simp only [Option.bind_some, HX.out, HY.out, HE.out, if_true]
      · have HE := Lib.hid he
        refine (add_err x y HT1.out HOK.out he).mono ?_
        rintro e w' ⟨rfl, hbw⟩
        have HB2 := Lib.hid (HB1.out.trans (hbw.mono HB1.out.size))
        obtain ⟨E, hE⟩ : ∃ E, (addT T x y).2.1 = E := ⟨_, rfl⟩
        have HEE := Lib.hid hE
        rw [hE] at he ⊢
        clear hbw hE
        go_wp2_with fail
        refine bodyPost_ret (results_tmp3 rfl _ _ _) rfl ⟨HB2.out, .inr ⟨k, hlt, T, HA.out, HOK.out, ?_, ?_⟩⟩
        · rw [HX.out, HY.out]; exact HE.out
        · rw [HX.out, HY.out, HEE.out]; rfl
    · have : k = l.length := by omega
      subst this
      obtain ⟨T, sv, ha, hok, ht⟩ := hW.ex
      have HA := Lib.hid ha
      have HOK := Lib.hid hok
      have HT := Lib.hid ht
      have HB := Lib.hid hW.below
      clear ha hok ht hW
      go_wp2_with fail
      refine bodyPost_ret (results_tmp3 rfl _ _ _) rfl ⟨HB.out, .inl ⟨T, tb, sv, mb, mp, rfl, ?_, HOK.out, HT.out⟩⟩
      have := HA.out
      rw [List.take_length] at this
      exact this
def txtL (x : List UInt8) : Bool := txtR (bs x)
def splL (x : Int × List UInt8) : Bool := splR (x.1, bs x.2)
theorem clo_Mrg (x : Int × Int) (w : World) (pb : Nat) (hp : w.cell? ⟨pb, 0, none⟩ = some (.func (.func 78) #[] #[])) : Calls Tryz.prog 117 #[.agg #[.int .i64 x.1, .int .i64 x.2], .pointer (some ⟨pb, 0, none⟩)] w fun e w' => e = .returned (.bool (!mrgR x)) ∧ Below w.heap.size w w' := by
  have P := Lib.hid (pred_Mrg x)
  obtain ⟨x1, x2⟩ := x
  obtain ⟨b, hb⟩ : ∃ b, mrgR ⟨x1, x2⟩ = b := ⟨_, rfl⟩
  (try simp only at P)
  skip
  skip
  rw [hb] at P ⊢
  have HB := Lib.hid ((Below.refl w.heap.size w).alloc (Nat.le_refl _) (.cells #[.int .i64 x1, .int .i64 x2] 55))
  have hp2 := below_cell HB.out (Nat.le_refl _) hp
  clear hb
  go_enter Tryz.func117, Tryz.ntmps117
  go_wp2_with (go_at_call 78; (refine (P.out (w.alloc (.cells #[.int .i64 x1, .int .i64 x2] 55))).mono ?_); (rintro e V1 ⟨rfl, hb⟩); (have HB1 := Lib.hid (HB.out.trans (hb.mono HB.out.size))); (clear hb))
  go_ret
  exact ⟨rfl, HB1.out⟩
set_option maxHeartbeats 1000000 in
theorem idx_Mrg (xs : List (Int × Int)) (A : Option Addr) (c pb : Nat) (w : World) (hA : Sl w A encM 2 xs) (hp : w.cell? ⟨pb, 0, none⟩ = some (.func (.func 78) #[] #[])) (hl : xs.length < 9000000000000000000) :
    Calls Tryz.prog 147 #[.slice A xs.length c, .func (.func 117) #[] #[.pointer (some ⟨pb, 0, none⟩)]] w fun e w' => (∃ r, e = .returned (.int .i64 r) ∧ decide (0 ≤ r) = !(xs.all mrgR)) ∧ Below w.heap.size w w' := by
  have HA := Lib.hid hA
  have HP := Lib.hid hp
  have HL := Lib.hid hl
  clear hA hp
  go_enter Tryz.func147, Tryz.ntmps147
  go_wp2_with fail
  go_loopg [8] xs.length (fun n i W => ∃ k : Nat, k + n = xs.length ∧ i = .int .i64 (k : Int) ∧ Below w.heap.size w W ∧ (xs.take k).all mrgR = true)
  case atStart => exact ⟨0, Nat.zero_add _, rfl, Below.refl _ _, rfl⟩
  case round =>
    obtain ⟨k, hk, rfl, hbl, hall⟩ := hrel
    rename World => W
    by_cases hlt : k < xs.length
    · have HT := Lib.hid (take_snoc hlt)
      have HG := Lib.hid (show xs[k]? = some xs[k] from by simp)
      have HC := Lib.hid (clo_Mrg xs[k] W pb (below_cell hbl (Nat.le_refl _) HP.out))
      obtain ⟨b, o, rfl, hc⟩ := HA.out.at k hlt
      have g0 : W.cell? ⟨b, o + k * 2, none⟩ = some (.int .i64 xs[k].1) := below_cell hbl (Nat.le_refl _) (hc 0 _ rfl)
      have g1 : W.cell? ⟨b, o + k * 2 + 1, none⟩ = some (.int .i64 xs[k].2) := below_cell hbl (Nat.le_refl _) (hc 1 _ rfl)
      generalize xs[k] = x at *
      have HK := Lib.hid hk
      have HBL := Lib.hid hbl
      have HALL := Lib.hid hall
      have w1 : IntKind.i64.wrap ((k : Int) + 1) = ((k + 1 : Nat) : Int) := IntWalk.i64_in _ (by omega)
      have k0 : (0 : Int) ≤ (k : Int) := by omega
      have k1 : (k : Int) < (xs.length : Int) := by omega
      obtain ⟨b2, hb2⟩ : ∃ b, mrgR x = b := ⟨_, rfl⟩
      rw [hb2] at HC
      have HB2 := Lib.hid hb2
      clear hk hbl hall hc hb2
      rcases b2 with _ | _
      · go_wp2_with (go_at_call 117; (refine HC.out.mono ?_); (rintro e V1 ⟨rfl, hb⟩); (have HB3 := Lib.hid (HBL.out.trans (hb.mono HBL.out.size))); (clear hb))
        go_ret
        refine ⟨⟨_, rfl, ?_⟩, HB3.out⟩
        rw [all_false HG.out HB2.out, decide_eq_true k0]
        rfl
      · go_wp2_with (go_at_call 117; (refine HC.out.mono ?_); (rintro e V1 ⟨rfl, hb⟩); (have HB3 := Lib.hid (HBL.out.trans (hb.mono HBL.out.size))); (clear hb))
        have hk := HK.out
        go_roundg (xs.length - (k + 1))
        · refine ⟨k + 1, by omega, rfl, HB3.out, ?_⟩
          rw [HT.out, all_snoc, HALL.out, HB2.out]
          rfl
        · omega
    · have hke : k = xs.length := by omega
      have HBL := Lib.hid hbl
      have HALL : Hid (xs.all mrgR = true) := Lib.hid (by rw [hke, List.take_length] at hall; exact hall)
      have k1 : ¬ (k : Int) < (xs.length : Int) := by omega
      clear hk hke hbl hall
      go_wp2_with fail
      go_ret
      exact ⟨⟨_, rfl, by rw [HALL.out]; rfl⟩, HBL.out⟩
theorem con_Mrg (xs : List (Int × Int)) (A : Option Addr) (c pb : Nat) (w : World) (hA : Sl w A encM 2 xs) (hp : w.cell? ⟨pb, 0, none⟩ = some (.func (.func 78) #[] #[])) (hl : xs.length < 9000000000000000000) :
    Calls Tryz.prog 116 #[.slice A xs.length c, .func (.func 117) #[] #[.pointer (some ⟨pb, 0, none⟩)]] w fun e w' => e = .returned (.bool (!(xs.all mrgR))) ∧ Below w.heap.size w w' := by
  have HI := Lib.hid (idx_Mrg xs A c pb w hA hp hl)
  clear hA hp hl
  go_enter Tryz.func116, Tryz.ntmps116
  go_wp2_with (go_at_call 147; (refine HI.out.mono ?_); (rintro e V1 ⟨⟨r, rfl, hr⟩, hb⟩); (have HR := Lib.hid hr); (have HB := Lib.hid hb); (clear hr hb))
  go_ret
  exact ⟨by first | rfl | (rw [HR.out]; rfl), HB.out⟩
theorem all_Mrg (xs : List (Int × Int)) (A : Option Addr) (c : Nat) (m : Int) (w : World) (hA : Sl w A encM 2 xs) (hl : xs.length < 9000000000000000000) :
    Calls Tryz.prog 77 #[.slice A xs.length c, .int .i64 m, .func (.func 78) #[] #[]] w fun e w' => e = .returned (.bool (decide ((xs.length : Int) ≤ m) && xs.all mrgR)) ∧ Below w.heap.size w w' := by
  obtain ⟨q, hq⟩ : ∃ q, (xs.all mrgR) = q := ⟨_, rfl⟩
  have HB := Lib.hid ((Below.refl w.heap.size w).alloc (Nat.le_refl _) (.cells #[.func (.func 78) #[] #[]] 163))
  have HC := Lib.hid (con_Mrg xs A c w.heap.size (w.alloc (.cells #[.func (.func 78) #[] #[]] 163)) (hA.below HB.out (Nat.le_refl _)) (blk_cell (blk_new w _) 0) hl)
  rw [hq] at HC ⊢
  clear hA hq
  by_cases g : (xs.length : Int) ≤ m
  · rw [decide_eq_true g]
    go_enter Tryz.func77, Tryz.ntmps77
    go_wp2_with (go_at_call 116; (refine HC.out.mono ?_); (rintro e V1 ⟨rfl, hb⟩); (have HB1 := Lib.hid (HB.out.trans (hb.mono HB.out.size))); (clear hb))
    go_ret
    exact ⟨by simp, HB1.out⟩
  · rw [decide_eq_false g]
    go_enter Tryz.func77, Tryz.ntmps77
    go_wp2_with fail
    go_ret
    exact ⟨by simp, HB.out⟩
theorem clo_Txt (x : List UInt8) (w : World) (pb : Nat) (hp : w.cell? ⟨pb, 0, none⟩ = some (.func (.func 80) #[] #[])) : Calls Tryz.prog 120 #[.string (bs x), .pointer (some ⟨pb, 0, none⟩)] w fun e w' => e = .returned (.bool (!txtL x)) ∧ Below w.heap.size w w' := by
  have P := Lib.hid (pred_Txt (bs x))
  obtain ⟨b, hb⟩ : ∃ b, txtL x = b := ⟨_, rfl⟩
  (try simp only at P)
  change txtR (bs x) = b at hb
  change Calls _ _ _ _ (fun e w1 => e = .returned (.bool (!txtR (bs x))) ∧ _)
  rw [hb] at P ⊢
  have HB := Lib.hid (Below.refl w.heap.size w)
  clear hb
  go_enter Tryz.func120, Tryz.ntmps120
  go_wp2_with (go_at_call 80; (refine (P.out w).mono ?_); (rintro e V1 ⟨rfl, hb⟩); (have HB1 := Lib.hid (HB.out.trans (hb.mono HB.out.size))); (clear hb))
  go_ret
  exact ⟨rfl, HB1.out⟩
set_option maxHeartbeats 1000000 in
theorem idx_Txt (xs : List (List UInt8)) (A : Option Addr) (c pb : Nat) (w : World) (hA : Sl1 w A strV xs) (hp : w.cell? ⟨pb, 0, none⟩ = some (.func (.func 80) #[] #[])) (hl : xs.length < 9000000000000000000) :
    Calls Tryz.prog 148 #[.slice A xs.length c, .func (.func 120) #[] #[.pointer (some ⟨pb, 0, none⟩)]] w fun e w' => (∃ r, e = .returned (.int .i64 r) ∧ decide (0 ≤ r) = !(xs.all txtL)) ∧ Below w.heap.size w w' := by
  have HA := Lib.hid hA
  have HP := Lib.hid hp
  have HL := Lib.hid hl
  clear hA hp
  go_enter Tryz.func148, Tryz.ntmps148
  go_wp2_with fail
  go_loopg [8] xs.length (fun n i W => ∃ k : Nat, k + n = xs.length ∧ i = .int .i64 (k : Int) ∧ Below w.heap.size w W ∧ (xs.take k).all txtL = true)
  case atStart => exact ⟨0, Nat.zero_add _, rfl, Below.refl _ _, rfl⟩
  case round =>
    obtain ⟨k, hk, rfl, hbl, hall⟩ := hrel
    rename World => W
    by_cases hlt : k < xs.length
    · have HT := Lib.hid (take_snoc hlt)
      have HG := Lib.hid (show xs[k]? = some xs[k] from by simp)
      have HC := Lib.hid (clo_Txt xs[k] W pb (below_cell hbl (Nat.le_refl _) HP.out))
      obtain ⟨b, o, rfl, hc⟩ := HA.out.at k hlt
      have g0 : W.cell? ⟨b, o + k, none⟩ = some (.string (bs xs[k])) := below_cell hbl (Nat.le_refl _) hc
      generalize xs[k] = x at *
      have HK := Lib.hid hk
      have HBL := Lib.hid hbl
      have HALL := Lib.hid hall
      have w1 : IntKind.i64.wrap ((k : Int) + 1) = ((k + 1 : Nat) : Int) := IntWalk.i64_in _ (by omega)
      have k0 : (0 : Int) ≤ (k : Int) := by omega
      have k1 : (k : Int) < (xs.length : Int) := by omega
      obtain ⟨b2, hb2⟩ : ∃ b, txtL x = b := ⟨_, rfl⟩
      rw [hb2] at HC
      have HB2 := Lib.hid hb2
      clear hk hbl hall hc hb2
      rcases b2 with _ | _
      · go_wp2_with (go_at_call 120; (refine HC.out.mono ?_); (rintro e V1 ⟨rfl, hb⟩); (have HB3 := Lib.hid (HBL.out.trans (hb.mono HBL.out.size))); (clear hb))
        go_ret
        refine ⟨⟨_, rfl, ?_⟩, HB3.out⟩
        rw [all_false HG.out HB2.out, decide_eq_true k0]
        rfl
      · go_wp2_with (go_at_call 120; (refine HC.out.mono ?_); (rintro e V1 ⟨rfl, hb⟩); (have HB3 := Lib.hid (HBL.out.trans (hb.mono HBL.out.size))); (clear hb))
        have hk := HK.out
        go_roundg (xs.length - (k + 1))
        · refine ⟨k + 1, by omega, rfl, HB3.out, ?_⟩
          rw [HT.out, all_snoc, HALL.out, HB2.out]
          rfl
        · omega
    · have hke : k = xs.length := by omega
      have HBL := Lib.hid hbl
      have HALL : Hid (xs.all txtL = true) := Lib.hid (by rw [hke, List.take_length] at hall; exact hall)
      have k1 : ¬ (k : Int) < (xs.length : Int) := by omega
      clear hk hke hbl hall
      go_wp2_with fail
      go_ret
      exact ⟨⟨_, rfl, by rw [HALL.out]; rfl⟩, HBL.out⟩
theorem con_Txt (xs : List (List UInt8)) (A : Option Addr) (c pb : Nat) (w : World) (hA : Sl1 w A strV xs) (hp : w.cell? ⟨pb, 0, none⟩ = some (.func (.func 80) #[] #[])) (hl : xs.length < 9000000000000000000) :
    Calls Tryz.prog 119 #[.slice A xs.length c, .func (.func 120) #[] #[.pointer (some ⟨pb, 0, none⟩)]] w fun e w' => e = .returned (.bool (!(xs.all txtL))) ∧ Below w.heap.size w w' := by
  have HI := Lib.hid (idx_Txt xs A c pb w hA hp hl)
  clear hA hp hl
  go_enter Tryz.func119, Tryz.ntmps119
  go_wp2_with (go_at_call 148; (refine HI.out.mono ?_); (rintro e V1 ⟨⟨r, rfl, hr⟩, hb⟩); (have HR := Lib.hid hr); (have HB := Lib.hid hb); (clear hr hb))
  go_ret
  exact ⟨by first | rfl | (rw [HR.out]; rfl), HB.out⟩
theorem all_Txt (xs : List (List UInt8)) (A : Option Addr) (c : Nat) (m : Int) (w : World) (hA : Sl1 w A strV xs) (hl : xs.length < 9000000000000000000) :
    Calls Tryz.prog 79 #[.slice A xs.length c, .int .i64 m, .func (.func 80) #[] #[]] w fun e w' => e = .returned (.bool (decide ((xs.length : Int) ≤ m) && xs.all txtL)) ∧ Below w.heap.size w w' := by
  obtain ⟨q, hq⟩ : ∃ q, (xs.all txtL) = q := ⟨_, rfl⟩
  have HB := Lib.hid ((Below.refl w.heap.size w).alloc (Nat.le_refl _) (.cells #[.func (.func 80) #[] #[]] 165))
  have HC := Lib.hid (con_Txt xs A c w.heap.size (w.alloc (.cells #[.func (.func 80) #[] #[]] 165)) (hA.below HB.out (Nat.le_refl _)) (blk_cell (blk_new w _) 0) hl)
  rw [hq] at HC ⊢
  clear hA hq
  by_cases g : (xs.length : Int) ≤ m
  · rw [decide_eq_true g]
    go_enter Tryz.func79, Tryz.ntmps79
    go_wp2_with (go_at_call 119; (refine HC.out.mono ?_); (rintro e V1 ⟨rfl, hb⟩); (have HB1 := Lib.hid (HB.out.trans (hb.mono HB.out.size))); (clear hb))
    go_ret
    exact ⟨by simp, HB1.out⟩
  · rw [decide_eq_false g]
    go_enter Tryz.func79, Tryz.ntmps79
    go_wp2_with fail
    go_ret
    exact ⟨by simp, HB.out⟩
theorem clo_Spl (x : Int × List UInt8) (w : World) (pb : Nat) (hp : w.cell? ⟨pb, 0, none⟩ = some (.func (.func 82) #[] #[])) : Calls Tryz.prog 122 #[.agg #[.int .i64 x.1, .string (bs x.2)], .pointer (some ⟨pb, 0, none⟩)] w fun e w' => e = .returned (.bool (!splL x)) ∧ Below w.heap.size w w' := by
  have P := Lib.hid (pred_Spl (x.1, bs x.2))
  obtain ⟨x1, x2⟩ := x
  obtain ⟨b, hb⟩ : ∃ b, splL ⟨x1, x2⟩ = b := ⟨_, rfl⟩
  (try simp only at P)
  change splR (x1, bs x2) = b at hb
  change Calls _ _ _ _ (fun e w1 => e = .returned (.bool (!splR (x1, bs x2))) ∧ _)
  rw [hb] at P ⊢
  have HB := Lib.hid ((Below.refl w.heap.size w).alloc (Nat.le_refl _) (.cells #[.int .i64 x1, .string (bs x2)] 98))
  have hp2 := below_cell HB.out (Nat.le_refl _) hp
  clear hb
  go_enter Tryz.func122, Tryz.ntmps122
  go_wp2_with (go_at_call 82; (refine (P.out (w.alloc (.cells #[.int .i64 x1, .string (bs x2)] 98))).mono ?_); (rintro e V1 ⟨rfl, hb⟩); (have HB1 := Lib.hid (HB.out.trans (hb.mono HB.out.size))); (clear hb))
  go_ret
  exact ⟨rfl, HB1.out⟩
set_option maxHeartbeats 1000000 in
theorem idx_Spl (xs : List (Int × List UInt8)) (A : Option Addr) (c pb : Nat) (w : World) (hA : Sl w A encIS 2 xs) (hp : w.cell? ⟨pb, 0, none⟩ = some (.func (.func 82) #[] #[])) (hl : xs.length < 9000000000000000000) :
    Calls Tryz.prog 89 #[.slice A xs.length c, .func (.func 122) #[] #[.pointer (some ⟨pb, 0, none⟩)]] w fun e w' => (∃ r, e = .returned (.int .i64 r) ∧ decide (0 ≤ r) = !(xs.all splL)) ∧ Below w.heap.size w w' := by
  have HA := Lib.hid hA
  have HP := Lib.hid hp
  have HL := Lib.hid hl
  clear hA hp
  go_enter Tryz.func89, Tryz.ntmps89
  go_wp2_with fail
  go_loopg [8] xs.length (fun n i W => ∃ k : Nat, k + n = xs.length ∧ i = .int .i64 (k : Int) ∧ Below w.heap.size w W ∧ (xs.take k).all splL = true)
  case atStart => exact ⟨0, Nat.zero_add _, rfl, Below.refl _ _, rfl⟩
  case round =>
    obtain ⟨k, hk, rfl, hbl, hall⟩ := hrel
    rename World => W
    by_cases hlt : k < xs.length
    · have HT := Lib.hid (take_snoc hlt)
      have HG := Lib.hid (show xs[k]? = some xs[k] from by simp)
      have HC := Lib.hid (clo_Spl xs[k] W pb (below_cell hbl (Nat.le_refl _) HP.out))
      obtain ⟨b, o, rfl, hc⟩ := HA.out.at k hlt
      have g0 : W.cell? ⟨b, o + k * 2, none⟩ = some (.int .i64 xs[k].1) := below_cell hbl (Nat.le_refl _) (hc 0 _ rfl)
      have g1 : W.cell? ⟨b, o + k * 2 + 1, none⟩ = some (.string (bs xs[k].2)) := below_cell hbl (Nat.le_refl _) (hc 1 _ rfl)
      generalize xs[k] = x at *
      have HK := Lib.hid hk
      have HBL := Lib.hid hbl
      have HALL := Lib.hid hall
      have w1 : IntKind.i64.wrap ((k : Int) + 1) = ((k + 1 : Nat) : Int) := IntWalk.i64_in _ (by omega)
      have k0 : (0 : Int) ≤ (k : Int) := by omega
      have k1 : (k : Int) < (xs.length : Int) := by omega
      obtain ⟨b2, hb2⟩ : ∃ b, splL x = b := ⟨_, rfl⟩
      rw [hb2] at HC
      have HB2 := Lib.hid hb2
      clear hk hbl hall hc hb2
      rcases b2 with _ | _
      · go_wp2_with (go_at_call 122; (refine HC.out.mono ?_); (rintro e V1 ⟨rfl, hb⟩); (have HB3 := Lib.hid (HBL.out.trans (hb.mono HBL.out.size))); (clear hb))
        go_ret
        refine ⟨⟨_, rfl, ?_⟩, HB3.out⟩
        rw [all_false HG.out HB2.out, decide_eq_true k0]
        rfl
      · go_wp2_with (go_at_call 122; (refine HC.out.mono ?_); (rintro e V1 ⟨rfl, hb⟩); (have HB3 := Lib.hid (HBL.out.trans (hb.mono HBL.out.size))); (clear hb))
        have hk := HK.out
        go_roundg (xs.length - (k + 1))
        · refine ⟨k + 1, by omega, rfl, HB3.out, ?_⟩
          rw [HT.out, all_snoc, HALL.out, HB2.out]
          rfl
        · omega
    · have hke : k = xs.length := by omega
      have HBL := Lib.hid hbl
      have HALL : Hid (xs.all splL = true) := Lib.hid (by rw [hke, List.take_length] at hall; exact hall)
      have k1 : ¬ (k : Int) < (xs.length : Int) := by omega
      clear hk hke hbl hall
      go_wp2_with fail
      go_ret
      exact ⟨⟨_, rfl, by rw [HALL.out]; rfl⟩, HBL.out⟩
theorem con_Spl (xs : List (Int × List UInt8)) (A : Option Addr) (c pb : Nat) (w : World) (hA : Sl w A encIS 2 xs) (hp : w.cell? ⟨pb, 0, none⟩ = some (.func (.func 82) #[] #[])) (hl : xs.length < 9000000000000000000) :
    Calls Tryz.prog 121 #[.slice A xs.length c, .func (.func 122) #[] #[.pointer (some ⟨pb, 0, none⟩)]] w fun e w' => e = .returned (.bool (!(xs.all splL))) ∧ Below w.heap.size w w' := by
  have HI := Lib.hid (idx_Spl xs A c pb w hA hp hl)
  clear hA hp hl
  go_enter Tryz.func121, Tryz.ntmps121
  go_wp2_with (go_at_call 89; (refine HI.out.mono ?_); (rintro e V1 ⟨⟨r, rfl, hr⟩, hb⟩); (have HR := Lib.hid hr); (have HB := Lib.hid hb); (clear hr hb))
  go_ret
  exact ⟨by first | rfl | (rw [HR.out]; rfl), HB.out⟩
theorem all_Spl (xs : List (Int × List UInt8)) (A : Option Addr) (c : Nat) (m : Int) (w : World) (hA : Sl w A encIS 2 xs) (hl : xs.length < 9000000000000000000) :
    Calls Tryz.prog 81 #[.slice A xs.length c, .int .i64 m, .func (.func 82) #[] #[]] w fun e w' => e = .returned (.bool (decide ((xs.length : Int) ≤ m) && xs.all splL)) ∧ Below w.heap.size w w' := by
  obtain ⟨q, hq⟩ : ∃ q, (xs.all splL) = q := ⟨_, rfl⟩
  have HB := Lib.hid ((Below.refl w.heap.size w).alloc (Nat.le_refl _) (.cells #[.func (.func 82) #[] #[]] 167))
  have HC := Lib.hid (con_Spl xs A c w.heap.size (w.alloc (.cells #[.func (.func 82) #[] #[]] 167)) (hA.below HB.out (Nat.le_refl _)) (blk_cell (blk_new w _) 0) hl)
  rw [hq] at HC ⊢
  clear hA hq
  by_cases g : (xs.length : Int) ≤ m
  · rw [decide_eq_true g]
    go_enter Tryz.func81, Tryz.ntmps81
    go_wp2_with (go_at_call 121; (refine HC.out.mono ?_); (rintro e V1 ⟨rfl, hb⟩); (have HB1 := Lib.hid (HB.out.trans (hb.mono HB.out.size))); (clear hb))
    go_ret
    exact ⟨by simp, HB1.out⟩
  · rw [decide_eq_false g]
    go_enter Tryz.func81, Tryz.ntmps81
    go_wp2_with fail
    go_ret
    exact ⟨by simp, HB.out⟩
theorem clo_Cls (x : Cls) (w : World) (pb : Nat) (hp : w.cell? ⟨pb, 0, none⟩ = some (.func (.func 84) #[] #[])) : Calls Tryz.prog 124 #[.agg #[.int .i64 x.lo, .int .i64 x.hi, .int .i64 x.n], .pointer (some ⟨pb, 0, none⟩)] w fun e w' => e = .returned (.bool (!clsR x)) ∧ Below w.heap.size w w' := by
  have P := Lib.hid (pred_Cls x)
  obtain ⟨x1, x2, x3⟩ := x
  obtain ⟨b, hb⟩ : ∃ b, clsR ⟨x1, x2, x3⟩ = b := ⟨_, rfl⟩
  (try simp only at P)
  skip
  skip
  rw [hb] at P ⊢
  have HB := Lib.hid ((Below.refl w.heap.size w).alloc (Nat.le_refl _) (.cells #[.int .i64 x1, .int .i64 x2, .int .i64 x3] 132))
  have hp2 := below_cell HB.out (Nat.le_refl _) hp
  clear hb
  go_enter Tryz.func124, Tryz.ntmps124
  go_wp2_with (go_at_call 84; (refine (P.out (w.alloc (.cells #[.int .i64 x1, .int .i64 x2, .int .i64 x3] 132))).mono ?_); (rintro e V1 ⟨rfl, hb⟩); (have HB1 := Lib.hid (HB.out.trans (hb.mono HB.out.size))); (clear hb))
  go_ret
  exact ⟨rfl, HB1.out⟩
set_option maxHeartbeats 1000000 in
theorem idx_Cls (xs : List (Cls)) (A : Option Addr) (c pb : Nat) (w : World) (hA : Sl w A encCls 3 xs) (hp : w.cell? ⟨pb, 0, none⟩ = some (.func (.func 84) #[] #[])) (hl : xs.length < 9000000000000000000) :
    Calls Tryz.prog 149 #[.slice A xs.length c, .func (.func 124) #[] #[.pointer (some ⟨pb, 0, none⟩)]] w fun e w' => (∃ r, e = .returned (.int .i64 r) ∧ decide (0 ≤ r) = !(xs.all clsR)) ∧ Below w.heap.size w w' := by
  have HA := Lib.hid hA
  have HP := Lib.hid hp
  have HL := Lib.hid hl
  clear hA hp
  go_enter Tryz.func149, Tryz.ntmps149
  go_wp2_with fail
  go_loopg [8] xs.length (fun n i W => ∃ k : Nat, k + n = xs.length ∧ i = .int .i64 (k : Int) ∧ Below w.heap.size w W ∧ (xs.take k).all clsR = true)
  case atStart => exact ⟨0, Nat.zero_add _, rfl, Below.refl _ _, rfl⟩
  case round =>
    obtain ⟨k, hk, rfl, hbl, hall⟩ := hrel
    rename World => W
    by_cases hlt : k < xs.length
    · have HT := Lib.hid (take_snoc hlt)
      have HG := Lib.hid (show xs[k]? = some xs[k] from by simp)
      have HC := Lib.hid (clo_Cls xs[k] W pb (below_cell hbl (Nat.le_refl _) HP.out))
      obtain ⟨b, o, rfl, hc⟩ := HA.out.at k hlt
      have g0 : W.cell? ⟨b, o + k * 3, none⟩ = some (.int .i64 xs[k].lo) := below_cell hbl (Nat.le_refl _) (hc 0 _ rfl)
      have g1 : W.cell? ⟨b, o + k * 3 + 1, none⟩ = some (.int .i64 xs[k].hi) := below_cell hbl (Nat.le_refl _) (hc 1 _ rfl)
      have g2 : W.cell? ⟨b, o + k * 3 + 2, none⟩ = some (.int .i64 xs[k].n) := below_cell hbl (Nat.le_refl _) (hc 2 _ rfl)
      generalize xs[k] = x at *
      have HK := Lib.hid hk
      have HBL := Lib.hid hbl
      have HALL := Lib.hid hall
      have w1 : IntKind.i64.wrap ((k : Int) + 1) = ((k + 1 : Nat) : Int) := IntWalk.i64_in _ (by omega)
      have k0 : (0 : Int) ≤ (k : Int) := by omega
      have k1 : (k : Int) < (xs.length : Int) := by omega
      obtain ⟨b2, hb2⟩ : ∃ b, clsR x = b := ⟨_, rfl⟩
      rw [hb2] at HC
      have HB2 := Lib.hid hb2
      clear hk hbl hall hc hb2
      rcases b2 with _ | _
      · go_wp2_with (go_at_call 124; (refine HC.out.mono ?_); (rintro e V1 ⟨rfl, hb⟩); (have HB3 := Lib.hid (HBL.out.trans (hb.mono HBL.out.size))); (clear hb))
        go_ret
        refine ⟨⟨_, rfl, ?_⟩, HB3.out⟩
        rw [all_false HG.out HB2.out, decide_eq_true k0]
        rfl
      · go_wp2_with (go_at_call 124; (refine HC.out.mono ?_); (rintro e V1 ⟨rfl, hb⟩); (have HB3 := Lib.hid (HBL.out.trans (hb.mono HBL.out.size))); (clear hb))
        have hk := HK.out
        go_roundg (xs.length - (k + 1))
        · refine ⟨k + 1, by omega, rfl, HB3.out, ?_⟩
          rw [HT.out, all_snoc, HALL.out, HB2.out]
          rfl
        · omega
    · have hke : k = xs.length := by omega
      have HBL := Lib.hid hbl
      have HALL : Hid (xs.all clsR = true) := Lib.hid (by rw [hke, List.take_length] at hall; exact hall)
      have k1 : ¬ (k : Int) < (xs.length : Int) := by omega
      clear hk hke hbl hall
      go_wp2_with fail
      go_ret
      exact ⟨⟨_, rfl, by rw [HALL.out]; rfl⟩, HBL.out⟩
theorem con_Cls (xs : List (Cls)) (A : Option Addr) (c pb : Nat) (w : World) (hA : Sl w A encCls 3 xs) (hp : w.cell? ⟨pb, 0, none⟩ = some (.func (.func 84) #[] #[])) (hl : xs.length < 9000000000000000000) :
    Calls Tryz.prog 123 #[.slice A xs.length c, .func (.func 124) #[] #[.pointer (some ⟨pb, 0, none⟩)]] w fun e w' => e = .returned (.bool (!(xs.all clsR))) ∧ Below w.heap.size w w' := by
  have HI := Lib.hid (idx_Cls xs A c pb w hA hp hl)
  clear hA hp hl
  go_enter Tryz.func123, Tryz.ntmps123
  go_wp2_with (go_at_call 149; (refine HI.out.mono ?_); (rintro e V1 ⟨⟨r, rfl, hr⟩, hb⟩); (have HR := Lib.hid hr); (have HB := Lib.hid hb); (clear hr hb))
  go_ret
  exact ⟨by first | rfl | (rw [HR.out]; rfl), HB.out⟩
theorem all_Cls (xs : List (Cls)) (A : Option Addr) (c : Nat) (m : Int) (w : World) (hA : Sl w A encCls 3 xs) (hl : xs.length < 9000000000000000000) :
    Calls Tryz.prog 83 #[.slice A xs.length c, .int .i64 m, .func (.func 84) #[] #[]] w fun e w' => e = .returned (.bool (decide ((xs.length : Int) ≤ m) && xs.all clsR)) ∧ Below w.heap.size w w' := by
  obtain ⟨q, hq⟩ : ∃ q, (xs.all clsR) = q := ⟨_, rfl⟩
  have HB := Lib.hid ((Below.refl w.heap.size w).alloc (Nat.le_refl _) (.cells #[.func (.func 84) #[] #[]] 169))
  have HC := Lib.hid (con_Cls xs A c w.heap.size (w.alloc (.cells #[.func (.func 84) #[] #[]] 169)) (hA.below HB.out (Nat.le_refl _)) (blk_cell (blk_new w _) 0) hl)
  rw [hq] at HC ⊢
  clear hA hq
  by_cases g : (xs.length : Int) ≤ m
  · rw [decide_eq_true g]
    go_enter Tryz.func83, Tryz.ntmps83
    go_wp2_with (go_at_call 123; (refine HC.out.mono ?_); (rintro e V1 ⟨rfl, hb⟩); (have HB1 := Lib.hid (HB.out.trans (hb.mono HB.out.size))); (clear hb))
    go_ret
    exact ⟨by simp, HB1.out⟩
  · rw [decide_eq_false g]
    go_enter Tryz.func83, Tryz.ntmps83
    go_wp2_with fail
    go_ret
    exact ⟨by simp, HB.out⟩
theorem clo_Jns (x : Jn) (w : World) (pb : Nat) (hp : w.cell? ⟨pb, 0, none⟩ = some (.func (.func 86) #[] #[])) : Calls Tryz.prog 126 #[.agg #[.int .i64 x.a, .int .i64 x.b], .pointer (some ⟨pb, 0, none⟩)] w fun e w' => e = .returned (.bool (!jnR x)) ∧ Below w.heap.size w w' := by
  have P := Lib.hid (pred_Jns x)
  obtain ⟨x1, x2⟩ := x
  obtain ⟨b, hb⟩ : ∃ b, jnR ⟨x1, x2⟩ = b := ⟨_, rfl⟩
  (try simp only at P)
  skip
  skip
  rw [hb] at P ⊢
  have HB := Lib.hid ((Below.refl w.heap.size w).alloc (Nat.le_refl _) (.cells #[.int .i64 x1, .int .i64 x2] 133))
  have hp2 := below_cell HB.out (Nat.le_refl _) hp
  clear hb
  go_enter Tryz.func126, Tryz.ntmps126
  go_wp2_with (go_at_call 86; (refine (P.out (w.alloc (.cells #[.int .i64 x1, .int .i64 x2] 133))).mono ?_); (rintro e V1 ⟨rfl, hb⟩); (have HB1 := Lib.hid (HB.out.trans (hb.mono HB.out.size))); (clear hb))
  go_ret
  exact ⟨rfl, HB1.out⟩
set_option maxHeartbeats 1000000 in
theorem idx_Jns (xs : List (Jn)) (A : Option Addr) (c pb : Nat) (w : World) (hA : Sl w A encJn 2 xs) (hp : w.cell? ⟨pb, 0, none⟩ = some (.func (.func 86) #[] #[])) (hl : xs.length < 9000000000000000000) :
    Calls Tryz.prog 150 #[.slice A xs.length c, .func (.func 126) #[] #[.pointer (some ⟨pb, 0, none⟩)]] w fun e w' => (∃ r, e = .returned (.int .i64 r) ∧ decide (0 ≤ r) = !(xs.all jnR)) ∧ Below w.heap.size w w' := by
  have HA := Lib.hid hA
  have HP := Lib.hid hp
  have HL := Lib.hid hl
  clear hA hp
  go_enter Tryz.func150, Tryz.ntmps150
  go_wp2_with fail
  go_loopg [8] xs.length (fun n i W => ∃ k : Nat, k + n = xs.length ∧ i = .int .i64 (k : Int) ∧ Below w.heap.size w W ∧ (xs.take k).all jnR = true)
  case atStart => exact ⟨0, Nat.zero_add _, rfl, Below.refl _ _, rfl⟩
  case round =>
    obtain ⟨k, hk, rfl, hbl, hall⟩ := hrel
    rename World => W
    by_cases hlt : k < xs.length
    · have HT := Lib.hid (take_snoc hlt)
      have HG := Lib.hid (show xs[k]? = some xs[k] from by simp)
      have HC := Lib.hid (clo_Jns xs[k] W pb (below_cell hbl (Nat.le_refl _) HP.out))
      obtain ⟨b, o, rfl, hc⟩ := HA.out.at k hlt
      have g0 : W.cell? ⟨b, o + k * 2, none⟩ = some (.int .i64 xs[k].a) := below_cell hbl (Nat.le_refl _) (hc 0 _ rfl)
      have g1 : W.cell? ⟨b, o + k * 2 + 1, none⟩ = some (.int .i64 xs[k].b) := below_cell hbl (Nat.le_refl _) (hc 1 _ rfl)
      generalize xs[k] = x at *
      have HK := Lib.hid hk
      have HBL := Lib.hid hbl
      have HALL := Lib.hid hall
      have w1 : IntKind.i64.wrap ((k : Int) + 1) = ((k + 1 : Nat) : Int) := IntWalk.i64_in _ (by omega)
      have k0 : (0 : Int) ≤ (k : Int) := by omega
      have k1 : (k : Int) < (xs.length : Int) := by omega
      obtain ⟨b2, hb2⟩ : ∃ b, jnR x = b := ⟨_, rfl⟩
      rw [hb2] at HC
      have HB2 := Lib.hid hb2
      clear hk hbl hall hc hb2
      rcases b2 with _ | _
      · go_wp2_with (go_at_call 126; (refine HC.out.mono ?_); (rintro e V1 ⟨rfl, hb⟩); (have HB3 := Lib.hid (HBL.out.trans (hb.mono HBL.out.size))); (clear hb))
        go_ret
        refine ⟨⟨_, rfl, ?_⟩, HB3.out⟩
        rw [all_false HG.out HB2.out, decide_eq_true k0]
        rfl
      · go_wp2_with (go_at_call 126; (refine HC.out.mono ?_); (rintro e V1 ⟨rfl, hb⟩); (have HB3 := Lib.hid (HBL.out.trans (hb.mono HBL.out.size))); (clear hb))
        have hk := HK.out
        go_roundg (xs.length - (k + 1))
        · refine ⟨k + 1, by omega, rfl, HB3.out, ?_⟩
          rw [HT.out, all_snoc, HALL.out, HB2.out]
          rfl
        · omega
    · have hke : k = xs.length := by omega
      have HBL := Lib.hid hbl
      have HALL : Hid (xs.all jnR = true) := Lib.hid (by rw [hke, List.take_length] at hall; exact hall)
      have k1 : ¬ (k : Int) < (xs.length : Int) := by omega
      clear hk hke hbl hall
      go_wp2_with fail
      go_ret
      exact ⟨⟨_, rfl, by rw [HALL.out]; rfl⟩, HBL.out⟩
theorem con_Jns (xs : List (Jn)) (A : Option Addr) (c pb : Nat) (w : World) (hA : Sl w A encJn 2 xs) (hp : w.cell? ⟨pb, 0, none⟩ = some (.func (.func 86) #[] #[])) (hl : xs.length < 9000000000000000000) :
    Calls Tryz.prog 125 #[.slice A xs.length c, .func (.func 126) #[] #[.pointer (some ⟨pb, 0, none⟩)]] w fun e w' => e = .returned (.bool (!(xs.all jnR))) ∧ Below w.heap.size w w' := by
  have HI := Lib.hid (idx_Jns xs A c pb w hA hp hl)
  clear hA hp hl
  go_enter Tryz.func125, Tryz.ntmps125
  go_wp2_with (go_at_call 150; (refine HI.out.mono ?_); (rintro e V1 ⟨⟨r, rfl, hr⟩, hb⟩); (have HR := Lib.hid hr); (have HB := Lib.hid hb); (clear hr hb))
  go_ret
  exact ⟨by first | rfl | (rw [HR.out]; rfl), HB.out⟩
theorem all_Jns (xs : List (Jn)) (A : Option Addr) (c : Nat) (m : Int) (w : World) (hA : Sl w A encJn 2 xs) (hl : xs.length < 9000000000000000000) :
    Calls Tryz.prog 85 #[.slice A xs.length c, .int .i64 m, .func (.func 86) #[] #[]] w fun e w' => e = .returned (.bool (decide ((xs.length : Int) ≤ m) && xs.all jnR)) ∧ Below w.heap.size w w' := by
  obtain ⟨q, hq⟩ : ∃ q, (xs.all jnR) = q := ⟨_, rfl⟩
  have HB := Lib.hid ((Below.refl w.heap.size w).alloc (Nat.le_refl _) (.cells #[.func (.func 86) #[] #[]] 171))
  have HC := Lib.hid (con_Jns xs A c w.heap.size (w.alloc (.cells #[.func (.func 86) #[] #[]] 171)) (hA.below HB.out (Nat.le_refl _)) (blk_cell (blk_new w _) 0) hl)
  rw [hq] at HC ⊢
  clear hA hq
  by_cases g : (xs.length : Int) ≤ m
  · rw [decide_eq_true g]
    go_enter Tryz.func85, Tryz.ntmps85
    go_wp2_with (go_at_call 125; (refine HC.out.mono ?_); (rintro e V1 ⟨rfl, hb⟩); (have HB1 := Lib.hid (HB.out.trans (hb.mono HB.out.size))); (clear hb))
    go_ret
    exact ⟨by simp, HB1.out⟩
  · rw [decide_eq_false g]
    go_enter Tryz.func85, Tryz.ntmps85
    go_wp2_with fail
    go_ret
    exact ⟨by simp, HB.out⟩
structure Th (X : Type) where
  r : Int
  p : Int
  t : Int
  x : X
def leT {X : Type} (a b : Th X) : Prop := a.r < b.r ∨ (a.r = b.r ∧ (a.p < b.p ∨ (a.p = b.p ∧ a.t ≤ b.t)))
def ltB {X : Type} (a b : Th X) : Bool := if a.r ≠ b.r then decide (a.r < b.r) else if a.p ≠ b.p then decide (a.p < b.p) else decide (a.t < b.t)
theorem ltB_le {X : Type} {a b : Th X} (h : ltB a b = true) : leT a b := by
  unfold ltB at h; unfold leT
  split at h
  · simp at h; omega
  · split at h <;> simp at h <;> omega
theorem ltB_not {X : Type} {a b : Th X} (h : ltB a b = false) : leT b a := by
  unfold ltB at h; unfold leT
  split at h
  · simp at h; omega
  · split at h <;> simp at h <;> omega
theorem leT_refl {X : Type} (a : Th X) : leT a a := by unfold leT; omega
theorem leT_trans {X : Type} {a b c : Th X} (h : leT a b) (k : leT b c) : leT a c := by unfold leT at *; omega
def swapT {α : Type} (l : List α) (i k : Nat) : List α := if h : i < l.length ∧ k < l.length then (l.set i l[k]).set k l[i] else l
theorem swap_len {α : Type} (l : List α) (i k : Nat) : (swapT l i k).length = l.length := by unfold swapT; split <;> simp
theorem swap_perm {α : Type} (l : List α) (i k : Nat) : (swapT l i k).Perm l := by
  unfold swapT
  split
  · rename_i h; exact List.set_set_perm h.1 h.2
  · exact List.Perm.refl _
theorem swap_at {α : Type} (l : List α) (i k j : Nat) (hi : i < l.length) (hk : k < l.length) (hj : j < (swapT l i k).length) : (swapT l i k)[j] = if j = k then l[i] else if j = i then l[k] else l[j]'(by rw [swap_len] at hj; exact hj) := by
  have e : swapT l i k = (l.set i l[k]).set k l[i] := by unfold swapT; rw [dif_pos ⟨hi, hk⟩]
  simp only [e, List.getElem_set]
  by_cases h1 : j = k
  · subst h1; simp
  · rw [if_neg (fun h => h1 h.symm), if_neg h1]
    by_cases h2 : j = i
    · subst h2; simp
    · rw [if_neg (fun h => h2 h.symm), if_neg h2]
section
variable {X : Type}
def upT (l : List (Th X)) (i : Nat) : List (Th X) :=
  if h : 0 < i ∧ i < l.length then (if ltB l[i] (l[(i - 1) / 2]'(by omega)) then upT (swapT l i ((i - 1) / 2)) ((i - 1) / 2) else l) else l
termination_by i
decreasing_by omega
def lstT (l : List (Th X)) (i m : Nat) (k : Nat) : Nat := if h : k < l.length ∧ m < l.length then (if ltB l[k] l[m] then k else m) else m
def leastT (l : List (Th X)) (i : Nat) : Nat := lstT l i (lstT l i i (2 * i + 1)) (2 * i + 2)
theorem lst_or (l : List (Th X)) (i m k : Nat) : lstT l i m k = m ∨ (lstT l i m k = k ∧ k < l.length) := by
  unfold lstT
  split
  · rename_i h; split
    · exact .inr ⟨rfl, h.1⟩
    · exact .inl rfl
  · exact .inl rfl
theorem least_or (l : List (Th X)) (i : Nat) : leastT l i = i ∨ (leastT l i < l.length ∧ (leastT l i = 2 * i + 1 ∨ leastT l i = 2 * i + 2)) := by
  unfold leastT
  rcases lst_or l i (lstT l i i (2 * i + 1)) (2 * i + 2) with h | ⟨h, h2⟩
  · rw [h]
    rcases lst_or l i i (2 * i + 1) with h | ⟨h, h2⟩
    · exact .inl h
    · rw [h]; exact .inr ⟨h2, .inl rfl⟩
  · rw [h]; exact .inr ⟨h2, .inr rfl⟩
def downT (l : List (Th X)) (i : Nat) : List (Th X) :=
  if h : leastT l i = i then l else downT (swapT l i (leastT l i)) (leastT l i)
termination_by l.length - i
decreasing_by
  rw [swap_len]
  rcases least_or l i with h1 | ⟨h1, h2⟩
  · exact absurd h1 h
  · omega
theorem up_len (l : List (Th X)) (i : Nat) : (upT l i).length = l.length := by
  fun_induction upT l i with
  | case1 l i h h1 ih => rw [ih, swap_len]
  | case2 => rfl
  | case3 => rfl
theorem up_perm (l : List (Th X)) (i : Nat) : (upT l i).Perm l := by
  fun_induction upT l i with
  | case1 l i h h1 ih => exact ih.trans (swap_perm _ _ _)
  | case2 => exact List.Perm.refl _
  | case3 => exact List.Perm.refl _
theorem down_len (l : List (Th X)) (i : Nat) : (downT l i).length = l.length := by
  fun_induction downT l i with
  | case1 => rfl
  | case2 l i h ih => rw [ih, swap_len]
theorem down_perm (l : List (Th X)) (i : Nat) : (downT l i).Perm l := by
  fun_induction downT l i with
  | case1 => exact List.Perm.refl _
  | case2 l i h ih => exact ih.trans (swap_perm _ _ _)
def HeapT (l : List (Th X)) : Prop := ∀ j (h : j < l.length), 0 < j → leT (l[(j - 1) / 2]'(by omega)) l[j]
def UpT (l : List (Th X)) (i : Nat) : Prop := (∀ j (h : j < l.length), 0 < j → j ≠ i → leT (l[(j - 1) / 2]'(by omega)) l[j]) ∧
  (∀ j (h : j < l.length) (_ : 0 < j) (_ : 0 < i) (_ : (j - 1) / 2 = i), leT (l[(i - 1) / 2]'(by omega)) l[j])
theorem up_heap (l : List (Th X)) (i : Nat) (hi : i < l.length) (h : UpT l i) : HeapT (upT l i) := by
  fun_induction upT l i with
  | case1 l i h0 h1 ih =>
    refine ih (by rw [swap_len]; omega) ⟨?_, ?_⟩
    · intro j hj hj0 hjp
      rw [swap_len] at hj
      have ho : (i - 1) / 2 < l.length := by omega
      rw [swap_at l i _ _ hi ho, swap_at l i _ _ hi ho]
      have hle := ltB_le h1
      rw [if_neg hjp]
      by_cases hji : j = i
      · subst hji
        rw [if_pos rfl, if_pos rfl]
        exact hle
      · rw [if_neg hji]
        by_cases hp : (j - 1) / 2 = (i - 1) / 2
        · rw [if_pos hp]
          have := h.1 j hj hj0 hji
          simp only [hp] at this
          exact leT_trans hle this
        · rw [if_neg hp]
          by_cases hp2 : (j - 1) / 2 = i
          · rw [if_pos hp2]
            exact h.2 j hj hj0 h0.1 hp2
          · rw [if_neg hp2]
            exact h.1 j hj hj0 hji
    · intro j hj hj0 hp0 hjp
      rw [swap_len] at hj
      have ho : (i - 1) / 2 < l.length := by omega
      have hne : ((i - 1) / 2 - 1) / 2 ≠ (i - 1) / 2 := by omega
      have hne2 : ((i - 1) / 2 - 1) / 2 ≠ i := by omega
      have hj1 : j ≠ (i - 1) / 2 := by omega
      rw [swap_at l i _ _ hi ho, swap_at l i _ _ hi ho, if_neg hne, if_neg hne2, if_neg hj1]
      have h3 := h.1 ((i - 1) / 2) ho hp0 (by omega)
      by_cases hji : j = i
      · subst hji
        rw [if_pos rfl]
        exact h3
      · rw [if_neg hji]
        have h4 := h.1 j hj hj0 hji
        simp only [hjp] at h4
        exact leT_trans h3 h4
  | case2 l i h0 h1 =>
    intro j hj hj0
    by_cases hji : j = i
    · subst hji
      exact ltB_not (by simpa using h1)
    · exact h.1 j hj hj0 hji
  | case3 l i h0 =>
    intro j hj hj0
    exact h.1 j hj hj0 (by omega)
def DownT (l : List (Th X)) (i : Nat) : Prop := (∀ j (h : j < l.length), 0 < j → (j - 1) / 2 ≠ i → leT (l[(j - 1) / 2]'(by omega)) l[j]) ∧
  (∀ j (h : j < l.length) (_ : 0 < j) (_ : 0 < i) (_ : (j - 1) / 2 = i), leT (l[(i - 1) / 2]'(by omega)) l[j])
theorem lst_le (l : List (Th X)) (i m k : Nat) (hm : m < l.length) : (∀ h : lstT l i m k < l.length, leT l[lstT l i m k] l[m]) ∧ (∀ h : lstT l i m k < l.length, ∀ hk : k < l.length, leT l[lstT l i m k] l[k]) := by
  by_cases hk : k < l.length
  · by_cases hb : ltB l[k] l[m] = true
    · have e : lstT l i m k = k := by unfold lstT; rw [dif_pos ⟨hk, hm⟩, if_pos hb]
      simp only [e]
      exact ⟨fun _ => ltB_le hb, fun _ _ => leT_refl _⟩
    · have e : lstT l i m k = m := by unfold lstT; rw [dif_pos ⟨hk, hm⟩, if_neg hb]
      simp only [e]
      exact ⟨fun _ => leT_refl _, fun _ _ => ltB_not (by simpa using hb)⟩
  · have e : lstT l i m k = m := by unfold lstT; rw [dif_neg (fun h => hk h.1)]
    simp only [e]
    exact ⟨fun _ => leT_refl _, fun _ h => absurd h hk⟩
theorem least_lt (l : List (Th X)) (i : Nat) (hi : i < l.length) : leastT l i < l.length := by
  rcases least_or l i with h | h
  · rw [h]; exact hi
  · exact h.1
theorem least_le (l : List (Th X)) (i : Nat) (hi : i < l.length) : leT (l[leastT l i]'(least_lt l i hi)) l[i] ∧ ∀ k, (hk : k < l.length) → (k = 2 * i + 1 ∨ k = 2 * i + 2) → leT (l[leastT l i]'(least_lt l i hi)) l[k] := by
  have h1 : lstT l i i (2 * i + 1) < l.length := by
    rcases lst_or l i i (2 * i + 1) with h | ⟨h, h2⟩
    · rw [h]; exact hi
    · rw [h]; exact h2
  obtain ⟨a1, a2⟩ := lst_le l i i (2 * i + 1) hi
  obtain ⟨b1, b2⟩ := lst_le l i (lstT l i i (2 * i + 1)) (2 * i + 2) h1
  have hl := least_lt l i hi
  unfold leastT at hl ⊢
  refine ⟨leT_trans (b1 hl) (a1 h1), ?_⟩
  intro k hk hor
  rcases hor with rfl | rfl
  · exact leT_trans (b1 hl) (a2 h1 hk)
  · exact b2 hl hk
theorem down_heap (l : List (Th X)) (i : Nat) (hi : i < l.length) (h : DownT l i) : HeapT (downT l i) := by
  fun_induction downT l i with
  | case1 l i h0 =>
    intro j hj hj0
    by_cases hji : (j - 1) / 2 = i
    · obtain ⟨_, h2⟩ := least_le l i hi
      have := h2 j hj (by omega)
      simp only [h0] at this
      simp only [hji]
      exact this
    · exact h.1 j hj hj0 hji
  | case2 l i h0 ih =>
    obtain ⟨le1, le2⟩ := least_le l i hi
    have hl := least_lt l i hi
    rcases least_or l i with hh | ⟨_, hor⟩
    · exact absurd hh h0
    obtain ⟨m, hm⟩ : ∃ m, leastT l i = m := ⟨_, rfl⟩
    simp only [hm] at le1 le2 hl hor ih h0 ⊢
    refine ih (by rw [swap_len]; exact hl) ⟨?_, ?_⟩
    · intro j hj hj0 hjm
      rw [swap_len] at hj
      rw [swap_at l i m _ hi hl, swap_at l i m _ hi hl, if_neg hjm]
      by_cases hjm2 : j = m
      · subst hjm2
        have : (j - 1) / 2 = i := by omega
        simp only [this, if_true]
        exact le1
      · rw [if_neg hjm2]
        by_cases hp : (j - 1) / 2 = i
        · rw [if_pos hp]
          have hji : j ≠ i := by omega
          rw [if_neg hji]
          exact le2 j hj (by omega)
        · rw [if_neg hp]
          by_cases hji : j = i
          · subst hji
            rw [if_pos rfl]
            exact h.2 m hl (by omega) hj0 (by omega)
          · rw [if_neg hji]
            exact h.1 j hj hj0 hp
    · intro j hj hj0 hm0 hjm
      rw [swap_len] at hj
      have hmi : (m - 1) / 2 = i := by omega
      have hj1 : j ≠ m := by omega
      have hj2 : j ≠ i := by omega
      rw [swap_at l i m _ hi hl, swap_at l i m _ hi hl, if_neg hj1, if_neg hj2]
      have e1 : (m - 1) / 2 ≠ m := by omega
      rw [if_neg e1, if_pos hmi]
      have := h.1 j hj hj0 (by omega)
      simp only [hjm] at this
      exact this
theorem heap_min (l : List (Th X)) (h : HeapT l) : ∀ j (hj : j < l.length), leT (l[0]'(by omega)) l[j] := by
  intro j
  induction j using Nat.strongRecOn with
  | _ j ih =>
    intro hj
    by_cases h0 : j = 0
    · subst h0; exact leT_refl _
    · exact leT_trans (ih ((j - 1) / 2) (by omega) (by omega)) (h j hj (by omega))
def pushT (l : List (Th X)) (a : Th X) : List (Th X) := upT (l ++ [a]) l.length
theorem push_perm (l : List (Th X)) (a : Th X) : (pushT l a).Perm (a :: l) := (up_perm _ _).trans (List.perm_append_comm)
theorem push_len (l : List (Th X)) (a : Th X) : (pushT l a).length = l.length + 1 := by unfold pushT; rw [up_len]; simp
theorem push_heap (l : List (Th X)) (a : Th X) (h : HeapT l) : HeapT (pushT l a) := by
  refine up_heap _ _ (by simp) ⟨?_, ?_⟩
  · intro j hj hj0 hne
    simp only [List.length_append, List.length_singleton] at hj
    rw [List.getElem_append_left (by omega), List.getElem_append_left (by omega)]
    exact h j (by omega) hj0
  · intro j hj hj0 _ hp
    simp only [List.length_append, List.length_singleton] at hj
    omega
def popT (l : List (Th X)) : List (Th X) := downT ((swapT l 0 (l.length - 1)).take (l.length - 1)) 0
theorem pop_len (l : List (Th X)) : (popT l).length = l.length - 1 := by unfold popT; rw [down_len, List.length_take, swap_len]; omega
theorem pop_perm (l : List (Th X)) (h : 0 < l.length) : l.Perm (l[0] :: popT l) := by
  have h1 := (swap_perm l 0 (l.length - 1)).symm
  refine h1.trans ?_
  have hlen : l.length - 1 < (swapT l 0 (l.length - 1)).length := by rw [swap_len]; omega
  have e : swapT l 0 (l.length - 1) = (swapT l 0 (l.length - 1)).take (l.length - 1) ++ [l[0]] := by
    conv => lhs; rw [← List.take_append_drop (l.length - 1) (swapT l 0 (l.length - 1))]
    congr 1
    rw [List.drop_eq_getElem_cons hlen, swap_at l 0 _ _ h (by omega), if_pos rfl, List.drop_eq_nil_of_le (by rw [swap_len]; omega)]
  rw [e]
  refine (List.perm_append_comm).trans ?_
  exact List.Perm.cons _ (down_perm _ _).symm
theorem pop_heap (l : List (Th X)) (h : HeapT l) : HeapT (popT l) := by
  by_cases h1 : l.length ≤ 1
  · intro j hj hj0
    rw [pop_len] at hj
    omega
  · have hlen : ((swapT l 0 (l.length - 1)).take (l.length - 1)).length = l.length - 1 := by rw [List.length_take, swap_len]; omega
    refine down_heap _ _ (by rw [hlen]; omega) ⟨?_, ?_⟩
    · intro j hj hj0 hp
      rw [hlen] at hj
      rw [List.getElem_take, List.getElem_take, swap_at l 0 _ _ (by omega) (by omega), swap_at l 0 _ _ (by omega) (by omega)]
      rw [if_neg (by omega), if_neg (by omega), if_neg (by omega), if_neg (by omega)]
      exact h j (by omega) hj0
    · intro j hj hj0 h0
      exact absurd h0 (Nat.lt_irrefl 0)
end
def keyV {X : Type} (a : Th X) : Value := .agg #[.int .i64 a.r, .int .i64 a.p, .int .i64 a.t]
theorem less_any {X : Type} (a b : Th X) (w : World) : Calls Tryz.prog 196 #[keyV a, keyV b] w fun e w' => e = .returned (.bool (ltB a b)) ∧ Below w.heap.size w w' := by
  have hL : ltB a b = if a.r ≠ b.r then decide (a.r < b.r) else if a.p ≠ b.p then decide (a.p < b.p) else decide (a.t < b.t) := rfl
  obtain ⟨B, hB⟩ : ∃ B, ltB a b = B := ⟨_, rfl⟩
  rw [hB] at hL ⊢
  clear hB
  unfold keyV
  generalize a.r = r at *
  generalize a.p = p at *
  generalize a.t = t at *
  generalize b.r = r' at *
  generalize b.p = p' at *
  generalize b.t = t' at *
  have hb1 := (Below.refl w.heap.size w).alloc (Nat.le_refl _) (.cells #[.int .i64 r, .int .i64 p, .int .i64 t] 280)
  have hb2 := hb1.alloc (by simp) (.cells #[.int .i64 r', .int .i64 p', .int .i64 t'] 280)
  have n1 := blk_alloc (blk_new w (.cells #[.int .i64 r, .int .i64 p, .int .i64 t] 280)) (.cells #[.int .i64 r', .int .i64 p', .int .i64 t'] 280)
  have n2 := blk_new (w.alloc (.cells #[.int .i64 r, .int .i64 p, .int .i64 t] 280)) (.cells #[.int .i64 r', .int .i64 p', .int .i64 t'] 280)
  rw [size_alloc] at n2
  have a0 := blk_cell n1 0
  have a1 := blk_cell n1 1
  have a2 := blk_cell n1 2
  have b0 := blk_cell n2 0
  have b1 := blk_cell n2 1
  have b2 := blk_cell n2 2
  simp only [List.getElem?_toArray, List.getElem?_cons_zero, List.getElem?_cons_succ] at a0 a1 a2 b0 b1 b2
  have HB := Lib.hid hb2
  have HL := Lib.hid hL
  clear hb1 hb2 n1 n2 hL
  by_cases h1 : r = r'
  · subst h1
    by_cases h2 : p = p'
    · subst h2
      go_enter Tryz.func196, Tryz.ntmps196
      go_wp2_with fail
      go_ret
      exact ⟨ret_bool (by rw [HL.out]; simp), HB.out⟩
    · have HN := Lib.hid h2
      have e2 : (p != p') = true := by simpa using h2
      clear h2
      go_enter Tryz.func196, Tryz.ntmps196
      go_wp2_with fail
      go_ret
      exact ⟨ret_bool (by rw [HL.out]; simp [HN.out]), HB.out⟩
  · have HN := Lib.hid h1
    have e2 : (r != r') = true := by simpa using h1
    clear h1
    go_enter Tryz.func196, Tryz.ntmps196
    go_wp2_with fail
    go_ret
    exact ⟨ret_bool (by rw [HL.out]; simp [HN.out]), HB.out⟩
def rep (a b c : Int) : List Int → List Int
  | x :: y :: l => if x = a ∧ y = b then c :: rep a b c l else x :: rep a b c (y :: l)
  | l => l
def seqE : List (Int × Int) → Int → List Int → List Int
  | [], _, l => l
  | m :: M, c, l => seqE M (c + 1) (rep m.1 m.2 c l)
def Adj (l : List Int) (a b : Int) : Prop := ∃ p q, l = p ++ a :: b :: q
theorem adj_nil (a b : Int) : ¬ Adj [] a b := by rintro ⟨p, q, h⟩; simp at h
theorem adj_one (x a b : Int) : ¬ Adj [x] a b := by
  rintro ⟨p, q, h⟩
  rcases p with _ | ⟨y, p⟩
  · simp at h
  · simp at h
theorem adj_cons2 (x y : Int) (l : List Int) (a b : Int) : Adj (x :: y :: l) a b ↔ (x = a ∧ y = b) ∨ Adj (y :: l) a b := by
  constructor
  · rintro ⟨p, q, h⟩
    rcases p with _ | ⟨z, p⟩
    · simp at h; exact Or.inl ⟨h.1, h.2.1⟩
    · simp at h; exact Or.inr ⟨p, q, h.2⟩
  · rintro (⟨rfl, rfl⟩ | ⟨p, q, h⟩)
    · exact ⟨[], l, rfl⟩
    · exact ⟨x :: p, q, by rw [h]; rfl⟩
theorem rep_id (a b c : Int) : ∀ l, ¬ Adj l a b → rep a b c l = l
  | [], _ => rfl
  | [x], _ => rfl
  | x :: y :: l, h => by
    rw [adj_cons2] at h
    rw [rep, if_neg (fun e => h (Or.inl e)), rep_id a b c (y :: l) (fun e => h (Or.inr e))]
theorem rep_at (a b c : Int) : ∀ (L1 L2 : List Int), ¬ Adj (L1 ++ [a]) a b → rep a b c (L1 ++ a :: b :: L2) = L1 ++ c :: rep a b c L2
  | [], L2, _ => by show rep a b c (a :: b :: L2) = _; rw [rep, if_pos ⟨rfl, rfl⟩]; rfl
  | [x], L2, h => by
    show rep a b c (x :: a :: b :: L2) = _
    have h1 : ¬ (x = a ∧ a = b) := fun e => h ⟨[], [], by simp [e.1, ← e.2]⟩
    rw [rep, if_neg h1, rep, if_pos ⟨rfl, rfl⟩]; rfl
  | x :: y :: L1, L2, h => by
    show rep a b c (x :: y :: (L1 ++ a :: b :: L2)) = _
    have h2 : ¬ ((x = a ∧ y = b) ∨ Adj (y :: (L1 ++ [a])) a b) := fun e => h ((adj_cons2 x y (L1 ++ [a]) a b).2 e)
    have ih := rep_at a b c (y :: L1) L2 (fun e => h2 (Or.inr e))
    rw [rep, if_neg (fun e => h2 (Or.inl e))]
    have ih' : rep a b c (y :: (L1 ++ a :: b :: L2)) = (y :: L1) ++ c :: rep a b c L2 := ih
    rw [ih']; rfl
theorem rep_skip (a b c : Int) (hca : c ≠ a) (hcb : c ≠ b) : ∀ (L1 L2 : List Int), ¬ Adj (L1 ++ [a]) a b → rep a b c (L1 ++ c :: L2) = L1 ++ c :: rep a b c L2
  | [], [], _ => rfl
  | [], y :: L2, _ => by show rep a b c (c :: y :: L2) = _; rw [rep, if_neg (fun e => hca e.1)]; rfl
  | [x], L2, h => by
    show rep a b c (x :: c :: L2) = _
    rw [rep, if_neg (fun e => hcb e.2)]
    have := rep_skip a b c hca hcb [] L2 (adj_one a a b)
    have h3 : rep a b c (c :: L2) = c :: rep a b c L2 := this
    rw [h3]; rfl
  | x :: y :: L1, L2, h => by
    show rep a b c (x :: y :: (L1 ++ c :: L2)) = _
    have h2 : ¬ ((x = a ∧ y = b) ∨ Adj (y :: (L1 ++ [a])) a b) := fun e => h ((adj_cons2 x y (L1 ++ [a]) a b).2 e)
    have ih : rep a b c (y :: (L1 ++ c :: L2)) = (y :: L1) ++ c :: rep a b c L2 := rep_skip a b c hca hcb (y :: L1) L2 (fun e => h2 (Or.inr e))
    rw [rep, if_neg (fun e => h2 (Or.inl e)), ih]; rfl
theorem adj_append (l r : List Int) (a b : Int) : Adj (l ++ r) a b ↔ Adj l a b ∨ Adj r a b ∨ (l.getLast? = some a ∧ r.head? = some b) := by
  induction l with
  | nil =>
    simp only [List.nil_append, List.getLast?_nil, reduceCtorEq, false_and, or_false]
    exact ⟨Or.inr, fun h => h.resolve_left (adj_nil a b)⟩
  | cons x l ih =>
    rcases l with _ | ⟨y, l⟩
    · rcases r with _ | ⟨z, r⟩
      · simp [adj_one, adj_nil]
      · show Adj (x :: z :: r) a b ↔ _
        rw [adj_cons2]
        simp only [adj_one, false_or, List.getLast?_singleton, Option.some.injEq, List.head?_cons]
        exact ⟨fun h => h.symm, fun h => h.symm⟩
    · show Adj (x :: y :: (l ++ r)) a b ↔ _
      rw [adj_cons2, adj_cons2]
      have ih' : Adj (y :: (l ++ r)) a b ↔ Adj (y :: l) a b ∨ Adj r a b ∨ ((y :: l).getLast? = some a ∧ r.head? = some b) := ih
      rw [ih', List.getLast?_cons_cons]
      constructor
      · rintro (h | h | h | h)
        · exact Or.inl (Or.inl h)
        · exact Or.inl (Or.inr h)
        · exact Or.inr (Or.inl h)
        · exact Or.inr (Or.inr h)
      · rintro ((h | h) | h | h)
        · exact Or.inl h
        · exact Or.inr (Or.inl h)
        · exact Or.inr (Or.inr (Or.inl h))
        · exact Or.inr (Or.inr (Or.inr h))
theorem adj_new {L1 L2 : List Int} {a b c x y : Int} (h : Adj (L1 ++ c :: L2) x y) : x = c ∨ y = c ∨ Adj (L1 ++ a :: b :: L2) x y := by
  rw [adj_append] at h
  rcases h with h | h | ⟨h1, h2⟩
  · right; right; rw [adj_append]; exact Or.inl h
  · rcases L2 with _ | ⟨z, L2⟩
    · exact absurd h (adj_one c x y)
    · rw [adj_cons2] at h
      rcases h with ⟨h1, h2⟩ | h
      · exact Or.inl h1.symm
      · right; right
        rw [adj_append]
        right; left
        rw [adj_cons2, adj_cons2]
        exact Or.inr (Or.inr h)
  · simp at h2; exact Or.inr (Or.inl h2.symm)
def OkM (M : List (Int × Int)) (c0 : Int) : Prop := ∀ (k : Nat) m, M[k]? = some m → m.1 < c0 + k ∧ m.2 < c0 + k
theorem OkM.tail {m : Int × Int} {M : List (Int × Int)} {c0 : Int} (h : OkM (m :: M) c0) : OkM M (c0 + 1) := by
  intro k x hx
  have := h (k + 1) x hx
  omega
theorem seqE_step (a b : Int) : ∀ (M : List (Int × Int)) (c0 : Int) (k : Nat) (L1 L2 : List Int), OkM M c0 → M[k]? = some (a, b) →
    (∀ k', k' < k → ∀ m, M[k']? = some m → ¬ Adj (L1 ++ a :: b :: L2) m.1 m.2) → ¬ Adj (L1 ++ [a]) a b →
    seqE M c0 (L1 ++ a :: b :: L2) = seqE M c0 (L1 ++ (c0 + k) :: L2) := by
  intro M
  induction M with
  | nil => intro c0 k L1 L2 _ h; simp at h
  | cons m M ih =>
    intro c0 k L1 L2 hok hk hno had
    rcases k with _ | k
    · simp at hk
      subst hk
      have h0 := hok 0 (a, b) rfl
      simp only [Int.natCast_zero, Int.add_zero] at h0 ⊢
      rw [seqE, seqE, rep_at a b c0 L1 L2 had, rep_skip a b c0 (by omega) (by omega) L1 L2 had]
    · have hm := hno 0 (by omega) m rfl
      have h0 := hok 0 m rfl
      have hm2 : ¬ Adj (L1 ++ (c0 + ((k + 1 : Nat) : Int)) :: L2) m.1 m.2 := by
        intro e
        rcases adj_new (a := a) (b := b) e with h | h | h
        · have := h0.1; omega
        · have := h0.2; omega
        · exact hm h
      rw [seqE, seqE, rep_id _ _ _ _ hm, rep_id _ _ _ _ hm2]
      have := ih (c0 + 1) k L1 L2 hok.tail hk (fun k' hk' x hx => hno (k' + 1) (by omega) x hx) had
      rw [this]
      congr 3
      omega
theorem seqE_id : ∀ (M : List (Int × Int)) (c0 : Int) (l : List Int), (∀ (k : Nat) m, M[k]? = some m → ¬ Adj l m.1 m.2) → seqE M c0 l = l := by
  intro M
  induction M with
  | nil => intro c0 l _; rfl
  | cons m M ih =>
    intro c0 l h
    rw [seqE, rep_id _ _ _ _ (h 0 m rfl)]
    exact ih (c0 + 1) l (fun k x hx => h (k + 1) x hx)
structure Wt where
  i : Int
  a : Int
  b : Int
abbrev Nd := Int × Int
def idsC (L : List Nd) : List Int := L.map Prod.snd
structure Mach (P : Int → Int → Option Int) (L : List Nd) (Q : List (Th Wt)) : Prop where
  ent : ∀ e ∈ Q, P e.x.a e.x.b = some e.r ∧ e.p = e.x.i
  com : ∀ (i a j b : Int) (p q : List Nd), L = p ++ (i, a) :: (j, b) :: q → ∀ r, P a b = some r → ∃ e ∈ Q, e.r = r ∧ e.p = i ∧ e.x = ⟨i, a, b⟩
  srt : L.Pairwise (fun x y => x.1 < y.1)
theorem adj_ids {L : List Nd} {a b : Int} (h : Adj (idsC L) a b) : ∃ p i j q, L = p ++ (i, a) :: (j, b) :: q := by
  obtain ⟨p, q, h⟩ := h
  unfold idsC at h
  obtain ⟨L1, L2, rfl, h1, h2⟩ := List.map_eq_append_iff.1 h
  obtain ⟨x, L3, rfl, h3, h4⟩ := List.map_eq_cons_iff.1 h2
  obtain ⟨y, L4, rfl, h5, h6⟩ := List.map_eq_cons_iff.1 h4
  obtain ⟨i, a'⟩ := x
  obtain ⟨j, b'⟩ := y
  simp only at h3 h5
  subst h3
  subst h5
  exact ⟨L1, i, j, L4, rfl⟩
theorem place_once {L1 L2 p q : List Nd} {i a a' : Int} (h : (L1 ++ (i, a) :: L2).Pairwise (fun x y => x.1 < y.1)) (e : L1 ++ (i, a) :: L2 = p ++ (i, a') :: q) : L1 = p ∧ a = a' ∧ L2 = q := by
  induction L1 generalizing p with
  | nil =>
    rcases p with _ | ⟨y, p⟩
    · simp at e; exact ⟨rfl, e.1, e.2⟩
    · simp at e
      exfalso
      rw [List.nil_append, List.pairwise_cons] at h
      have := h.1 (i, a') (by rw [e.2]; simp)
      simp at this
  | cons x L1 ih =>
    rcases p with _ | ⟨y, p⟩
    · simp at e
      exfalso
      rw [List.cons_append, List.pairwise_cons] at h
      have := h.1 (i, a) (by simp)
      rw [e.1] at this
      simp at this
    · simp at e
      rw [List.cons_append, List.pairwise_cons] at h
      obtain ⟨h1, h2, h3⟩ := ih h.2 e.2
      exact ⟨by rw [e.1, h1], h2, h3⟩
theorem join_same {P : Int → Int → Option Int} {M : List (Int × Int)} {c0 : Int} (hP : ∀ a b r, P a b = some r ↔ ∃ k : Nat, M[k]? = some (a, b) ∧ r = c0 + k) (hM : OkM M c0)
    {L1 L2 : List Nd} {Q : List (Th Wt)} {i a j b : Int} {e0 : Th Wt} (h : Mach P (L1 ++ (i, a) :: (j, b) :: L2) Q) (hm : e0 ∈ Q) (hl : ∀ e ∈ Q, leT e0 e) (hx : e0.x = ⟨i, a, b⟩) :
    seqE M c0 (idsC (L1 ++ (i, a) :: (j, b) :: L2)) = seqE M c0 (idsC (L1 ++ (i, e0.r) :: L2)) := by
  have h0 := h.ent e0 hm
  rw [hx] at h0
  obtain ⟨k, hk, hr⟩ := (hP a b e0.r).1 h0.1
  have e1 : idsC (L1 ++ (i, a) :: (j, b) :: L2) = idsC L1 ++ a :: b :: idsC L2 := by simp [idsC]
  have e2 : idsC (L1 ++ (i, e0.r) :: L2) = idsC L1 ++ (c0 + k) :: idsC L2 := by simp [idsC, hr]
  rw [e1, e2]
  refine seqE_step a b M c0 k (idsC L1) (idsC L2) hM hk ?_ ?_
  · intro k' hk' m hmk had
    rw [← e1] at had
    obtain ⟨p, i', j', q, heq⟩ := adj_ids had
    obtain ⟨e, he, g1, g2, g3⟩ := h.com i' m.1 j' m.2 p q heq (c0 + k') ((hP _ _ _).2 ⟨k', hmk, rfl⟩)
    have := hl e he
    unfold leT at this
    omega
  · intro had
    have e3 : idsC L1 ++ [a] = idsC (L1 ++ [(i, a)]) := by simp [idsC]
    rw [e3] at had
    obtain ⟨p, i', j', q, heq⟩ := adj_ids had
    have heq2 : L1 ++ (i, a) :: (j, b) :: L2 = p ++ (i', a) :: (j', b) :: (q ++ (j, b) :: L2) := by
      have : L1 ++ (i, a) :: (j, b) :: L2 = (L1 ++ [(i, a)]) ++ (j, b) :: L2 := by simp
      rw [this, heq]; simp
    obtain ⟨e, he, g1, g2, g3⟩ := h.com i' a j' b p _ heq2 e0.r h0.1
    have hlt : i' < i := by
      have hs : (L1 ++ [(i, a)]).Pairwise (fun x y => x.1 < y.1) := by
        have := h.srt
        rw [show L1 ++ (i, a) :: (j, b) :: L2 = (L1 ++ [(i, a)]) ++ (j, b) :: L2 by simp] at this
        exact (List.pairwise_append.1 this).1
      rcases List.eq_nil_or_concat q with rfl | ⟨q', y, rfl⟩
      · have hl2 : (i, a) = (j', b) := by
          have := congrArg List.getLast? heq
          simpa using this
        rw [heq, List.pairwise_append] at hs
        have := (List.pairwise_cons.1 hs.2.1).1 (j', b) (by simp)
        rw [← hl2] at this
        exact this
      · have hl2 : (i, a) = y := by
          have heq' : L1 ++ [(i, a)] = (p ++ (i', a) :: (j', b) :: q') ++ [y] := by rw [heq]; simp
          have := congrArg List.getLast? heq'
          rw [List.getLast?_concat, List.getLast?_concat] at this
          exact Option.some.inj this
        rw [heq, List.pairwise_append] at hs
        have := (List.pairwise_cons.1 hs.2.1).1 y (by simp)
        rw [← hl2] at this
        exact this
    have := hl e he
    unfold leT at this
    have hp0 : e0.p = i := h0.2
    omega
theorem done_same {P : Int → Int → Option Int} {M : List (Int × Int)} {c0 : Int} (hP : ∀ a b r, P a b = some r ↔ ∃ k : Nat, M[k]? = some (a, b) ∧ r = c0 + k)
    {L : List Nd} (h : Mach P L []) : seqE M c0 (idsC L) = idsC L := by
  refine seqE_id M c0 _ (fun k m hk had => ?_)
  obtain ⟨p, i, j, q, heq⟩ := adj_ids had
  obtain ⟨e, he, _⟩ := h.com i m.1 j m.2 p q heq (c0 + k) ((hP _ _ _).2 ⟨k, hk, rfl⟩)
  simp at he
theorem Mach.stale {P : Int → Int → Option Int} {L : List Nd} {Q Q' : List (Th Wt)} {e0 : Th Wt} (h : Mach P L Q) (hp : Q.Perm (e0 :: Q')) (hs : ∀ p j q, L ≠ p ++ (e0.x.i, e0.x.a) :: (j, e0.x.b) :: q) : Mach P L Q' := by
  refine ⟨fun e he => h.ent e (hp.mem_iff.2 (List.mem_cons_of_mem _ he)), ?_, h.srt⟩
  intro i a j b p q heq r hr
  obtain ⟨e, he, g1, g2, g3⟩ := h.com i a j b p q heq r hr
  rcases List.mem_cons.1 (hp.mem_iff.1 he) with rfl | he
  · exfalso
    rw [g3] at hs
    exact hs p j q heq
  · exact ⟨e, he, g1, g2, g3⟩
theorem Mach.join {P : Int → Int → Option Int} {L1 L2 : List Nd} {Q Q' Q'' : List (Th Wt)} {e0 : Th Wt} {i a j b : Int} (h : Mach P (L1 ++ (i, a) :: (j, b) :: L2) Q) (hp : Q.Perm (e0 :: Q')) (hx : e0.x = ⟨i, a, b⟩)
    (hsub : ∀ e ∈ Q', e ∈ Q'')
    (hnew : ∀ e ∈ Q'', e ∈ Q' ∨ (P e.x.a e.x.b = some e.r ∧ e.p = e.x.i))
    (hl : ∀ p i' a', L1 = p ++ [(i', a')] → ∀ r, P a' e0.r = some r → ∃ e ∈ Q'', e.r = r ∧ e.p = i' ∧ e.x = ⟨i', a', e0.r⟩)
    (hr : ∀ j' b' q, L2 = (j', b') :: q → ∀ r, P e0.r b' = some r → ∃ e ∈ Q'', e.r = r ∧ e.p = i ∧ e.x = ⟨i, e0.r, b'⟩) : Mach P (L1 ++ (i, e0.r) :: L2) Q'' := by
  have hs := h.srt
  have hs1 := (List.pairwise_append.1 hs).1
  have hs2 := (List.pairwise_append.1 hs).2.1
  have hs3 := (List.pairwise_append.1 hs).2.2
  have hs4 := (List.pairwise_cons.1 hs2).2
  have old : ∀ e ∈ Q, e.p ≠ i ∨ e ≠ e0 → e.x ≠ ⟨i, a, b⟩ → e ∈ Q'' := by
    intro e he _ hne
    rcases List.mem_cons.1 (hp.mem_iff.1 he) with rfl | he
    · exact absurd hx hne
    · exact hsub e he
  refine ⟨?_, ?_, ?_⟩
  · intro e he
    rcases hnew e he with he | he
    · exact h.ent e (hp.mem_iff.2 (List.mem_cons_of_mem _ he))
    · exact he
  · intro i1 a1 j1 b1 p q heq r hP1
    rcases List.append_eq_append_iff.1 heq with ⟨u, hu1, hu2⟩ | ⟨u, hu1, hu2⟩
    · -- p = L1 ++ u
      rcases u with _ | ⟨y, u⟩
      · simp at hu2
        obtain ⟨⟨rfl, rfl⟩, hq⟩ := hu2
        exact hr j1 b1 q hq r hP1
      · simp at hu2
        obtain ⟨rfl, hq⟩ := hu2
        obtain ⟨e, he, g1, g2, g3⟩ := h.com i1 a1 j1 b1 (L1 ++ (i, a) :: (j, b) :: u) q (by rw [hq]; simp) r hP1
        have hlt : i < i1 := (List.pairwise_cons.1 hs2).1 (i1, a1) (by rw [hq]; simp)
        refine ⟨e, old e he (Or.inl (by omega)) (fun e2 => ?_), g1, g2, g3⟩
        rw [g3] at e2
        simp at e2
        omega
    · -- L1 = p ++ u
      rcases u with _ | ⟨y, u⟩
      · simp at hu2
        obtain ⟨⟨rfl, rfl⟩, hq⟩ := hu2
        exact hr j1 b1 q hq.symm r hP1
      · simp at hu2
        obtain ⟨rfl, hq⟩ := hu2
        have hlt : i1 < i := hs3 (i1, a1) (by rw [hu1]; simp) (i, a) (by simp)
        rcases u with _ | ⟨z, u⟩
        · simp at hq
          obtain ⟨⟨rfl, rfl⟩, _⟩ := hq
          exact hl p i1 a1 hu1 r hP1
        · simp at hq
          obtain ⟨rfl, hq⟩ := hq
          obtain ⟨e, he, g1, g2, g3⟩ := h.com i1 a1 j1 b1 p (u ++ (i, a) :: (j, b) :: L2) (by rw [hu1]; simp) r hP1
          refine ⟨e, old e he (Or.inl (by omega)) (fun e2 => ?_), g1, g2, g3⟩
          rw [g3] at e2
          simp at e2
          omega
  · rw [List.pairwise_append]
    refine ⟨hs1, ?_, ?_⟩
    · rw [List.pairwise_cons]
      refine ⟨fun x hx => (List.pairwise_cons.1 hs2).1 x (List.mem_cons_of_mem _ hx), (List.pairwise_cons.1 hs4).2⟩
    · intro x hx y hy
      rcases List.mem_cons.1 hy with rfl | hy
      · exact hs3 x hx (i, a) (by simp)
      · exact hs3 x hx y (by simp [hy])
section
variable {P : Program} {ops : Array Oper} {Q : Exit → Act → World → Prop} {md : Region.Mode} {S : World → Prop} {Ds : List Nat}
def wpAnyD (P : Program) (md : Region.Mode) (ops : Array Oper) (Q : Exit → Act → World → Prop) (S : World → Prop) (Ds : List Nat) : Nat → Array Bool → Act → World → Prop
  | 0, listed, a, w => Region.ready md ops listed = [] ∧ Q .normal a w
  | fuel + 1, listed, a, w =>
    (Region.ready md ops listed = [] → Q .normal a w) ∧
    ∀ i ∈ Region.ready md ops listed, wpOp P ops Q i (fun a' w' => (S w → i ∈ Ds ∨ S w') ∧ wpAnyD P md ops Q S Ds fuel (listed.setIfInBounds i true) a' w') a w
theorem wpAny_of_D : ∀ (fuel : Nat) (listed : Array Bool) (a : Act) (w : World), wpAnyD P md ops Q S Ds fuel listed a w → wpAny P md ops Q fuel listed a w
  | 0, _, _, _, h => h
  | fuel + 1, _, _, _, h => ⟨h.1, fun i hi => wpOp_mono (fun a' w' h' => wpAny_of_D fuel _ a' w' h'.2) (h.2 i hi)⟩
theorem wpAnyD_first {i : Nat} {oi : Oper} {v : Value} (hi : ops[i]? = some oi) (hsel : ∀ (j : Nat) (o : Oper) cs b, ops[j]? = some o → o.op ≠ .select cs b)
    (hQ : ∀ c a w, Q (.panic c) (a.put oi.dst v) w → Q (.panic c) a w) (hD : ∀ D ∈ Ds, Region.waitsFor md ops D i = true) :
    ∀ (fuel : Nat) (listed : Array Bool) (a : Act) (w : World),
      (∀ j oj, ops[j]? = some oj → j ≠ i → listed.getD j true = false → (∀ e ∈ oj.after, Region.binds md e = true → e.on ≠ i) → oi.apart ops oj = true) →
      i ∈ Region.ready md ops listed → YieldsIf P ops S oi v a → S w →
      wpAnyD P md ops Q S Ds fuel (listed.setIfInBounds i true) (a.put oi.dst v) w → wpAnyD P md ops Q S Ds (fuel + 1) listed a w := by
  intro fuel
  induction fuel with
  | zero =>
    intro listed a w _ hr hy hS H
    refine ⟨fun h => (by rw [h] at hr; cases hr), fun j hj => ?_⟩
    by_cases hji : j = i
    · subst hji; exact hy.wpOp hi hS ⟨fun h => Or.inr h, H⟩
    · have := ready_mono hj hji
      rw [H.1] at this
      cases this
  | succ fuel ih =>
    intro listed a w hfree hr hy hS H
    refine ⟨fun h => (by rw [h] at hr; cases hr), fun j hj => ?_⟩
    by_cases hji : j = i
    · subst hji; exact hy.wpOp hi hS ⟨fun h => Or.inr h, H⟩
    · have h1 := H.2 j (ready_mono hj hji)
      obtain ⟨hjun, oj, hoj, hall⟩ := mem_ready.1 hj
      have hnot : ∀ e ∈ oj.after, Region.binds md e = true → e.on ≠ i := by
        intro e he hb heq
        have h1 := hall e he hb
        have h0 := (mem_ready.1 hr).1
        rw [heq] at h1
        rcases Nat.lt_or_ge i listed.size with h' | h'
        · simp [h'] at h0 h1; rw [h0] at h1; cases h1
        · simp [Array.getElem?_eq_none h'] at h1
      have hjD : ¬ j ∈ Ds := by
        intro e
        obtain ⟨od, hod, x, hx, hb, hxi⟩ := Region.waitsFor_spec (hD j e)
        rw [hoj] at hod
        cases hod
        exact hnot x hx hb hxi
      have h2 := wpOp_putIf hoj (hfree j oj hoj hji hjun hnot) (fun cs b => hsel i oi cs b hi) (fun cs b => hsel j oj cs b hoj) hQ hy h1
      have hfree' : ∀ k ok, ops[k]? = some ok → k ≠ i → (listed.setIfInBounds j true).getD k true = false →
          (∀ e ∈ ok.after, Region.binds md e = true → e.on ≠ i) → oi.apart ops ok = true := by
        intro k ok hk hki hun hno
        refine hfree k ok hk hki ?_ hno
        by_cases hjk : j = k
        · subst hjk; exact hjun
        · rw [getD_set_ne true hjk] at hun; exact hun
      refine wpOp_mono (fun a' w' h3 => ⟨h3.2.1, ?_⟩) h2
      refine ih (listed.setIfInBounds j true) a' w' hfree' (ready_mono hr (Ne.symm hji)) h3.1 ((h3.2.1 hS).resolve_left hjD) ?_
      rw [Array.setIfInBounds_comm _ _ hji]
      exact h3.2.2
theorem wpAnyD_firstP {i : Nat} {oi : Oper} {v : Value} (hi : ops[i]? = some oi) (hsel : ∀ (j : Nat) (o : Oper) cs b, ops[j]? = some o → o.op ≠ .select cs b)
    (hQ : ∀ c a w, Q (.panic c) (a.put oi.dst v) w → Q (.panic c) a w) :
    ∀ (fuel : Nat) (listed : Array Bool) (a : Act) (w : World),
      (∀ j oj, ops[j]? = some oj → j ≠ i → listed.getD j true = false → (∀ e ∈ oj.after, Region.binds md e = true → e.on ≠ i) → oi.apart ops oj = true) →
      i ∈ Region.ready md ops listed → YieldsIf P ops (fun _ => True) oi v a →
      wpAnyD P md ops Q S Ds fuel (listed.setIfInBounds i true) (a.put oi.dst v) w → wpAnyD P md ops Q S Ds (fuel + 1) listed a w := by
  intro fuel
  induction fuel with
  | zero =>
    intro listed a w _ hr hy H
    refine ⟨fun h => (by rw [h] at hr; cases hr), fun j hj => ?_⟩
    by_cases hji : j = i
    · subst hji; exact hy.wpOp hi trivial ⟨fun h => Or.inr h, H⟩
    · have := ready_mono hj hji
      rw [H.1] at this
      cases this
  | succ fuel ih =>
    intro listed a w hfree hr hy H
    refine ⟨fun h => (by rw [h] at hr; cases hr), fun j hj => ?_⟩
    by_cases hji : j = i
    · subst hji; exact hy.wpOp hi trivial ⟨fun h => Or.inr h, H⟩
    · have h1 := H.2 j (ready_mono hj hji)
      obtain ⟨hjun, oj, hoj, hall⟩ := mem_ready.1 hj
      have hnot : ∀ e ∈ oj.after, Region.binds md e = true → e.on ≠ i := by
        intro e he hb heq
        have h1 := hall e he hb
        have h0 := (mem_ready.1 hr).1
        rw [heq] at h1
        rcases Nat.lt_or_ge i listed.size with h' | h'
        · simp [h'] at h0 h1; rw [h0] at h1; cases h1
        · simp [Array.getElem?_eq_none h'] at h1
      have h2 := wpOp_putIf hoj (hfree j oj hoj hji hjun hnot) (fun cs b => hsel i oi cs b hi) (fun cs b => hsel j oj cs b hoj) hQ hy h1
      have hfree' : ∀ k ok, ops[k]? = some ok → k ≠ i → (listed.setIfInBounds j true).getD k true = false →
          (∀ e ∈ ok.after, Region.binds md e = true → e.on ≠ i) → oi.apart ops ok = true := by
        intro k ok hk hki hun hno
        refine hfree k ok hk hki ?_ hno
        by_cases hjk : j = k
        · subst hjk; exact hjun
        · rw [getD_set_ne true hjk] at hun; exact hun
      refine wpOp_mono (fun a' w' h3 => ⟨h3.2.1, ?_⟩) h2
      refine ih (listed.setIfInBounds j true) a' w' hfree' (ready_mono hr (Ne.symm hji)) h3.1 ?_
      rw [Array.setIfInBounds_comm _ _ hji]
      exact h3.2.2
theorem wpAnyD_takeD {i d : Nat} {oi : Oper} {v : Value} {fuel : Nat} {listed : Array Bool} {tmps : Array Value} {df : List Deferred} {w : World}
    (hi : ops[i]? = some oi) (hd : oi.dst = some d) (hiD : (Ds.all fun D => Region.waitsFor md ops D i) = true)
    (hs : Region.noSelect ops = true) (hf : Region.free md ops listed i = true) (hr : (Region.ready md ops listed).contains i = true)
    (hQ : ∀ c a w, Q (.panic c) (a.put oi.dst v) w → Q (.panic c) a w) (hy : YieldsIf P ops S oi v ⟨tmps, df⟩) (hS : S w)
    (h : wpAnyD P md ops Q S Ds fuel (listed.setIfInBounds i true) ⟨tmps.setIfInBounds d v, df⟩ w) : wpAnyD P md ops Q S Ds (fuel + 1) listed ⟨tmps, df⟩ w := by
  rw [List.all_eq_true] at hiD
  refine wpAnyD_first hi (Region.noSelect_spec hs) hQ hiD fuel listed _ w (Region.free_spec hi hf) (by simpa using hr) hy hS ?_
  rw [hd]
  exact h
theorem wpAnyD_takeP {i d : Nat} {oi : Oper} {v : Value} {fuel : Nat} {listed : Array Bool} {tmps : Array Value} {df : List Deferred} {w : World}
    (hi : ops[i]? = some oi) (hd : oi.dst = some d)
    (hs : Region.noSelect ops = true) (hf : Region.free md ops listed i = true) (hr : (Region.ready md ops listed).contains i = true)
    (hQ : ∀ c a w, Q (.panic c) (a.put oi.dst v) w → Q (.panic c) a w) (hy : YieldsIf P ops (fun _ => True) oi v ⟨tmps, df⟩)
    (h : wpAnyD P md ops Q S Ds fuel (listed.setIfInBounds i true) ⟨tmps.setIfInBounds d v, df⟩ w) : wpAnyD P md ops Q S Ds (fuel + 1) listed ⟨tmps, df⟩ w := by
  refine wpAnyD_firstP hi (Region.noSelect_spec hs) hQ fuel listed _ w (Region.free_spec hi hf) (by simpa using hr) hy ?_
  rw [hd]
  exact h
theorem tkD (i d : Nat) (v : Value) {oi : Oper} {fuel : Nat} {listed : Array Bool} {tmps : Array Value} {df : List Deferred} {w : World}
    (hi : ops[i]? = some oi) (hS : S w) (hy : YieldsIf P ops S oi v ⟨tmps, df⟩) (h : wpAnyD P md ops Q S Ds fuel (listed.setIfInBounds i true) ⟨tmps.setIfInBounds d v, df⟩ w)
    (hd : oi.dst = some d := by rfl) (hiD : (Ds.all fun D => Region.waitsFor md ops D i) = true := by kernel_rfl) (hs : Region.noSelect ops = true := by kernel_rfl) (hf : Region.free md ops listed i = true := by kernel_rfl) (hr : (Region.ready md ops listed).contains i = true := by kernel_rfl)
    (hQ : ∀ c a w, Q (.panic c) (a.put oi.dst v) w → Q (.panic c) a w := by exact fun _ _ _ h => h) : wpAnyD P md ops Q S Ds (fuel + 1) listed ⟨tmps, df⟩ w := wpAnyD_takeD hi hd hiD hs hf hr hQ hy hS h
theorem tkP (i d : Nat) (v : Value) {oi : Oper} {fuel : Nat} {listed : Array Bool} {tmps : Array Value} {df : List Deferred} {w : World}
    (hi : ops[i]? = some oi) (hy : YieldsIf P ops (fun _ => True) oi v ⟨tmps, df⟩) (h : wpAnyD P md ops Q S Ds fuel (listed.setIfInBounds i true) ⟨tmps.setIfInBounds d v, df⟩ w)
    (hd : oi.dst = some d := by rfl) (hs : Region.noSelect ops = true := by kernel_rfl) (hf : Region.free md ops listed i = true := by kernel_rfl) (hr : (Region.ready md ops listed).contains i = true := by kernel_rfl)
    (hQ : ∀ c a w, Q (.panic c) (a.put oi.dst v) w → Q (.panic c) a w := by exact fun _ _ _ h => h) : wpAnyD P md ops Q S Ds (fuel + 1) listed ⟨tmps, df⟩ w := wpAnyD_takeP hi hd hs hf hr hQ hy h
theorem wpAnyD_one {i : Nat} {o : Oper} {fuel : Nat} {listed : Array Bool} {a : Act} {w : World} (hr : Region.ready md ops listed = [i]) (ho : ops[i]? = some o)
    (hw : Region.wanted o (yielded ops a.tmps) = true)
    (h : ∀ K' : Act → World → Prop, Shut (∀ a w, S w → (S w → wpAnyD P md ops Q S Ds fuel (listed.setIfInBounds i true) a w) → K' a w) → Oper.wp P o a w K' Q) :
    wpAnyD P md ops Q S Ds (fuel + 1) listed a w := by
  refine ⟨fun h0 => (by rw [hr] at h0; cases h0), fun j hj => ?_⟩
  rw [hr] at hj
  have : j = i := by simpa using hj
  subst this
  refine wpOp_step ho (fun K' hK => ?_)
  rw [if_pos hw]
  exact h K' (fun a w hS hW => hK a w ⟨fun _ => Or.inr hS, hW hS⟩)
theorem wpAnyD_last {D : Nat} (hD : D ∈ Ds) {o : Oper} {fuel : Nat} {listed : Array Bool} {a : Act} {w : World} (hr : Region.ready md ops listed = [D]) (ho : ops[D]? = some o)
    (hw : Region.wanted o (yielded ops a.tmps) = true)
    (h : ∀ K' : Act → World → Prop, Shut (∀ a w, wpAnyD P md ops Q S Ds fuel (listed.setIfInBounds D true) a w → K' a w) → Oper.wp P o a w K' Q) :
    wpAnyD P md ops Q S Ds (fuel + 1) listed a w := by
  refine ⟨fun h0 => (by rw [hr] at h0; cases h0), fun j hj => ?_⟩
  rw [hr] at hj
  have : j = D := by simpa using hj
  subst this
  refine wpOp_step ho (fun K' hK => ?_)
  rw [if_pos hw]
  exact h K' (fun a w hW => hK a w ⟨fun _ => Or.inl hD, hW⟩)
theorem wpAnyD_two {i j : Nat} {oi oj : Oper} {fuel : Nat} {listed : Array Bool} {a : Act} {w : World} (hr : Region.ready md ops listed = [i, j]) (hoi : ops[i]? = some oi) (hoj : ops[j]? = some oj)
    (hwi : Region.wanted oi (yielded ops a.tmps) = true) (hwj : Region.wanted oj (yielded ops a.tmps) = true)
    (hi : ∀ K' : Act → World → Prop, Shut (∀ a w, S w → (S w → wpAnyD P md ops Q S Ds fuel (listed.setIfInBounds i true) a w) → K' a w) → Oper.wp P oi a w K' Q)
    (hj : ∀ K' : Act → World → Prop, Shut (∀ a w, S w → (S w → wpAnyD P md ops Q S Ds fuel (listed.setIfInBounds j true) a w) → K' a w) → Oper.wp P oj a w K' Q) :
    wpAnyD P md ops Q S Ds (fuel + 1) listed a w := by
  refine ⟨fun h0 => (by rw [hr] at h0; cases h0), fun k hk => ?_⟩
  rw [hr] at hk
  have : k = i ∨ k = j := by simpa using hk
  rcases this with rfl | rfl
  · refine wpOp_step hoi (fun K' hK => ?_)
    rw [if_pos hwi]
    exact hi K' (fun a w hS hW => hK a w ⟨fun _ => Or.inr hS, hW hS⟩)
  · refine wpOp_step hoj (fun K' hK => ?_)
    rw [if_pos hwj]
    exact hj K' (fun a w hS hW => hK a w ⟨fun _ => Or.inr hS, hW hS⟩)
theorem wpAnyD_done {listed : Array Bool} {a : Act} {w : World} (hr : Region.ready md ops listed = []) (h : Q .normal a w) :
    ∀ fuel, wpAnyD P md ops Q S Ds fuel listed a w
  | 0 => ⟨hr, h⟩
  | _ + 1 => ⟨fun _ => h, by rw [hr]; simp⟩
theorem wp_region_D {id : Nat} {a : Act} {w : World} (hm : P.follows .mixedOrders = true) (hS : S w.drew)
    (h : S w.drew → wpAnyD P .any ops Q S Ds ops.size (Array.replicate ops.size false) a w.drew) : (Code.region id ops true).wp P Q a w :=
  wp_region_any hm (wpAny_of_D _ _ _ _ (h hS))
end
end Go.Proofs.YtbppaiejpgdbiaaGreat
namespace Go.Proofs.YtbppaiejpgdbiaaGreat.hw
open Go.RowKit Go.Maps Go.WideMaps
def encTh (a : Th Wt) : List Value := [.int .i64 a.r, .int .i64 a.p, .int .i64 a.t, .int .i64 a.x.i, .int .i64 a.x.a, .int .i64 a.x.b]
theorem encTh_len (a : Th Wt) : (encTh a).length = 6 := rfl
theorem flat_len (l : List (Th Wt)) : (l.flatMap encTh).length = l.length * 6 := by
  induction l with
  | nil => rfl
  | cons a l ih => rw [List.flatMap_cons, List.length_append, ih, encTh_len, List.length_cons]; omega
theorem info_th : (Tryz.prog.info? 282).map (fun i => (i.zero, i.size, i.bytes)) = some (some (.agg #[.int .i64 0, .int .i64 0, .int .i64 0, .int .i64 0, .int .i64 0, .int .i64 0]), 6, 48) := by kernel_rfl
structure HeapWs (w : World) (base hb : Nat) (l : List (Th Wt)) (turn : Int) (A : Option Addr) (c : Nat) : Prop where
  blk : w.heap[hb]? = some (.cells #[.slice A l.length c, .int .i64 turn] 277)
  row : w.ownsRow base 282 6 (.slice A l.length c) l.length (l.flatMap encTh)
  le : base ≤ hb
theorem HeapWs.below {B : Nat} {w w' : World} {base hb : Nat} {l : List (Th Wt)} {turn : Int} {A : Option Addr} {c : Nat} (h : HeapWs w base hb l turn A c) (hb' : Below B w w') (hB : w.heap.size ≤ B) : HeapWs w' base hb l turn A c :=
  ⟨blk_below hb' (Nat.lt_of_lt_of_le (blk_lt h.blk) hB) h.blk, own_below h.row hb' hB, h.le⟩
theorem HeapWs.drew {w : World} {base hb : Nat} {l : List (Th Wt)} {turn : Int} {A : Option Addr} {c : Nat} (h : HeapWs w base hb l turn A c) : HeapWs w.drew base hb l turn A c := ⟨h.blk, h.row, h.le⟩
theorem HeapWs.at {w : World} {base hb : Nat} {l : List (Th Wt)} {turn : Int} {A : Option Addr} {c : Nat} (h : HeapWs w base hb l turn A c) (i : Nat) (hi : i < l.length) :
    ∃ g, A = some ⟨g, 0, none⟩ ∧ w.cell? ⟨g, i * 6, none⟩ = some (.int .i64 l[i].r) ∧ w.cell? ⟨g, i * 6 + 1, none⟩ = some (.int .i64 l[i].p) ∧ w.cell? ⟨g, i * 6 + 2, none⟩ = some (.int .i64 l[i].t) ∧ w.cell? ⟨g, i * 6 + 3, none⟩ = some (.int .i64 l[i].x.i) ∧ w.cell? ⟨g, i * 6 + 4, none⟩ = some (.int .i64 l[i].x.a) ∧ w.cell? ⟨g, i * 6 + 5, none⟩ = some (.int .i64 l[i].x.b) := by
  obtain ⟨g, cap, e, _, _, _⟩ := own_open h.row (by omega)
  injection e with e1 e2 e3
  subst e1
  obtain ⟨b, o, e2, hc⟩ := (own_sl encTh_len h.row (by decide)).at i hi
  injection e2 with e2
  injection e2 with e2 e3
  subst e2; subst e3
  refine ⟨_, rfl, ?_, ?_, ?_, ?_, ?_, ?_⟩
  · have := hc 0 _ rfl; simpa using this
  · have := hc 1 _ rfl; simpa using this
  · have := hc 2 _ rfl; simpa using this
  · have := hc 3 _ rfl; simpa using this
  · have := hc 4 _ rfl; simpa using this
  · have := hc 5 _ rfl; simpa using this
theorem swap_flat (l : List (Th Wt)) (i k : Nat) (hi : i < l.length) (hk : k < l.length) :
    (swapT l i k).flatMap encTh = ((((((((((((l.flatMap encTh).set (i * 6) (.int .i64 l[k].r)).set (i * 6 + 1) (.int .i64 l[k].p)).set (i * 6 + 2) (.int .i64 l[k].t)).set (i * 6 + 3) (.int .i64 l[k].x.i)).set (i * 6 + 4) (.int .i64 l[k].x.a)).set (i * 6 + 5) (.int .i64 l[k].x.b)).set (k * 6) (.int .i64 l[i].r)).set (k * 6 + 1) (.int .i64 l[i].p)).set (k * 6 + 2) (.int .i64 l[i].t)).set (k * 6 + 3) (.int .i64 l[i].x.i)).set (k * 6 + 4) (.int .i64 l[i].x.a)).set (k * 6 + 5) (.int .i64 l[i].x.b) := by
  have one : ∀ (m : List (Th Wt)) (i : Nat) (a : Th Wt), i < m.length → (m.set i a).flatMap encTh = ((((((m.flatMap encTh).set (i * 6) (.int .i64 a.r)).set (i * 6 + 1) (.int .i64 a.p)).set (i * 6 + 2) (.int .i64 a.t)).set (i * 6 + 3) (.int .i64 a.x.i)).set (i * 6 + 4) (.int .i64 a.x.a)).set (i * 6 + 5) (.int .i64 a.x.b) := by
    intro m
    induction m with
    | nil => intro i a h; exact absurd h (by simp)
    | cons b m ih =>
      intro i a h
      cases i with
      | zero => simp [encTh]
      | succ i =>
        have := ih i a (by simpa using h)
        simp only [List.set_cons_succ, List.flatMap_cons, this]
        have e : ∀ j, (i + 1) * 6 + j = (encTh b).length + (i * 6 + j) := by intro j; rw [encTh_len]; omega
        have e0 : (i + 1) * 6 = (encTh b).length + (i * 6 + 0) := by rw [encTh_len]; omega
        rw [e 1, e 2, e 3, e 4, e 5, e0]
        simp only [List.set_append_right _ _ (Nat.le_add_right _ _), Nat.add_sub_cancel_left, Nat.add_zero]
  have e : swapT l i k = (l.set i l[k]).set k l[i] := by unfold swapT; rw [dif_pos ⟨hi, hk⟩]
  rw [e, one _ _ _ (by simpa using hk), one _ _ _ hi]
theorem own_cells {w : World} {base n cap g : Nat} {e : TypeId} {size : Nat} {xs : List Value} (h : w.ownsRow base e size (.slice (some ⟨g, 0, none⟩) n cap) n xs) (hn : 0 < n) (j : Nat) (hj : j < n * size) : (∃ v, w.cell? ⟨g, j, none⟩ = some v) ∧ w.frozen? ⟨g, j, none⟩ = false := by
  obtain ⟨g', cap', e1, _, _, hc⟩ := own_open h hn
  injection e1 with e1 e2 e3
  injection e1 with e1
  injection e1 with e1
  subst e1
  have hl := h.1
  obtain ⟨h1, h2⟩ := hc j xs[j] (List.getElem?_eq_getElem (by omega))
  exact ⟨⟨_, h1⟩, h2⟩
theorem own_set6 {w : World} {base n cap g : Nat} {e : TypeId} {size : Nat} {xs : List Value} (h : w.ownsRow base e size (.slice (some ⟨g, 0, none⟩) n cap) n xs) (i : Nat) (a b c d x y : Value) :
    ((((((w.setCell ⟨g, i, none⟩ a).setCell ⟨g, i + 1, none⟩ b).setCell ⟨g, i + 2, none⟩ c).setCell ⟨g, i + 3, none⟩ d).setCell ⟨g, i + 4, none⟩ x).setCell ⟨g, i + 5, none⟩ y).ownsRow base e size (.slice (some ⟨g, 0, none⟩) n cap) n ((((((xs.set i a).set (i + 1) b).set (i + 2) c).set (i + 3) d).set (i + 4) x).set (i + 5) y) :=
  own_set (own_set (own_set (own_set (own_set (own_set h i a) (i + 1) b) (i + 2) c) (i + 3) d) (i + 4) x) (i + 5) y
theorem keep_set6 {w0 w : World} {g : Nat} (hk : Keep (fun x => x = g) w0 w) (i : Nat) (a b c d x y : Value) :
    Keep (fun x => x = g) w0 ((((((w.setCell ⟨g, i, none⟩ a).setCell ⟨g, i + 1, none⟩ b).setCell ⟨g, i + 2, none⟩ c).setCell ⟨g, i + 3, none⟩ d).setCell ⟨g, i + 4, none⟩ x).setCell ⟨g, i + 5, none⟩ y) :=
  (((((hk.setCell (p := ⟨g, i, none⟩) (.inl rfl) a).setCell (p := ⟨g, i + 1, none⟩) (.inl rfl) b).setCell (p := ⟨g, i + 2, none⟩) (.inl rfl) c).setCell (p := ⟨g, i + 3, none⟩) (.inl rfl) d).setCell (p := ⟨g, i + 4, none⟩) (.inl rfl) x).setCell (p := ⟨g, i + 5, none⟩) (.inl rfl) y
theorem gen_set6 {K : Act → World → Prop} {a : Act} {W V : World} (hV : W = V) (h : ∀ W', W' = V → K a W') : K a W := by subst hV; exact h _ rfl
set_option maxHeartbeats 4000000 in
theorem swap_any {w : World} {base hb : Nat} {l : List (Th Wt)} {turn : Int} {A : Option Addr} {c : Nat} (h : HeapWs w base hb l turn A c) (i k : Nat) (hi : i < l.length) (hk : k < l.length) (hlen : l.length < 1000000000000000000) :
    Calls Tryz.prog 192 #[.pointer (some ⟨hb, 0, none⟩), .int .i64 (i : Nat), .int .i64 (k : Nat)] w fun e w' => e = .returned (.tuple #[]) ∧ HeapWs w' base hb (swapT l i k) turn A c ∧ Keep (fun g => A = some ⟨g, 0, none⟩) w w' := by
  obtain ⟨g, rfl, a0, a1, a2, a3, a4, a5⟩ := h.at i hi
  obtain ⟨g', e, b0, b1, b2, b3, b4, b5⟩ := h.at k hk
  injection e with e
  injection e with e
  subst e
  have HSF := Lib.hid (swap_flat l i k hi hk)
  have HH := Lib.hid h
  have h0 := blk_cell h.blk 0
  simp only [List.getElem?_toArray, List.getElem?_cons_zero, List.getElem?_cons_succ] at h0
  generalize l[i] = x at *
  generalize l[k] = y at *
  obtain ⟨xr, xp, xt, ⟨xx, xy, xz⟩⟩ := x
  obtain ⟨yr, yp, yt, ⟨yx, yy, yz⟩⟩ := y
  simp only at a0 a1 a2 a3 a4 a5 b0 b1 b2 b3 b4 b5
  have p0 : (0 : Int) ≤ (i : Int) := by omega
  have p1 : (i : Int) < (l.length : Int) := by omega
  have p2 : (0 : Int) ≤ (k : Int) := by omega
  have p3 : (k : Int) < (l.length : Int) := by omega
  have HROW := Lib.hid (own_drew h.row)
  have HK : Hid (Keep (fun x => x = g) w w.drew) := Lib.hid ((Keep.refl _ w).drew)
  clear h
  go_enter Tryz.func192, Tryz.ntmps192
  refine wp_region_D (Ds := [25, 27]) (S := fun V => V.cell? ⟨hb, 0, none⟩ = some (.slice (some ⟨g, 0, none⟩) l.length c) ∧ V.cell? ⟨g, i * 6, none⟩ = some (.int .i64 xr) ∧ V.cell? ⟨g, i * 6 + 1, none⟩ = some (.int .i64 xp) ∧ V.cell? ⟨g, i * 6 + 2, none⟩ = some (.int .i64 xt) ∧ V.cell? ⟨g, i * 6 + 3, none⟩ = some (.int .i64 xx) ∧ V.cell? ⟨g, i * 6 + 4, none⟩ = some (.int .i64 xy) ∧ V.cell? ⟨g, i * 6 + 5, none⟩ = some (.int .i64 xz) ∧ V.cell? ⟨g, k * 6, none⟩ = some (.int .i64 yr) ∧ V.cell? ⟨g, k * 6 + 1, none⟩ = some (.int .i64 yp) ∧ V.cell? ⟨g, k * 6 + 2, none⟩ = some (.int .i64 yt) ∧ V.cell? ⟨g, k * 6 + 3, none⟩ = some (.int .i64 yx) ∧ V.cell? ⟨g, k * 6 + 4, none⟩ = some (.int .i64 yy) ∧ V.cell? ⟨g, k * 6 + 5, none⟩ = some (.int .i64 yz)) (by kernel_rfl) (by exact ⟨h0, a0, a1, a2, a3, a4, a5, b0, b1, b2, b3, b4, b5⟩) (fun hHeld => ?_)
  generalize w.drew = W0 at *
  refine tkP 0 6 ?_ rfl (.inl ⟨by rfl, ?_⟩) ?_; rotate_left; focus (intro w' _; go_simp; (try with_reducible rfl))
  try simp only [sIB, sC0, sCS]
  refine tkP 1 7 ?_ rfl (.inl ⟨by rfl, ?_⟩) ?_; rotate_left; focus (intro w' _; go_simp; (try with_reducible rfl))
  try simp only [sIB, sC0, sCS]
  refine tkP 2 8 ?_ rfl (.inl ⟨by rfl, ?_⟩) ?_; rotate_left; focus (intro w' _; go_simp; (try with_reducible rfl))
  try simp only [sIB, sC0, sCS]
  refine tkP 4 10 ?_ rfl (.inl ⟨by rfl, ?_⟩) ?_; rotate_left; focus (intro w' _; go_simp; (try with_reducible rfl))
  try simp only [sIB, sC0, sCS]
  refine tkP 5 11 ?_ rfl (.inl ⟨by rfl, ?_⟩) ?_; rotate_left; focus (intro w' _; go_simp; (try with_reducible rfl))
  try simp only [sIB, sC0, sCS]
  refine tkP 6 12 ?_ rfl (.inl ⟨by rfl, ?_⟩) ?_; rotate_left; focus (intro w' _; go_simp; (try with_reducible rfl))
  try simp only [sIB, sC0, sCS]
  refine tkP 7 13 ?_ rfl (.inl ⟨by rfl, ?_⟩) ?_; rotate_left; focus (intro w' _; go_simp; (try with_reducible rfl))
  try simp only [sIB, sC0, sCS]
  refine tkP 9 15 ?_ rfl (.inl ⟨by rfl, ?_⟩) ?_; rotate_left; focus (intro w' _; go_simp; (try with_reducible rfl))
  try simp only [sIB, sC0, sCS]
  refine tkP 10 16 ?_ rfl (.inl ⟨by rfl, ?_⟩) ?_; rotate_left; focus (intro w' _; go_simp; (try with_reducible rfl))
  try simp only [sIB, sC0, sCS]
  refine tkP 11 17 ?_ rfl (.inl ⟨by rfl, ?_⟩) ?_; rotate_left; focus (intro w' _; go_simp; (try with_reducible rfl))
  try simp only [sIB, sC0, sCS]
  refine tkP 12 18 ?_ rfl (.inl ⟨by rfl, ?_⟩) ?_; rotate_left; focus (intro w' _; go_simp; (try with_reducible rfl))
  try simp only [sIB, sC0, sCS]
  refine tkP 14 20 ?_ rfl (.inl ⟨by rfl, ?_⟩) ?_; rotate_left; focus (intro w' _; go_simp; (try with_reducible rfl))
  try simp only [sIB, sC0, sCS]
  refine tkP 17 23 ?_ rfl (.inl ⟨by rfl, ?_⟩) ?_; rotate_left; focus (intro w' _; go_simp; (try with_reducible rfl))
  try simp only [sIB, sC0, sCS]
  refine tkP 18 24 ?_ rfl (.inl ⟨by rfl, ?_⟩) ?_; rotate_left; focus (intro w' _; go_simp; (try with_reducible rfl))
  try simp only [sIB, sC0, sCS]
  refine tkP 19 25 ?_ rfl (.inl ⟨by rfl, ?_⟩) ?_; rotate_left; focus (intro w' _; go_simp; (try with_reducible rfl))
  try simp only [sIB, sC0, sCS]
  refine tkP 21 27 ?_ rfl (.inl ⟨by rfl, ?_⟩) ?_; rotate_left; focus (intro w' _; go_simp; (try with_reducible rfl))
  try simp only [sIB, sC0, sCS]
  refine tkD 3 9 ?_ rfl hHeld (.inl ⟨by rfl, ?_⟩) ?_; rotate_left; focus (intro w' hSw; (try dsimp only at hSw); go_simp; (try with_reducible rfl))
  try simp only [sIB, sC0, sCS]
  refine tkD 8 14 ?_ rfl hHeld (.inl ⟨by rfl, ?_⟩) ?_; rotate_left; focus (intro w' hSw; (try dsimp only at hSw); go_simp; (try with_reducible rfl))
  try simp only [sIB, sC0, sCS]
  refine tkD 13 19 ?_ rfl hHeld (.inl ⟨by rfl, ?_⟩) ?_; rotate_left; focus (intro w' hSw; (try dsimp only at hSw); go_simp; (try with_reducible rfl))
  try simp only [sIB, sC0, sCS]
  refine tkP 15 21 ?_ rfl (.inl ⟨by rfl, ?_⟩) ?_; rotate_left; focus (intro w' _; go_simp; (try with_reducible rfl))
  try simp only [sIB, sC0, sCS]
  refine tkD 16 22 ?_ rfl hHeld (.inl ⟨by rfl, ?_⟩) ?_; rotate_left; focus (intro w' hSw; (try dsimp only at hSw); go_simp; (try with_reducible rfl))
  try simp only [sIB, sC0, sCS]
  refine tkD 20 26 ?_ rfl hHeld (.inl ⟨by rfl, ?_⟩) ?_; rotate_left; focus (intro w' hSw; (try dsimp only at hSw); go_simp; (try with_reducible rfl))
  try simp only [sIB, sC0, sCS]
  refine tkP 22 28 ?_ rfl (.inl ⟨by rfl, ?_⟩) ?_; rotate_left; focus (intro w' _; go_simp; (try with_reducible rfl))
  try simp only [sIB, sC0, sCS]
  refine tkD 23 29 ?_ rfl hHeld (.inl ⟨by rfl, ?_⟩) ?_; rotate_left; focus (intro w' hSw; (try dsimp only at hSw); go_simp; (try with_reducible rfl))
  try simp only [sIB, sC0, sCS]
  refine tkP 24 30 ?_ rfl (.inl ⟨by rfl, ?_⟩) ?_; rotate_left; focus (intro w' _; go_simp; (try with_reducible rfl))
  try simp only [sIB, sC0, sCS]
  refine wpAnyD_last (D := 25) (by decide) (by kernel_rfl) rfl (by rfl) (fun K hK => ?_)
  have q0 := own_cells HROW.out (by omega) (i * 6) (by omega); have q1 := own_cells HROW.out (by omega) (i * 6 + 1) (by omega); have q2 := own_cells HROW.out (by omega) (i * 6 + 2) (by omega); have q3 := own_cells HROW.out (by omega) (i * 6 + 3) (by omega); have q4 := own_cells HROW.out (by omega) (i * 6 + 4) (by omega); have q5 := own_cells HROW.out (by omega) (i * 6 + 5) (by omega); obtain ⟨⟨v0, c0⟩, f0⟩ := q0; obtain ⟨⟨v1, c1⟩, f1⟩ := q1; obtain ⟨⟨v2, c2⟩, f2⟩ := q2; obtain ⟨⟨v3, c3⟩, f3⟩ := q3; obtain ⟨⟨v4, c4⟩, f4⟩ := q4; obtain ⟨⟨v5, c5⟩, f5⟩ := q5; clear hHeld; go_simp; have HROW := Lib.hid (own_set6 HROW.out (i * 6) (.int .i64 yr) (.int .i64 yp) (.int .i64 yt) (.int .i64 yx) (.int .i64 yy) (.int .i64 yz)); have HK := Lib.hid (keep_set6 HK.out (i * 6) (.int .i64 yr) (.int .i64 yp) (.int .i64 yt) (.int .i64 yx) (.int .i64 yy) (.int .i64 yz)); refine gen_set6 rfl (fun W' hW' => ?_); rw [← hW'] at HROW HK; clear hW' c0 c1 c2 c3 c4 c5 f0 f1 f2 f3 f4 f5
  refine hK.out _ _ ?_
  clear hK K
  try simp only [Act.put, sIB, sC0, sCS]
  refine tkP 26 31 ?_ rfl (.inl ⟨by rfl, ?_⟩) ?_; rotate_left; focus (intro w' _; go_simp; (try with_reducible rfl))
  try simp only [sIB, sC0, sCS]
  refine wpAnyD_last (D := 27) (by decide) (by kernel_rfl) rfl (by rfl) (fun K hK => ?_)
  have q0 := own_cells HROW.out (by omega) (k * 6) (by omega); have q1 := own_cells HROW.out (by omega) (k * 6 + 1) (by omega); have q2 := own_cells HROW.out (by omega) (k * 6 + 2) (by omega); have q3 := own_cells HROW.out (by omega) (k * 6 + 3) (by omega); have q4 := own_cells HROW.out (by omega) (k * 6 + 4) (by omega); have q5 := own_cells HROW.out (by omega) (k * 6 + 5) (by omega); obtain ⟨⟨v0, c0⟩, f0⟩ := q0; obtain ⟨⟨v1, c1⟩, f1⟩ := q1; obtain ⟨⟨v2, c2⟩, f2⟩ := q2; obtain ⟨⟨v3, c3⟩, f3⟩ := q3; obtain ⟨⟨v4, c4⟩, f4⟩ := q4; obtain ⟨⟨v5, c5⟩, f5⟩ := q5; go_simp; have HROW := Lib.hid (own_set6 HROW.out (k * 6) (.int .i64 xr) (.int .i64 xp) (.int .i64 xt) (.int .i64 xx) (.int .i64 xy) (.int .i64 xz)); have HK := Lib.hid (keep_set6 HK.out (k * 6) (.int .i64 xr) (.int .i64 xp) (.int .i64 xt) (.int .i64 xx) (.int .i64 xy) (.int .i64 xz)); refine gen_set6 rfl (fun W' hW' => ?_); rw [← hW'] at HROW HK; clear hW' c0 c1 c2 c3 c4 c5 f0 f1 f2 f3 f4 f5
  refine hK.out _ _ ?_
  clear hK K
  try simp only [Act.put, sIB, sC0, sCS]
  refine wpAnyD_done (by kernel_rfl) ?_ _
  go_wp2_with fail
  go_end0
  refine ⟨rfl, ⟨?_, ?_, HH.out.le⟩, HK.out.mono (fun x hx => by subst hx; rfl)⟩
  · rw [swap_len]
    exact HK.out.blk HH.out.blk (fun e => row_ne HH.out.row HH.out.blk (by decide) (by rw [e]; rfl))
  · rw [swap_len, HSF.out]
    exact HROW.out
end Go.Proofs.YtbppaiejpgdbiaaGreat.hw
namespace Go.Proofs.YtbppaiejpgdbiaaGreat.hw
open Go.RowKit Go.Maps Go.WideMaps
set_option maxHeartbeats 4000000 in
theorem up_any {w : World} {base hb : Nat} {l : List (Th Wt)} {turn : Int} {A : Option Addr} {c : Nat} (h : HeapWs w base hb l turn A c) (i : Nat) (hi : i < l.length) (hlen : l.length < 1000000000000000000) :
    Calls Tryz.prog 194 #[.pointer (some ⟨hb, 0, none⟩), .int .i64 (i : Nat)] w fun e w' => e = .returned (.tuple #[]) ∧ HeapWs w' base hb (upT l i) turn A c ∧ Keep (fun g => A = some ⟨g, 0, none⟩) w w' := by
  have HH := Lib.hid h
  clear h
  go_enter Tryz.func194, Tryz.ntmps194
  go_wp2_with fail
  go_loopg [1] i (fun n j W => ∃ (k : Nat) (m : List (Th Wt)), k ≤ n ∧ j = .int .i64 (k : Int) ∧ k < m.length ∧ m.length = l.length ∧ upT m k = upT l i ∧ HeapWs W base hb m turn A c ∧ Keep (fun g => A = some ⟨g, 0, none⟩) w W)
  case atStart => exact ⟨i, l, Nat.le_refl _, rfl, hi, rfl, rfl, HH.out, Keep.refl _ _⟩
  case round =>
    obtain ⟨k, m, hkn, rfl, hk, hml, hup, hW, hkeep⟩ := hrel
    rename World => W
    have HW := Lib.hid hW
    have HKP := Lib.hid hkeep
    have HUP := Lib.hid hup
    clear hW hkeep hup HH
    by_cases h0 : k = 0
    · subst h0
      have e0 : upT m 0 = m := by rw [upT]; simp
      rw [e0] at HUP
      go_wp2_with fail
      go_end0
      exact ⟨rfl, by rw [← HUP.out]; exact HW.out, HKP.out⟩
    · have hk0 : (0 : Int) < (k : Int) := by omega
      obtain ⟨q, hq⟩ : ∃ q, (k - 1) / 2 = q := ⟨_, rfl⟩
      obtain ⟨q, hq⟩ : ∃ q, (k - 1) / 2 = q := ⟨_, rfl⟩
      obtain ⟨q, hq⟩ : ∃ q, (k - 1) / 2 = q := ⟨_, rfl⟩
      have w1 : IntKind.i64.wrap ((k : Int) - 1) = ((k - 1 : Nat) : Int) := by rw [IntWalk.i64_in _ (by omega)]; omega
      have w2 : ((k - 1 : Nat) : Int).tdiv 2 = (q : Int) := by rw [Int.tdiv_eq_ediv_of_nonneg (by omega)]; omega
      have w4 : ((k - 1 : Nat) : Int) / 2 = (q : Int) := by omega
      have w3 : IntKind.i64.wrap (q : Int) = (q : Int) := IntWalk.i64_in _ (by omega)
      have hpar : q < m.length := by omega
      have HE := Lib.hid (show upT m k = if ltB m[k] m[q] = true then upT (swapT m k q) q else m from by subst hq; rw [upT, dif_pos ⟨by omega, hk⟩])
      obtain ⟨g, rfl, a0, a1, a2, a3, a4, a5⟩ := HW.out.at k hk
      obtain ⟨g', e, b0, b1, b2, b3, b4, b5⟩ := HW.out.at q hpar
      injection e with e
      injection e with e
      subst e
      have hc0 := blk_cell HW.out.blk 0
      simp only [List.getElem?_toArray, List.getElem?_cons_zero, List.getElem?_cons_succ] at hc0
      have hqk : q < k := by omega
      generalize hx : m[k] = x at *
      generalize hy : m[q] = y at *
      clear hx hy hq
      obtain ⟨xr, xp, xt, ⟨xx, xy, xz⟩⟩ := x
      obtain ⟨yr, yp, yt, ⟨yx, yy, yz⟩⟩ := y
      simp only at a0 a1 a2 a3 a4 a5 b0 b1 b2 b3 b4 b5
      have HML := Lib.hid hml
      have hmlen : m.length < 1000000000000000000 := by omega
      clear hml
      go_upto_region 2 with fail
      clear w1 w2 w3 w4 a3 b3
      have p0 : (0 : Int) ≤ (k : Int) := by omega
      have p1 : (k : Int) < (m.length : Int) := by omega
      have p2 : (0 : Int) ≤ (q : Int) := by omega
      have p3 : (q : Int) < (m.length : Int) := by omega
      have HBB : Hid (Below W.heap.size W W.drew) := Lib.hid ⟨rfl, rfl, rfl, Nat.le_refl _, fun _ _ => rfl⟩
      have HSC : Hid (∀ V, Below W.heap.size W V → V.cell? ⟨hb, 0, none⟩ = some (.slice (some ⟨g, 0, none⟩) m.length c) ∧ V.cell? ⟨g, k * 6, none⟩ = some (.int .i64 xr) ∧ V.cell? ⟨g, k * 6 + 1, none⟩ = some (.int .i64 xp) ∧ V.cell? ⟨g, k * 6 + 2, none⟩ = some (.int .i64 xt) ∧ V.cell? ⟨g, q * 6, none⟩ = some (.int .i64 yr) ∧ V.cell? ⟨g, q * 6 + 1, none⟩ = some (.int .i64 yp) ∧ V.cell? ⟨g, q * 6 + 2, none⟩ = some (.int .i64 yt)) := Lib.hid (fun V hV => ⟨below_cell hV (Nat.le_refl _) hc0, below_cell hV (Nat.le_refl _) a0, below_cell hV (Nat.le_refl _) a1, below_cell hV (Nat.le_refl _) a2, below_cell hV (Nat.le_refl _) b0, below_cell hV (Nat.le_refl _) b1, below_cell hV (Nat.le_refl _) b2⟩)
      have HLE := Lib.hid (fun V => less_any (⟨xr, xp, xt, ⟨xx, xy, xz⟩⟩ : Th Wt) ⟨yr, yp, yt, ⟨yx, yy, yz⟩⟩ V)
      obtain ⟨B, hB⟩ : ∃ B, ltB (⟨xr, xp, xt, ⟨xx, xy, xz⟩⟩ : Th Wt) ⟨yr, yp, yt, ⟨yx, yy, yz⟩⟩ = B := ⟨_, rfl⟩
      rw [hB] at HLE HE
      unfold keyV at HLE
      simp only at HLE
      clear hB
      refine wp_region_D (Ds := []) (S := fun V => V.cell? ⟨hb, 0, none⟩ = some (.slice (some ⟨g, 0, none⟩) m.length c) ∧ V.cell? ⟨g, k * 6, none⟩ = some (.int .i64 xr) ∧ V.cell? ⟨g, k * 6 + 1, none⟩ = some (.int .i64 xp) ∧ V.cell? ⟨g, k * 6 + 2, none⟩ = some (.int .i64 xt) ∧ V.cell? ⟨g, q * 6, none⟩ = some (.int .i64 yr) ∧ V.cell? ⟨g, q * 6 + 1, none⟩ = some (.int .i64 yp) ∧ V.cell? ⟨g, q * 6 + 2, none⟩ = some (.int .i64 yt)) (by kernel_rfl) (by exact HSC.out _ HBB.out) (fun hHeld => ?_)
      refine tkP 0 10 ?_ rfl (.inl ⟨by rfl, ?_⟩) ?_; rotate_left; focus (intro w' _; go_simp; (try with_reducible rfl))
      try simp only [sIB, sC0, sCS]
      refine tkP 1 11 ?_ rfl (.inl ⟨by rfl, ?_⟩) ?_; rotate_left; focus (intro w' _; go_simp; (try with_reducible rfl))
      try simp only [sIB, sC0, sCS]
      refine tkP 2 12 ?_ rfl (.inl ⟨by rfl, ?_⟩) ?_; rotate_left; focus (intro w' _; go_simp; (try with_reducible rfl))
      try simp only [sIB, sC0, sCS]
      refine tkP 4 14 ?_ rfl (.inl ⟨by rfl, ?_⟩) ?_; rotate_left; focus (intro w' _; go_simp; (try with_reducible rfl))
      try simp only [sIB, sC0, sCS]
      refine tkP 8 18 ?_ rfl (.inl ⟨by rfl, ?_⟩) ?_; rotate_left; focus (intro w' _; go_simp; (try with_reducible rfl))
      try simp only [sIB, sC0, sCS]
      refine tkP 9 19 ?_ rfl (.inl ⟨by rfl, ?_⟩) ?_; rotate_left; focus (intro w' _; go_simp; (try with_reducible rfl))
      try simp only [sIB, sC0, sCS]
      refine tkP 10 20 ?_ rfl (.inl ⟨by rfl, ?_⟩) ?_; rotate_left; focus (intro w' _; go_simp; (try with_reducible rfl))
      try simp only [sIB, sC0, sCS]
      refine tkP 12 22 ?_ rfl (.inl ⟨by rfl, ?_⟩) ?_; rotate_left; focus (intro w' _; go_simp; (try with_reducible rfl))
      try simp only [sIB, sC0, sCS]
      refine tkD 3 13 ?_ rfl hHeld (.inl ⟨by rfl, ?_⟩) ?_; rotate_left; focus (intro w' hSw; (try dsimp only at hSw); go_simp; (try with_reducible rfl))
      try simp only [sIB, sC0, sCS]
      refine tkP 5 15 ?_ rfl (.inl ⟨by rfl, ?_⟩) ?_; rotate_left; focus (intro w' _; go_simp; (try with_reducible rfl))
      try simp only [sIB, sC0, sCS]
      refine tkP 6 16 ?_ rfl (.inl ⟨by rfl, ?_⟩) ?_; rotate_left; focus (intro w' _; go_simp; (try with_reducible rfl))
      try simp only [sIB, sC0, sCS]
      refine tkD 7 17 ?_ rfl hHeld (.inl ⟨by rfl, ?_⟩) ?_; rotate_left; focus (intro w' hSw; (try dsimp only at hSw); go_simp; (try with_reducible rfl))
      try simp only [sIB, sC0, sCS]
      refine tkD 11 21 ?_ rfl hHeld (.inl ⟨by rfl, ?_⟩) ?_; rotate_left; focus (intro w' hSw; (try dsimp only at hSw); go_simp; (try with_reducible rfl))
      try simp only [sIB, sC0, sCS]
      refine tkP 13 23 ?_ rfl (.inl ⟨by rfl, ?_⟩) ?_; rotate_left; focus (intro w' _; go_simp; (try with_reducible rfl))
      try simp only [sIB, sC0, sCS]
      refine tkP 14 24 ?_ rfl (.inl ⟨by rfl, ?_⟩) ?_; rotate_left; focus (intro w' _; go_simp; (try with_reducible rfl))
      try simp only [sIB, sC0, sCS]
      refine tkD 15 25 ?_ rfl hHeld (.inl ⟨by rfl, ?_⟩) ?_; rotate_left; focus (intro w' hSw; (try dsimp only at hSw); go_simp; (try with_reducible rfl))
      try simp only [sIB, sC0, sCS]
      refine wpAnyD_one (i := 16) (by kernel_rfl) rfl (by rfl) (fun K hK => ?_)
      go_simp; refine (HLE.out _).mono ?_; rintro e w' ⟨rfl, hb'⟩; have HBB := Lib.hid (HBB.out.trans (hb'.mono HBB.out.size)); have h := HSC.out _ HBB.out; clear hb'; go_simp
      refine hK.out _ _ h (fun hHeld => ?_)
      clear hK K
      try simp only [Act.put, sIB, sC0, sCS]
      refine tkP 17 27 ?_ rfl (.inl ⟨by rfl, ?_⟩) ?_; rotate_left; focus (intro w' _; go_simp; (try with_reducible rfl))
      try simp only [sIB, sC0, sCS]
      refine wpAnyD_done (by kernel_rfl) ?_ _
      have HW2 := Lib.hid (HW.out.below HBB.out (Nat.le_refl _))
      have HKP2 := Lib.hid (HKP.out.trans (Keep.of_below (F := fun g' => (some ⟨g, 0, none⟩ : Option Addr) = some ⟨g', 0, none⟩) HBB.out) (fun x hx => .inl hx))
      clear hHeld a0 a1 a2 b0 b1 b2 hc0 HSC HLE HW HKP HBB
      cases B with
      | false =>
        simp only [Bool.false_eq_true, if_false] at HE
        go_wp2_with fail
        (try simp only [Exit.inBlock, Exit.then])
        refine bodyPost_ret (results_none rfl _ _ _) rfl ?_
        exact ⟨rfl, by rw [← HUP.out, HE.out]; exact HW2.out, by first | exact HKP2.out | exact HKP2.out.mono (fun x hx => by simpa using hx)⟩
      | true =>
        simp only [if_true] at HE
        go_wp2_with fail
        refine (swap_any HW2.out k q hk hpar (by omega)).mono ?_
        rintro e w4 ⟨rfl, h4, hk4⟩
        have H4 := Lib.hid h4
        have HK4 := Lib.hid (HKP2.out.trans hk4 (fun x hx => .inl hx))
        clear h4 hk4
        go_wp2_with fail
        go_roundg (gk - 1)
        case measure => omega
        case rel => exact ⟨q, _, by omega, rfl, by rw [swap_len]; exact hpar, by rw [swap_len]; exact HML.out, by rw [← HE.out]; exact HUP.out, H4.out, by first | exact HK4.out | exact HK4.out.mono (fun x hx => by simpa using hx)⟩
end Go.Proofs.YtbppaiejpgdbiaaGreat.hw
