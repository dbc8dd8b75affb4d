/- Layer 3 (heap): heaps of waits: swap, up, down. -/
import Derived.Test.YtpkmcokkapfnmaaHeap1
import Derived.Test.YtpkmcokkapfnmaaChain1
import Derived.Test.YtpkmcokkapfnmaaRegion2
namespace Go.Proofs.Ytpkmcokkapfnmaa.hw
open Go.RowKit Go.Maps Go.WideMaps
set_option maxRecDepth 100000
set_option linter.unusedVariables false
set_option linter.unusedSimpArgs false

def encTh (a : Th Wt) : List Value := [.int .i64 a.r, .int .i64 a.p, .int .i64 a.t, .int .i64 a.x.i, .int .i64 a.x.a, .int .i64 a.x.b]
theorem encTh_len (a : Th Wt) : (encTh a).length = 6 := rfl
theorem flat_len (l : List (Th Wt)) : (l.flatMap encTh).length = l.length * 6 := by
  induction l with
  | nil => rfl
  | cons a l ih => rw [List.flatMap_cons, List.length_append, ih, encTh_len, List.length_cons]; omega
theorem info_th : (Try.prog.info? 123).map (fun i => (i.zero, i.size, i.bytes)) = some (some (.agg #[.int .i64 0, .int .i64 0, .int .i64 0, .int .i64 0, .int .i64 0, .int .i64 0]), 6, 48) := by kernel_rfl

/-- a heap in memory -/
structure HeapWs (w : World) (base hb : Nat) (l : List (Th Wt)) (turn : Int) (A : Option Addr) (c : Nat) : Prop where
  blk : w.heap[hb]? = some (.cells #[.slice A l.length c, .int .i64 turn] 117)
  row : w.ownsRow base 123 6 (.slice A l.length c) l.length (l.flatMap encTh)
  le : base ≤ hb
theorem HeapWs.below {B : Nat} {w w' : World} {base hb : Nat} {l : List (Th Wt)} {turn : Int} {A : Option Addr} {c : Nat} (h : HeapWs w base hb l turn A c) (hb' : Below B w w') (hB : w.heap.size ≤ B) : HeapWs w' base hb l turn A c :=
  ⟨blk_below hb' (Nat.lt_of_lt_of_le (blk_lt h.blk) hB) h.blk, own_below h.row hb' hB, h.le⟩
theorem HeapWs.drew {w : World} {base hb : Nat} {l : List (Th Wt)} {turn : Int} {A : Option Addr} {c : Nat} (h : HeapWs w base hb l turn A c) : HeapWs w.drew base hb l turn A c := ⟨h.blk, h.row, h.le⟩
theorem HeapWs.at {w : World} {base hb : Nat} {l : List (Th Wt)} {turn : Int} {A : Option Addr} {c : Nat} (h : HeapWs w base hb l turn A c) (i : Nat) (hi : i < l.length) :
    ∃ g, A = some ⟨g, 0, none⟩ ∧ w.cell? ⟨g, i * 6, none⟩ = some (.int .i64 l[i].r) ∧ w.cell? ⟨g, i * 6 + 1, none⟩ = some (.int .i64 l[i].p) ∧ w.cell? ⟨g, i * 6 + 2, none⟩ = some (.int .i64 l[i].t) ∧ w.cell? ⟨g, i * 6 + 3, none⟩ = some (.int .i64 l[i].x.i) ∧ w.cell? ⟨g, i * 6 + 4, none⟩ = some (.int .i64 l[i].x.a) ∧ w.cell? ⟨g, i * 6 + 5, none⟩ = some (.int .i64 l[i].x.b) := by
  obtain ⟨g, cap, e, _, _, _⟩ := own_open h.row (by omega)
  injection e with e1 e2 e3
  subst e1
  obtain ⟨b, o, e2, hc⟩ := (own_sl encTh_len h.row (by decide)).at i hi
  injection e2 with e2
  injection e2 with e2 e3
  subst e2; subst e3
  refine ⟨_, rfl, ?_, ?_, ?_, ?_, ?_, ?_⟩
  · have := hc 0 _ rfl; simpa using this
  · have := hc 1 _ rfl; simpa using this
  · have := hc 2 _ rfl; simpa using this
  · have := hc 3 _ rfl; simpa using this
  · have := hc 4 _ rfl; simpa using this
  · have := hc 5 _ rfl; simpa using this
theorem swap_flat (l : List (Th Wt)) (i k : Nat) (hi : i < l.length) (hk : k < l.length) :
    (swapT l i k).flatMap encTh = ((((((((((((l.flatMap encTh).set (i * 6) (.int .i64 l[k].r)).set (i * 6 + 1) (.int .i64 l[k].p)).set (i * 6 + 2) (.int .i64 l[k].t)).set (i * 6 + 3) (.int .i64 l[k].x.i)).set (i * 6 + 4) (.int .i64 l[k].x.a)).set (i * 6 + 5) (.int .i64 l[k].x.b)).set (k * 6) (.int .i64 l[i].r)).set (k * 6 + 1) (.int .i64 l[i].p)).set (k * 6 + 2) (.int .i64 l[i].t)).set (k * 6 + 3) (.int .i64 l[i].x.i)).set (k * 6 + 4) (.int .i64 l[i].x.a)).set (k * 6 + 5) (.int .i64 l[i].x.b) := by
  have one : ∀ (m : List (Th Wt)) (i : Nat) (a : Th Wt), i < m.length → (m.set i a).flatMap encTh = ((((((m.flatMap encTh).set (i * 6) (.int .i64 a.r)).set (i * 6 + 1) (.int .i64 a.p)).set (i * 6 + 2) (.int .i64 a.t)).set (i * 6 + 3) (.int .i64 a.x.i)).set (i * 6 + 4) (.int .i64 a.x.a)).set (i * 6 + 5) (.int .i64 a.x.b) := by
    intro m
    induction m with
    | nil => intro i a h; exact absurd h (by simp)
    | cons b m ih =>
      intro i a h
      cases i with
      | zero => simp [encTh]
      | succ i =>
        have := ih i a (by simpa using h)
        simp only [List.set_cons_succ, List.flatMap_cons, this]
        have e : ∀ j, (i + 1) * 6 + j = (encTh b).length + (i * 6 + j) := by intro j; rw [encTh_len]; omega
        have e0 : (i + 1) * 6 = (encTh b).length + (i * 6 + 0) := by rw [encTh_len]; omega
        rw [e 1, e 2, e 3, e 4, e 5, e0]
        simp only [List.set_append_right _ _ (Nat.le_add_right _ _), Nat.add_sub_cancel_left, Nat.add_zero]
  have e : swapT l i k = (l.set i l[k]).set k l[i] := by unfold swapT; rw [dif_pos ⟨hi, hk⟩]
  rw [e, one _ _ _ (by simpa using hk), one _ _ _ hi]

theorem own_cells {w : World} {base n cap g : Nat} {e : TypeId} {size : Nat} {xs : List Value} (h : w.ownsRow base e size (.slice (some ⟨g, 0, none⟩) n cap) n xs) (hn : 0 < n) (j : Nat) (hj : j < n * size) : (∃ v, w.cell? ⟨g, j, none⟩ = some v) ∧ w.frozen? ⟨g, j, none⟩ = false := by
  obtain ⟨g', cap', e1, _, _, hc⟩ := own_open h hn
  injection e1 with e1 e2 e3
  injection e1 with e1
  injection e1 with e1
  subst e1
  have hl := h.1
  obtain ⟨h1, h2⟩ := hc j xs[j] (List.getElem?_eq_getElem (by omega))
  exact ⟨⟨_, h1⟩, h2⟩
theorem own_set6 {w : World} {base n cap g : Nat} {e : TypeId} {size : Nat} {xs : List Value} (h : w.ownsRow base e size (.slice (some ⟨g, 0, none⟩) n cap) n xs) (i : Nat) (a b c d x y : Value) :
    ((((((w.setCell ⟨g, i, none⟩ a).setCell ⟨g, i + 1, none⟩ b).setCell ⟨g, i + 2, none⟩ c).setCell ⟨g, i + 3, none⟩ d).setCell ⟨g, i + 4, none⟩ x).setCell ⟨g, i + 5, none⟩ y).ownsRow base e size (.slice (some ⟨g, 0, none⟩) n cap) n ((((((xs.set i a).set (i + 1) b).set (i + 2) c).set (i + 3) d).set (i + 4) x).set (i + 5) y) :=
  own_set (own_set (own_set (own_set (own_set (own_set h i a) (i + 1) b) (i + 2) c) (i + 3) d) (i + 4) x) (i + 5) y
theorem keep_set6 {w0 w : World} {g : Nat} (hk : Keep (fun x => x = g) w0 w) (i : Nat) (a b c d x y : Value) :
    Keep (fun x => x = g) w0 ((((((w.setCell ⟨g, i, none⟩ a).setCell ⟨g, i + 1, none⟩ b).setCell ⟨g, i + 2, none⟩ c).setCell ⟨g, i + 3, none⟩ d).setCell ⟨g, i + 4, none⟩ x).setCell ⟨g, i + 5, none⟩ y) :=
  (((((hk.setCell (p := ⟨g, i, none⟩) (.inl rfl) a).setCell (p := ⟨g, i + 1, none⟩) (.inl rfl) b).setCell (p := ⟨g, i + 2, none⟩) (.inl rfl) c).setCell (p := ⟨g, i + 3, none⟩) (.inl rfl) d).setCell (p := ⟨g, i + 4, none⟩) (.inl rfl) x).setCell (p := ⟨g, i + 5, none⟩) (.inl rfl) y
theorem gen_set6 {K : Act → World → Prop} {a : Act} {W V : World} (hV : W = V) (h : ∀ W', W' = V → K a W') : K a W := by subst hV; exact h _ rfl

set_option maxHeartbeats 4000000 in
theorem swap_any {w : World} {base hb : Nat} {l : List (Th Wt)} {turn : Int} {A : Option Addr} {c : Nat} (h : HeapWs w base hb l turn A c) (i k : Nat) (hi : i < l.length) (hk : k < l.length) (hlen : l.length < 1000000000000000000) :
    Calls Try.prog 61 #[.pointer (some ⟨hb, 0, none⟩), .int .i64 (i : Nat), .int .i64 (k : Nat)] w fun e w' => e = .returned (.tuple #[]) ∧ HeapWs w' base hb (swapT l i k) turn A c ∧ Keep (fun g => A = some ⟨g, 0, none⟩) w w' := by
  obtain ⟨g, rfl, a0, a1, a2, a3, a4, a5⟩ := h.at i hi
  obtain ⟨g', e, b0, b1, b2, b3, b4, b5⟩ := h.at k hk
  injection e with e
  injection e with e
  subst e
  have HSF := Lib.hid (swap_flat l i k hi hk)
  have HH := Lib.hid h
  have h0 := blk_cell h.blk 0
  simp only [List.getElem?_toArray, List.getElem?_cons_zero, List.getElem?_cons_succ] at h0
  generalize l[i] = x at *
  generalize l[k] = y at *
  obtain ⟨xr, xp, xt, ⟨xx, xy, xz⟩⟩ := x
  obtain ⟨yr, yp, yt, ⟨yx, yy, yz⟩⟩ := y
  simp only at a0 a1 a2 a3 a4 a5 b0 b1 b2 b3 b4 b5
  have p0 : (0 : Int) ≤ (i : Int) := by omega
  have p1 : (i : Int) < (l.length : Int) := by omega
  have p2 : (0 : Int) ≤ (k : Int) := by omega
  have p3 : (k : Int) < (l.length : Int) := by omega
  have HROW := Lib.hid (own_drew h.row)
  have HK : Hid (Keep (fun x => x = g) w w.drew) := Lib.hid ((Keep.refl _ w).drew)
  clear h
  go_enter Try.func61, Try.ntmps61
  refine wp_region_D (Ds := [25, 27]) (S := fun V => V.cell? ⟨hb, 0, none⟩ = some (.slice (some ⟨g, 0, none⟩) l.length c) ∧ V.cell? ⟨g, i * 6, none⟩ = some (.int .i64 xr) ∧ V.cell? ⟨g, i * 6 + 1, none⟩ = some (.int .i64 xp) ∧ V.cell? ⟨g, i * 6 + 2, none⟩ = some (.int .i64 xt) ∧ V.cell? ⟨g, i * 6 + 3, none⟩ = some (.int .i64 xx) ∧ V.cell? ⟨g, i * 6 + 4, none⟩ = some (.int .i64 xy) ∧ V.cell? ⟨g, i * 6 + 5, none⟩ = some (.int .i64 xz) ∧ V.cell? ⟨g, k * 6, none⟩ = some (.int .i64 yr) ∧ V.cell? ⟨g, k * 6 + 1, none⟩ = some (.int .i64 yp) ∧ V.cell? ⟨g, k * 6 + 2, none⟩ = some (.int .i64 yt) ∧ V.cell? ⟨g, k * 6 + 3, none⟩ = some (.int .i64 yx) ∧ V.cell? ⟨g, k * 6 + 4, none⟩ = some (.int .i64 yy) ∧ V.cell? ⟨g, k * 6 + 5, none⟩ = some (.int .i64 yz)) (by kernel_rfl) (by exact ⟨h0, a0, a1, a2, a3, a4, a5, b0, b1, b2, b3, b4, b5⟩) (fun hHeld => ?_)
  generalize w.drew = W0 at *
  refine wpAnyD_takeP (i := 0) (oi := { dst := some 6, op := Op.move (Operand.tmp 0), type := 76, pos := "heap.go:42", after := #[], guard := none }) (d := 6) (v := ?_) rfl rfl (by kernel_rfl) (by kernel_rfl) (by kernel_rfl) (fun _ _ _ h => h) (Or.inl ⟨by rfl, ?_⟩) ?_
  rotate_left
  · (intro w' _; go_simp; (try with_reducible rfl))
  simp only [List.setIfInBounds_toArray, List.set_cons_zero, List.set_cons_succ]
  refine wpAnyD_takeP (i := 1) (oi := { dst := some 7, op := Op.nilCheck (Operand.tmp 6), type := 0, pos := "heap.go:42", after := #[{ on := 0, ground := Ground.data }], guard := none }) (d := 7) (v := ?_) rfl rfl (by kernel_rfl) (by kernel_rfl) (by kernel_rfl) (fun _ _ _ h => h) (Or.inl ⟨by rfl, ?_⟩) ?_
  rotate_left
  · (intro w' _; go_simp; (try with_reducible rfl))
  simp only [List.setIfInBounds_toArray, List.set_cons_zero, List.set_cons_succ]
  refine wpAnyD_takeP (i := 2) (oi := { dst := some 8, op := Op.fieldAddr 117 (Operand.tmp 7) 0, type := 0, pos := "heap.go:42", after := #[{ on := 1, ground := Ground.data }], guard := none }) (d := 8) (v := ?_) rfl rfl (by kernel_rfl) (by kernel_rfl) (by kernel_rfl) (fun _ _ _ h => h) (Or.inl ⟨by rfl, ?_⟩) ?_
  rotate_left
  · (intro w' _; go_simp; (try with_reducible rfl))
  simp only [List.setIfInBounds_toArray, List.set_cons_zero, List.set_cons_succ]
  refine wpAnyD_takeP (i := 4) (oi := { dst := some 10, op := Op.move (Operand.tmp 1), type := 3, pos := "heap.go:42", after := #[], guard := none }) (d := 10) (v := ?_) rfl rfl (by kernel_rfl) (by kernel_rfl) (by kernel_rfl) (fun _ _ _ h => h) (Or.inl ⟨by rfl, ?_⟩) ?_
  rotate_left
  · (intro w' _; go_simp; (try with_reducible rfl))
  simp only [List.setIfInBounds_toArray, List.set_cons_zero, List.set_cons_succ]
  refine wpAnyD_takeP (i := 5) (oi := { dst := some 11, op := Op.move (Operand.tmp 0), type := 76, pos := "heap.go:42", after := #[], guard := none }) (d := 11) (v := ?_) rfl rfl (by kernel_rfl) (by kernel_rfl) (by kernel_rfl) (fun _ _ _ h => h) (Or.inl ⟨by rfl, ?_⟩) ?_
  rotate_left
  · (intro w' _; go_simp; (try with_reducible rfl))
  simp only [List.setIfInBounds_toArray, List.set_cons_zero, List.set_cons_succ]
  refine wpAnyD_takeP (i := 6) (oi := { dst := some 12, op := Op.nilCheck (Operand.tmp 11), type := 0, pos := "heap.go:42", after := #[{ on := 5, ground := Ground.data }], guard := none }) (d := 12) (v := ?_) rfl rfl (by kernel_rfl) (by kernel_rfl) (by kernel_rfl) (fun _ _ _ h => h) (Or.inl ⟨by rfl, ?_⟩) ?_
  rotate_left
  · (intro w' _; go_simp; (try with_reducible rfl))
  simp only [List.setIfInBounds_toArray, List.set_cons_zero, List.set_cons_succ]
  refine wpAnyD_takeP (i := 7) (oi := { dst := some 13, op := Op.fieldAddr 117 (Operand.tmp 12) 0, type := 0, pos := "heap.go:42", after := #[{ on := 6, ground := Ground.data }], guard := none }) (d := 13) (v := ?_) rfl rfl (by kernel_rfl) (by kernel_rfl) (by kernel_rfl) (fun _ _ _ h => h) (Or.inl ⟨by rfl, ?_⟩) ?_
  rotate_left
  · (intro w' _; go_simp; (try with_reducible rfl))
  simp only [List.setIfInBounds_toArray, List.set_cons_zero, List.set_cons_succ]
  refine wpAnyD_takeP (i := 9) (oi := { dst := some 15, op := Op.move (Operand.tmp 2), type := 3, pos := "heap.go:42", after := #[{ on := 25, ground := Ground.gcOnly Departure.lateStores }], guard := none }) (d := 15) (v := ?_) rfl rfl (by kernel_rfl) (by kernel_rfl) (by kernel_rfl) (fun _ _ _ h => h) (Or.inl ⟨by rfl, ?_⟩) ?_
  rotate_left
  · (intro w' _; go_simp; (try with_reducible rfl))
  simp only [List.setIfInBounds_toArray, List.set_cons_zero, List.set_cons_succ]
  refine wpAnyD_takeP (i := 10) (oi := { dst := some 16, op := Op.move (Operand.tmp 0), type := 76, pos := "heap.go:42", after := #[], guard := none }) (d := 16) (v := ?_) rfl rfl (by kernel_rfl) (by kernel_rfl) (by kernel_rfl) (fun _ _ _ h => h) (Or.inl ⟨by rfl, ?_⟩) ?_
  rotate_left
  · (intro w' _; go_simp; (try with_reducible rfl))
  simp only [List.setIfInBounds_toArray, List.set_cons_zero, List.set_cons_succ]
  refine wpAnyD_takeP (i := 11) (oi := { dst := some 17, op := Op.nilCheck (Operand.tmp 16), type := 0, pos := "heap.go:42", after := #[{ on := 10, ground := Ground.data }], guard := none }) (d := 17) (v := ?_) rfl rfl (by kernel_rfl) (by kernel_rfl) (by kernel_rfl) (fun _ _ _ h => h) (Or.inl ⟨by rfl, ?_⟩) ?_
  rotate_left
  · (intro w' _; go_simp; (try with_reducible rfl))
  simp only [List.setIfInBounds_toArray, List.set_cons_zero, List.set_cons_succ]
  refine wpAnyD_takeP (i := 12) (oi := { dst := some 18, op := Op.fieldAddr 117 (Operand.tmp 17) 0, type := 0, pos := "heap.go:42", after := #[{ on := 11, ground := Ground.data }], guard := none }) (d := 18) (v := ?_) rfl rfl (by kernel_rfl) (by kernel_rfl) (by kernel_rfl) (fun _ _ _ h => h) (Or.inl ⟨by rfl, ?_⟩) ?_
  rotate_left
  · (intro w' _; go_simp; (try with_reducible rfl))
  simp only [List.setIfInBounds_toArray, List.set_cons_zero, List.set_cons_succ]
  refine wpAnyD_takeP (i := 14) (oi := { dst := some 20, op := Op.move (Operand.tmp 2), type := 3, pos := "heap.go:42", after := #[], guard := none }) (d := 20) (v := ?_) rfl rfl (by kernel_rfl) (by kernel_rfl) (by kernel_rfl) (fun _ _ _ h => h) (Or.inl ⟨by rfl, ?_⟩) ?_
  rotate_left
  · (intro w' _; go_simp; (try with_reducible rfl))
  simp only [List.setIfInBounds_toArray, List.set_cons_zero, List.set_cons_succ]
  refine wpAnyD_takeP (i := 17) (oi := { dst := some 23, op := Op.move (Operand.tmp 0), type := 76, pos := "heap.go:42", after := #[], guard := none }) (d := 23) (v := ?_) rfl rfl (by kernel_rfl) (by kernel_rfl) (by kernel_rfl) (fun _ _ _ h => h) (Or.inl ⟨by rfl, ?_⟩) ?_
  rotate_left
  · (intro w' _; go_simp; (try with_reducible rfl))
  simp only [List.setIfInBounds_toArray, List.set_cons_zero, List.set_cons_succ]
  refine wpAnyD_takeP (i := 18) (oi := { dst := some 24, op := Op.nilCheck (Operand.tmp 23), type := 0, pos := "heap.go:42", after := #[{ on := 17, ground := Ground.data }], guard := none }) (d := 24) (v := ?_) rfl rfl (by kernel_rfl) (by kernel_rfl) (by kernel_rfl) (fun _ _ _ h => h) (Or.inl ⟨by rfl, ?_⟩) ?_
  rotate_left
  · (intro w' _; go_simp; (try with_reducible rfl))
  simp only [List.setIfInBounds_toArray, List.set_cons_zero, List.set_cons_succ]
  refine wpAnyD_takeP (i := 19) (oi := { dst := some 25, op := Op.fieldAddr 117 (Operand.tmp 24) 0, type := 0, pos := "heap.go:42", after := #[{ on := 18, ground := Ground.data }], guard := none }) (d := 25) (v := ?_) rfl rfl (by kernel_rfl) (by kernel_rfl) (by kernel_rfl) (fun _ _ _ h => h) (Or.inl ⟨by rfl, ?_⟩) ?_
  rotate_left
  · (intro w' _; go_simp; (try with_reducible rfl))
  simp only [List.setIfInBounds_toArray, List.set_cons_zero, List.set_cons_succ]
  refine wpAnyD_takeP (i := 21) (oi := { dst := some 27, op := Op.move (Operand.tmp 1), type := 3, pos := "heap.go:42", after := #[], guard := none }) (d := 27) (v := ?_) rfl rfl (by kernel_rfl) (by kernel_rfl) (by kernel_rfl) (fun _ _ _ h => h) (Or.inl ⟨by rfl, ?_⟩) ?_
  rotate_left
  · (intro w' _; go_simp; (try with_reducible rfl))
  simp only [List.setIfInBounds_toArray, List.set_cons_zero, List.set_cons_succ]
  refine wpAnyD_takeD (i := 3) (oi := { dst := some 9, op := Op.load 115 (Operand.tmp 8), type := 115, pos := "heap.go:42", after := #[{ on := 2, ground := Ground.data }], guard := none }) (d := 9) (v := ?_) rfl rfl (by kernel_rfl) (by kernel_rfl) (by kernel_rfl) (by kernel_rfl) (fun _ _ _ h => h) (Or.inl ⟨by rfl, ?_⟩) hHeld ?_
  rotate_left
  · (intro w' hSw; (try dsimp only at hSw); go_simp; (try with_reducible rfl))
  simp only [List.setIfInBounds_toArray, List.set_cons_zero, List.set_cons_succ]
  refine wpAnyD_takeD (i := 8) (oi := { dst := some 14, op := Op.load 115 (Operand.tmp 13), type := 115, pos := "heap.go:42", after := #[{ on := 7, ground := Ground.data }], guard := none }) (d := 14) (v := ?_) rfl rfl (by kernel_rfl) (by kernel_rfl) (by kernel_rfl) (by kernel_rfl) (fun _ _ _ h => h) (Or.inl ⟨by rfl, ?_⟩) hHeld ?_
  rotate_left
  · (intro w' hSw; (try dsimp only at hSw); go_simp; (try with_reducible rfl))
  simp only [List.setIfInBounds_toArray, List.set_cons_zero, List.set_cons_succ]
  refine wpAnyD_takeD (i := 13) (oi := { dst := some 19, op := Op.load 115 (Operand.tmp 18), type := 115, pos := "heap.go:42", after := #[{ on := 12, ground := Ground.data }], guard := none }) (d := 19) (v := ?_) rfl rfl (by kernel_rfl) (by kernel_rfl) (by kernel_rfl) (by kernel_rfl) (fun _ _ _ h => h) (Or.inl ⟨by rfl, ?_⟩) hHeld ?_
  rotate_left
  · (intro w' hSw; (try dsimp only at hSw); go_simp; (try with_reducible rfl))
  simp only [List.setIfInBounds_toArray, List.set_cons_zero, List.set_cons_succ]
  refine wpAnyD_takeP (i := 15) (oi := { dst := some 21, op := Op.indexAddr 115 (Operand.tmp 19) (Operand.tmp 20), type := 0, pos := "heap.go:42", after := #[{ on := 13, ground := Ground.data }, { on := 14, ground := Ground.data }], guard := none }) (d := 21) (v := ?_) rfl rfl (by kernel_rfl) (by kernel_rfl) (by kernel_rfl) (fun _ _ _ h => h) (Or.inl ⟨by rfl, ?_⟩) ?_
  rotate_left
  · (intro w' _; go_simp; (try with_reducible rfl))
  simp only [List.setIfInBounds_toArray, List.set_cons_zero, List.set_cons_succ]
  refine wpAnyD_takeD (i := 16) (oi := { dst := some 22, op := Op.load 123 (Operand.tmp 21), type := 123, pos := "heap.go:42", after := #[{ on := 15, ground := Ground.data }], guard := none }) (d := 22) (v := ?_) rfl rfl (by kernel_rfl) (by kernel_rfl) (by kernel_rfl) (by kernel_rfl) (fun _ _ _ h => h) (Or.inl ⟨by rfl, ?_⟩) hHeld ?_
  rotate_left
  · (intro w' hSw; (try dsimp only at hSw); go_simp; (try with_reducible rfl))
  simp only [List.setIfInBounds_toArray, List.set_cons_zero, List.set_cons_succ]
  refine wpAnyD_takeD (i := 20) (oi := { dst := some 26, op := Op.load 115 (Operand.tmp 25), type := 115, pos := "heap.go:42", after := #[{ on := 19, ground := Ground.data }], guard := none }) (d := 26) (v := ?_) rfl rfl (by kernel_rfl) (by kernel_rfl) (by kernel_rfl) (by kernel_rfl) (fun _ _ _ h => h) (Or.inl ⟨by rfl, ?_⟩) hHeld ?_
  rotate_left
  · (intro w' hSw; (try dsimp only at hSw); go_simp; (try with_reducible rfl))
  simp only [List.setIfInBounds_toArray, List.set_cons_zero, List.set_cons_succ]
  refine wpAnyD_takeP (i := 22) (oi := { dst := some 28, op := Op.indexAddr 115 (Operand.tmp 26) (Operand.tmp 27), type := 0, pos := "heap.go:42", after := #[{ on := 20, ground := Ground.data }, { on := 21, ground := Ground.data }], guard := none }) (d := 28) (v := ?_) rfl rfl (by kernel_rfl) (by kernel_rfl) (by kernel_rfl) (fun _ _ _ h => h) (Or.inl ⟨by rfl, ?_⟩) ?_
  rotate_left
  · (intro w' _; go_simp; (try with_reducible rfl))
  simp only [List.setIfInBounds_toArray, List.set_cons_zero, List.set_cons_succ]
  refine wpAnyD_takeD (i := 23) (oi := { dst := some 29, op := Op.load 123 (Operand.tmp 28), type := 123, pos := "heap.go:42", after := #[{ on := 22, ground := Ground.data }], guard := none }) (d := 29) (v := ?_) rfl rfl (by kernel_rfl) (by kernel_rfl) (by kernel_rfl) (by kernel_rfl) (fun _ _ _ h => h) (Or.inl ⟨by rfl, ?_⟩) hHeld ?_
  rotate_left
  · (intro w' hSw; (try dsimp only at hSw); go_simp; (try with_reducible rfl))
  simp only [List.setIfInBounds_toArray, List.set_cons_zero, List.set_cons_succ]
  refine wpAnyD_takeP (i := 24) (oi := { dst := some 30, op := Op.indexAddr 115 (Operand.tmp 9) (Operand.tmp 10), type := 0, pos := "heap.go:42", after := #[{ on := 3, ground := Ground.data }, { on := 4, ground := Ground.data }, { on := 0, ground := Ground.phase }, { on := 1, ground := Ground.phase }, { on := 2, ground := Ground.phase }, { on := 3, ground := Ground.phase }, { on := 4, ground := Ground.phase }, { on := 5, ground := Ground.textOnly Departure.lateStores }, { on := 6, ground := Ground.textOnly Departure.lateStoresUnsure }, { on := 7, ground := Ground.textOnly Departure.lateStoresUnsure }, { on := 8, ground := Ground.phase }, { on := 9, ground := Ground.textOnly Departure.lateStores }, { on := 10, ground := Ground.phase }, { on := 11, ground := Ground.phase }, { on := 12, ground := Ground.phase }, { on := 13, ground := Ground.phase }, { on := 14, ground := Ground.phase }, { on := 15, ground := Ground.phase }, { on := 16, ground := Ground.phase }, { on := 17, ground := Ground.textOnly Departure.lateStores }, { on := 18, ground := Ground.textOnly Departure.lateStoresUnsure }, { on := 19, ground := Ground.textOnly Departure.lateStoresUnsure }, { on := 20, ground := Ground.phase }, { on := 21, ground := Ground.textOnly Departure.lateStores }, { on := 22, ground := Ground.textOnly Departure.lateStoresUnsure }, { on := 23, ground := Ground.phase }], guard := none }) (d := 30) (v := ?_) rfl rfl (by kernel_rfl) (by kernel_rfl) (by kernel_rfl) (fun _ _ _ h => h) (Or.inl ⟨by rfl, ?_⟩) ?_
  rotate_left
  · (intro w' _; go_simp; (try with_reducible rfl))
  simp only [List.setIfInBounds_toArray, List.set_cons_zero, List.set_cons_succ]
  refine wpAnyD_last (D := 25) (by decide) (o := { dst := none, op := Op.store 123 (Operand.tmp 30) (Operand.tmp 22), type := 0, pos := "heap.go:42", after := #[{ on := 24, ground := Ground.data }, { on := 16, ground := Ground.data }, { on := 0, ground := Ground.phase }, { on := 1, ground := Ground.phase }, { on := 2, ground := Ground.phase }, { on := 3, ground := Ground.phase }, { on := 4, ground := Ground.phase }, { on := 5, ground := Ground.textOnly Departure.lateStores }, { on := 6, ground := Ground.textOnly Departure.lateStoresUnsure }, { on := 7, ground := Ground.textOnly Departure.lateStoresUnsure }, { on := 8, ground := Ground.phase }, { on := 9, ground := Ground.textOnly Departure.lateStores }, { on := 10, ground := Ground.phase }, { on := 11, ground := Ground.phase }, { on := 12, ground := Ground.phase }, { on := 13, ground := Ground.phase }, { on := 14, ground := Ground.phase }, { on := 15, ground := Ground.phase }, { on := 16, ground := Ground.phase }, { on := 17, ground := Ground.textOnly Departure.lateStores }, { on := 18, ground := Ground.textOnly Departure.lateStoresUnsure }, { on := 19, ground := Ground.textOnly Departure.lateStoresUnsure }, { on := 20, ground := Ground.phase }, { on := 21, ground := Ground.textOnly Departure.lateStores }, { on := 22, ground := Ground.textOnly Departure.lateStoresUnsure }, { on := 23, ground := Ground.phase }], guard := none }) (by kernel_rfl) rfl (by rfl) (fun K hK => ?_)
  have q0 := own_cells HROW.out (by omega) (i * 6) (by omega); have q1 := own_cells HROW.out (by omega) (i * 6 + 1) (by omega); have q2 := own_cells HROW.out (by omega) (i * 6 + 2) (by omega); have q3 := own_cells HROW.out (by omega) (i * 6 + 3) (by omega); have q4 := own_cells HROW.out (by omega) (i * 6 + 4) (by omega); have q5 := own_cells HROW.out (by omega) (i * 6 + 5) (by omega); obtain ⟨⟨v0, c0⟩, f0⟩ := q0; obtain ⟨⟨v1, c1⟩, f1⟩ := q1; obtain ⟨⟨v2, c2⟩, f2⟩ := q2; obtain ⟨⟨v3, c3⟩, f3⟩ := q3; obtain ⟨⟨v4, c4⟩, f4⟩ := q4; obtain ⟨⟨v5, c5⟩, f5⟩ := q5; clear hHeld; go_simp; have HROW := Lib.hid (own_set6 HROW.out (i * 6) (.int .i64 yr) (.int .i64 yp) (.int .i64 yt) (.int .i64 yx) (.int .i64 yy) (.int .i64 yz)); have HK := Lib.hid (keep_set6 HK.out (i * 6) (.int .i64 yr) (.int .i64 yp) (.int .i64 yt) (.int .i64 yx) (.int .i64 yy) (.int .i64 yz)); refine gen_set6 rfl (fun W' hW' => ?_); rw [← hW'] at HROW HK; clear hW' c0 c1 c2 c3 c4 c5 f0 f1 f2 f3 f4 f5
  refine hK.out _ _ ?_
  clear hK K
  try simp only [Act.put, List.setIfInBounds_toArray, List.set_cons_zero, List.set_cons_succ]
  refine wpAnyD_takeP (i := 26) (oi := { dst := some 31, op := Op.indexAddr 115 (Operand.tmp 14) (Operand.tmp 15), type := 0, pos := "heap.go:42", after := #[{ on := 8, ground := Ground.data }, { on := 9, ground := Ground.data }, { on := 0, ground := Ground.phase }, { on := 1, ground := Ground.phase }, { on := 2, ground := Ground.phase }, { on := 3, ground := Ground.phase }, { on := 4, ground := Ground.phase }, { on := 5, ground := Ground.phase }, { on := 6, ground := Ground.phase }, { on := 7, ground := Ground.phase }, { on := 8, ground := Ground.phase }, { on := 9, ground := Ground.phase }, { on := 10, ground := Ground.phase }, { on := 11, ground := Ground.phase }, { on := 12, ground := Ground.phase }, { on := 13, ground := Ground.phase }, { on := 14, ground := Ground.phase }, { on := 15, ground := Ground.phase }, { on := 16, ground := Ground.phase }, { on := 17, ground := Ground.phase }, { on := 18, ground := Ground.phase }, { on := 19, ground := Ground.phase }, { on := 20, ground := Ground.phase }, { on := 21, ground := Ground.phase }, { on := 22, ground := Ground.phase }, { on := 23, ground := Ground.phase }, { on := 24, ground := Ground.phase }, { on := 25, ground := Ground.phase }], guard := none }) (d := 31) (v := ?_) rfl rfl (by kernel_rfl) (by kernel_rfl) (by kernel_rfl) (fun _ _ _ h => h) (Or.inl ⟨by rfl, ?_⟩) ?_
  rotate_left
  · (intro w' _; go_simp; (try with_reducible rfl))
  simp only [List.setIfInBounds_toArray, List.set_cons_zero, List.set_cons_succ]
  refine wpAnyD_last (D := 27) (by decide) (o := { dst := none, op := Op.store 123 (Operand.tmp 31) (Operand.tmp 29), type := 0, pos := "heap.go:42", after := #[{ on := 26, ground := Ground.data }, { on := 23, ground := Ground.data }, { on := 25, ground := Ground.chain }, { on := 0, ground := Ground.phase }, { on := 1, ground := Ground.phase }, { on := 2, ground := Ground.phase }, { on := 3, ground := Ground.phase }, { on := 4, ground := Ground.phase }, { on := 5, ground := Ground.phase }, { on := 6, ground := Ground.phase }, { on := 7, ground := Ground.phase }, { on := 8, ground := Ground.phase }, { on := 9, ground := Ground.phase }, { on := 10, ground := Ground.phase }, { on := 11, ground := Ground.phase }, { on := 12, ground := Ground.phase }, { on := 13, ground := Ground.phase }, { on := 14, ground := Ground.phase }, { on := 15, ground := Ground.phase }, { on := 16, ground := Ground.phase }, { on := 17, ground := Ground.phase }, { on := 18, ground := Ground.phase }, { on := 19, ground := Ground.phase }, { on := 20, ground := Ground.phase }, { on := 21, ground := Ground.phase }, { on := 22, ground := Ground.phase }, { on := 23, ground := Ground.phase }, { on := 24, ground := Ground.phase }, { on := 25, ground := Ground.phase }], guard := none }) (by kernel_rfl) rfl (by rfl) (fun K hK => ?_)
  have q0 := own_cells HROW.out (by omega) (k * 6) (by omega); have q1 := own_cells HROW.out (by omega) (k * 6 + 1) (by omega); have q2 := own_cells HROW.out (by omega) (k * 6 + 2) (by omega); have q3 := own_cells HROW.out (by omega) (k * 6 + 3) (by omega); have q4 := own_cells HROW.out (by omega) (k * 6 + 4) (by omega); have q5 := own_cells HROW.out (by omega) (k * 6 + 5) (by omega); obtain ⟨⟨v0, c0⟩, f0⟩ := q0; obtain ⟨⟨v1, c1⟩, f1⟩ := q1; obtain ⟨⟨v2, c2⟩, f2⟩ := q2; obtain ⟨⟨v3, c3⟩, f3⟩ := q3; obtain ⟨⟨v4, c4⟩, f4⟩ := q4; obtain ⟨⟨v5, c5⟩, f5⟩ := q5; go_simp; have HROW := Lib.hid (own_set6 HROW.out (k * 6) (.int .i64 xr) (.int .i64 xp) (.int .i64 xt) (.int .i64 xx) (.int .i64 xy) (.int .i64 xz)); have HK := Lib.hid (keep_set6 HK.out (k * 6) (.int .i64 xr) (.int .i64 xp) (.int .i64 xt) (.int .i64 xx) (.int .i64 xy) (.int .i64 xz)); refine gen_set6 rfl (fun W' hW' => ?_); rw [← hW'] at HROW HK; clear hW' c0 c1 c2 c3 c4 c5 f0 f1 f2 f3 f4 f5
  refine hK.out _ _ ?_
  clear hK K
  try simp only [Act.put, List.setIfInBounds_toArray, List.set_cons_zero, List.set_cons_succ]
  refine wpAnyD_done (by kernel_rfl) ?_ _
  go_wp2_with fail
  go_end0
  refine ⟨rfl, ⟨?_, ?_, HH.out.le⟩, HK.out.mono (fun x hx => by subst hx; rfl)⟩
  · rw [swap_len]
    exact HK.out.blk HH.out.blk (fun e => row_ne HH.out.row HH.out.blk (by decide) (by rw [e]; rfl))
  · rw [swap_len, HSF.out]
    exact HROW.out

end Go.Proofs.Ytpkmcokkapfnmaa.hw
