/- Layer 3 (heap): heaps of waits: New, Len, Peek. -/
import Derived.Test.YtpkmcokkapfnmaaHeapW4
import Derived.Test.YtpkmcokkapfnmaaCell
namespace Go.Proofs.Ytpkmcokkapfnmaa.hw
open Go.RowKit Go.Maps Go.WideMaps
set_option maxRecDepth 100000
set_option linter.unusedVariables false
set_option linter.unusedSimpArgs false

theorem results_cell_tmp3 {fn : Func} {p u v x : Tmp} {ty : TypeId} (h : fn.results = #[.cell p ty, .tmp u, .tmp v, .tmp x]) (tmps : Array Value) (P : Program) (w : World) :
    (results fn tmps).run P w = ((asAddr (tmps.getD p undef)).run P w).andThen fun a w₁ => ((loadVar ty a).run P w₁).andThen fun y w₂ => .ok (.tuple #[y, tmps.getD u undef, tmps.getD v undef, tmps.getD x undef]) w₂ := by
  simp only [results, h]
  simp [Sem.run_bind, Result.andThen]
/-- four results, a struct in memory and three values -/
theorem ret_cell_tmp3 {P : Program} {fn : Func} {R : Ending → World → Prop} {tmps : Array Value} {w : World} {r : Nat} {p u u2 u3 : Tmp} {ty : TypeId} {v x y z : Value}
    (h : fn.results = #[.cell p ty, .tmp u, .tmp u2, .tmp u3]) (hp : tmps.getD p undef = .pointer (some ⟨r, 0, none⟩)) (hu : tmps.getD u undef = x) (hu2 : tmps.getD u2 undef = y) (hu3 : tmps.getD u3 undef = z)
    (hl : (loadVar ty ⟨r, 0, none⟩).run P w = .ok v w) (hR : R (.returned (.tuple #[v, x, y, z])) w) : bodyPost P fn R .ret ⟨tmps, []⟩ w := by
  refine bodyPost_ret (v := .tuple #[v, x, y, z]) ?_ rfl hR
  rw [results_cell_tmp3 h, hp, hu, hu2, hu3]
  simp [asAddr, hl, Result.andThen]
theorem load_wt {w : World} {r : Nat} {x y z : Int} (n0 : w.cell? ⟨r, 0, none⟩ = some (.int .i64 x)) (n1 : w.cell? ⟨r, 1, none⟩ = some (.int .i64 y)) (n2 : w.cell? ⟨r, 2, none⟩ = some (.int .i64 z)) : (loadVar 105 ⟨r, 0, none⟩).run Try.prog w = .ok (.agg #[.int .i64 x, .int .i64 y, .int .i64 z]) w := by
  simp [go_sem, n0, n1, n2]
/-- a wait as a value -/
def wtV (x : Wt) : Value := .agg #[.int .i64 x.i, .int .i64 x.a, .int .i64 x.b]

theorem new_any (w : World) : Calls Try.prog 51 #[] w fun e w' => e = .returned (.pointer (some ⟨w.heap.size, 0, none⟩)) ∧ HeapWs w' w.heap.size w.heap.size [] 0 none 0 ∧ Below w.heap.size w w' := by
  have hb := (Below.refl w.heap.size w).alloc (Nat.le_refl _) (.cells #[.slice none 0 0, .int .i64 0] 117)
  have HS := Lib.hid (show HeapWs (w.alloc (.cells #[.slice none 0 0, .int .i64 0] 117)) w.heap.size w.heap.size [] 0 none 0 from ⟨blk_new w _, by simpa using own_nil _ _ _ _, Nat.le_refl _⟩)
  have HB := Lib.hid hb
  clear hb
  go_enter Try.func51, Try.ntmps51
  go_wp2_with fail
  go_ret
  exact ⟨rfl, HS.out, HB.out⟩

section
variable {w : World} {base hb : Nat} {l : List (Th Wt)} {turn : Int} {A : Option Addr} {c : Nat}
theorem len_h (h : HeapWs w base hb l turn A c) : Calls Try.prog 64 #[.pointer (some ⟨hb, 0, none⟩)] w fun e w' => e = .returned (.int .i64 (l.length : Nat)) ∧ w' = w := by
  have h0 := blk_cell h.blk 0
  simp only [List.getElem?_toArray, List.getElem?_cons_zero, List.getElem?_cons_succ] at h0
  clear h
  go_enter Try.func64, Try.ntmps64
  go_wp2_with fail
  go_ret
  exact ⟨rfl, rfl⟩
theorem peek_none (h : HeapWs w base hb [] turn A c) : Calls Try.prog 60 #[.pointer (some ⟨hb, 0, none⟩)] w fun e w' => e = .returned (.tuple #[wtV ⟨0, 0, 0⟩, .int .i64 0, .int .i64 0, .bool false]) ∧ Below w.heap.size w w' := by
  have HB1 := Lib.hid ((Below.refl w.heap.size w).alloc (Nat.le_refl _) (.cells #[.int .i64 0, .int .i64 0, .int .i64 0] 105))
  have hn := blk_new w (.cells #[.int .i64 0, .int .i64 0, .int .i64 0] 105)
  have HLEN := Lib.hid (len_h (h.below HB1.out (Nat.le_refl _)))
  have hn2 := blk_new (w.alloc (.cells #[.int .i64 0, .int .i64 0, .int .i64 0] 105)) (.cells #[.int .i64 0, .int .i64 0, .int .i64 0] 105)
  have HB2 := Lib.hid (HB1.out.alloc (by simp) (.cells #[.int .i64 0, .int .i64 0, .int .i64 0] 105))
  have HM : Hid (∀ i v, (#[.int .i64 0, .int .i64 0, .int .i64 0] : Array Value)[i]? = some v → ((w.alloc (.cells #[.int .i64 0, .int .i64 0, .int .i64 0] 105)).alloc (.cells #[.int .i64 0, .int .i64 0, .int .i64 0] 105)).cell? ⟨w.heap.size, i, none⟩ = some v) := Lib.hid (fun i v e => by rw [blk_cell (blk_below ((Below.refl _ (w.alloc (.cells #[.int .i64 0, .int .i64 0, .int .i64 0] 105))).alloc (Nat.le_refl _) (.cells #[.int .i64 0, .int .i64 0, .int .i64 0] 105)) (by simp) hn) i]; exact e)
  clear h
  go_enter Try.func60, Try.ntmps60
  go_wp2_with fail
  refine HLEN.out.mono ?_
  rintro e w' ⟨rfl, rfl⟩
  clear HLEN
  go_wp2_with fail
  refine ret_cell_tmp3 rfl rfl rfl rfl rfl (load_wt (HM.out 0 _ rfl) (HM.out 1 _ rfl) (HM.out 2 _ rfl)) ⟨rfl, HB2.out⟩
set_option maxHeartbeats 4000000 in
theorem peek_h (h : HeapWs w base hb l turn A c) (hl : 0 < l.length) : Calls Try.prog 60 #[.pointer (some ⟨hb, 0, none⟩)] w fun e w' => e = .returned (.tuple #[wtV l[0].x, .int .i64 l[0].r, .int .i64 l[0].p, .bool true]) ∧ Below w.heap.size w w' := by
  have HB1 := Lib.hid ((Below.refl w.heap.size w).alloc (Nat.le_refl _) (.cells #[.int .i64 0, .int .i64 0, .int .i64 0] 105))
  have hn := blk_new w (.cells #[.int .i64 0, .int .i64 0, .int .i64 0] 105)
  have h' := h.below HB1.out (Nat.le_refl _)
  obtain ⟨g, rfl, a0, a1, a2, a3, a4, a5⟩ := h'.at 0 hl
  have HLEN := Lib.hid (len_h h')
  have h0 := blk_cell h'.blk 0
  simp only [List.getElem?_toArray, List.getElem?_cons_zero, List.getElem?_cons_succ] at h0
  generalize l[0] = x at *
  obtain ⟨xr, xp, xt, ⟨xx, xy, xz⟩⟩ := x
  simp only [Nat.zero_mul, Nat.zero_add] at a0 a1 a2 a3 a4 a5
  have hs1 : (w.alloc (.cells #[.int .i64 0, .int .i64 0, .int .i64 0] 105)).heap.size = w.heap.size + 1 := by simp
  generalize hW1 : w.alloc (.cells #[.int .i64 0, .int .i64 0, .int .i64 0] 105) = W1 at *
  have HB2 := Lib.hid (HB1.out.alloc (by rw [hs1]; exact Nat.le_succ _) (.cells #[.int .i64 xr, .int .i64 xp, .int .i64 xt, .int .i64 xx, .int .i64 xy, .int .i64 xz] 123))
  have HR := Lib.hid (blk_below ((Below.refl W1.heap.size W1).alloc (Nat.le_refl _) (.cells #[.int .i64 xr, .int .i64 xp, .int .i64 xt, .int .i64 xx, .int .i64 xy, .int .i64 xz] 123)) (by rw [hs1]; exact Nat.lt_succ_self _) hn)
  have hn2 := blk_new W1 (.cells #[.int .i64 xr, .int .i64 xp, .int .i64 xt, .int .i64 xx, .int .i64 xy, .int .i64 xz] 123)
  have n0 := blk_cell hn2 0
  have n1 := blk_cell hn2 1
  have n3 := blk_cell hn2 3
  have n4 := blk_cell hn2 4
  have n5 := blk_cell hn2 5
  simp only [List.getElem?_toArray, List.getElem?_cons_zero, List.getElem?_cons_succ] at n0 n1 n3 n4 n5
  have hl' : ¬ (l.length : Int) = 0 := by omega
  have hl2 : (0 : Int) < (l.length : Int) := by omega
  have HS1 := Lib.hid hs1
  replace hW1 := Lib.hid hW1
  have HN := Lib.hid hn2
  clear h h' hn hn2 hs1
  go_enter Try.func60, Try.ntmps60
  go_wp2_with fail
  rw [hW1.out]
  refine HLEN.out.mono ?_
  rintro e W1 ⟨rfl, rfl⟩
  clear HLEN
  go_upto_region 5 with fail
  replace HB2 := Lib.hid HB2.out.drew
  refine wp_region_D (Ds := []) (S := fun V => V.cell? ⟨W1.heap.size, 0, none⟩ = some (.int .i64 xr) ∧ V.cell? ⟨W1.heap.size, 1, none⟩ = some (.int .i64 xp) ∧ V.cell? ⟨W1.heap.size, 3, none⟩ = some (.int .i64 xx) ∧ V.cell? ⟨W1.heap.size, 4, none⟩ = some (.int .i64 xy) ∧ V.cell? ⟨W1.heap.size, 5, none⟩ = some (.int .i64 xz)) (by kernel_rfl) (by exact ⟨n0, n1, n3, n4, n5⟩) (fun hHeld => ?_)
  (have HND : Hid ((W1.alloc (.cells #[.int .i64 xr, .int .i64 xp, .int .i64 xt, .int .i64 xx, .int .i64 xy, .int .i64 xz] 123)).drew.heap[W1.heap.size]? = some (.cells #[.int .i64 xr, .int .i64 xp, .int .i64 xt, .int .i64 xx, .int .i64 xy, .int .i64 xz] 123)) := Lib.hid HN.out); (have HRD : Hid ((W1.alloc (.cells #[.int .i64 xr, .int .i64 xp, .int .i64 xt, .int .i64 xx, .int .i64 xy, .int .i64 xz] 123)).drew.heap[w.heap.size]? = some (.cells #[.int .i64 0, .int .i64 0, .int .i64 0] 105)) := Lib.hid HR.out); generalize (W1.alloc (.cells #[.int .i64 xr, .int .i64 xp, .int .i64 xt, .int .i64 xx, .int .i64 xy, .int .i64 xz] 123)).drew = W2 at *
  refine wpAnyD_takeP (i := 0) (oi := { dst := some 18, op := Op.fieldAddr 123 (Operand.tmp 7) 1, type := 0, pos := "heap.go:90", after := #[], guard := none }) (d := 18) (v := ?_) rfl rfl (by kernel_rfl) (by kernel_rfl) (by kernel_rfl) (fun _ _ _ h => h) (Or.inl ⟨by rfl, ?_⟩) ?_
  rotate_left
  · (intro w' _; go_simp; (try with_reducible rfl))
  simp only [List.setIfInBounds_toArray, List.set_cons_zero, List.set_cons_succ]
  refine wpAnyD_takeP (i := 2) (oi := { dst := some 20, op := Op.fieldAddr 123 (Operand.tmp 7) 0, type := 0, pos := "heap.go:90", after := #[{ on := 8, ground := Ground.gcOnly Departure.lateStores }], guard := none }) (d := 20) (v := ?_) rfl rfl (by kernel_rfl) (by kernel_rfl) (by kernel_rfl) (fun _ _ _ h => h) (Or.inl ⟨by rfl, ?_⟩) ?_
  rotate_left
  · (intro w' _; go_simp; (try with_reducible rfl))
  simp only [List.setIfInBounds_toArray, List.set_cons_zero, List.set_cons_succ]
  refine wpAnyD_takeP (i := 3) (oi := { dst := some 21, op := Op.fieldAddr 121 (Operand.tmp 20) 0, type := 0, pos := "heap.go:90", after := #[{ on := 2, ground := Ground.data }, { on := 8, ground := Ground.gcOnly Departure.lateStores }], guard := none }) (d := 21) (v := ?_) rfl rfl (by kernel_rfl) (by kernel_rfl) (by kernel_rfl) (fun _ _ _ h => h) (Or.inl ⟨by rfl, ?_⟩) ?_
  rotate_left
  · (intro w' _; go_simp; (try with_reducible rfl))
  simp only [List.setIfInBounds_toArray, List.set_cons_zero, List.set_cons_succ]
  refine wpAnyD_takeP (i := 5) (oi := { dst := some 23, op := Op.fieldAddr 123 (Operand.tmp 7) 0, type := 0, pos := "heap.go:90", after := #[{ on := 9, ground := Ground.gcOnly Departure.lateStores }], guard := none }) (d := 23) (v := ?_) rfl rfl (by kernel_rfl) (by kernel_rfl) (by kernel_rfl) (fun _ _ _ h => h) (Or.inl ⟨by rfl, ?_⟩) ?_
  rotate_left
  · (intro w' _; go_simp; (try with_reducible rfl))
  simp only [List.setIfInBounds_toArray, List.set_cons_zero, List.set_cons_succ]
  refine wpAnyD_takeP (i := 6) (oi := { dst := some 24, op := Op.fieldAddr 121 (Operand.tmp 23) 1, type := 0, pos := "heap.go:90", after := #[{ on := 5, ground := Ground.data }, { on := 9, ground := Ground.gcOnly Departure.lateStores }], guard := none }) (d := 24) (v := ?_) rfl rfl (by kernel_rfl) (by kernel_rfl) (by kernel_rfl) (fun _ _ _ h => h) (Or.inl ⟨by rfl, ?_⟩) ?_
  rotate_left
  · (intro w' _; go_simp; (try with_reducible rfl))
  simp only [List.setIfInBounds_toArray, List.set_cons_zero, List.set_cons_succ]
  refine wpAnyD_takeD (i := 1) (oi := { dst := some 19, op := Op.load 105 (Operand.tmp 18), type := 105, pos := "heap.go:90", after := #[{ on := 0, ground := Ground.data }], guard := none }) (d := 19) (v := ?_) rfl rfl (by kernel_rfl) (by kernel_rfl) (by kernel_rfl) (by kernel_rfl) (fun _ _ _ h => h) (Or.inl ⟨by rfl, ?_⟩) hHeld ?_
  rotate_left
  · (intro w' hSw; (try dsimp only at hSw); go_simp; (try with_reducible rfl))
  simp only [List.setIfInBounds_toArray, List.set_cons_zero, List.set_cons_succ]
  refine wpAnyD_takeD (i := 4) (oi := { dst := some 22, op := Op.load 3 (Operand.tmp 21), type := 3, pos := "heap.go:90", after := #[{ on := 3, ground := Ground.data }, { on := 8, ground := Ground.gcOnly Departure.lateStores }], guard := none }) (d := 22) (v := ?_) rfl rfl (by kernel_rfl) (by kernel_rfl) (by kernel_rfl) (by kernel_rfl) (fun _ _ _ h => h) (Or.inl ⟨by rfl, ?_⟩) hHeld ?_
  rotate_left
  · (intro w' hSw; (try dsimp only at hSw); go_simp; (try with_reducible rfl))
  simp only [List.setIfInBounds_toArray, List.set_cons_zero, List.set_cons_succ]
  refine wpAnyD_takeD (i := 7) (oi := { dst := some 25, op := Op.load 3 (Operand.tmp 24), type := 3, pos := "heap.go:90", after := #[{ on := 6, ground := Ground.data }, { on := 9, ground := Ground.gcOnly Departure.lateStores }], guard := none }) (d := 25) (v := ?_) rfl rfl (by kernel_rfl) (by kernel_rfl) (by kernel_rfl) (by kernel_rfl) (fun _ _ _ h => h) (Or.inl ⟨by rfl, ?_⟩) hHeld ?_
  rotate_left
  · (intro w' hSw; (try dsimp only at hSw); go_simp; (try with_reducible rfl))
  simp only [List.setIfInBounds_toArray, List.set_cons_zero, List.set_cons_succ]
  refine wpAnyD_one (i := 8) (o := { dst := none, op := Op.store 105 (Operand.tmp 2) (Operand.tmp 19), type := 0, pos := "heap.go:90", after := #[{ on := 1, ground := Ground.data }, { on := 0, ground := Ground.phase }, { on := 1, ground := Ground.phase }, { on := 2, ground := Ground.textOnly Departure.lateStores }, { on := 3, ground := Ground.textOnly Departure.lateStores }, { on := 4, ground := Ground.textOnly Departure.lateStores }, { on := 5, ground := Ground.textOnly Departure.lateStores }, { on := 6, ground := Ground.textOnly Departure.lateStores }, { on := 7, ground := Ground.textOnly Departure.lateStores }], guard := none }) (by kernel_rfl) rfl (by rfl) (fun K hK => ?_)
  have z0 := blk_froz HRD.out 0; have z1 := blk_froz HRD.out 1; have z2 := blk_froz HRD.out 2; have c0 := blk_cell HRD.out 0; have c1 := blk_cell HRD.out 1; have c2 := blk_cell HRD.out 2; simp only [List.getElem?_toArray, List.getElem?_cons_zero, List.getElem?_cons_succ] at c0 c1 c2; go_simp; clear z0 z1 z2 c0 c1 c2; have HK : Hid (Keep (fun x => x = w.heap.size) W2 (((W2.setCell ⟨w.heap.size, 0, none⟩ (.int .i64 xx)).setCell ⟨w.heap.size, 1, none⟩ (.int .i64 xy)).setCell ⟨w.heap.size, 2, none⟩ (.int .i64 xz))) := Lib.hid ((((Keep.refl (fun x => x = w.heap.size) W2).setCell (p := ⟨w.heap.size, 0, none⟩) (.inl rfl) _).setCell (p := ⟨w.heap.size, 1, none⟩) (.inl rfl) _).setCell (p := ⟨w.heap.size, 2, none⟩) (.inl rfl) _); have HB3 : Hid (Below w.heap.size w (((W2.setCell ⟨w.heap.size, 0, none⟩ (.int .i64 xx)).setCell ⟨w.heap.size, 1, none⟩ (.int .i64 xy)).setCell ⟨w.heap.size, 2, none⟩ (.int .i64 xz))) := Lib.hid (((HB2.out.setCell (p := ⟨w.heap.size, 0, none⟩) (Nat.le_refl _) _).setCell (p := ⟨w.heap.size, 1, none⟩) (Nat.le_refl _) _).setCell (p := ⟨w.heap.size, 2, none⟩) (Nat.le_refl _) _); have HR3 : Hid ((((W2.setCell ⟨w.heap.size, 0, none⟩ (.int .i64 xx)).setCell ⟨w.heap.size, 1, none⟩ (.int .i64 xy)).setCell ⟨w.heap.size, 2, none⟩ (.int .i64 xz)).heap[w.heap.size]? = some (.cells #[.int .i64 xx, .int .i64 xy, .int .i64 xz] 105)) := Lib.hid (by simpa using blk_set (blk_set (blk_set HRD.out 0 (.int .i64 xx)) 1 (.int .i64 xy)) 2 (.int .i64 xz)); have HN3 := Lib.hid (HK.out.blk HND.out (by have := HS1.out; omega)); refine gen_set6 rfl (fun W' hW' => ?_); rw [← hW'] at HB3 HR3 HN3; clear hW' HK; have h : W'.cell? ⟨W1.heap.size, 0, none⟩ = some (.int .i64 xr) ∧ W'.cell? ⟨W1.heap.size, 1, none⟩ = some (.int .i64 xp) ∧ W'.cell? ⟨W1.heap.size, 3, none⟩ = some (.int .i64 xx) ∧ W'.cell? ⟨W1.heap.size, 4, none⟩ = some (.int .i64 xy) ∧ W'.cell? ⟨W1.heap.size, 5, none⟩ = some (.int .i64 xz) := ⟨blk_cell HN3.out 0, blk_cell HN3.out 1, blk_cell HN3.out 3, blk_cell HN3.out 4, blk_cell HN3.out 5⟩
  refine hK.out _ _ h (fun hHeld => ?_)
  clear hK K
  try simp only [Act.put, List.setIfInBounds_toArray, List.set_cons_zero, List.set_cons_succ]
  refine wpAnyD_takeP (i := 9) (oi := { dst := some 3, op := Op.assign (Operand.tmp 22), type := 3, pos := "heap.go:90", after := #[{ on := 4, ground := Ground.data }, { on := 8, ground := Ground.chain }, { on := 0, ground := Ground.phase }, { on := 1, ground := Ground.phase }, { on := 2, ground := Ground.phase }, { on := 3, ground := Ground.phase }, { on := 4, ground := Ground.phase }, { on := 5, ground := Ground.textOnly Departure.lateStores }, { on := 6, ground := Ground.textOnly Departure.lateStores }, { on := 7, ground := Ground.textOnly Departure.lateStores }, { on := 8, ground := Ground.phase }], guard := none }) (d := 3) (v := ?_) rfl rfl (by kernel_rfl) (by kernel_rfl) (by kernel_rfl) (fun _ _ _ h => h) (Or.inl ⟨by rfl, ?_⟩) ?_
  rotate_left
  · (intro w' _; go_simp; (try with_reducible rfl))
  simp only [List.setIfInBounds_toArray, List.set_cons_zero, List.set_cons_succ]
  refine wpAnyD_takeP (i := 10) (oi := { dst := some 4, op := Op.assign (Operand.tmp 25), type := 3, pos := "heap.go:90", after := #[{ on := 7, ground := Ground.data }, { on := 9, ground := Ground.chain }, { on := 0, ground := Ground.phase }, { on := 1, ground := Ground.phase }, { on := 2, ground := Ground.phase }, { on := 3, ground := Ground.phase }, { on := 4, ground := Ground.phase }, { on := 5, ground := Ground.phase }, { on := 6, ground := Ground.phase }, { on := 7, ground := Ground.phase }, { on := 8, ground := Ground.phase }, { on := 9, ground := Ground.phase }], guard := none }) (d := 4) (v := ?_) rfl rfl (by kernel_rfl) (by kernel_rfl) (by kernel_rfl) (fun _ _ _ h => h) (Or.inl ⟨by rfl, ?_⟩) ?_
  rotate_left
  · (intro w' _; go_simp; (try with_reducible rfl))
  simp only [List.setIfInBounds_toArray, List.set_cons_zero, List.set_cons_succ]
  refine wpAnyD_takeP (i := 11) (oi := { dst := some 5, op := Op.assign (Operand.const (Value.bool true)), type := 4, pos := "heap.go:90", after := #[{ on := 10, ground := Ground.chain }, { on := 0, ground := Ground.phase }, { on := 1, ground := Ground.phase }, { on := 2, ground := Ground.phase }, { on := 3, ground := Ground.phase }, { on := 4, ground := Ground.phase }, { on := 5, ground := Ground.phase }, { on := 6, ground := Ground.phase }, { on := 7, ground := Ground.phase }, { on := 8, ground := Ground.phase }, { on := 9, ground := Ground.phase }, { on := 10, ground := Ground.phase }], guard := none }) (d := 5) (v := ?_) rfl rfl (by kernel_rfl) (by kernel_rfl) (by kernel_rfl) (fun _ _ _ h => h) (Or.inl ⟨by rfl, ?_⟩) ?_
  rotate_left
  · (intro w' _; go_simp; (try with_reducible rfl))
  simp only [List.setIfInBounds_toArray, List.set_cons_zero, List.set_cons_succ]
  refine wpAnyD_done (by kernel_rfl) ?_ _
  go_wp2_with fail
  refine ret_cell_tmp3 rfl rfl rfl rfl rfl (load_wt (blk_cell HR3.out 0) (blk_cell HR3.out 1) (blk_cell HR3.out 2)) ⟨rfl, ?_⟩
  exact HB3.out
end
end Go.Proofs.Ytpkmcokkapfnmaa.hw
