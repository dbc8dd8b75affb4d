/- Layer 3 (heap): heaps of numbers: Push, Pop. -/
import Derived.Test.YtdppdjiigecjoaaHeapI5
namespace Go.Proofs.Ytdppdjiigecjoaa.hi
open Go.RowKit Go.Maps Go.WideMaps
set_option maxRecDepth 100000
set_option linter.unusedVariables false
set_option linter.unusedSimpArgs false

/-- a heap's own memory -/
def heapF (hb : Nat) (A : Option Addr) (g : Nat) : Prop := g = hb ∨ A = some ⟨g, 0, none⟩
/-- where the row lies behind a push -/
def NewRow (w : World) (A A' : Option Addr) : Prop := A' = A ∨ ∃ g, A' = some ⟨g, 0, none⟩ ∧ w.heap.size ≤ g
theorem own_addr {w : World} {base n c : Nat} {e : TypeId} {size : Nat} {A : Option Addr} {xs : List Value} (h : w.ownsRow base e size (.slice A n c) n xs) : ∀ g, (Value.slice A n c).ownBlock = some g → A = some ⟨g, 0, none⟩ := by
  intro g hg
  rcases h.2 with ⟨e1, _⟩ | ⟨g', cap, cur, e1, _⟩
  · injection e1 with e1; subst e1; simp [Value.ownBlock] at hg
  · injection e1 with e1; subst e1; simp [Value.ownBlock] at hg; subst hg; rfl
theorem addr_own {A : Option Addr} {n c g : Nat} (h : A = some ⟨g, 0, none⟩) : (Value.slice A n c).ownBlock = some g := by subst h; rfl
theorem HeapIs.base {w : World} {base hb : Nat} {l : List (Th Int)} {turn : Int} {A : Option Addr} {c : Nat} (h : HeapIs w base hb l turn A c) : ∀ g, heapF hb A g → base ≤ g := by
  intro g hg
  rcases hg with rfl | hg
  · exact h.le
  · exact own_base h.row g (addr_own hg)
theorem HeapIs.keep {w w' : World} {base hb : Nat} {l : List (Th Int)} {turn : Int} {A : Option Addr} {c : Nat} {F : Nat → Prop} (h : HeapIs w base hb l turn A c) (k : Keep F w w') (hF : ∀ g, heapF hb A g → ¬ F g) : HeapIs w' base hb l turn A c :=
  ⟨k.blk h.blk (hF _ (.inl rfl)), own_keep h.row k (fun g hg => hF g (.inr (own_addr h.row g hg))), h.le⟩

set_option maxHeartbeats 4000000 in
theorem push_any {w : World} {base hb : Nat} {l : List (Th Int)} {turn : Int} {A : Option Addr} {c : Nat} (h : HeapIs w base hb l turn A c) (r p x : Int) (hlen : l.length < 1000000000) (ht0 : 0 ≤ turn) (ht1 : turn < 1000000000000000000) (hbase : base ≤ w.heap.size) :
    Calls Try.prog 35 #[.pointer (some ⟨hb, 0, none⟩), .int .i64 r, .int .i64 p, .int .i64 x] w fun e w' => e = .returned (.tuple #[]) ∧ (∃ A' c', HeapIs w' base hb (pushT l ⟨r, p, turn, x⟩) (turn + 1) A' c' ∧ NewRow w A A') ∧ Keep (heapF hb A) w w' := by
  have h0 := blk_cell h.blk 0
  have h1 := blk_cell h.blk 1
  simp only [List.getElem?_toArray, List.getElem?_cons_zero, List.getElem?_cons_succ] at h0 h1
  have HH := Lib.hid h
  have HBASE := Lib.hid hbase
  have wt : IntKind.i64.wrap (turn + 1) = turn + 1 := IntWalk.i64_in _ (by omega)
  clear h hbase
  go_enter Try.func35, Try.ntmps35
  go_wp2_with fail
  have HD := Lib.hid (show HeapIs w.drew base hb l turn A c from HH.out.drew)
  have HK : Hid (Keep (heapF hb A) w w.drew) := Lib.hid ((Keep.refl _ w).drew)
  refine wp_region_D (Ds := [18]) (S := fun V => V.cell? ⟨hb, 0, none⟩ = some (.slice A l.length c) ∧ V.cell? ⟨hb, 1, none⟩ = some (.int .i64 turn)) (by kernel_rfl) (by exact ⟨h0, h1⟩) (fun hHeld => ?_)
  generalize w.drew = W0 at *
  refine wpAnyD_takeP (i := 0) (oi := { dst := some 10, op := Op.move (Operand.tmp 0), type := 61, pos := "heap.go:78", after := #[], guard := none }) (d := 10) (v := ?_) rfl rfl (by kernel_rfl) (by kernel_rfl) (by kernel_rfl) (fun _ _ _ h => h) (Or.inl ⟨by rfl, ?_⟩) ?_
  rotate_left
  · (intro w' _; go_simp; (try with_reducible rfl))
  simp only [List.setIfInBounds_toArray, List.set_cons_zero, List.set_cons_succ]
  refine wpAnyD_takeP (i := 1) (oi := { dst := some 11, op := Op.move (Operand.tmp 0), type := 61, pos := "heap.go:78", after := #[], guard := none }) (d := 11) (v := ?_) rfl rfl (by kernel_rfl) (by kernel_rfl) (by kernel_rfl) (fun _ _ _ h => h) (Or.inl ⟨by rfl, ?_⟩) ?_
  rotate_left
  · (intro w' _; go_simp; (try with_reducible rfl))
  simp only [List.setIfInBounds_toArray, List.set_cons_zero, List.set_cons_succ]
  refine wpAnyD_takeP (i := 2) (oi := { dst := some 12, op := Op.nilCheck (Operand.tmp 11), type := 0, pos := "heap.go:78", after := #[{ on := 1, ground := Ground.data }], guard := none }) (d := 12) (v := ?_) rfl rfl (by kernel_rfl) (by kernel_rfl) (by kernel_rfl) (fun _ _ _ h => h) (Or.inl ⟨by rfl, ?_⟩) ?_
  rotate_left
  · (intro w' _; go_simp; (try with_reducible rfl))
  simp only [List.setIfInBounds_toArray, List.set_cons_zero, List.set_cons_succ]
  refine wpAnyD_takeP (i := 3) (oi := { dst := some 13, op := Op.fieldAddr 119 (Operand.tmp 12) 0, type := 0, pos := "heap.go:78", after := #[{ on := 2, ground := Ground.data }], guard := none }) (d := 13) (v := ?_) rfl rfl (by kernel_rfl) (by kernel_rfl) (by kernel_rfl) (fun _ _ _ h => h) (Or.inl ⟨by rfl, ?_⟩) ?_
  rotate_left
  · (intro w' _; go_simp; (try with_reducible rfl))
  simp only [List.setIfInBounds_toArray, List.set_cons_zero, List.set_cons_succ]
  refine wpAnyD_takeP (i := 5) (oi := { dst := some 15, op := Op.move (Operand.tmp 1), type := 3, pos := "heap.go:78", after := #[], guard := none }) (d := 15) (v := ?_) rfl rfl (by kernel_rfl) (by kernel_rfl) (by kernel_rfl) (fun _ _ _ h => h) (Or.inl ⟨by rfl, ?_⟩) ?_
  rotate_left
  · (intro w' _; go_simp; (try with_reducible rfl))
  simp only [List.setIfInBounds_toArray, List.set_cons_zero, List.set_cons_succ]
  refine wpAnyD_takeP (i := 6) (oi := { dst := some 16, op := Op.move (Operand.tmp 2), type := 3, pos := "heap.go:78", after := #[], guard := none }) (d := 16) (v := ?_) rfl rfl (by kernel_rfl) (by kernel_rfl) (by kernel_rfl) (fun _ _ _ h => h) (Or.inl ⟨by rfl, ?_⟩) ?_
  rotate_left
  · (intro w' _; go_simp; (try with_reducible rfl))
  simp only [List.setIfInBounds_toArray, List.set_cons_zero, List.set_cons_succ]
  refine wpAnyD_takeP (i := 7) (oi := { dst := some 17, op := Op.move (Operand.tmp 0), type := 61, pos := "heap.go:78", after := #[], guard := none }) (d := 17) (v := ?_) rfl rfl (by kernel_rfl) (by kernel_rfl) (by kernel_rfl) (fun _ _ _ h => h) (Or.inl ⟨by rfl, ?_⟩) ?_
  rotate_left
  · (intro w' _; go_simp; (try with_reducible rfl))
  simp only [List.setIfInBounds_toArray, List.set_cons_zero, List.set_cons_succ]
  refine wpAnyD_takeP (i := 8) (oi := { dst := some 18, op := Op.nilCheck (Operand.tmp 17), type := 0, pos := "heap.go:78", after := #[{ on := 7, ground := Ground.data }], guard := none }) (d := 18) (v := ?_) rfl rfl (by kernel_rfl) (by kernel_rfl) (by kernel_rfl) (fun _ _ _ h => h) (Or.inl ⟨by rfl, ?_⟩) ?_
  rotate_left
  · (intro w' _; go_simp; (try with_reducible rfl))
  simp only [List.setIfInBounds_toArray, List.set_cons_zero, List.set_cons_succ]
  refine wpAnyD_takeP (i := 9) (oi := { dst := some 19, op := Op.fieldAddr 119 (Operand.tmp 18) 1, type := 0, pos := "heap.go:78", after := #[{ on := 8, ground := Ground.data }], guard := none }) (d := 19) (v := ?_) rfl rfl (by kernel_rfl) (by kernel_rfl) (by kernel_rfl) (fun _ _ _ h => h) (Or.inl ⟨by rfl, ?_⟩) ?_
  rotate_left
  · (intro w' _; go_simp; (try with_reducible rfl))
  simp only [List.setIfInBounds_toArray, List.set_cons_zero, List.set_cons_succ]
  refine wpAnyD_takeP (i := 12) (oi := { dst := some 22, op := Op.move (Operand.tmp 3), type := 3, pos := "heap.go:78", after := #[], guard := none }) (d := 22) (v := ?_) rfl rfl (by kernel_rfl) (by kernel_rfl) (by kernel_rfl) (fun _ _ _ h => h) (Or.inl ⟨by rfl, ?_⟩) ?_
  rotate_left
  · (intro w' _; go_simp; (try with_reducible rfl))
  simp only [List.setIfInBounds_toArray, List.set_cons_zero, List.set_cons_succ]
  refine wpAnyD_takeD (i := 4) (oi := { dst := some 14, op := Op.load 117 (Operand.tmp 13), type := 117, pos := "heap.go:78", after := #[{ on := 3, ground := Ground.data }], guard := none }) (d := 14) (v := ?_) rfl rfl (by kernel_rfl) (by kernel_rfl) (by kernel_rfl) (by kernel_rfl) (fun _ _ _ h => h) (Or.inl ⟨by rfl, ?_⟩) hHeld ?_
  rotate_left
  · (intro w' hSw; (try dsimp only at hSw); go_simp; (try with_reducible rfl))
  simp only [List.setIfInBounds_toArray, List.set_cons_zero, List.set_cons_succ]
  refine wpAnyD_takeD (i := 10) (oi := { dst := some 20, op := Op.load 3 (Operand.tmp 19), type := 3, pos := "heap.go:78", after := #[{ on := 9, ground := Ground.data }], guard := none }) (d := 20) (v := ?_) rfl rfl (by kernel_rfl) (by kernel_rfl) (by kernel_rfl) (by kernel_rfl) (fun _ _ _ h => h) (Or.inl ⟨by rfl, ?_⟩) hHeld ?_
  rotate_left
  · (intro w' hSw; (try dsimp only at hSw); go_simp; (try with_reducible rfl))
  simp only [List.setIfInBounds_toArray, List.set_cons_zero, List.set_cons_succ]
  refine wpAnyD_takeP (i := 11) (oi := { dst := some 21, op := Op.build 121 #[(0, Operand.tmp 15), (1, Operand.tmp 16), (2, Operand.tmp 20)], type := 121, pos := "heap.go:78", after := #[{ on := 5, ground := Ground.data }, { on := 6, ground := Ground.data }, { on := 10, ground := Ground.data }], guard := none }) (d := 21) (v := ?_) rfl rfl (by kernel_rfl) (by kernel_rfl) (by kernel_rfl) (fun _ _ _ h => h) (Or.inl ⟨by rfl, ?_⟩) ?_
  rotate_left
  · (intro w' _; go_simp; (try with_reducible rfl))
  simp only [List.setIfInBounds_toArray, List.set_cons_zero, List.set_cons_succ]
  refine wpAnyD_takeP (i := 13) (oi := { dst := some 23, op := Op.build 123 #[(0, Operand.tmp 21), (1, Operand.tmp 22)], type := 123, pos := "heap.go:78", after := #[{ on := 11, ground := Ground.data }, { on := 12, ground := Ground.data }], guard := none }) (d := 23) (v := ?_) rfl rfl (by kernel_rfl) (by kernel_rfl) (by kernel_rfl) (fun _ _ _ h => h) (Or.inl ⟨by rfl, ?_⟩) ?_
  rotate_left
  · (intro w' _; go_simp; (try with_reducible rfl))
  simp only [List.setIfInBounds_toArray, List.set_cons_zero, List.set_cons_succ]
  refine wpAnyD_one (i := 14) (o := { dst := some 24, op := Op.buildSlice 117 1 #[(0, Operand.tmp 23)], type := 117, pos := "heap.go:78", after := #[{ on := 13, ground := Ground.data }], guard := none }) (by kernel_rfl) rfl (by rfl) (fun K hK => ?_)
  go_simp; have hbl := (Below.refl W0.heap.size W0).alloc (Nat.le_refl _) (.cells #[.int .i64 r, .int .i64 p, .int .i64 turn, .int .i64 x] 123); have h := And.intro (below_cell hbl (Nat.le_refl _) hHeld.1) (below_cell hbl (Nat.le_refl _) hHeld.2); clear hbl
  refine hK.out _ _ h (fun hHeld => ?_)
  clear hK K
  try simp only [Act.put, List.setIfInBounds_toArray, List.set_cons_zero, List.set_cons_succ]
  refine wpAnyD_one (i := 15) (o := { dst := some 25, op := Op.call { callee := Callee.builtin Builtin.append, args := #[Operand.tmp 14, Operand.tmp 24], argTypes := #[117, 117] }, type := 117, pos := "heap.go:78", after := #[{ on := 4, ground := Ground.data }, { on := 14, ground := Ground.data }], guard := none }) (by kernel_rfl) rfl (by rfl) (fun K hK => ?_)
  refine wp_app_one base 117 123 (.agg #[.int .i64 0, .int .i64 0, .int .i64 0, .int .i64 0]) 4 32 [_, _, _, _] 1 _ _ rfl Try.underlying117 info_th rfl (by decide) _ _ _ rfl _ rfl rfl rfl (by intro u hu; simp at hu; rcases hu with rfl | rfl | rfl | rfl <;> rfl) HD.out.row (by omega) (by omega) (Nat.le_trans HBASE.out HK.out.size) ?_; intro v' w1 hown1 hg1 hnew; obtain ⟨A1, cA1, rfl⟩ := own_slice hown1; have hk1 : Keep (heapF hb A) W0 w1 := Keep.of_grown hg1 (fun g hg => .inr (own_addr HD.out.row g hg)); have b1 := (Keep.of_grown (F := fun g => (Value.slice A l.length c).ownBlock = some g) hg1 (fun g hg => hg)).blk HD.out.blk (row_ne HD.out.row HD.out.blk (by decide)); have h := And.intro (blk_cell b1 0) (blk_cell b1 1)
  refine hK.out _ _ h (fun hHeld => ?_)
  clear hK K
  try simp only [Act.put, List.setIfInBounds_toArray, List.set_cons_zero, List.set_cons_succ]
  refine wpAnyD_takeP (i := 16) (oi := { dst := some 26, op := Op.nilCheck (Operand.tmp 10), type := 0, pos := "heap.go:78", after := #[{ on := 0, ground := Ground.data }, { on := 0, ground := Ground.phase }, { on := 1, ground := Ground.phase }, { on := 2, ground := Ground.phase }, { on := 3, ground := Ground.phase }, { on := 4, ground := Ground.phase }, { on := 5, ground := Ground.phase }, { on := 6, ground := Ground.phase }, { on := 7, ground := Ground.phase }, { on := 8, ground := Ground.phase }, { on := 9, ground := Ground.phase }, { on := 10, ground := Ground.phase }, { on := 11, ground := Ground.phase }, { on := 12, ground := Ground.phase }, { on := 13, ground := Ground.phase }, { on := 14, ground := Ground.phase }, { on := 15, ground := Ground.phase }], guard := none }) (d := 26) (v := ?_) rfl rfl (by kernel_rfl) (by kernel_rfl) (by kernel_rfl) (fun _ _ _ h => h) (Or.inl ⟨by rfl, ?_⟩) ?_
  rotate_left
  · (intro w' _; go_simp; (try with_reducible rfl))
  simp only [List.setIfInBounds_toArray, List.set_cons_zero, List.set_cons_succ]
  refine wpAnyD_takeP (i := 17) (oi := { dst := some 27, op := Op.fieldAddr 119 (Operand.tmp 26) 0, type := 0, pos := "heap.go:78", after := #[{ on := 16, ground := Ground.data }, { on := 0, ground := Ground.phase }, { on := 1, ground := Ground.phase }, { on := 2, ground := Ground.phase }, { on := 3, ground := Ground.phase }, { on := 4, ground := Ground.phase }, { on := 5, ground := Ground.phase }, { on := 6, ground := Ground.phase }, { on := 7, ground := Ground.phase }, { on := 8, ground := Ground.phase }, { on := 9, ground := Ground.phase }, { on := 10, ground := Ground.phase }, { on := 11, ground := Ground.phase }, { on := 12, ground := Ground.phase }, { on := 13, ground := Ground.phase }, { on := 14, ground := Ground.phase }, { on := 15, ground := Ground.phase }], guard := none }) (d := 27) (v := ?_) rfl rfl (by kernel_rfl) (by kernel_rfl) (by kernel_rfl) (fun _ _ _ h => h) (Or.inl ⟨by rfl, ?_⟩) ?_
  rotate_left
  · (intro w' _; go_simp; (try with_reducible rfl))
  simp only [List.setIfInBounds_toArray, List.set_cons_zero, List.set_cons_succ]
  refine wpAnyD_last (D := 18) (by decide) (o := { dst := none, op := Op.store 117 (Operand.tmp 27) (Operand.tmp 25), type := 0, pos := "heap.go:78", after := #[{ on := 17, ground := Ground.data }, { on := 15, ground := Ground.data }, { on := 15, ground := Ground.chain }, { on := 0, ground := Ground.phase }, { on := 1, ground := Ground.phase }, { on := 2, ground := Ground.phase }, { on := 3, ground := Ground.phase }, { on := 4, ground := Ground.phase }, { on := 5, ground := Ground.phase }, { on := 6, ground := Ground.phase }, { on := 7, ground := Ground.phase }, { on := 8, ground := Ground.phase }, { on := 9, ground := Ground.phase }, { on := 10, ground := Ground.phase }, { on := 11, ground := Ground.phase }, { on := 12, ground := Ground.phase }, { on := 13, ground := Ground.phase }, { on := 14, ground := Ground.phase }, { on := 15, ground := Ground.phase }], guard := none }) (by kernel_rfl) rfl (by rfl) (fun K hK => ?_)
  have z0 := blk_froz b1 0; have c0 := hHeld.1; go_simp
  refine hK.out _ _ ?_
  clear hK K
  try simp only [Act.put, List.setIfInBounds_toArray, List.set_cons_zero, List.set_cons_succ]
  refine wpAnyD_done (by kernel_rfl) ?_ _
  have b2 := blk_set b1 0 (.slice A1 (l.length + 1) cA1)
  simp only [List.setIfInBounds_toArray, List.set_cons_zero] at b2
  have HNR : Hid (NewRow w A A1) := Lib.hid (by
    obtain ⟨g, cap, e1, _, _, _⟩ := own_open hown1 (by omega)
    injection e1 with e1
    subst e1
    rcases hnew with e | ⟨g', e, hg⟩
    · exact .inl (own_addr HD.out.row g e.symm).symm
    · have e : some g = some g' := e
      injection e with e
      subst e
      exact .inr ⟨g, rfl, Nat.le_trans HK.out.size hg⟩)
  have hne : ∀ g, (Value.slice A1 (l.length + 1) cA1).ownBlock = some g → ¬ g = hb := fun g hg e => row_ne hown1 b1 (by decide) (by rw [hg, e])
  have K3 : ∀ (W : World) (i : Nat) (u : Value), Keep (fun g => g = hb) W (W.setCell ⟨hb, i, none⟩ u) := fun W i u => Keep.setCell (F := fun g => g = hb) (p := ⟨hb, i, none⟩) (Keep.refl _ _) (Or.inl rfl) _
  have hrow2 := own_keep (own_keep hown1 (K3 _ 0 (.slice A1 (l.length + 1) cA1)) hne) (K3 _ 1 (.int .i64 (turn + 1))) hne
  have b3 := blk_set b2 1 (.int .i64 (turn + 1))
  simp only [List.setIfInBounds_toArray, List.set_cons_zero, List.set_cons_succ] at b3
  have e0 := blk_cell b2 0
  have e1 := blk_cell b2 1
  have f1 := blk_froz b2 1
  have e3 := blk_cell b3 0
  simp only [List.getElem?_toArray, List.getElem?_cons_zero, List.getElem?_cons_succ] at e0 e1 e3
  have HK2 := Lib.hid ((HK.out.trans hk1 (fun g hg => .inl hg)).setCell (p := ⟨hb, 0, none⟩) (.inl (.inl rfl)) (.slice A1 (l.length + 1) cA1) |>.setCell (p := ⟨hb, 1, none⟩) (.inl (.inl rfl)) (.int .i64 (turn + 1)))
  have HN : Hid (HeapIs ((w1.setCell ⟨hb, 0, none⟩ (.slice A1 (l.length + 1) cA1)).setCell ⟨hb, 1, none⟩ (.int .i64 (turn + 1))) base hb (l ++ [⟨r, p, turn, x⟩]) (turn + 1) A1 cA1) := Lib.hid (by
    refine ⟨?_, ?_, HD.out.le⟩
    · rw [List.length_append]; exact b3
    · rw [List.length_append, List.flatMap_append]; simpa [encTh] using hrow2)
  clear hHeld h c0 z0 b1 b2 b3 hown1 hg1 hnew hk1 hne K3 hrow2
  generalize w1.setCell ⟨hb, 0, none⟩ (.slice A1 (l.length + 1) cA1) = W2 at *
  go_upto_region 3 with fail
  generalize W2.setCell ⟨hb, 1, none⟩ (.int .i64 (turn + 1)) = W3 at *
  have wl : IntKind.i64.wrap ((l.length : Int) + 1 - 1) = (l.length : Int) := by rw [IntWalk.i64_in _ (by omega)]; omega
  go_wp2_with fail
  refine (up_any HN.out l.length (by simp) (by simp; omega)).mono ?_
  rintro e w4 ⟨rfl, h4, hk4⟩
  have H4 := Lib.hid h4
  have HK4 := Lib.hid (HK2.out.trans hk4 (fun g hg => by
    rcases HNR.out with e | ⟨g', e, hg'⟩
    · exact .inl (.inr (by rw [← e]; exact hg))
    · rw [e] at hg
      injection hg with hg
      injection hg with hg
      subst hg
      exact .inr hg'))
  clear h4 hk4
  go_wp2_with fail
  go_end0
  exact ⟨rfl, ⟨_, _, H4.out, HNR.out⟩, HK4.out⟩

theorem own_take {w : World} {base n m c : Nat} {e : TypeId} {size : Nat} {A : Option Addr} {xs : List Value} (h : w.ownsRow base e size (.slice A n c) n xs) (hm : m ≤ n) (h0 : 0 < n) : w.ownsRow base e size (.slice A m c) m (xs.take (m * size)) := by
  obtain ⟨hl, h⟩ := h
  rcases h with ⟨_, h2⟩ | ⟨g, cap, cur, e1, hb, hg, hc1, hc2, hc3, ht⟩
  · omega
  · injection e1 with e1 e2 e3
    subst e1; subst e3
    refine ⟨?_, .inr ⟨g, c, cur, rfl, hb, hg, by omega, hc2, hc3, ?_⟩⟩
    · rw [List.length_take, hl]
      exact Nat.min_eq_left (Nat.mul_le_mul_right _ hm)
    · rw [← ht, List.take_take, Nat.min_eq_left (Nat.mul_le_mul_right _ hm)]
theorem take_flat (l : List (Th Int)) : ∀ m, (l.take m).flatMap encTh = (l.flatMap encTh).take (m * 4) := by
  induction l with
  | nil => intro m; simp
  | cons a l ih =>
    intro m
    cases m with
    | zero => simp
    | succ m =>
      rw [List.take_succ_cons, List.flatMap_cons, List.flatMap_cons, ih, List.take_append, List.take_of_length_le (l := encTh a) (by rw [encTh_len]; omega), encTh_len]
      have : (m + 1) * 4 - 4 = m * 4 := by omega
      rw [this]
theorem own_cap {w : World} {base n c : Nat} {e : TypeId} {size : Nat} {A : Option Addr} {xs : List Value} (h : w.ownsRow base e size (.slice A n c) n xs) : n ≤ c := by
  rcases h.2 with ⟨e1, e2⟩ | ⟨g, cap, cur, e1, hb, hg, hc1, _⟩
  · injection e1 with _ _ e3; omega
  · injection e1 with _ _ e3; omega

theorem pop_none {w : World} {base hb : Nat} {turn : Int} {A : Option Addr} {c : Nat} (h : HeapIs w base hb [] turn A c) : Calls Try.prog 36 #[.pointer (some ⟨hb, 0, none⟩)] w fun e w' => e = .returned (.tuple #[.int .i64 0, .int .i64 0, .int .i64 0, .bool false]) ∧ w' = w := by
  go_enter Try.func36, Try.ntmps36
  go_wp2_with fail
  refine (peek_none h).mono ?_
  rintro e w' ⟨rfl, rfl⟩
  go_wp2_with fail
  exact bodyPost_ret (results_tmp4 rfl _ _ _) rfl ⟨rfl, rfl⟩

set_option maxHeartbeats 4000000 in
theorem pop_h {w : World} {base hb : Nat} {l : List (Th Int)} {turn : Int} {A : Option Addr} {c : Nat} (h : HeapIs w base hb l turn A c) (hl : 0 < l.length) (hlen : l.length < 1000000000) :
    Calls Try.prog 36 #[.pointer (some ⟨hb, 0, none⟩)] w fun e w' => e = .returned (.tuple #[.int .i64 l[0].x, .int .i64 l[0].r, .int .i64 l[0].p, .bool true]) ∧ HeapIs w' base hb (popT l) turn A c ∧ Keep (heapF hb A) w w' := by
  have HP := Lib.hid (peek_h h hl)
  have HH := Lib.hid h
  generalize l[0].x = x0 at *
  generalize l[0].r = r0 at *
  generalize l[0].p = p0 at *
  clear h
  go_enter Try.func36, Try.ntmps36
  go_wp2_with fail
  refine HP.out.mono ?_
  rintro e w1 ⟨rfl, hb1⟩
  have H1 := Lib.hid (HH.out.below hb1 (Nat.le_refl _))
  have HK1 : Hid (Keep (heapF hb A) w w1) := Lib.hid (Keep.of_below hb1)
  have h0 := blk_cell H1.out.blk 0
  simp only [List.getElem?_toArray, List.getElem?_cons_zero, List.getElem?_cons_succ] at h0
  have wl : IntKind.i64.wrap ((l.length : Int) - 1) = ((l.length - 1 : Nat) : Int) := by rw [IntWalk.i64_in _ (by omega)]; omega
  clear hb1 HP HH
  go_wp2_with fail
  have hsw := swap_any H1.out 0 (l.length - 1) hl (by omega) (by omega)
  rw [show ((0 : Nat) : Int) = 0 from rfl] at hsw
  refine hsw.mono ?_
  rintro e w2 ⟨rfl, h2, hk2⟩
  have HK2 := Lib.hid (HK1.out.trans hk2 (fun g hg => .inl (.inr hg)))
  obtain ⟨g, rfl, _⟩ := H1.out.at 0 hl
  have H2 := Lib.hid h2
  have e0 := blk_cell h2.blk 0
  have f0 := blk_froz h2.blk 0
  simp only [List.getElem?_toArray, List.getElem?_cons_zero, List.getElem?_cons_succ] at e0
  rw [swap_len] at e0
  have hcap := own_cap H1.out.row
  obtain ⟨q, hq⟩ : ∃ q, l.length - 1 = q := ⟨_, rfl⟩
  have HQ := Lib.hid hq
  rw [hq] at h2 H2 ⊢
  have q0 : (0 : Int) ≤ (q : Int) := by omega
  have q1 : (q : Int) ≤ (c : Int) := by omega
  have q2 : q ≤ c := by omega
  have hlq : l.length = q + 1 := by omega
  have b3 := blk_set h2.blk 0 (.slice (some ⟨g, 0, none⟩) q c)
  simp only [List.setIfInBounds_toArray, List.set_cons_zero] at b3
  have K3 : Keep (fun x => x = hb) w2 (w2.setCell ⟨hb, 0, none⟩ (.slice (some ⟨g, 0, none⟩) q c)) := Keep.setCell (F := fun x => x = hb) (p := ⟨hb, 0, none⟩) (Keep.refl _ _) (Or.inl rfl) _
  have hne : ∀ x, (Value.slice (some ⟨g, 0, none⟩) (swapT l 0 q).length c).ownBlock = some x → ¬ x = hb := fun x hx e => row_ne h2.row h2.blk (by decide) (by rw [hx, e])
  have hrow := own_take (own_keep h2.row K3 hne) (m := q) (by rw [swap_len]; omega) (by rw [swap_len]; omega)
  rw [← take_flat] at hrow
  have htl : ((swapT l 0 q).take q).length = q := by rw [List.length_take, swap_len]; omega
  have HN : Hid (HeapIs (w2.setCell ⟨hb, 0, none⟩ (.slice (some ⟨g, 0, none⟩) q c)) base hb ((swapT l 0 q).take q) turn (some ⟨g, 0, none⟩) c) := Lib.hid ⟨by rw [htl]; exact b3, by rw [htl]; exact hrow, h2.le⟩
  have HK3 := Lib.hid (HK2.out.setCell (p := ⟨hb, 0, none⟩) (.inl (.inl rfl)) (.slice (some ⟨g, 0, none⟩) q c))
  have HPOP := Lib.hid (show downT ((swapT l 0 q).take q) 0 = popT l from by unfold popT; rw [HQ.out])
  have HTL := Lib.hid htl
  clear h2 hk2 h0 wl hq H1 hsw b3 K3 hne hrow htl hlq
  go_upto_region 6 with fail
  generalize w2.setCell ⟨hb, 0, none⟩ (.slice (some ⟨g, 0, none⟩) q c) = w3 at *
  go_wp2_with fail
  refine (down_any HN.out (by rw [HTL.out]; have := HQ.out; omega)).mono ?_
  rintro e w4 ⟨rfl, h4, hk4⟩
  rw [HPOP.out] at h4
  have H4 := Lib.hid h4
  have HK4 := Lib.hid (HK3.out.trans hk4 (fun x hx => .inl (.inr hx)))
  clear h4 hk4
  go_wp2_with fail
  exact bodyPost_ret (results_tmp4 rfl _ _ _) rfl ⟨rfl, H4.out, HK4.out⟩
end Go.Proofs.Ytdppdjiigecjoaa.hi
