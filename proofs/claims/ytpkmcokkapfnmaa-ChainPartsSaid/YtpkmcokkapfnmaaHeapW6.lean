/- Layer 3 (heap): heaps of waits: Push, Pop. -/
import Derived.Test.YtpkmcokkapfnmaaHeapW5
namespace Go.Proofs.Ytpkmcokkapfnmaa.hw
open Go.RowKit Go.Maps Go.WideMaps
set_option maxRecDepth 100000
set_option linter.unusedVariables false
set_option linter.unusedSimpArgs false

/-- a heap's own memory -/
def heapF (hb : Nat) (A : Option Addr) (g : Nat) : Prop := g = hb ∨ A = some ⟨g, 0, none⟩
/-- where the row lies behind a push -/
def NewRow (w : World) (A A' : Option Addr) : Prop := A' = A ∨ ∃ g, A' = some ⟨g, 0, none⟩ ∧ w.heap.size ≤ g
theorem own_addr {w : World} {base n c : Nat} {e : TypeId} {size : Nat} {A : Option Addr} {xs : List Value} (h : w.ownsRow base e size (.slice A n c) n xs) : ∀ g, (Value.slice A n c).ownBlock = some g → A = some ⟨g, 0, none⟩ := by
  intro g hg
  rcases h.2 with ⟨e1, _⟩ | ⟨g', cap, cur, e1, _⟩
  · injection e1 with e1; subst e1; simp [Value.ownBlock] at hg
  · injection e1 with e1; subst e1; simp [Value.ownBlock] at hg; subst hg; rfl
theorem addr_own {A : Option Addr} {n c g : Nat} (h : A = some ⟨g, 0, none⟩) : (Value.slice A n c).ownBlock = some g := by subst h; rfl
theorem HeapWs.base {w : World} {base hb : Nat} {l : List (Th Wt)} {turn : Int} {A : Option Addr} {c : Nat} (h : HeapWs w base hb l turn A c) : ∀ g, heapF hb A g → base ≤ g := by
  intro g hg
  rcases hg with rfl | hg
  · exact h.le
  · exact own_base h.row g (addr_own hg)
theorem HeapWs.keep {w w' : World} {base hb : Nat} {l : List (Th Wt)} {turn : Int} {A : Option Addr} {c : Nat} {F : Nat → Prop} (h : HeapWs w base hb l turn A c) (k : Keep F w w') (hF : ∀ g, heapF hb A g → ¬ F g) : HeapWs w' base hb l turn A c :=
  ⟨k.blk h.blk (hF _ (.inl rfl)), own_keep h.row k (fun g hg => hF g (.inr (own_addr h.row g hg))), h.le⟩

theorem own_lt {w : World} {base n : Nat} {e : TypeId} {size : Nat} {v : Value} {xs : List Value} (h : w.ownsRow base e size v n xs) : ∀ g, v.ownBlock = some g → g < w.heap.size := by
  intro g hg
  rcases h.2 with ⟨rfl, _⟩ | ⟨g', cap, cur, rfl, _, hg', _⟩
  · simp [Value.ownBlock] at hg
  · simp only [Value.ownBlock, Option.some.injEq] at hg
    subst hg
    exact blk_lt hg'

set_option maxHeartbeats 4000000 in
theorem push_any {w : World} {base hb : Nat} {l : List (Th Wt)} {turn : Int} {A : Option Addr} {c : Nat} (h : HeapWs w base hb l turn A c) (r p : Int) (x : Wt) (hlen : l.length < 1000000000) (ht0 : 0 ≤ turn) (ht1 : turn < 1000000000000000000) (hbase : base ≤ w.heap.size) :
    Calls Try.prog 59 #[.pointer (some ⟨hb, 0, none⟩), .int .i64 r, .int .i64 p, wtV x] w fun e w' => e = .returned (.tuple #[]) ∧ (∃ A' c', HeapWs w' base hb (pushT l ⟨r, p, turn, x⟩) (turn + 1) A' c' ∧ NewRow w A A') ∧ Keep (heapF hb A) w w' := by
  obtain ⟨xi, xa, xb⟩ := x
  have hbw := (Below.refl w.heap.size w).alloc (Nat.le_refl _) (.cells #[.int .i64 xi, .int .i64 xa, .int .i64 xb] 105)
  have hh := h.below hbw (Nat.le_refl _)
  have h0 := blk_cell hh.blk 0
  have h1 := blk_cell hh.blk 1
  have hn := blk_new w (.cells #[.int .i64 xi, .int .i64 xa, .int .i64 xb] 105)
  have n0 := blk_cell hn 0
  have n1 := blk_cell hn 1
  have n2 := blk_cell hn 2
  simp only [List.getElem?_toArray, List.getElem?_cons_zero, List.getElem?_cons_succ] at h0 h1 n0 n1 n2
  have HH := Lib.hid hh
  have HBW := Lib.hid hbw
  have HNB : Hid ((w.alloc (.cells #[.int .i64 xi, .int .i64 xa, .int .i64 xb] 105)).drew.heap[w.heap.size]? = some (.cells #[.int .i64 xi, .int .i64 xa, .int .i64 xb] 105)) := Lib.hid hn
  have HX := Lib.hid (own_lt h.row)
  have HBASE := Lib.hid hbase
  clear hh hbw hn
  have wt : IntKind.i64.wrap (turn + 1) = turn + 1 := IntWalk.i64_in _ (by omega)
  clear h hbase
  unfold wtV
  go_enter Try.func59, Try.ntmps59
  go_wp2_with fail
  have HD := Lib.hid (show HeapWs (w.alloc (.cells #[.int .i64 xi, .int .i64 xa, .int .i64 xb] 105)).drew base hb l turn A c from HH.out.drew)
  have HK : Hid (Keep (heapF hb A) w (w.alloc (.cells #[.int .i64 xi, .int .i64 xa, .int .i64 xb] 105)).drew) := Lib.hid ((Keep.of_below HBW.out).drew)
  refine wp_region_D (Ds := [18]) (S := fun V => V.cell? ⟨hb, 0, none⟩ = some (.slice A l.length c) ∧ V.cell? ⟨hb, 1, none⟩ = some (.int .i64 turn) ∧ V.cell? ⟨w.heap.size, 0, none⟩ = some (.int .i64 xi) ∧ V.cell? ⟨w.heap.size, 1, none⟩ = some (.int .i64 xa) ∧ V.cell? ⟨w.heap.size, 2, none⟩ = some (.int .i64 xb)) (by kernel_rfl) (by exact ⟨h0, h1, n0, n1, n2⟩) (fun hHeld => ?_)
  generalize (w.alloc (.cells #[.int .i64 xi, .int .i64 xa, .int .i64 xb] 105)).drew = W0 at *
  refine wpAnyD_takeP (i := 0) (oi := { dst := some 10, op := Op.move (Operand.tmp 0), type := 76, pos := "heap.go:78", after := #[], guard := none }) (d := 10) (v := ?_) rfl rfl (by kernel_rfl) (by kernel_rfl) (by kernel_rfl) (fun _ _ _ h => h) (Or.inl ⟨by rfl, ?_⟩) ?_
  rotate_left
  · (intro w' _; go_simp; (try with_reducible rfl))
  simp only [List.setIfInBounds_toArray, List.set_cons_zero, List.set_cons_succ]
  refine wpAnyD_takeP (i := 1) (oi := { dst := some 11, op := Op.move (Operand.tmp 0), type := 76, pos := "heap.go:78", after := #[], guard := none }) (d := 11) (v := ?_) rfl rfl (by kernel_rfl) (by kernel_rfl) (by kernel_rfl) (fun _ _ _ h => h) (Or.inl ⟨by rfl, ?_⟩) ?_
  rotate_left
  · (intro w' _; go_simp; (try with_reducible rfl))
  simp only [List.setIfInBounds_toArray, List.set_cons_zero, List.set_cons_succ]
  refine wpAnyD_takeP (i := 2) (oi := { dst := some 12, op := Op.nilCheck (Operand.tmp 11), type := 0, pos := "heap.go:78", after := #[{ on := 1, ground := Ground.data }], guard := none }) (d := 12) (v := ?_) rfl rfl (by kernel_rfl) (by kernel_rfl) (by kernel_rfl) (fun _ _ _ h => h) (Or.inl ⟨by rfl, ?_⟩) ?_
  rotate_left
  · (intro w' _; go_simp; (try with_reducible rfl))
  simp only [List.setIfInBounds_toArray, List.set_cons_zero, List.set_cons_succ]
  refine wpAnyD_takeP (i := 3) (oi := { dst := some 13, op := Op.fieldAddr 117 (Operand.tmp 12) 0, type := 0, pos := "heap.go:78", after := #[{ on := 2, ground := Ground.data }], guard := none }) (d := 13) (v := ?_) rfl rfl (by kernel_rfl) (by kernel_rfl) (by kernel_rfl) (fun _ _ _ h => h) (Or.inl ⟨by rfl, ?_⟩) ?_
  rotate_left
  · (intro w' _; go_simp; (try with_reducible rfl))
  simp only [List.setIfInBounds_toArray, List.set_cons_zero, List.set_cons_succ]
  refine wpAnyD_takeP (i := 5) (oi := { dst := some 15, op := Op.move (Operand.tmp 1), type := 3, pos := "heap.go:78", after := #[], guard := none }) (d := 15) (v := ?_) rfl rfl (by kernel_rfl) (by kernel_rfl) (by kernel_rfl) (fun _ _ _ h => h) (Or.inl ⟨by rfl, ?_⟩) ?_
  rotate_left
  · (intro w' _; go_simp; (try with_reducible rfl))
  simp only [List.setIfInBounds_toArray, List.set_cons_zero, List.set_cons_succ]
  refine wpAnyD_takeP (i := 6) (oi := { dst := some 16, op := Op.move (Operand.tmp 2), type := 3, pos := "heap.go:78", after := #[], guard := none }) (d := 16) (v := ?_) rfl rfl (by kernel_rfl) (by kernel_rfl) (by kernel_rfl) (fun _ _ _ h => h) (Or.inl ⟨by rfl, ?_⟩) ?_
  rotate_left
  · (intro w' _; go_simp; (try with_reducible rfl))
  simp only [List.setIfInBounds_toArray, List.set_cons_zero, List.set_cons_succ]
  refine wpAnyD_takeP (i := 7) (oi := { dst := some 17, op := Op.move (Operand.tmp 0), type := 76, pos := "heap.go:78", after := #[], guard := none }) (d := 17) (v := ?_) rfl rfl (by kernel_rfl) (by kernel_rfl) (by kernel_rfl) (fun _ _ _ h => h) (Or.inl ⟨by rfl, ?_⟩) ?_
  rotate_left
  · (intro w' _; go_simp; (try with_reducible rfl))
  simp only [List.setIfInBounds_toArray, List.set_cons_zero, List.set_cons_succ]
  refine wpAnyD_takeP (i := 8) (oi := { dst := some 18, op := Op.nilCheck (Operand.tmp 17), type := 0, pos := "heap.go:78", after := #[{ on := 7, ground := Ground.data }], guard := none }) (d := 18) (v := ?_) rfl rfl (by kernel_rfl) (by kernel_rfl) (by kernel_rfl) (fun _ _ _ h => h) (Or.inl ⟨by rfl, ?_⟩) ?_
  rotate_left
  · (intro w' _; go_simp; (try with_reducible rfl))
  simp only [List.setIfInBounds_toArray, List.set_cons_zero, List.set_cons_succ]
  refine wpAnyD_takeP (i := 9) (oi := { dst := some 19, op := Op.fieldAddr 117 (Operand.tmp 18) 1, type := 0, pos := "heap.go:78", after := #[{ on := 8, ground := Ground.data }], guard := none }) (d := 19) (v := ?_) rfl rfl (by kernel_rfl) (by kernel_rfl) (by kernel_rfl) (fun _ _ _ h => h) (Or.inl ⟨by rfl, ?_⟩) ?_
  rotate_left
  · (intro w' _; go_simp; (try with_reducible rfl))
  simp only [List.setIfInBounds_toArray, List.set_cons_zero, List.set_cons_succ]
  refine wpAnyD_takeD (i := 4) (oi := { dst := some 14, op := Op.load 115 (Operand.tmp 13), type := 115, pos := "heap.go:78", after := #[{ on := 3, ground := Ground.data }], guard := none }) (d := 14) (v := ?_) rfl rfl (by kernel_rfl) (by kernel_rfl) (by kernel_rfl) (by kernel_rfl) (fun _ _ _ h => h) (Or.inl ⟨by rfl, ?_⟩) hHeld ?_
  rotate_left
  · (intro w' hSw; (try dsimp only at hSw); go_simp; (try with_reducible rfl))
  simp only [List.setIfInBounds_toArray, List.set_cons_zero, List.set_cons_succ]
  refine wpAnyD_takeD (i := 10) (oi := { dst := some 20, op := Op.load 3 (Operand.tmp 19), type := 3, pos := "heap.go:78", after := #[{ on := 9, ground := Ground.data }], guard := none }) (d := 20) (v := ?_) rfl rfl (by kernel_rfl) (by kernel_rfl) (by kernel_rfl) (by kernel_rfl) (fun _ _ _ h => h) (Or.inl ⟨by rfl, ?_⟩) hHeld ?_
  rotate_left
  · (intro w' hSw; (try dsimp only at hSw); go_simp; (try with_reducible rfl))
  simp only [List.setIfInBounds_toArray, List.set_cons_zero, List.set_cons_succ]
  refine wpAnyD_takeP (i := 11) (oi := { dst := some 21, op := Op.build 121 #[(0, Operand.tmp 15), (1, Operand.tmp 16), (2, Operand.tmp 20)], type := 121, pos := "heap.go:78", after := #[{ on := 5, ground := Ground.data }, { on := 6, ground := Ground.data }, { on := 10, ground := Ground.data }], guard := none }) (d := 21) (v := ?_) rfl rfl (by kernel_rfl) (by kernel_rfl) (by kernel_rfl) (fun _ _ _ h => h) (Or.inl ⟨by rfl, ?_⟩) ?_
  rotate_left
  · (intro w' _; go_simp; (try with_reducible rfl))
  simp only [List.setIfInBounds_toArray, List.set_cons_zero, List.set_cons_succ]
  refine wpAnyD_takeD (i := 12) (oi := { dst := some 22, op := Op.load 105 (Operand.tmp 7), type := 105, pos := "heap.go:78", after := #[], guard := none }) (d := 22) (v := ?_) rfl rfl (by kernel_rfl) (by kernel_rfl) (by kernel_rfl) (by kernel_rfl) (fun _ _ _ h => h) (Or.inl ⟨by rfl, ?_⟩) hHeld ?_
  rotate_left
  · (intro w' hSw; (try dsimp only at hSw); go_simp; (try with_reducible rfl))
  simp only [List.setIfInBounds_toArray, List.set_cons_zero, List.set_cons_succ]
  refine wpAnyD_takeP (i := 13) (oi := { dst := some 23, op := Op.build 123 #[(0, Operand.tmp 21), (1, Operand.tmp 22)], type := 123, pos := "heap.go:78", after := #[{ on := 11, ground := Ground.data }, { on := 12, ground := Ground.data }], guard := none }) (d := 23) (v := ?_) rfl rfl (by kernel_rfl) (by kernel_rfl) (by kernel_rfl) (fun _ _ _ h => h) (Or.inl ⟨by rfl, ?_⟩) ?_
  rotate_left
  · (intro w' _; go_simp; (try with_reducible rfl))
  simp only [List.setIfInBounds_toArray, List.set_cons_zero, List.set_cons_succ]
  refine wpAnyD_one (i := 14) (o := { dst := some 24, op := Op.buildSlice 115 1 #[(0, Operand.tmp 23)], type := 115, pos := "heap.go:78", after := #[{ on := 13, ground := Ground.data }], guard := none }) (by kernel_rfl) rfl (by rfl) (fun K hK => ?_)
  go_simp; have hbl := (Below.refl W0.heap.size W0).alloc (Nat.le_refl _) (.cells #[.int .i64 r, .int .i64 p, .int .i64 turn, .int .i64 xi, .int .i64 xa, .int .i64 xb] 123); have h := And.intro (below_cell hbl (Nat.le_refl _) hHeld.1) (And.intro (below_cell hbl (Nat.le_refl _) hHeld.2.1) (And.intro (below_cell hbl (Nat.le_refl _) hHeld.2.2.1) (And.intro (below_cell hbl (Nat.le_refl _) hHeld.2.2.2.1) (below_cell hbl (Nat.le_refl _) hHeld.2.2.2.2)))); clear hbl
  refine hK.out _ _ h (fun hHeld => ?_)
  clear hK K
  try simp only [Act.put, List.setIfInBounds_toArray, List.set_cons_zero, List.set_cons_succ]
  refine wpAnyD_one (i := 15) (o := { dst := some 25, op := Op.call { callee := Callee.builtin Builtin.append, args := #[Operand.tmp 14, Operand.tmp 24], argTypes := #[115, 115] }, type := 115, pos := "heap.go:78", after := #[{ on := 4, ground := Ground.data }, { on := 14, ground := Ground.data }], guard := none }) (by kernel_rfl) rfl (by rfl) (fun K hK => ?_)
  refine wp_app_one base 115 123 (.agg #[.int .i64 0, .int .i64 0, .int .i64 0, .int .i64 0, .int .i64 0, .int .i64 0]) 6 48 [_, _, _, _, _, _] 1 _ _ rfl Try.underlying115 info_th rfl (by decide) _ _ _ rfl _ rfl rfl rfl (by intro u hu; simp at hu; rcases hu with rfl | rfl | rfl | rfl | rfl | rfl <;> rfl) HD.out.row (by omega) (by omega) (Nat.le_trans HBASE.out HK.out.size) ?_; intro v' w1 hown1 hg1 hnew; obtain ⟨A1, cA1, rfl⟩ := own_slice hown1; have hk1 : Keep (heapF hb A) W0 w1 := Keep.of_grown hg1 (fun g hg => .inr (own_addr HD.out.row g hg)); have b1 := (Keep.of_grown (F := fun g => (Value.slice A l.length c).ownBlock = some g) hg1 (fun g hg => hg)).blk HD.out.blk (row_ne HD.out.row HD.out.blk (by decide)); have b5 := (Keep.of_grown (F := fun g => (Value.slice A l.length c).ownBlock = some g) hg1 (fun g hg => hg)).blk HNB.out (fun e => Nat.lt_irrefl _ (HX.out _ e)); have h := And.intro (blk_cell b1 0) (And.intro (blk_cell b1 1) (And.intro (blk_cell b5 0) (And.intro (blk_cell b5 1) (blk_cell b5 2)))); clear b5
  refine hK.out _ _ h (fun hHeld => ?_)
  clear hK K
  try simp only [Act.put, List.setIfInBounds_toArray, List.set_cons_zero, List.set_cons_succ]
  refine wpAnyD_takeP (i := 16) (oi := { dst := some 26, op := Op.nilCheck (Operand.tmp 10), type := 0, pos := "heap.go:78", after := #[{ on := 0, ground := Ground.data }, { on := 0, ground := Ground.phase }, { on := 1, ground := Ground.phase }, { on := 2, ground := Ground.phase }, { on := 3, ground := Ground.phase }, { on := 4, ground := Ground.phase }, { on := 5, ground := Ground.phase }, { on := 6, ground := Ground.phase }, { on := 7, ground := Ground.phase }, { on := 8, ground := Ground.phase }, { on := 9, ground := Ground.phase }, { on := 10, ground := Ground.phase }, { on := 11, ground := Ground.phase }, { on := 12, ground := Ground.phase }, { on := 13, ground := Ground.phase }, { on := 14, ground := Ground.phase }, { on := 15, ground := Ground.phase }], guard := none }) (d := 26) (v := ?_) rfl rfl (by kernel_rfl) (by kernel_rfl) (by kernel_rfl) (fun _ _ _ h => h) (Or.inl ⟨by rfl, ?_⟩) ?_
  rotate_left
  · (intro w' _; go_simp; (try with_reducible rfl))
  simp only [List.setIfInBounds_toArray, List.set_cons_zero, List.set_cons_succ]
  refine wpAnyD_takeP (i := 17) (oi := { dst := some 27, op := Op.fieldAddr 117 (Operand.tmp 26) 0, type := 0, pos := "heap.go:78", after := #[{ on := 16, ground := Ground.data }, { on := 0, ground := Ground.phase }, { on := 1, ground := Ground.phase }, { on := 2, ground := Ground.phase }, { on := 3, ground := Ground.phase }, { on := 4, ground := Ground.phase }, { on := 5, ground := Ground.phase }, { on := 6, ground := Ground.phase }, { on := 7, ground := Ground.phase }, { on := 8, ground := Ground.phase }, { on := 9, ground := Ground.phase }, { on := 10, ground := Ground.phase }, { on := 11, ground := Ground.phase }, { on := 12, ground := Ground.phase }, { on := 13, ground := Ground.phase }, { on := 14, ground := Ground.phase }, { on := 15, ground := Ground.phase }], guard := none }) (d := 27) (v := ?_) rfl rfl (by kernel_rfl) (by kernel_rfl) (by kernel_rfl) (fun _ _ _ h => h) (Or.inl ⟨by rfl, ?_⟩) ?_
  rotate_left
  · (intro w' _; go_simp; (try with_reducible rfl))
  simp only [List.setIfInBounds_toArray, List.set_cons_zero, List.set_cons_succ]
  refine wpAnyD_last (D := 18) (by decide) (o := { dst := none, op := Op.store 115 (Operand.tmp 27) (Operand.tmp 25), type := 0, pos := "heap.go:78", after := #[{ on := 17, ground := Ground.data }, { on := 15, ground := Ground.data }, { on := 15, ground := Ground.chain }, { on := 0, ground := Ground.phase }, { on := 1, ground := Ground.phase }, { on := 2, ground := Ground.phase }, { on := 3, ground := Ground.phase }, { on := 4, ground := Ground.phase }, { on := 5, ground := Ground.phase }, { on := 6, ground := Ground.phase }, { on := 7, ground := Ground.phase }, { on := 8, ground := Ground.phase }, { on := 9, ground := Ground.phase }, { on := 10, ground := Ground.phase }, { on := 11, ground := Ground.phase }, { on := 12, ground := Ground.phase }, { on := 13, ground := Ground.phase }, { on := 14, ground := Ground.phase }, { on := 15, ground := Ground.phase }], guard := none }) (by kernel_rfl) rfl (by rfl) (fun K hK => ?_)
  have z0 := blk_froz b1 0; have c0 := hHeld.1; go_simp
  refine hK.out _ _ ?_
  clear hK K
  try simp only [Act.put, List.setIfInBounds_toArray, List.set_cons_zero, List.set_cons_succ]
  refine wpAnyD_done (by kernel_rfl) ?_ _
  have b2 := blk_set b1 0 (.slice A1 (l.length + 1) cA1)
  simp only [List.setIfInBounds_toArray, List.set_cons_zero] at b2
  have HNR : Hid (NewRow w A A1) := Lib.hid (by
    obtain ⟨g, cap, e1, _, _, _⟩ := own_open hown1 (by omega)
    injection e1 with e1
    subst e1
    rcases hnew with e | ⟨g', e, hg⟩
    · exact .inl (own_addr HD.out.row g e.symm).symm
    · have e : some g = some g' := e
      injection e with e
      subst e
      exact .inr ⟨g, rfl, Nat.le_trans HK.out.size hg⟩)
  have hne : ∀ g, (Value.slice A1 (l.length + 1) cA1).ownBlock = some g → ¬ g = hb := fun g hg e => row_ne hown1 b1 (by decide) (by rw [hg, e])
  have K3 : ∀ (W : World) (i : Nat) (u : Value), Keep (fun g => g = hb) W (W.setCell ⟨hb, i, none⟩ u) := fun W i u => Keep.setCell (F := fun g => g = hb) (p := ⟨hb, i, none⟩) (Keep.refl _ _) (Or.inl rfl) _
  have hrow2 := own_keep (own_keep hown1 (K3 _ 0 (.slice A1 (l.length + 1) cA1)) hne) (K3 _ 1 (.int .i64 (turn + 1))) hne
  have b3 := blk_set b2 1 (.int .i64 (turn + 1))
  simp only [List.setIfInBounds_toArray, List.set_cons_zero, List.set_cons_succ] at b3
  have e0 := blk_cell b2 0
  have e1 := blk_cell b2 1
  have f1 := blk_froz b2 1
  have e3 := blk_cell b3 0
  simp only [List.getElem?_toArray, List.getElem?_cons_zero, List.getElem?_cons_succ] at e0 e1 e3
  have HK2 := Lib.hid ((HK.out.trans hk1 (fun g hg => .inl hg)).setCell (p := ⟨hb, 0, none⟩) (.inl (.inl rfl)) (.slice A1 (l.length + 1) cA1) |>.setCell (p := ⟨hb, 1, none⟩) (.inl (.inl rfl)) (.int .i64 (turn + 1)))
  have HN : Hid (HeapWs ((w1.setCell ⟨hb, 0, none⟩ (.slice A1 (l.length + 1) cA1)).setCell ⟨hb, 1, none⟩ (.int .i64 (turn + 1))) base hb (l ++ [⟨r, p, turn, ⟨xi, xa, xb⟩⟩]) (turn + 1) A1 cA1) := Lib.hid (by
    refine ⟨?_, ?_, HD.out.le⟩
    · rw [List.length_append]; exact b3
    · rw [List.length_append, List.flatMap_append]; simpa [encTh] using hrow2)
  clear hHeld h c0 z0 b1 b2 b3 hown1 hg1 hnew hk1 hne K3 hrow2
  generalize w1.setCell ⟨hb, 0, none⟩ (.slice A1 (l.length + 1) cA1) = W2 at *
  go_upto_region 4 with fail
  generalize W2.setCell ⟨hb, 1, none⟩ (.int .i64 (turn + 1)) = W3 at *
  have wl : IntKind.i64.wrap ((l.length : Int) + 1 - 1) = (l.length : Int) := by rw [IntWalk.i64_in _ (by omega)]; omega
  go_wp2_with fail
  refine (up_any HN.out l.length (by simp) (by simp; omega)).mono ?_
  rintro e w4 ⟨rfl, h4, hk4⟩
  have H4 := Lib.hid h4
  have HK4 := Lib.hid (HK2.out.trans hk4 (fun g hg => by
    rcases HNR.out with e | ⟨g', e, hg'⟩
    · exact .inl (.inr (by rw [← e]; exact hg))
    · rw [e] at hg
      injection hg with hg
      injection hg with hg
      subst hg
      exact .inr hg'))
  clear h4 hk4
  go_wp2_with fail
  go_end0
  exact ⟨rfl, ⟨_, _, H4.out, HNR.out⟩, HK4.out⟩

theorem own_take {w : World} {base n m c : Nat} {e : TypeId} {size : Nat} {A : Option Addr} {xs : List Value} (h : w.ownsRow base e size (.slice A n c) n xs) (hm : m ≤ n) (h0 : 0 < n) : w.ownsRow base e size (.slice A m c) m (xs.take (m * size)) := by
  obtain ⟨hl, h⟩ := h
  rcases h with ⟨_, h2⟩ | ⟨g, cap, cur, e1, hb, hg, hc1, hc2, hc3, ht⟩
  · omega
  · injection e1 with e1 e2 e3
    subst e1; subst e3
    refine ⟨?_, .inr ⟨g, c, cur, rfl, hb, hg, by omega, hc2, hc3, ?_⟩⟩
    · rw [List.length_take, hl]
      exact Nat.min_eq_left (Nat.mul_le_mul_right _ hm)
    · rw [← ht, List.take_take, Nat.min_eq_left (Nat.mul_le_mul_right _ hm)]
theorem take_flat (l : List (Th Wt)) : ∀ m, (l.take m).flatMap encTh = (l.flatMap encTh).take (m * 6) := by
  induction l with
  | nil => intro m; simp
  | cons a l ih =>
    intro m
    cases m with
    | zero => simp
    | succ m =>
      rw [List.take_succ_cons, List.flatMap_cons, List.flatMap_cons, ih, List.take_append, List.take_of_length_le (l := encTh a) (by rw [encTh_len]; omega), encTh_len]
      have : (m + 1) * 6 - 6 = m * 6 := by omega
      rw [this]
theorem own_cap {w : World} {base n c : Nat} {e : TypeId} {size : Nat} {A : Option Addr} {xs : List Value} (h : w.ownsRow base e size (.slice A n c) n xs) : n ≤ c := by
  rcases h.2 with ⟨e1, e2⟩ | ⟨g, cap, cur, e1, hb, hg, hc1, _⟩
  · injection e1 with _ _ e3; omega
  · injection e1 with _ _ e3; omega

theorem put_wt {V : World} {g : Nat} {a b c : Value} (h : V.heap[g]? = some (.cells #[a, b, c] 105)) (x y z : Int) :
    (((V.setCell ⟨g, 0, none⟩ (.int .i64 x)).setCell ⟨g, 1, none⟩ (.int .i64 y)).setCell ⟨g, 2, none⟩ (.int .i64 z)).heap[g]? = some (.cells #[.int .i64 x, .int .i64 y, .int .i64 z] 105) := by
  simpa using blk_set (blk_set (blk_set h 0 (.int .i64 x)) 1 (.int .i64 y)) 2 (.int .i64 z)
theorem pop_none {w : World} {base hb : Nat} {turn : Int} {A : Option Addr} {c : Nat} (h : HeapWs w base hb [] turn A c) : Calls Try.prog 53 #[.pointer (some ⟨hb, 0, none⟩)] w fun e w' => e = .returned (.tuple #[wtV ⟨0, 0, 0⟩, .int .i64 0, .int .i64 0, .bool false]) ∧ Below w.heap.size w w' := by
  have HBW := Lib.hid ((Below.refl w.heap.size w).alloc (Nat.le_refl _) (.cells #[.int .i64 0, .int .i64 0, .int .i64 0] 105))
  have hh := h.below HBW.out (Nat.le_refl _)
  have HP := Lib.hid (by simpa only [wtV] using peek_none hh)
  have hs1 : (w.alloc (.cells #[.int .i64 0, .int .i64 0, .int .i64 0] 105)).heap.size = w.heap.size + 1 := by simp
  have HN := Lib.hid (blk_new w (.cells #[.int .i64 0, .int .i64 0, .int .i64 0] 105))
  generalize hW1 : w.alloc (.cells #[.int .i64 0, .int .i64 0, .int .i64 0] 105) = W1 at *
  have HS1 := Lib.hid hs1
  replace hW1 := Lib.hid hW1
  clear h hs1 hh
  go_enter Try.func53, Try.ntmps53
  go_wp2_with fail
  rw [hW1.out]
  refine HP.out.mono ?_
  rintro e w2 ⟨rfl, hb2⟩
  have HB2 := Lib.hid (HBW.out.trans (hb2.mono (by rw [HS1.out]; exact Nat.le_succ _)))
  have HN2 := Lib.hid (blk_below hb2 (by rw [HS1.out]; exact Nat.lt_succ_self _) HN.out)
  have hz2 := hb2.size
  clear hb2 HP
  go_upto_region 7 with fail
  replace HB2 := Lib.hid (HB2.out.alloc HB2.out.size (.cells #[.int .i64 0, .int .i64 0, .int .i64 0] 105))
  replace HN2 := Lib.hid (blk_alloc HN2.out (.cells #[.int .i64 0, .int .i64 0, .int .i64 0] 105))
  have n0 := blk_cell (blk_new w2 (.cells #[.int .i64 0, .int .i64 0, .int .i64 0] 105)) 0
  have n1 := blk_cell (blk_new w2 (.cells #[.int .i64 0, .int .i64 0, .int .i64 0] 105)) 1
  have n2 := blk_cell (blk_new w2 (.cells #[.int .i64 0, .int .i64 0, .int .i64 0] 105)) 2
  have HG := Lib.hid (Nat.le_trans (by rw [HS1.out]; exact Nat.lt_succ_self _) hz2)
  generalize w2.alloc (.cells #[.int .i64 0, .int .i64 0, .int .i64 0] 105) = W3 at *
  have z0 := blk_froz HN2.out 0
  have z1 := blk_froz HN2.out 1
  have z2 := blk_froz HN2.out 2
  have c0 := blk_cell HN2.out 0
  have c1 := blk_cell HN2.out 1
  have c2 := blk_cell HN2.out 2
  simp only [List.getElem?_toArray, List.getElem?_cons_zero, List.getElem?_cons_succ] at n0 n1 n2 c0 c1 c2
  go_wp2_with fail
  refine ret_cell_tmp3 rfl rfl rfl rfl rfl (load_wt (blk_cell (put_wt HN2.out 0 0 0) 0) (blk_cell (put_wt HN2.out 0 0 0) 1) (blk_cell (put_wt HN2.out 0 0 0) 2)) ⟨rfl, ?_⟩
  exact ((HB2.out.setCell (p := ⟨_, 0, none⟩) (Nat.le_refl _) _).setCell (p := ⟨_, 1, none⟩) (Nat.le_refl _) _).setCell (p := ⟨_, 2, none⟩) (Nat.le_refl _) _

set_option maxHeartbeats 4000000 in
theorem pop_h {w : World} {base hb : Nat} {l : List (Th Wt)} {turn : Int} {A : Option Addr} {c : Nat} (h : HeapWs w base hb l turn A c) (hl : 0 < l.length) (hlen : l.length < 1000000000) :
    Calls Try.prog 53 #[.pointer (some ⟨hb, 0, none⟩)] w fun e w' => e = .returned (.tuple #[wtV l[0].x, .int .i64 l[0].r, .int .i64 l[0].p, .bool true]) ∧ HeapWs w' base hb (popT l) turn A c ∧ Keep (heapF hb A) w w' := by
  have HX := Lib.hid (own_lt h.row)
  have HHB := Lib.hid (blk_lt h.blk)
  have HBW := Lib.hid ((Below.refl w.heap.size w).alloc (Nat.le_refl _) (.cells #[.int .i64 0, .int .i64 0, .int .i64 0] 105))
  have hh := h.below HBW.out (Nat.le_refl _)
  have HP := Lib.hid (by simpa only [wtV] using peek_h hh hl)
  have HH := Lib.hid hh
  have hs1 : (w.alloc (.cells #[.int .i64 0, .int .i64 0, .int .i64 0] 105)).heap.size = w.heap.size + 1 := by simp
  have HN := Lib.hid (blk_new w (.cells #[.int .i64 0, .int .i64 0, .int .i64 0] 105))
  generalize hW1 : w.alloc (.cells #[.int .i64 0, .int .i64 0, .int .i64 0] 105) = W1 at *
  have HS1 := Lib.hid hs1
  replace hW1 := Lib.hid hW1
  clear hs1
  unfold wtV
  generalize l[0].x = x0 at *
  obtain ⟨xi, xa, xb⟩ := x0
  simp only at HP
  generalize l[0].r = r0 at *
  generalize l[0].p = p0 at *
  clear h hh
  go_enter Try.func53, Try.ntmps53
  go_wp2_with fail
  rw [hW1.out]
  refine HP.out.mono ?_
  rintro e w2 ⟨rfl, hb2⟩
  have HZ2 := Lib.hid (Nat.lt_of_lt_of_le (by rw [HS1.out]; exact Nat.lt_succ_self _) hb2.size)
  replace HBW := Lib.hid ((HBW.out.trans (hb2.mono (by rw [HS1.out]; exact Nat.le_succ _))).alloc (Nat.le_of_lt HZ2.out) (.cells #[.int .i64 xi, .int .i64 xa, .int .i64 xb] 105))
  replace HH := Lib.hid ((HH.out.below hb2 (Nat.le_refl _)).below ((Below.refl w2.heap.size w2).alloc (Nat.le_refl _) (.cells #[.int .i64 xi, .int .i64 xa, .int .i64 xb] 105)) (Nat.le_refl _))
  replace HN := Lib.hid (blk_alloc (blk_below hb2 (by rw [HS1.out]; exact Nat.lt_succ_self _) HN.out) (.cells #[.int .i64 xi, .int .i64 xa, .int .i64 xb] 105))
  have HN6 := Lib.hid (blk_new w2 (.cells #[.int .i64 xi, .int .i64 xa, .int .i64 xb] 105))
  have h0 := blk_cell HH.out.blk 0
  simp only [List.getElem?_toArray, List.getElem?_cons_zero, List.getElem?_cons_succ] at h0
  have wl : IntKind.i64.wrap ((l.length : Int) - 1) = ((l.length - 1 : Nat) : Int) := by rw [IntWalk.i64_in _ (by omega)]; omega
  clear hb2 HP
  go_upto_region 3 with fail
  generalize w2.alloc (.cells #[.int .i64 xi, .int .i64 xa, .int .i64 xb] 105) = W3 at *
  have HK1 : Hid (Keep (heapF hb A) w W3) := Lib.hid (Keep.of_below HBW.out)
  have HA2 : Hid (∀ g, A = some ⟨g, 0, none⟩ → g < w.heap.size) := Lib.hid (fun g hg => HX.out g (addr_own hg))
  go_wp2_with fail
  have hsw := swap_any HH.out 0 (l.length - 1) hl (by omega) (by omega)
  rw [show ((0 : Nat) : Int) = 0 from rfl] at hsw
  refine hsw.mono ?_
  rintro e w4 ⟨rfl, h2, hk2⟩
  have HK2 := Lib.hid (HK1.out.trans hk2 (fun g hg => .inl (.inr hg)))
  replace HN := Lib.hid (hk2.blk HN.out (fun e => Nat.lt_irrefl _ (HA2.out _ e)))
  replace HN6 := Lib.hid (hk2.blk HN6.out (fun e => Nat.lt_asymm (HA2.out _ e) HZ2.out))
  obtain ⟨g, rfl, _⟩ := HH.out.at 0 hl
  have H2 := Lib.hid h2
  have e0 := blk_cell h2.blk 0
  have f0 := blk_froz h2.blk 0
  simp only [List.getElem?_toArray, List.getElem?_cons_zero, List.getElem?_cons_succ] at e0
  rw [swap_len] at e0
  have hcap := own_cap HH.out.row
  obtain ⟨q, hq⟩ : ∃ q, l.length - 1 = q := ⟨_, rfl⟩
  have HQ := Lib.hid hq
  rw [hq] at h2 H2 ⊢
  have q0 : (0 : Int) ≤ (q : Int) := by omega
  have q1 : (q : Int) ≤ (c : Int) := by omega
  have q2 : q ≤ c := by omega
  have hlq : l.length = q + 1 := by omega
  have b3 := blk_set h2.blk 0 (.slice (some ⟨g, 0, none⟩) q c)
  simp only [List.setIfInBounds_toArray, List.set_cons_zero] at b3
  have K3 : Keep (fun x => x = hb) w4 (w4.setCell ⟨hb, 0, none⟩ (.slice (some ⟨g, 0, none⟩) q c)) := Keep.setCell (F := fun x => x = hb) (p := ⟨hb, 0, none⟩) (Keep.refl _ _) (Or.inl rfl) _
  have hne : ∀ x, (Value.slice (some ⟨g, 0, none⟩) (swapT l 0 q).length c).ownBlock = some x → ¬ x = hb := fun x hx e => row_ne h2.row h2.blk (by decide) (by rw [hx, e])
  have hrow := own_take (own_keep h2.row K3 hne) (m := q) (by rw [swap_len]; omega) (by rw [swap_len]; omega)
  rw [← take_flat] at hrow
  have htl : ((swapT l 0 q).take q).length = q := by rw [List.length_take, swap_len]; omega
  have HNN : Hid (HeapWs (w4.setCell ⟨hb, 0, none⟩ (.slice (some ⟨g, 0, none⟩) q c)) base hb ((swapT l 0 q).take q) turn (some ⟨g, 0, none⟩) c) := Lib.hid ⟨by rw [htl]; exact b3, by rw [htl]; exact hrow, h2.le⟩
  have HK3 := Lib.hid (HK2.out.setCell (p := ⟨hb, 0, none⟩) (.inl (.inl rfl)) (.slice (some ⟨g, 0, none⟩) q c))
  replace HN := Lib.hid (K3.blk HN.out (fun e => Nat.lt_irrefl _ (e ▸ HHB.out)))
  replace HN6 := Lib.hid (K3.blk HN6.out (fun e => Nat.lt_asymm (e ▸ HHB.out) HZ2.out))
  have HPOP := Lib.hid (show downT ((swapT l 0 q).take q) 0 = popT l from by unfold popT; rw [HQ.out])
  have HTL := Lib.hid htl
  clear h2 hk2 h0 wl hq hsw b3 K3 hne hrow htl hlq
  go_upto_region 6 with fail
  generalize w4.setCell ⟨hb, 0, none⟩ (.slice (some ⟨g, 0, none⟩) q c) = w5 at *
  go_wp2_with fail
  refine (down_any HNN.out (by rw [HTL.out]; have := HQ.out; omega)).mono ?_
  rintro e w6 ⟨rfl, h4, hk4⟩
  rw [HPOP.out] at h4
  have H4 := Lib.hid h4
  have HK4 := Lib.hid (HK3.out.trans hk4 (fun x hx => .inl (.inr hx)))
  replace HN := Lib.hid (hk4.blk HN.out (fun e => Nat.lt_irrefl _ (HA2.out _ e)))
  replace HN6 := Lib.hid (hk4.blk HN6.out (fun e => Nat.lt_asymm (HA2.out _ e) HZ2.out))
  clear h4 hk4 H2 HNN HK3 HK2 e0 f0
  have n0 := blk_cell HN6.out 0
  have n1 := blk_cell HN6.out 1
  have n2 := blk_cell HN6.out 2
  have z0 := blk_froz HN.out 0
  have z1 := blk_froz HN.out 1
  have z2 := blk_froz HN.out 2
  have c0 := blk_cell HN.out 0
  have c1 := blk_cell HN.out 1
  have c2 := blk_cell HN.out 2
  simp only [List.getElem?_toArray, List.getElem?_cons_zero, List.getElem?_cons_succ] at n0 n1 n2 c0 c1 c2
  go_wp2_with fail
  have HP6 := put_wt HN.out xi xa xb
  have KF : Keep (fun x => x = w.heap.size) w6 (((w6.setCell ⟨w.heap.size, 0, none⟩ (.int .i64 xi)).setCell ⟨w.heap.size, 1, none⟩ (.int .i64 xa)).setCell ⟨w.heap.size, 2, none⟩ (.int .i64 xb)) := (((Keep.refl (fun x => x = w.heap.size) w6).setCell (p := ⟨w.heap.size, 0, none⟩) (.inl rfl) _).setCell (p := ⟨w.heap.size, 1, none⟩) (.inl rfl) _).setCell (p := ⟨w.heap.size, 2, none⟩) (.inl rfl) _
  refine ret_cell_tmp3 rfl rfl rfl rfl rfl (load_wt (blk_cell HP6 0) (blk_cell HP6 1) (blk_cell HP6 2)) ⟨rfl, H4.out.keep KF ?_, HK4.out.trans KF (fun x hx => .inr (Nat.le_of_eq hx.symm))⟩
  rintro x (rfl | hx) e
  · subst e; exact Nat.lt_irrefl _ HHB.out
  · subst e; exact Nat.lt_irrefl _ (HA2.out _ hx)
end Go.Proofs.Ytpkmcokkapfnmaa.hw
