/- Texts of several layers, one behind the other: HeapW6, Chain2, Chain3, Token3, Token4, Token5, Ref0, Ref1, Ref2, Ref3, Ref4, Ref5, Grow0, Grow1, Grow2, Token6, Chain4, Chain5. -/
import Derived.Test.YtpkmcokkapfnmaaZ1
import Derived.Maps.AppendAt
/- Layer 3 (heap): heaps of waits: Push, Pop. -/
namespace Go.Proofs.Ytpkmcokkapfnmaa.hw
open Go.RowKit Go.Maps Go.WideMaps
set_option maxRecDepth 100000
set_option linter.unusedVariables false
set_option linter.unusedSimpArgs false

/-- a heap's own memory -/
def heapF (hb : Nat) (A : Option Addr) (g : Nat) : Prop := g = hb ∨ A = some ⟨g, 0, none⟩
/-- where the row lies behind a push -/
def NewRow (w : World) (A A' : Option Addr) : Prop := A' = A ∨ ∃ g, A' = some ⟨g, 0, none⟩ ∧ w.heap.size ≤ g
theorem own_addr {w : World} {base n c : Nat} {e : TypeId} {size : Nat} {A : Option Addr} {xs : List Value} (h : w.ownsRow base e size (.slice A n c) n xs) : ∀ g, (Value.slice A n c).ownBlock = some g → A = some ⟨g, 0, none⟩ := by
  intro g hg
  rcases h.2 with ⟨e1, _⟩ | ⟨g', cap, cur, e1, _⟩
  · injection e1 with e1; subst e1; simp [Value.ownBlock] at hg
  · injection e1 with e1; subst e1; simp [Value.ownBlock] at hg; subst hg; rfl
theorem addr_own {A : Option Addr} {n c g : Nat} (h : A = some ⟨g, 0, none⟩) : (Value.slice A n c).ownBlock = some g := by subst h; rfl
theorem HeapWs.base {w : World} {base hb : Nat} {l : List (Th Wt)} {turn : Int} {A : Option Addr} {c : Nat} (h : HeapWs w base hb l turn A c) : ∀ g, heapF hb A g → base ≤ g := by
  intro g hg
  rcases hg with rfl | hg
  · exact h.le
  · exact own_base h.row g (addr_own hg)
theorem HeapWs.keep {w w' : World} {base hb : Nat} {l : List (Th Wt)} {turn : Int} {A : Option Addr} {c : Nat} {F : Nat → Prop} (h : HeapWs w base hb l turn A c) (k : Keep F w w') (hF : ∀ g, heapF hb A g → ¬ F g) : HeapWs w' base hb l turn A c :=
  ⟨k.blk h.blk (hF _ (.inl rfl)), own_keep h.row k (fun g hg => hF g (.inr (own_addr h.row g hg))), h.le⟩

theorem own_lt {w : World} {base n : Nat} {e : TypeId} {size : Nat} {v : Value} {xs : List Value} (h : w.ownsRow base e size v n xs) : ∀ g, v.ownBlock = some g → g < w.heap.size := by
  intro g hg
  rcases h.2 with ⟨rfl, _⟩ | ⟨g', cap, cur, rfl, _, hg', _⟩
  · simp [Value.ownBlock] at hg
  · simp only [Value.ownBlock, Option.some.injEq] at hg
    subst hg
    exact blk_lt hg'

set_option maxHeartbeats 4000000 in
theorem push_any {w : World} {base hb : Nat} {l : List (Th Wt)} {turn : Int} {A : Option Addr} {c : Nat} (h : HeapWs w base hb l turn A c) (r p : Int) (x : Wt) (hlen : l.length < 1000000000) (ht0 : 0 ≤ turn) (ht1 : turn < 1000000000000000000) (hbase : base ≤ w.heap.size) :
    Calls Try.prog 59 #[.pointer (some ⟨hb, 0, none⟩), .int .i64 r, .int .i64 p, wtV x] w fun e w' => e = .returned (.tuple #[]) ∧ (∃ A' c', HeapWs w' base hb (pushT l ⟨r, p, turn, x⟩) (turn + 1) A' c' ∧ NewRow w A A') ∧ Keep (heapF hb A) w w' := by
  obtain ⟨xi, xa, xb⟩ := x
  have hbw := (Below.refl w.heap.size w).alloc (Nat.le_refl _) (.cells #[.int .i64 xi, .int .i64 xa, .int .i64 xb] 105)
  have hh := h.below hbw (Nat.le_refl _)
  have h0 := blk_cell hh.blk 0
  have h1 := blk_cell hh.blk 1
  have hn := blk_new w (.cells #[.int .i64 xi, .int .i64 xa, .int .i64 xb] 105)
  have n0 := blk_cell hn 0
  have n1 := blk_cell hn 1
  have n2 := blk_cell hn 2
  simp only [List.getElem?_toArray, List.getElem?_cons_zero, List.getElem?_cons_succ] at h0 h1 n0 n1 n2
  have HH := Lib.hid hh
  have HBW := Lib.hid hbw
  have HNB : Hid ((w.alloc (.cells #[.int .i64 xi, .int .i64 xa, .int .i64 xb] 105)).drew.heap[w.heap.size]? = some (.cells #[.int .i64 xi, .int .i64 xa, .int .i64 xb] 105)) := Lib.hid hn
  have HX := Lib.hid (own_lt h.row)
  have HBASE := Lib.hid hbase
  clear hh hbw hn
  have wt : IntKind.i64.wrap (turn + 1) = turn + 1 := IntWalk.i64_in _ (by omega)
  clear h hbase
  unfold wtV
  go_enter Try.func59, Try.ntmps59
  go_wp2_with fail
  have HD := Lib.hid (show HeapWs (w.alloc (.cells #[.int .i64 xi, .int .i64 xa, .int .i64 xb] 105)).drew base hb l turn A c from HH.out.drew)
  have HK : Hid (Keep (heapF hb A) w (w.alloc (.cells #[.int .i64 xi, .int .i64 xa, .int .i64 xb] 105)).drew) := Lib.hid ((Keep.of_below HBW.out).drew)
  refine wp_region_D (Ds := [18]) (S := fun V => V.cell? ⟨hb, 0, none⟩ = some (.slice A l.length c) ∧ V.cell? ⟨hb, 1, none⟩ = some (.int .i64 turn) ∧ V.cell? ⟨w.heap.size, 0, none⟩ = some (.int .i64 xi) ∧ V.cell? ⟨w.heap.size, 1, none⟩ = some (.int .i64 xa) ∧ V.cell? ⟨w.heap.size, 2, none⟩ = some (.int .i64 xb)) (by kernel_rfl) (by exact ⟨h0, h1, n0, n1, n2⟩) (fun hHeld => ?_)
  generalize (w.alloc (.cells #[.int .i64 xi, .int .i64 xa, .int .i64 xb] 105)).drew = W0 at *
  refine wpAnyD_takeP (i := 0) (oi := { dst := some 10, op := Op.move (Operand.tmp 0), type := 76, pos := "heap.go:78", after := #[], guard := none }) (d := 10) (v := ?_) rfl rfl (by kernel_rfl) (by kernel_rfl) (by kernel_rfl) (fun _ _ _ h => h) (Or.inl ⟨by rfl, ?_⟩) ?_
  rotate_left
  · (intro w' _; go_simp; (try with_reducible rfl))
  simp only [List.setIfInBounds_toArray, List.set_cons_zero, List.set_cons_succ]
  refine wpAnyD_takeP (i := 1) (oi := { dst := some 11, op := Op.move (Operand.tmp 0), type := 76, pos := "heap.go:78", after := #[], guard := none }) (d := 11) (v := ?_) rfl rfl (by kernel_rfl) (by kernel_rfl) (by kernel_rfl) (fun _ _ _ h => h) (Or.inl ⟨by rfl, ?_⟩) ?_
  rotate_left
  · (intro w' _; go_simp; (try with_reducible rfl))
  simp only [List.setIfInBounds_toArray, List.set_cons_zero, List.set_cons_succ]
  refine wpAnyD_takeP (i := 2) (oi := { dst := some 12, op := Op.nilCheck (Operand.tmp 11), type := 0, pos := "heap.go:78", after := #[{ on := 1, ground := Ground.data }], guard := none }) (d := 12) (v := ?_) rfl rfl (by kernel_rfl) (by kernel_rfl) (by kernel_rfl) (fun _ _ _ h => h) (Or.inl ⟨by rfl, ?_⟩) ?_
  rotate_left
  · (intro w' _; go_simp; (try with_reducible rfl))
  simp only [List.setIfInBounds_toArray, List.set_cons_zero, List.set_cons_succ]
  refine wpAnyD_takeP (i := 3) (oi := { dst := some 13, op := Op.fieldAddr 117 (Operand.tmp 12) 0, type := 0, pos := "heap.go:78", after := #[{ on := 2, ground := Ground.data }], guard := none }) (d := 13) (v := ?_) rfl rfl (by kernel_rfl) (by kernel_rfl) (by kernel_rfl) (fun _ _ _ h => h) (Or.inl ⟨by rfl, ?_⟩) ?_
  rotate_left
  · (intro w' _; go_simp; (try with_reducible rfl))
  simp only [List.setIfInBounds_toArray, List.set_cons_zero, List.set_cons_succ]
  refine wpAnyD_takeP (i := 5) (oi := { dst := some 15, op := Op.move (Operand.tmp 1), type := 3, pos := "heap.go:78", after := #[], guard := none }) (d := 15) (v := ?_) rfl rfl (by kernel_rfl) (by kernel_rfl) (by kernel_rfl) (fun _ _ _ h => h) (Or.inl ⟨by rfl, ?_⟩) ?_
  rotate_left
  · (intro w' _; go_simp; (try with_reducible rfl))
  simp only [List.setIfInBounds_toArray, List.set_cons_zero, List.set_cons_succ]
  refine wpAnyD_takeP (i := 6) (oi := { dst := some 16, op := Op.move (Operand.tmp 2), type := 3, pos := "heap.go:78", after := #[], guard := none }) (d := 16) (v := ?_) rfl rfl (by kernel_rfl) (by kernel_rfl) (by kernel_rfl) (fun _ _ _ h => h) (Or.inl ⟨by rfl, ?_⟩) ?_
  rotate_left
  · (intro w' _; go_simp; (try with_reducible rfl))
  simp only [List.setIfInBounds_toArray, List.set_cons_zero, List.set_cons_succ]
  refine wpAnyD_takeP (i := 7) (oi := { dst := some 17, op := Op.move (Operand.tmp 0), type := 76, pos := "heap.go:78", after := #[], guard := none }) (d := 17) (v := ?_) rfl rfl (by kernel_rfl) (by kernel_rfl) (by kernel_rfl) (fun _ _ _ h => h) (Or.inl ⟨by rfl, ?_⟩) ?_
  rotate_left
  · (intro w' _; go_simp; (try with_reducible rfl))
  simp only [List.setIfInBounds_toArray, List.set_cons_zero, List.set_cons_succ]
  refine wpAnyD_takeP (i := 8) (oi := { dst := some 18, op := Op.nilCheck (Operand.tmp 17), type := 0, pos := "heap.go:78", after := #[{ on := 7, ground := Ground.data }], guard := none }) (d := 18) (v := ?_) rfl rfl (by kernel_rfl) (by kernel_rfl) (by kernel_rfl) (fun _ _ _ h => h) (Or.inl ⟨by rfl, ?_⟩) ?_
  rotate_left
  · (intro w' _; go_simp; (try with_reducible rfl))
  simp only [List.setIfInBounds_toArray, List.set_cons_zero, List.set_cons_succ]
  refine wpAnyD_takeP (i := 9) (oi := { dst := some 19, op := Op.fieldAddr 117 (Operand.tmp 18) 1, type := 0, pos := "heap.go:78", after := #[{ on := 8, ground := Ground.data }], guard := none }) (d := 19) (v := ?_) rfl rfl (by kernel_rfl) (by kernel_rfl) (by kernel_rfl) (fun _ _ _ h => h) (Or.inl ⟨by rfl, ?_⟩) ?_
  rotate_left
  · (intro w' _; go_simp; (try with_reducible rfl))
  simp only [List.setIfInBounds_toArray, List.set_cons_zero, List.set_cons_succ]
  refine wpAnyD_takeD (i := 4) (oi := { dst := some 14, op := Op.load 115 (Operand.tmp 13), type := 115, pos := "heap.go:78", after := #[{ on := 3, ground := Ground.data }], guard := none }) (d := 14) (v := ?_) rfl rfl (by kernel_rfl) (by kernel_rfl) (by kernel_rfl) (by kernel_rfl) (fun _ _ _ h => h) (Or.inl ⟨by rfl, ?_⟩) hHeld ?_
  rotate_left
  · (intro w' hSw; (try dsimp only at hSw); go_simp; (try with_reducible rfl))
  simp only [List.setIfInBounds_toArray, List.set_cons_zero, List.set_cons_succ]
  refine wpAnyD_takeD (i := 10) (oi := { dst := some 20, op := Op.load 3 (Operand.tmp 19), type := 3, pos := "heap.go:78", after := #[{ on := 9, ground := Ground.data }], guard := none }) (d := 20) (v := ?_) rfl rfl (by kernel_rfl) (by kernel_rfl) (by kernel_rfl) (by kernel_rfl) (fun _ _ _ h => h) (Or.inl ⟨by rfl, ?_⟩) hHeld ?_
  rotate_left
  · (intro w' hSw; (try dsimp only at hSw); go_simp; (try with_reducible rfl))
  simp only [List.setIfInBounds_toArray, List.set_cons_zero, List.set_cons_succ]
  refine wpAnyD_takeP (i := 11) (oi := { dst := some 21, op := Op.build 121 #[(0, Operand.tmp 15), (1, Operand.tmp 16), (2, Operand.tmp 20)], type := 121, pos := "heap.go:78", after := #[{ on := 5, ground := Ground.data }, { on := 6, ground := Ground.data }, { on := 10, ground := Ground.data }], guard := none }) (d := 21) (v := ?_) rfl rfl (by kernel_rfl) (by kernel_rfl) (by kernel_rfl) (fun _ _ _ h => h) (Or.inl ⟨by rfl, ?_⟩) ?_
  rotate_left
  · (intro w' _; go_simp; (try with_reducible rfl))
  simp only [List.setIfInBounds_toArray, List.set_cons_zero, List.set_cons_succ]
  refine wpAnyD_takeD (i := 12) (oi := { dst := some 22, op := Op.load 105 (Operand.tmp 7), type := 105, pos := "heap.go:78", after := #[], guard := none }) (d := 22) (v := ?_) rfl rfl (by kernel_rfl) (by kernel_rfl) (by kernel_rfl) (by kernel_rfl) (fun _ _ _ h => h) (Or.inl ⟨by rfl, ?_⟩) hHeld ?_
  rotate_left
  · (intro w' hSw; (try dsimp only at hSw); go_simp; (try with_reducible rfl))
  simp only [List.setIfInBounds_toArray, List.set_cons_zero, List.set_cons_succ]
  refine wpAnyD_takeP (i := 13) (oi := { dst := some 23, op := Op.build 123 #[(0, Operand.tmp 21), (1, Operand.tmp 22)], type := 123, pos := "heap.go:78", after := #[{ on := 11, ground := Ground.data }, { on := 12, ground := Ground.data }], guard := none }) (d := 23) (v := ?_) rfl rfl (by kernel_rfl) (by kernel_rfl) (by kernel_rfl) (fun _ _ _ h => h) (Or.inl ⟨by rfl, ?_⟩) ?_
  rotate_left
  · (intro w' _; go_simp; (try with_reducible rfl))
  simp only [List.setIfInBounds_toArray, List.set_cons_zero, List.set_cons_succ]
  refine wpAnyD_one (i := 14) (o := { dst := some 24, op := Op.buildSlice 115 1 #[(0, Operand.tmp 23)], type := 115, pos := "heap.go:78", after := #[{ on := 13, ground := Ground.data }], guard := none }) (by kernel_rfl) rfl (by rfl) (fun K hK => ?_)
  go_simp; have hbl := (Below.refl W0.heap.size W0).alloc (Nat.le_refl _) (.cells #[.int .i64 r, .int .i64 p, .int .i64 turn, .int .i64 xi, .int .i64 xa, .int .i64 xb] 123); have h := And.intro (below_cell hbl (Nat.le_refl _) hHeld.1) (And.intro (below_cell hbl (Nat.le_refl _) hHeld.2.1) (And.intro (below_cell hbl (Nat.le_refl _) hHeld.2.2.1) (And.intro (below_cell hbl (Nat.le_refl _) hHeld.2.2.2.1) (below_cell hbl (Nat.le_refl _) hHeld.2.2.2.2)))); clear hbl
  refine hK.out _ _ h (fun hHeld => ?_)
  clear hK K
  try simp only [Act.put, List.setIfInBounds_toArray, List.set_cons_zero, List.set_cons_succ]
  refine wpAnyD_one (i := 15) (o := { dst := some 25, op := Op.call { callee := Callee.builtin Builtin.append, args := #[Operand.tmp 14, Operand.tmp 24], argTypes := #[115, 115] }, type := 115, pos := "heap.go:78", after := #[{ on := 4, ground := Ground.data }, { on := 14, ground := Ground.data }], guard := none }) (by kernel_rfl) rfl (by rfl) (fun K hK => ?_)
  refine wp_app_one base 115 123 (.agg #[.int .i64 0, .int .i64 0, .int .i64 0, .int .i64 0, .int .i64 0, .int .i64 0]) 6 48 [_, _, _, _, _, _] 1 _ _ rfl Try.underlying115 info_th rfl (by decide) _ _ _ rfl _ rfl rfl rfl (by intro u hu; simp at hu; rcases hu with rfl | rfl | rfl | rfl | rfl | rfl <;> rfl) HD.out.row (by omega) (by omega) (Nat.le_trans HBASE.out HK.out.size) ?_; intro v' w1 hown1 hg1 hnew; obtain ⟨A1, cA1, rfl⟩ := own_slice hown1; have hk1 : Keep (heapF hb A) W0 w1 := Keep.of_grown hg1 (fun g hg => .inr (own_addr HD.out.row g hg)); have b1 := (Keep.of_grown (F := fun g => (Value.slice A l.length c).ownBlock = some g) hg1 (fun g hg => hg)).blk HD.out.blk (row_ne HD.out.row HD.out.blk (by decide)); have b5 := (Keep.of_grown (F := fun g => (Value.slice A l.length c).ownBlock = some g) hg1 (fun g hg => hg)).blk HNB.out (fun e => Nat.lt_irrefl _ (HX.out _ e)); have h := And.intro (blk_cell b1 0) (And.intro (blk_cell b1 1) (And.intro (blk_cell b5 0) (And.intro (blk_cell b5 1) (blk_cell b5 2)))); clear b5
  refine hK.out _ _ h (fun hHeld => ?_)
  clear hK K
  try simp only [Act.put, List.setIfInBounds_toArray, List.set_cons_zero, List.set_cons_succ]
  refine wpAnyD_takeP (i := 16) (oi := { dst := some 26, op := Op.nilCheck (Operand.tmp 10), type := 0, pos := "heap.go:78", after := #[{ on := 0, ground := Ground.data }, { on := 0, ground := Ground.phase }, { on := 1, ground := Ground.phase }, { on := 2, ground := Ground.phase }, { on := 3, ground := Ground.phase }, { on := 4, ground := Ground.phase }, { on := 5, ground := Ground.phase }, { on := 6, ground := Ground.phase }, { on := 7, ground := Ground.phase }, { on := 8, ground := Ground.phase }, { on := 9, ground := Ground.phase }, { on := 10, ground := Ground.phase }, { on := 11, ground := Ground.phase }, { on := 12, ground := Ground.phase }, { on := 13, ground := Ground.phase }, { on := 14, ground := Ground.phase }, { on := 15, ground := Ground.phase }], guard := none }) (d := 26) (v := ?_) rfl rfl (by kernel_rfl) (by kernel_rfl) (by kernel_rfl) (fun _ _ _ h => h) (Or.inl ⟨by rfl, ?_⟩) ?_
  rotate_left
  · (intro w' _; go_simp; (try with_reducible rfl))
  simp only [List.setIfInBounds_toArray, List.set_cons_zero, List.set_cons_succ]
  refine wpAnyD_takeP (i := 17) (oi := { dst := some 27, op := Op.fieldAddr 117 (Operand.tmp 26) 0, type := 0, pos := "heap.go:78", after := #[{ on := 16, ground := Ground.data }, { on := 0, ground := Ground.phase }, { on := 1, ground := Ground.phase }, { on := 2, ground := Ground.phase }, { on := 3, ground := Ground.phase }, { on := 4, ground := Ground.phase }, { on := 5, ground := Ground.phase }, { on := 6, ground := Ground.phase }, { on := 7, ground := Ground.phase }, { on := 8, ground := Ground.phase }, { on := 9, ground := Ground.phase }, { on := 10, ground := Ground.phase }, { on := 11, ground := Ground.phase }, { on := 12, ground := Ground.phase }, { on := 13, ground := Ground.phase }, { on := 14, ground := Ground.phase }, { on := 15, ground := Ground.phase }], guard := none }) (d := 27) (v := ?_) rfl rfl (by kernel_rfl) (by kernel_rfl) (by kernel_rfl) (fun _ _ _ h => h) (Or.inl ⟨by rfl, ?_⟩) ?_
  rotate_left
  · (intro w' _; go_simp; (try with_reducible rfl))
  simp only [List.setIfInBounds_toArray, List.set_cons_zero, List.set_cons_succ]
  refine wpAnyD_last (D := 18) (by decide) (o := { dst := none, op := Op.store 115 (Operand.tmp 27) (Operand.tmp 25), type := 0, pos := "heap.go:78", after := #[{ on := 17, ground := Ground.data }, { on := 15, ground := Ground.data }, { on := 15, ground := Ground.chain }, { on := 0, ground := Ground.phase }, { on := 1, ground := Ground.phase }, { on := 2, ground := Ground.phase }, { on := 3, ground := Ground.phase }, { on := 4, ground := Ground.phase }, { on := 5, ground := Ground.phase }, { on := 6, ground := Ground.phase }, { on := 7, ground := Ground.phase }, { on := 8, ground := Ground.phase }, { on := 9, ground := Ground.phase }, { on := 10, ground := Ground.phase }, { on := 11, ground := Ground.phase }, { on := 12, ground := Ground.phase }, { on := 13, ground := Ground.phase }, { on := 14, ground := Ground.phase }, { on := 15, ground := Ground.phase }], guard := none }) (by kernel_rfl) rfl (by rfl) (fun K hK => ?_)
  have z0 := blk_froz b1 0; have c0 := hHeld.1; go_simp
  refine hK.out _ _ ?_
  clear hK K
  try simp only [Act.put, List.setIfInBounds_toArray, List.set_cons_zero, List.set_cons_succ]
  refine wpAnyD_done (by kernel_rfl) ?_ _
  have b2 := blk_set b1 0 (.slice A1 (l.length + 1) cA1)
  simp only [List.setIfInBounds_toArray, List.set_cons_zero] at b2
  have HNR : Hid (NewRow w A A1) := Lib.hid (by
    obtain ⟨g, cap, e1, _, _, _⟩ := own_open hown1 (by omega)
    injection e1 with e1
    subst e1
    rcases hnew with e | ⟨g', e, hg⟩
    · exact .inl (own_addr HD.out.row g e.symm).symm
    · have e : some g = some g' := e
      injection e with e
      subst e
      exact .inr ⟨g, rfl, Nat.le_trans HK.out.size hg⟩)
  have hne : ∀ g, (Value.slice A1 (l.length + 1) cA1).ownBlock = some g → ¬ g = hb := fun g hg e => row_ne hown1 b1 (by decide) (by rw [hg, e])
  have K3 : ∀ (W : World) (i : Nat) (u : Value), Keep (fun g => g = hb) W (W.setCell ⟨hb, i, none⟩ u) := fun W i u => Keep.setCell (F := fun g => g = hb) (p := ⟨hb, i, none⟩) (Keep.refl _ _) (Or.inl rfl) _
  have hrow2 := own_keep (own_keep hown1 (K3 _ 0 (.slice A1 (l.length + 1) cA1)) hne) (K3 _ 1 (.int .i64 (turn + 1))) hne
  have b3 := blk_set b2 1 (.int .i64 (turn + 1))
  simp only [List.setIfInBounds_toArray, List.set_cons_zero, List.set_cons_succ] at b3
  have e0 := blk_cell b2 0
  have e1 := blk_cell b2 1
  have f1 := blk_froz b2 1
  have e3 := blk_cell b3 0
  simp only [List.getElem?_toArray, List.getElem?_cons_zero, List.getElem?_cons_succ] at e0 e1 e3
  have HK2 := Lib.hid ((HK.out.trans hk1 (fun g hg => .inl hg)).setCell (p := ⟨hb, 0, none⟩) (.inl (.inl rfl)) (.slice A1 (l.length + 1) cA1) |>.setCell (p := ⟨hb, 1, none⟩) (.inl (.inl rfl)) (.int .i64 (turn + 1)))
  have HN : Hid (HeapWs ((w1.setCell ⟨hb, 0, none⟩ (.slice A1 (l.length + 1) cA1)).setCell ⟨hb, 1, none⟩ (.int .i64 (turn + 1))) base hb (l ++ [⟨r, p, turn, ⟨xi, xa, xb⟩⟩]) (turn + 1) A1 cA1) := Lib.hid (by
    refine ⟨?_, ?_, HD.out.le⟩
    · rw [List.length_append]; exact b3
    · rw [List.length_append, List.flatMap_append]; simpa [encTh] using hrow2)
  clear hHeld h c0 z0 b1 b2 b3 hown1 hg1 hnew hk1 hne K3 hrow2
  generalize w1.setCell ⟨hb, 0, none⟩ (.slice A1 (l.length + 1) cA1) = W2 at *
  go_upto_region 4 with fail
  generalize W2.setCell ⟨hb, 1, none⟩ (.int .i64 (turn + 1)) = W3 at *
  have wl : IntKind.i64.wrap ((l.length : Int) + 1 - 1) = (l.length : Int) := by rw [IntWalk.i64_in _ (by omega)]; omega
  go_wp2_with fail
  refine (up_any HN.out l.length (by simp) (by simp; omega)).mono ?_
  rintro e w4 ⟨rfl, h4, hk4⟩
  have H4 := Lib.hid h4
  have HK4 := Lib.hid (HK2.out.trans hk4 (fun g hg => by
    rcases HNR.out with e | ⟨g', e, hg'⟩
    · exact .inl (.inr (by rw [← e]; exact hg))
    · rw [e] at hg
      injection hg with hg
      injection hg with hg
      subst hg
      exact .inr hg'))
  clear h4 hk4
  go_wp2_with fail
  go_end0
  exact ⟨rfl, ⟨_, _, H4.out, HNR.out⟩, HK4.out⟩

theorem own_take {w : World} {base n m c : Nat} {e : TypeId} {size : Nat} {A : Option Addr} {xs : List Value} (h : w.ownsRow base e size (.slice A n c) n xs) (hm : m ≤ n) (h0 : 0 < n) : w.ownsRow base e size (.slice A m c) m (xs.take (m * size)) := by
  obtain ⟨hl, h⟩ := h
  rcases h with ⟨_, h2⟩ | ⟨g, cap, cur, e1, hb, hg, hc1, hc2, hc3, ht⟩
  · omega
  · injection e1 with e1 e2 e3
    subst e1; subst e3
    refine ⟨?_, .inr ⟨g, c, cur, rfl, hb, hg, by omega, hc2, hc3, ?_⟩⟩
    · rw [List.length_take, hl]
      exact Nat.min_eq_left (Nat.mul_le_mul_right _ hm)
    · rw [← ht, List.take_take, Nat.min_eq_left (Nat.mul_le_mul_right _ hm)]
theorem take_flat (l : List (Th Wt)) : ∀ m, (l.take m).flatMap encTh = (l.flatMap encTh).take (m * 6) := by
  induction l with
  | nil => intro m; simp
  | cons a l ih =>
    intro m
    cases m with
    | zero => simp
    | succ m =>
      rw [List.take_succ_cons, List.flatMap_cons, List.flatMap_cons, ih, List.take_append, List.take_of_length_le (l := encTh a) (by rw [encTh_len]; omega), encTh_len]
      have : (m + 1) * 6 - 6 = m * 6 := by omega
      rw [this]
theorem own_cap {w : World} {base n c : Nat} {e : TypeId} {size : Nat} {A : Option Addr} {xs : List Value} (h : w.ownsRow base e size (.slice A n c) n xs) : n ≤ c := by
  rcases h.2 with ⟨e1, e2⟩ | ⟨g, cap, cur, e1, hb, hg, hc1, _⟩
  · injection e1 with _ _ e3; omega
  · injection e1 with _ _ e3; omega

theorem put_wt {V : World} {g : Nat} {a b c : Value} (h : V.heap[g]? = some (.cells #[a, b, c] 105)) (x y z : Int) :
    (((V.setCell ⟨g, 0, none⟩ (.int .i64 x)).setCell ⟨g, 1, none⟩ (.int .i64 y)).setCell ⟨g, 2, none⟩ (.int .i64 z)).heap[g]? = some (.cells #[.int .i64 x, .int .i64 y, .int .i64 z] 105) := by
  simpa using blk_set (blk_set (blk_set h 0 (.int .i64 x)) 1 (.int .i64 y)) 2 (.int .i64 z)
theorem pop_none {w : World} {base hb : Nat} {turn : Int} {A : Option Addr} {c : Nat} (h : HeapWs w base hb [] turn A c) : Calls Try.prog 53 #[.pointer (some ⟨hb, 0, none⟩)] w fun e w' => e = .returned (.tuple #[wtV ⟨0, 0, 0⟩, .int .i64 0, .int .i64 0, .bool false]) ∧ Below w.heap.size w w' := by
  have HBW := Lib.hid ((Below.refl w.heap.size w).alloc (Nat.le_refl _) (.cells #[.int .i64 0, .int .i64 0, .int .i64 0] 105))
  have hh := h.below HBW.out (Nat.le_refl _)
  have HP := Lib.hid (by simpa only [wtV] using peek_none hh)
  have hs1 : (w.alloc (.cells #[.int .i64 0, .int .i64 0, .int .i64 0] 105)).heap.size = w.heap.size + 1 := by simp
  have HN := Lib.hid (blk_new w (.cells #[.int .i64 0, .int .i64 0, .int .i64 0] 105))
  generalize hW1 : w.alloc (.cells #[.int .i64 0, .int .i64 0, .int .i64 0] 105) = W1 at *
  have HS1 := Lib.hid hs1
  replace hW1 := Lib.hid hW1
  clear h hs1 hh
  go_enter Try.func53, Try.ntmps53
  go_wp2_with fail
  rw [hW1.out]
  refine HP.out.mono ?_
  rintro e w2 ⟨rfl, hb2⟩
  have HB2 := Lib.hid (HBW.out.trans (hb2.mono (by rw [HS1.out]; exact Nat.le_succ _)))
  have HN2 := Lib.hid (blk_below hb2 (by rw [HS1.out]; exact Nat.lt_succ_self _) HN.out)
  have hz2 := hb2.size
  clear hb2 HP
  go_upto_region 7 with fail
  replace HB2 := Lib.hid (HB2.out.alloc HB2.out.size (.cells #[.int .i64 0, .int .i64 0, .int .i64 0] 105))
  replace HN2 := Lib.hid (blk_alloc HN2.out (.cells #[.int .i64 0, .int .i64 0, .int .i64 0] 105))
  have n0 := blk_cell (blk_new w2 (.cells #[.int .i64 0, .int .i64 0, .int .i64 0] 105)) 0
  have n1 := blk_cell (blk_new w2 (.cells #[.int .i64 0, .int .i64 0, .int .i64 0] 105)) 1
  have n2 := blk_cell (blk_new w2 (.cells #[.int .i64 0, .int .i64 0, .int .i64 0] 105)) 2
  have HG := Lib.hid (Nat.le_trans (by rw [HS1.out]; exact Nat.lt_succ_self _) hz2)
  generalize w2.alloc (.cells #[.int .i64 0, .int .i64 0, .int .i64 0] 105) = W3 at *
  have z0 := blk_froz HN2.out 0
  have z1 := blk_froz HN2.out 1
  have z2 := blk_froz HN2.out 2
  have c0 := blk_cell HN2.out 0
  have c1 := blk_cell HN2.out 1
  have c2 := blk_cell HN2.out 2
  simp only [List.getElem?_toArray, List.getElem?_cons_zero, List.getElem?_cons_succ] at n0 n1 n2 c0 c1 c2
  go_wp2_with fail
  refine ret_cell_tmp3 rfl rfl rfl rfl rfl (load_wt (blk_cell (put_wt HN2.out 0 0 0) 0) (blk_cell (put_wt HN2.out 0 0 0) 1) (blk_cell (put_wt HN2.out 0 0 0) 2)) ⟨rfl, ?_⟩
  exact ((HB2.out.setCell (p := ⟨_, 0, none⟩) (Nat.le_refl _) _).setCell (p := ⟨_, 1, none⟩) (Nat.le_refl _) _).setCell (p := ⟨_, 2, none⟩) (Nat.le_refl _) _

set_option maxHeartbeats 4000000 in
theorem pop_h {w : World} {base hb : Nat} {l : List (Th Wt)} {turn : Int} {A : Option Addr} {c : Nat} (h : HeapWs w base hb l turn A c) (hl : 0 < l.length) (hlen : l.length < 1000000000) :
    Calls Try.prog 53 #[.pointer (some ⟨hb, 0, none⟩)] w fun e w' => e = .returned (.tuple #[wtV l[0].x, .int .i64 l[0].r, .int .i64 l[0].p, .bool true]) ∧ HeapWs w' base hb (popT l) turn A c ∧ Keep (heapF hb A) w w' := by
  have HX := Lib.hid (own_lt h.row)
  have HHB := Lib.hid (blk_lt h.blk)
  have HBW := Lib.hid ((Below.refl w.heap.size w).alloc (Nat.le_refl _) (.cells #[.int .i64 0, .int .i64 0, .int .i64 0] 105))
  have hh := h.below HBW.out (Nat.le_refl _)
  have HP := Lib.hid (by simpa only [wtV] using peek_h hh hl)
  have HH := Lib.hid hh
  have hs1 : (w.alloc (.cells #[.int .i64 0, .int .i64 0, .int .i64 0] 105)).heap.size = w.heap.size + 1 := by simp
  have HN := Lib.hid (blk_new w (.cells #[.int .i64 0, .int .i64 0, .int .i64 0] 105))
  generalize hW1 : w.alloc (.cells #[.int .i64 0, .int .i64 0, .int .i64 0] 105) = W1 at *
  have HS1 := Lib.hid hs1
  replace hW1 := Lib.hid hW1
  clear hs1
  unfold wtV
  generalize l[0].x = x0 at *
  obtain ⟨xi, xa, xb⟩ := x0
  simp only at HP
  generalize l[0].r = r0 at *
  generalize l[0].p = p0 at *
  clear h hh
  go_enter Try.func53, Try.ntmps53
  go_wp2_with fail
  rw [hW1.out]
  refine HP.out.mono ?_
  rintro e w2 ⟨rfl, hb2⟩
  have HZ2 := Lib.hid (Nat.lt_of_lt_of_le (by rw [HS1.out]; exact Nat.lt_succ_self _) hb2.size)
  replace HBW := Lib.hid ((HBW.out.trans (hb2.mono (by rw [HS1.out]; exact Nat.le_succ _))).alloc (Nat.le_of_lt HZ2.out) (.cells #[.int .i64 xi, .int .i64 xa, .int .i64 xb] 105))
  replace HH := Lib.hid ((HH.out.below hb2 (Nat.le_refl _)).below ((Below.refl w2.heap.size w2).alloc (Nat.le_refl _) (.cells #[.int .i64 xi, .int .i64 xa, .int .i64 xb] 105)) (Nat.le_refl _))
  replace HN := Lib.hid (blk_alloc (blk_below hb2 (by rw [HS1.out]; exact Nat.lt_succ_self _) HN.out) (.cells #[.int .i64 xi, .int .i64 xa, .int .i64 xb] 105))
  have HN6 := Lib.hid (blk_new w2 (.cells #[.int .i64 xi, .int .i64 xa, .int .i64 xb] 105))
  have h0 := blk_cell HH.out.blk 0
  simp only [List.getElem?_toArray, List.getElem?_cons_zero, List.getElem?_cons_succ] at h0
  have wl : IntKind.i64.wrap ((l.length : Int) - 1) = ((l.length - 1 : Nat) : Int) := by rw [IntWalk.i64_in _ (by omega)]; omega
  clear hb2 HP
  go_upto_region 3 with fail
  generalize w2.alloc (.cells #[.int .i64 xi, .int .i64 xa, .int .i64 xb] 105) = W3 at *
  have HK1 : Hid (Keep (heapF hb A) w W3) := Lib.hid (Keep.of_below HBW.out)
  have HA2 : Hid (∀ g, A = some ⟨g, 0, none⟩ → g < w.heap.size) := Lib.hid (fun g hg => HX.out g (addr_own hg))
  go_wp2_with fail
  have hsw := swap_any HH.out 0 (l.length - 1) hl (by omega) (by omega)
  rw [show ((0 : Nat) : Int) = 0 from rfl] at hsw
  refine hsw.mono ?_
  rintro e w4 ⟨rfl, h2, hk2⟩
  have HK2 := Lib.hid (HK1.out.trans hk2 (fun g hg => .inl (.inr hg)))
  replace HN := Lib.hid (hk2.blk HN.out (fun e => Nat.lt_irrefl _ (HA2.out _ e)))
  replace HN6 := Lib.hid (hk2.blk HN6.out (fun e => Nat.lt_asymm (HA2.out _ e) HZ2.out))
  obtain ⟨g, rfl, _⟩ := HH.out.at 0 hl
  have H2 := Lib.hid h2
  have e0 := blk_cell h2.blk 0
  have f0 := blk_froz h2.blk 0
  simp only [List.getElem?_toArray, List.getElem?_cons_zero, List.getElem?_cons_succ] at e0
  rw [swap_len] at e0
  have hcap := own_cap HH.out.row
  obtain ⟨q, hq⟩ : ∃ q, l.length - 1 = q := ⟨_, rfl⟩
  have HQ := Lib.hid hq
  rw [hq] at h2 H2 ⊢
  have q0 : (0 : Int) ≤ (q : Int) := by omega
  have q1 : (q : Int) ≤ (c : Int) := by omega
  have q2 : q ≤ c := by omega
  have hlq : l.length = q + 1 := by omega
  have b3 := blk_set h2.blk 0 (.slice (some ⟨g, 0, none⟩) q c)
  simp only [List.setIfInBounds_toArray, List.set_cons_zero] at b3
  have K3 : Keep (fun x => x = hb) w4 (w4.setCell ⟨hb, 0, none⟩ (.slice (some ⟨g, 0, none⟩) q c)) := Keep.setCell (F := fun x => x = hb) (p := ⟨hb, 0, none⟩) (Keep.refl _ _) (Or.inl rfl) _
  have hne : ∀ x, (Value.slice (some ⟨g, 0, none⟩) (swapT l 0 q).length c).ownBlock = some x → ¬ x = hb := fun x hx e => row_ne h2.row h2.blk (by decide) (by rw [hx, e])
  have hrow := own_take (own_keep h2.row K3 hne) (m := q) (by rw [swap_len]; omega) (by rw [swap_len]; omega)
  rw [← take_flat] at hrow
  have htl : ((swapT l 0 q).take q).length = q := by rw [List.length_take, swap_len]; omega
  have HNN : Hid (HeapWs (w4.setCell ⟨hb, 0, none⟩ (.slice (some ⟨g, 0, none⟩) q c)) base hb ((swapT l 0 q).take q) turn (some ⟨g, 0, none⟩) c) := Lib.hid ⟨by rw [htl]; exact b3, by rw [htl]; exact hrow, h2.le⟩
  have HK3 := Lib.hid (HK2.out.setCell (p := ⟨hb, 0, none⟩) (.inl (.inl rfl)) (.slice (some ⟨g, 0, none⟩) q c))
  replace HN := Lib.hid (K3.blk HN.out (fun e => Nat.lt_irrefl _ (e ▸ HHB.out)))
  replace HN6 := Lib.hid (K3.blk HN6.out (fun e => Nat.lt_asymm (e ▸ HHB.out) HZ2.out))
  have HPOP := Lib.hid (show downT ((swapT l 0 q).take q) 0 = popT l from by unfold popT; rw [HQ.out])
  have HTL := Lib.hid htl
  clear h2 hk2 h0 wl hq hsw b3 K3 hne hrow htl hlq
  go_upto_region 6 with fail
  generalize w4.setCell ⟨hb, 0, none⟩ (.slice (some ⟨g, 0, none⟩) q c) = w5 at *
  go_wp2_with fail
  refine (down_any HNN.out (by rw [HTL.out]; have := HQ.out; omega)).mono ?_
  rintro e w6 ⟨rfl, h4, hk4⟩
  rw [HPOP.out] at h4
  have H4 := Lib.hid h4
  have HK4 := Lib.hid (HK3.out.trans hk4 (fun x hx => .inl (.inr hx)))
  replace HN := Lib.hid (hk4.blk HN.out (fun e => Nat.lt_irrefl _ (HA2.out _ e)))
  replace HN6 := Lib.hid (hk4.blk HN6.out (fun e => Nat.lt_asymm (HA2.out _ e) HZ2.out))
  clear h4 hk4 H2 HNN HK3 HK2 e0 f0
  have n0 := blk_cell HN6.out 0
  have n1 := blk_cell HN6.out 1
  have n2 := blk_cell HN6.out 2
  have z0 := blk_froz HN.out 0
  have z1 := blk_froz HN.out 1
  have z2 := blk_froz HN.out 2
  have c0 := blk_cell HN.out 0
  have c1 := blk_cell HN.out 1
  have c2 := blk_cell HN.out 2
  simp only [List.getElem?_toArray, List.getElem?_cons_zero, List.getElem?_cons_succ] at n0 n1 n2 c0 c1 c2
  go_wp2_with fail
  have HP6 := put_wt HN.out xi xa xb
  have KF : Keep (fun x => x = w.heap.size) w6 (((w6.setCell ⟨w.heap.size, 0, none⟩ (.int .i64 xi)).setCell ⟨w.heap.size, 1, none⟩ (.int .i64 xa)).setCell ⟨w.heap.size, 2, none⟩ (.int .i64 xb)) := (((Keep.refl (fun x => x = w.heap.size) w6).setCell (p := ⟨w.heap.size, 0, none⟩) (.inl rfl) _).setCell (p := ⟨w.heap.size, 1, none⟩) (.inl rfl) _).setCell (p := ⟨w.heap.size, 2, none⟩) (.inl rfl) _
  refine ret_cell_tmp3 rfl rfl rfl rfl rfl (load_wt (blk_cell HP6 0) (blk_cell HP6 1) (blk_cell HP6 2)) ⟨rfl, H4.out.keep KF ?_, HK4.out.trans KF (fun x hx => .inr (Nat.le_of_eq hx.symm))⟩
  rintro x (rfl | hx) e
  · subst e; exact Nat.lt_irrefl _ HHB.out
  · subst e; exact Nat.lt_irrefl _ (HA2.out _ hx)
end Go.Proofs.Ytpkmcokkapfnmaa.hw
/- Layer 5 (chain): nodes in a row against the chain of those that live; what waits; one step of the queue: the plain law. -/
namespace Go.Proofs.Ytpkmcokkapfnmaa
set_option linter.unusedVariables false
set_option linter.unusedSimpArgs false

/-- a node: its token, who is ahead, who is next -/
abbrev Node := Int × Int × Int
def lastI (p : List Nd) : Int := (p.getLast?.map Prod.fst).getD (-1)
def headI (q : List Nd) : Int := (q.head?.map Prod.fst).getD (-1)
theorem lastI_nil : lastI [] = -1 := rfl
theorem headI_nil : headI [] = -1 := rfl
theorem lastI_snoc (p : List Nd) (x : Nd) : lastI (p ++ [x]) = x.1 := by simp [lastI]
theorem lastI_mid (p u : List Nd) (x y : Nd) : lastI (p ++ y :: (u ++ [x])) = x.1 := by
  have : p ++ y :: (u ++ [x]) = (p ++ y :: u) ++ [x] := by simp
  rw [this, lastI_snoc]
theorem headI_cons (x : Nd) (q : List Nd) : headI (x :: q) = x.1 := rfl

/-- N's nodes, of which those of L live -/
structure Lives (N : List Node) (L : List Nd) : Prop where
  at_ : ∀ (p : List Nd) (i a : Int) (q : List Nd), L = p ++ (i, a) :: q → ∃ k : Nat, i = k ∧ N[k]? = some (a, lastI p, headI q)
  dead : ∀ (k : Nat) (x : Node), N[k]? = some x → (∀ a : Int, ((k : Int), a) ∉ L) → x.1 = -2
  first : N ≠ [] → ∃ (a : Int) (q : List Nd), L = (0, a) :: q
  nn : ∀ x ∈ L, 0 ≤ x.2 ∧ x.2 < 1000000
  srt : L.Pairwise (fun x y => x.1 < y.1)

def idN (v : Int) (x : Node) : Node := (v, x.2.1, x.2.2)
def aheadN (v : Int) (x : Node) : Node := (x.1, v, x.2.2)
def nextN (v : Int) (x : Node) : Node := (x.1, x.2.1, v)
def aftI : Option Nat → Int
  | none => -1
  | some k => k
def aheadO (N : List Node) (i : Nat) : Option Nat → List Node
  | none => N
  | some k => N.modify k (aheadN i)
/-- i takes in the next one, j; k is behind that -/
def joinN (N : List Node) (i j : Nat) (r : Int) (k : Option Nat) : List Node :=
  aheadO (((N.modify j (idN (-2))).modify i (idN r)).modify i (nextN (aftI k))) i k
theorem joinN_len (N : List Node) (i j : Nat) (r : Int) (k : Option Nat) : (joinN N i j r k).length = N.length := by
  cases k <;> simp [joinN, aheadO]
theorem joinN_at (N : List Node) (i j : Nat) (r : Int) (k : Option Nat) (m : Nat) :
    (joinN N i j r k)[m]? = (N[m]?).map (fun x => (if m = i then r else if m = j then -2 else x.1, if k = some m then (i : Int) else x.2.1, if m = i then aftI k else x.2.2)) := by
  cases h : N[m]? with
  | none =>
    rw [List.getElem?_eq_none_iff] at h
    rw [Option.map_none, List.getElem?_eq_none_iff, joinN_len]
    exact h
  | some x =>
    cases k with
    | none =>
      simp only [joinN, aheadO, List.getElem?_modify, h]
      by_cases h1 : i = m
      · subst h1
        by_cases h2 : j = i
        · subst h2; simp [idN, nextN, aftI]
        · simp [idN, nextN, aftI, h2]
      · by_cases h2 : j = m
        · subst h2; simp [idN, nextN, aftI, h1, Ne.symm h1]
        · simp [idN, nextN, aftI, h1, h2, Ne.symm h1, Ne.symm h2]
    | some k =>
      simp only [joinN, aheadO, List.getElem?_modify, h]
      by_cases h3 : k = m
      · subst h3
        by_cases h1 : i = k
        · subst h1
          by_cases h2 : j = i
          · subst h2; simp [idN, nextN, aheadN, aftI]
          · simp [idN, nextN, aheadN, aftI, h2]
        · by_cases h2 : j = k
          · subst h2; simp [idN, nextN, aheadN, aftI, h1, Ne.symm h1]
          · simp [idN, nextN, aheadN, aftI, h1, h2, Ne.symm h1, Ne.symm h2]
      · by_cases h1 : i = m
        · subst h1
          by_cases h2 : j = i
          · subst h2; simp [idN, nextN, aheadN, aftI, h3]
          · simp [idN, nextN, aheadN, aftI, h2, h3]
        · by_cases h2 : j = m
          · subst h2; simp [idN, nextN, aheadN, aftI, h1, Ne.symm h1, h3]
          · simp [idN, nextN, aheadN, aftI, h1, h2, Ne.symm h1, Ne.symm h2, h3]

/-- the first place of what is behind -/
def kOf (L2 : List Nd) : Option Nat := L2.head?.map (fun x => x.1.toNat)

theorem Lives.place {N : List Node} {L : List Nd} (h : Lives N L) {x : Nd} (hx : x ∈ L) : ∃ k : Nat, x.1 = k ∧ k < N.length := by
  obtain ⟨p, q, rfl⟩ := List.append_of_mem hx
  obtain ⟨k, h1, h2⟩ := h.at_ p x.1 x.2 q rfl
  exact ⟨k, h1, (List.getElem?_eq_some_iff.1 h2).1⟩

theorem Lives.aft {N : List Node} {L1 L2 : List Nd} {x : Nd} (h : Lives N (L1 ++ x :: L2)) : aftI (kOf L2) = headI L2 := by
  rcases L2 with _ | ⟨y, L2⟩
  · rfl
  · obtain ⟨k, h1, _⟩ := h.place (x := y) (by simp)
    show aftI (some y.1.toNat) = y.1
    show ((y.1.toNat : Nat) : Int) = y.1
    omega

theorem Lives.join {N : List Node} {L1 L2 : List Nd} {i j : Nat} {a b r : Int} (h : Lives N (L1 ++ ((i : Int), a) :: ((j : Int), b) :: L2)) (hr : 0 ≤ r ∧ r < 1000000) :
    Lives (joinN N i j r (kOf L2)) (L1 ++ ((i : Int), r) :: L2) := by
  have hs := h.srt
  have hs1 := (List.pairwise_append.1 hs).1
  have hs2 := (List.pairwise_append.1 hs).2.1
  have hs3 := (List.pairwise_append.1 hs).2.2
  have hs4 := (List.pairwise_cons.1 hs2).2
  have hij : (i : Int) < j := (List.pairwise_cons.1 hs2).1 ((j : Int), b) (by simp)
  have hsrt : (L1 ++ ((i : Int), r) :: L2).Pairwise (fun x y => x.1 < y.1) := by
    rw [List.pairwise_append]
    refine ⟨hs1, ?_, ?_⟩
    · rw [List.pairwise_cons]
      exact ⟨fun x hx => (List.pairwise_cons.1 hs2).1 x (List.mem_cons_of_mem _ hx), (List.pairwise_cons.1 hs4).2⟩
    · intro x hx y hy
      rcases List.mem_cons.1 hy with rfl | hy
      · exact hs3 x hx ((i : Int), a) (by simp)
      · exact hs3 x hx y (by simp [hy])
  have hL1 : ∀ x ∈ L1, x.1 < i := fun x hx => hs3 x hx ((i : Int), a) (by simp)
  have hL2 : ∀ x ∈ L2, (j : Int) < x.1 := fun x hx => (List.pairwise_cons.1 hs4).1 x hx
  have hk : ∀ m : Nat, kOf L2 = some m → ∃ c q, L2 = ((m : Int), c) :: q := by
    intro m hm
    rcases L2 with _ | ⟨y, L2⟩
    · simp [kOf] at hm
    · simp only [kOf, List.head?_cons, Option.map_some, Option.some.injEq] at hm
      have := hL2 y (by simp)
      refine ⟨y.2, L2, ?_⟩
      have : y.1 = (m : Int) := by omega
      rw [← this]
  refine ⟨?_, ?_, ?_, ?_, hsrt⟩
  · intro p x c q heq
    rcases List.append_eq_append_iff.1 heq with ⟨u, hu1, hu2⟩ | ⟨u, hu1, hu2⟩
    · -- p = L1 ++ u
      rcases u with _ | ⟨y, u⟩
      · simp at hu2
        obtain ⟨⟨rfl, rfl⟩, rfl⟩ := hu2
        simp only [List.append_nil] at hu1
        subst hu1
        obtain ⟨m, e1, hm⟩ := h.at_ p i a _ rfl
        have e1 : i = m := by omega
        subst e1
        refine ⟨i, rfl, ?_⟩
        have haft := Lives.aft (N := N) (L1 := p ++ [((i : Int), a)]) (x := ((j : Int), b)) (L2 := L2) (by simpa using h)
        rw [joinN_at, hm]
        have hne : kOf L2 ≠ some i := by
          intro e
          obtain ⟨c', q', e'⟩ := hk i e
          have := hL2 ((i : Int), c') (by rw [e']; simp)
          simp at this
          omega
        simp [hne, haft]
      · simp at hu2
        obtain ⟨rfl, hq⟩ := hu2
        obtain ⟨m, e1, hm⟩ := h.at_ (L1 ++ ((i : Int), a) :: ((j : Int), b) :: u) x c q (by rw [hq]; simp)
        subst e1
        have hlt : (j : Int) < (m : Int) := hL2 ((m : Int), c) (by rw [hq]; simp)
        refine ⟨m, rfl, ?_⟩
        rw [joinN_at, hm, hu1]
        rcases List.eq_nil_or_concat u with rfl | ⟨u', y, rfl⟩
        · have hkm : kOf L2 = some m := by rw [hq]; simp [kOf]
          have h1 : m ≠ i := by omega
          have h2 : m ≠ j := by omega
          have e2 : lastI (L1 ++ [((i : Int), r)]) = i := lastI_snoc _ _
          simp [hkm, h1, h2, e2]
        · have h1 : m ≠ i := by omega
          have h2 : m ≠ j := by omega
          have h3 : kOf L2 ≠ some m := by
            intro e
            obtain ⟨c', q', e'⟩ := hk m e
            have hs5 := (List.pairwise_cons.1 hs4).2
            rw [hq, List.concat_eq_append] at hs5
            rw [hq, List.concat_eq_append] at e'
            have hy : y ∈ u' ++ [y] := by simp
            have h6 := (List.pairwise_append.1 hs5).2.2
            rcases u' with _ | ⟨z, u'⟩
            · simp at e'
              have := h6 y (by simp) ((m : Int), c) (by simp)
              rw [e'.1] at this
              simp at this
            · simp at e'
              have := h6 z (by simp) ((m : Int), c) (by simp)
              rw [e'.1] at this
              simp at this
          rw [List.concat_eq_append]
          have e2 : lastI (L1 ++ ((i : Int), r) :: (u' ++ [y])) = y.1 := lastI_mid _ _ _ _
          have e3 : lastI (L1 ++ ((i : Int), a) :: ((j : Int), b) :: (u' ++ [y])) = y.1 := by
            have : L1 ++ ((i : Int), a) :: ((j : Int), b) :: (u' ++ [y]) = (L1 ++ [((i : Int), a)]) ++ ((j : Int), b) :: (u' ++ [y]) := by simp
            rw [this, lastI_mid]
          simp [h1, h2, h3, e2, e3]
    · -- L1 = p ++ u
      rcases u with _ | ⟨y, u⟩
      · simp at hu2
        obtain ⟨⟨rfl, rfl⟩, rfl⟩ := hu2
        simp only [List.append_nil] at hu1
        subst hu1
        obtain ⟨m, e1, hm⟩ := h.at_ L1 i a _ rfl
        have e1 : i = m := by omega
        subst e1
        refine ⟨i, rfl, ?_⟩
        have haft := Lives.aft (N := N) (L1 := L1 ++ [((i : Int), a)]) (x := ((j : Int), b)) (L2 := q) (by simpa using h)
        rw [joinN_at, hm]
        have hne : kOf q ≠ some i := by
          intro e
          obtain ⟨c', q', e'⟩ := hk i e
          have := hL2 ((i : Int), c') (by rw [e']; simp)
          simp at this
          omega
        simp [hne, haft]
      · simp at hu2
        obtain ⟨rfl, hq⟩ := hu2
        obtain ⟨m, e1, hm⟩ := h.at_ p x c (u ++ ((i : Int), a) :: ((j : Int), b) :: L2) (by rw [hu1]; simp)
        subst e1
        have hlt : (m : Int) < i := hL1 ((m : Int), c) (by rw [hu1]; simp)
        have h1 : m ≠ i := by omega
        have h2 : m ≠ j := by omega
        have h3 : kOf L2 ≠ some m := by
          intro e
          obtain ⟨c', q', e'⟩ := hk m e
          have := hL2 ((m : Int), c') (by rw [e']; simp)
          simp at this
          omega
        refine ⟨m, rfl, ?_⟩
        rw [joinN_at, hm, hq]
        have e2 : headI (u ++ ((i : Int), a) :: ((j : Int), b) :: L2) = headI (u ++ ((i : Int), r) :: L2) := by cases u <;> rfl
        simp [h1, h2, h3, e2]
  · intro m x hx hno
    rw [joinN_at, Option.map_eq_some_iff] at hx
    obtain ⟨y, hy, rfl⟩ := hx
    by_cases h1 : m = i
    · subst h1
      exact absurd (by simp) (hno r)
    · by_cases h2 : m = j
      · subst h2; simp [h1]
      · simp only [h1, h2, if_false]
        refine h.dead m y hy (fun c hc => ?_)
        rw [List.mem_append, List.mem_cons, List.mem_cons] at hc
        rcases hc with hc | hc | hc | hc
        · exact hno c (by simp [hc])
        · simp at hc; omega
        · simp at hc; omega
        · exact hno c (by simp [hc])
  · intro hne
    have hN : N ≠ [] := by
      intro e
      subst e
      apply hne
      apply List.eq_nil_of_length_eq_zero
      rw [joinN_len]; rfl
    obtain ⟨c, q, e⟩ := h.first hN
    rcases L1 with _ | ⟨y, L1⟩
    · simp at e
      exact ⟨r, L2, by rw [List.nil_append, e.1.1]; rfl⟩
    · simp at e
      exact ⟨c, L1 ++ ((i : Int), r) :: L2, by rw [e.1]; rfl⟩
  · intro x hx
    rw [List.mem_append, List.mem_cons] at hx
    rcases hx with hx | rfl | hx
    · exact h.nn x (by simp [hx])
    · exact hr
    · exact h.nn x (by simp [hx])
end Go.Proofs.Ytpkmcokkapfnmaa
/- Layer 5 (chain): what waits; the beginning, and each step of the queue: the plain law. -/
namespace Go.Proofs.Ytpkmcokkapfnmaa
set_option linter.unusedVariables false
set_option linter.unusedSimpArgs false

/-- a node and the next one wait, if they may become one -/
def askQ (P : Int → Int → Option Int) (Q : List (Th Wt)) (turn i a : Int) : List Nd → List (Th Wt) × Int
  | [] => (Q, turn)
  | y :: _ => match P a y.2 with
    | some r => (pushT Q ⟨r, i, turn, ⟨i, a, y.2⟩⟩, turn + 1)
    | none => (Q, turn)
/-- the last one of those ahead asks -/
def askL (P : Int → Int → Option Int) (Q : List (Th Wt)) (turn : Int) (p q : List Nd) : List (Th Wt) × Int :=
  match p.getLast? with
  | none => (Q, turn)
  | some x => askQ P Q turn x.1 x.2 q
section
variable {P : Int → Int → Option Int} {Q : List (Th Wt)} {turn i a : Int} {q : List Nd}
theorem askQ_mem {e : Th Wt} (h : e ∈ (askQ P Q turn i a q).1) : e ∈ Q ∨ (P e.x.a e.x.b = some e.r ∧ e.p = e.x.i ∧ e.x.i = i ∧ e.x.a = a) := by
  unfold askQ at h
  split at h
  · exact .inl h
  · split at h
    · rename_i r hr
      rcases List.mem_cons.1 ((push_perm _ _).mem_iff.1 h) with rfl | h
      · exact .inr ⟨hr, rfl, rfl, rfl⟩
      · exact .inl h
    · exact .inl h
theorem askQ_sub {e : Th Wt} (h : e ∈ Q) : e ∈ (askQ P Q turn i a q).1 := by
  unfold askQ
  split
  · exact h
  · split
    · exact (push_perm _ _).mem_iff.2 (List.mem_cons_of_mem _ h)
    · exact h
theorem askQ_has {y : Nd} {q' : List Nd} (e : q = y :: q') {r : Int} (hr : P a y.2 = some r) : ∃ e ∈ (askQ P Q turn i a q).1, e.r = r ∧ e.p = i ∧ e.x = ⟨i, a, y.2⟩ := by
  subst e
  simp only [askQ, hr]
  exact ⟨_, (push_perm _ _).mem_iff.2 (List.mem_cons_self), rfl, rfl, rfl⟩
theorem askQ_heap (h : HeapT Q) : HeapT (askQ P Q turn i a q).1 := by
  unfold askQ
  split
  · exact h
  · split
    · exact push_heap _ _ h
    · exact h
theorem askQ_len : (askQ P Q turn i a q).1.length ≤ Q.length + 1 ∧ turn ≤ (askQ P Q turn i a q).2 ∧ (askQ P Q turn i a q).2 ≤ turn + 1 := by
  unfold askQ
  split
  · exact ⟨Nat.le_succ _, by omega, by omega⟩
  · split
    · exact ⟨by rw [push_len]; omega, by omega, by omega⟩
    · exact ⟨Nat.le_succ _, by omega, by omega⟩
end
theorem askL_len {P : Int → Int → Option Int} {Q : List (Th Wt)} {turn : Int} {p q : List Nd} : (askL P Q turn p q).1.length ≤ Q.length + 1 ∧ turn ≤ (askL P Q turn p q).2 ∧ (askL P Q turn p q).2 ≤ turn + 1 := by
  unfold askL
  split
  · exact ⟨Nat.le_succ _, by omega, by omega⟩
  · exact askQ_len
structure QOk (P : Int → Int → Option Int) (n : Nat) (Q : List (Th Wt)) : Prop where
  heap : HeapT Q
  ent : ∀ e ∈ Q, P e.x.a e.x.b = some e.r ∧ e.p = e.x.i
  pos : ∀ e ∈ Q, ∃ k : Nat, e.x.i = k ∧ k < n ∧ 0 ≤ e.x.a
theorem QOk.ask {P : Int → Int → Option Int} {n : Nat} {Q : List (Th Wt)} (h : QOk P n Q) (turn a : Int) (k : Nat) (hk : k < n) (ha : 0 ≤ a) (q : List Nd) : QOk P n (askQ P Q turn k a q).1 := by
  refine ⟨askQ_heap h.heap, ?_, ?_⟩
  · intro e he
    rcases askQ_mem he with h1 | ⟨h1, h2, _⟩
    · exact h.ent e h1
    · exact ⟨h1, h2⟩
  · intro e he
    rcases askQ_mem he with h1 | ⟨h1, h2, h3, h4⟩
    · exact h.pos e h1
    · exact ⟨k, h3, hk, by rw [h4]; exact ha⟩
theorem QOk.pop {P : Int → Int → Option Int} {n : Nat} {Q : List (Th Wt)} (h : QOk P n Q) (hl : 0 < Q.length) : QOk P n (popT Q) :=
  have sub : ∀ e ∈ popT Q, e ∈ Q := fun e he => (pop_perm Q hl).mem_iff.2 (List.mem_cons_of_mem _ he)
  ⟨pop_heap _ h.heap, fun e he => h.ent e (sub e he), fun e he => h.pos e (sub e he)⟩

/-! the beginning -/
/-- the first k nodes have asked -/
structure BegS (P : Int → Int → Option Int) (L : List Nd) (n k : Nat) (Q : List (Th Wt)) (turn : Int) : Prop where
  q : QOk P n Q
  com : ∀ (i a j b : Int) (p q : List Nd), L = p ++ (i, a) :: (j, b) :: q → p.length < k → ∀ r, P a b = some r → ∃ e ∈ Q, e.r = r ∧ e.p = i ∧ e.x = ⟨i, a, b⟩
  size : Q.length ≤ k
  turn : 0 ≤ turn ∧ turn ≤ k
theorem BegS.start (P : Int → Int → Option Int) (L : List Nd) (n : Nat) : BegS P L n 0 [] 0 := by
  refine ⟨⟨?_, by simp, by simp⟩, fun i a j b p q e h => by omega, by simp, by omega⟩
  intro j hj
  simp at hj
theorem BegS.ask {P : Int → Int → Option Int} {L : List Nd} {n : Nat} {Q : List (Th Wt)} {turn : Int} {p q : List Nd} {i : Nat} {a : Int} (h : BegS P L n p.length Q turn) (e : L = p ++ ((i : Int), a) :: q) (hi : i < n) (ha : 0 ≤ a) :
    BegS P L n (p.length + 1) (askQ P Q turn i a q).1 (askQ P Q turn i a q).2 := by
  have hl := askQ_len (P := P) (Q := Q) (turn := turn) (i := i) (a := a) (q := q)
  refine ⟨h.q.ask turn a i hi ha q, ?_, ?_, ?_⟩
  · intro i' a' j b p' q' e' hk r hr
    by_cases hlt : p'.length < p.length
    · obtain ⟨x, hx, h3⟩ := h.com i' a' j b p' q' e' hlt r hr
      exact ⟨x, askQ_sub hx, h3⟩
    · have hpl : p'.length = p.length := by omega
      rw [e] at e'
      obtain ⟨rfl, e2⟩ := List.append_inj e' hpl.symm
      simp only [List.cons.injEq, Prod.mk.injEq] at e2
      obtain ⟨⟨e3, rfl⟩, e4⟩ := e2
      rw [← e3]
      exact askQ_has e4 hr
  · have := h.size; omega
  · have := h.turn; omega
theorem BegS.mach {P : Int → Int → Option Int} {L : List Nd} {n : Nat} {Q : List (Th Wt)} {turn : Int} (h : BegS P L n L.length Q turn) (hs : L.Pairwise (fun x y => x.1 < y.1)) : Mach P L Q :=
  ⟨h.q.ent, fun i a j b p q e r hr => h.com i a j b p q e (by rw [e]; simp) r hr, hs⟩

/-! the queue, step by step -/
structure RunS (P : Int → Int → Option Int) (M : List (Int × Int)) (ids0 : List Int) (N : List Node) (L : List Nd) (Q : List (Th Wt)) (turn steps : Int) (n : Nat) : Prop where
  lives : Lives N L
  nlen : N.length = n
  mach : Mach P L Q
  q : QOk P n Q
  same : seqE M 256 (idsC L) = seqE M 256 ids0
  pos : 0 ≤ steps
  steps : steps + L.length = n
  size : Q.length + 3 * L.length ≤ 4 * n
  turn : 0 ≤ turn ∧ turn + 2 * L.length ≤ 3 * n
theorem RunS.start {P : Int → Int → Option Int} {M : List (Int × Int)} {N : List Node} {L : List Nd} {Q : List (Th Wt)} {turn : Int} (hl : Lives N L) (hn : N.length = L.length) (h : BegS P L L.length L.length Q turn) : RunS P M (idsC L) N L Q turn 0 L.length :=
  ⟨hl, hn, h.mach hl.srt, h.q, rfl, Int.le_refl _, by omega, by have := h.size; omega, by have := h.turn; omega⟩
theorem RunS.fin {P : Int → Int → Option Int} {M : List (Int × Int)} {ids0 : List Int} {N : List Node} {L : List Nd} {turn steps : Int} {n : Nat} (h : RunS P M ids0 N L [] turn steps n)
    (hP : ∀ a b r, P a b = some r ↔ ∃ k : Nat, M[k]? = some (a, b) ∧ r = 256 + k) : idsC L = seqE M 256 ids0 ∧ steps = n - (seqE M 256 ids0).length := by
  have h1 := done_same hP h.mach
  rw [h.same] at h1
  refine ⟨h1.symm, ?_⟩
  rw [h1]
  have := h.steps
  unfold idsC
  rw [List.length_map]
  omega
/-- what waits is stale: passed over -/
theorem RunS.drop {P : Int → Int → Option Int} {M : List (Int × Int)} {ids0 : List Int} {N : List Node} {L : List Nd} {Q : List (Th Wt)} {turn steps : Int} {n : Nat} (h : RunS P M ids0 N L Q turn steps n) (hl : 0 < Q.length)
    (hs : ∀ p j q, L ≠ p ++ (Q[0].x.i, Q[0].x.a) :: (j, Q[0].x.b) :: q) : RunS P M ids0 N L (popT Q) turn steps n :=
  ⟨h.lives, h.nlen, h.mach.stale (pop_perm Q hl) hs, h.q.pop hl, h.same, h.pos, h.steps, by rw [pop_len]; have := h.size; omega, h.turn⟩
theorem RunS.join {P : Int → Int → Option Int} {M : List (Int × Int)} {ids0 : List Int} {N : List Node} {L1 L2 : List Nd} {Q : List (Th Wt)} {turn steps : Int} {n i j : Nat} {a b : Int}
    (h : RunS P M ids0 N (L1 ++ ((i : Int), a) :: ((j : Int), b) :: L2) Q turn steps n) (hl : 0 < Q.length) (hx : Q[0].x = ⟨i, a, b⟩)
    (hP : ∀ a b r, P a b = some r ↔ ∃ k : Nat, M[k]? = some (a, b) ∧ r = 256 + k) (hM : OkM M 256) (hr : Q[0].r < 1000000) :
    RunS P M ids0 (joinN N i j Q[0].r (kOf L2)) (L1 ++ ((i : Int), Q[0].r) :: L2)
      (askQ P (askL P (popT Q) turn L1 (((i : Int), Q[0].r) :: L2)).1 (askL P (popT Q) turn L1 (((i : Int), Q[0].r) :: L2)).2 i Q[0].r L2).1
      (askQ P (askL P (popT Q) turn L1 (((i : Int), Q[0].r) :: L2)).1 (askL P (popT Q) turn L1 (((i : Int), Q[0].r) :: L2)).2 i Q[0].r L2).2 (steps + 1) n := by
  have hp := pop_perm Q hl
  have hmem : Q[0] ∈ Q := List.getElem_mem _
  have hmin : ∀ e ∈ Q, leT Q[0] e := by
    intro e he
    obtain ⟨j', hj', rfl⟩ := List.getElem_of_mem he
    exact heap_min Q h.q.heap j' hj'
  have he0 := h.q.ent Q[0] hmem
  obtain ⟨k0, hk0, hr0⟩ := (hP _ _ _).1 he0.1
  have hr1 : 0 ≤ Q[0].r := by omega
  have hlives := h.lives.join (r := Q[0].r) ⟨hr1, hr⟩
  have hsame := join_same hP hM h.mach hmem hmin hx
  have hqp := h.q.pop hl
  generalize hR : Q[0].r = R at *
  generalize hQ1 : askL P (popT Q) turn L1 (((i : Int), R) :: L2) = Q1 at *
  have hplace : ∀ x ∈ L1 ++ ((i : Int), R) :: L2, ∃ k : Nat, x.1 = k ∧ k < n ∧ 0 ≤ x.2 := by
    intro x hx
    obtain ⟨k, h1, h2⟩ := hlives.place hx
    rw [joinN_len, h.nlen] at h2
    exact ⟨k, h1, h2, (hlives.nn x hx).1⟩
  have hl1 : QOk P n Q1.1 ∧ (∀ e ∈ popT Q, e ∈ Q1.1) ∧ Q1.1.length ≤ (popT Q).length + 1 ∧ turn ≤ Q1.2 ∧ Q1.2 ≤ turn + 1 ∧ (∀ e ∈ Q1.1, e ∈ popT Q ∨ (P e.x.a e.x.b = some e.r ∧ e.p = e.x.i)) ∧
      (∀ p i' a', L1 = p ++ [(i', a')] → ∀ r, P a' R = some r → ∃ e ∈ Q1.1, e.r = r ∧ e.p = i' ∧ e.x = ⟨i', a', R⟩) := by
    subst hQ1
    unfold askL
    rcases List.eq_nil_or_concat L1 with rfl | ⟨p', x, rfl⟩
    · refine ⟨hqp, fun e he => he, by simp, by simp, by simp; omega, fun e he => .inl he, ?_⟩
      intro p i' a' e
      simp at e
    · simp only [List.concat_eq_append, List.getLast?_concat] at *
      obtain ⟨k, hk1, hk2, hk3⟩ := hplace x (by simp)
      have hlen := askQ_len (P := P) (Q := popT Q) (turn := turn) (i := x.1) (a := x.2) (q := ((i : Int), R) :: L2)
      refine ⟨?_, fun e he => askQ_sub he, hlen.1, hlen.2.1, hlen.2.2, ?_, ?_⟩
      · rw [hk1]; exact hqp.ask turn x.2 k hk2 hk3 _
      · intro e he
        rcases askQ_mem he with h1 | ⟨h1, h2, _⟩
        · exact .inl h1
        · exact .inr ⟨h1, h2⟩
      · intro p i' a' e r hr'
        have e2 := (List.append_inj' e rfl).2
        simp at e2
        subst e2
        exact askQ_has rfl hr'
  obtain ⟨q1, q2, q3, q4, q5, q6, q7⟩ := hl1
  obtain ⟨ki, hki1, hki2, hki3⟩ := hplace ((i : Int), R) (by simp)
  have hki : i = ki := by simp at hki1; omega
  subst hki
  have hlen := askQ_len (P := P) (Q := Q1.1) (turn := Q1.2) (i := (i : Int)) (a := R) (q := L2)
  refine ⟨hlives, by rw [joinN_len]; exact h.nlen, ?_, q1.ask Q1.2 R i hki2 hr1 L2, ?_, by have := h.pos; omega, ?_, ?_, ?_⟩
  · have := Mach.join (Q'' := (askQ P Q1.1 Q1.2 i R L2).1) h.mach hp hx (fun e he => askQ_sub (q2 e he)) (fun e he => ?_) (fun p i' a' e r hr' => ?_) (fun j' b' q e r hr' => ?_)
    · rw [hR] at this
      exact this
    · rcases askQ_mem he with h1 | ⟨h1, h2, _⟩
      · exact q6 e h1
      · exact .inr ⟨h1, h2⟩
    · rw [hR] at hr' ⊢
      obtain ⟨x, hx1, hx2⟩ := q7 p i' a' e r hr'
      exact ⟨x, askQ_sub hx1, hx2⟩
    · rw [hR] at hr' ⊢
      exact askQ_has e hr'
  · rw [← hsame]; exact h.same
  · have := h.steps; simp only [List.length_append, List.length_cons] at this ⊢; omega
  · have := h.size
    have h2 := pop_len Q
    simp only [List.length_append, List.length_cons] at this ⊢; omega
  · have := h.turn; simp only [List.length_append, List.length_cons] at this ⊢; omega
end Go.Proofs.Ytpkmcokkapfnmaa
/- Layer 4 (token): Add. -/
namespace Go.Proofs.Ytpkmcokkapfnmaa
open Go.RowKit Go.Maps Go.WideMaps
set_option maxRecDepth 100000
set_option linter.unusedVariables false
set_option linter.unusedSimpArgs false

theorem bs_append (a b : List UInt8) : bs a ++ bs b = bs (a ++ b) := by
  apply ByteArray.ext
  simp [bs]

theorem addT_long {T : List Ent} {a b : Int} {X Y : List UInt8} (ha : hasT T a = true) (hb : hasT T b = true) (hx : (entT T a).1 = X) (hy : (entT T b).1 = Y) (h : 64 < (X ++ Y).length) : addT T a b = (0, 3, T) := by
  subst hx hy
  unfold addT
  rw [ha, hb, if_neg (by simp), if_pos h]
theorem addT_full {T : List Ent} {a b : Int} {X Y : List UInt8} (ha : hasT T a = true) (hb : hasT T b = true) (hx : (entT T a).1 = X) (hy : (entT T b).1 = Y) (h : ¬ 64 < (X ++ Y).length) (h1 : 1000 ≤ T.length) : addT T a b = (0, 5, T) := by
  subst hx hy
  unfold addT
  rw [ha, hb, if_neg (by simp), if_neg h, if_pos h1]
theorem addT_twice {T : List Ent} {a b : Int} {X Y : List UInt8} (ha : hasT T a = true) (hb : hasT T b = true) (hx : (entT T a).1 = X) (hy : (entT T b).1 = Y) (h : ¬ 64 < (X ++ Y).length) (h1 : ¬ 1000 ≤ T.length) (h2 : (findT T (X ++ Y)).isSome = true) : addT T a b = (0, 10, T) := by
  subst hx hy
  unfold addT
  rw [ha, hb, if_neg (by simp), if_neg h, if_neg h1, if_pos h2]
theorem addT_ok {T : List Ent} {a b : Int} {X Y : List UInt8} (ha : hasT T a = true) (hb : hasT T b = true) (hx : (entT T a).1 = X) (hy : (entT T b).1 = Y) (h : ¬ 64 < (X ++ Y).length) (h1 : ¬ 1000 ≤ T.length) (h2 : (findT T (X ++ Y)).isSome = false) : addT T a b = ((T.length : Int), 0, T ++ [(X ++ Y, a, b)]) := by
  subst hx hy
  unfold addT
  rw [ha, hb, if_neg (by simp), if_neg h, if_neg h1, if_neg (by rw [h2]; simp)]

/-- what Add leaves -/
structure Added (w w' : World) (base tb : Nat) (T' : List Ent) (sv : Value) (mb mp : Nat) : Prop where
  ex : ∃ sv', TabIs w' base tb T' sv' mb mp ∧ (sv'.ownBlock = sv.ownBlock ∨ ∃ g, sv'.ownBlock = some g ∧ w.heap.size ≤ g)
  keep : Keep (tabF tb sv mb mp) w w'

section
variable {w : World} {base tb : Nat} {T : List Ent} {sv : Value} {mb mp : Nat}
theorem add_nil (a b : Int) (w : World) : Calls Try.prog 43 #[.pointer none, .agg #[.int .i64 a, .int .i64 b]] w fun e w' => e = .returned (.tuple #[.int .i64 0, .int .i64 1]) ∧ Below w.heap.size w w' := by
  have HB := Lib.hid ((Below.refl w.heap.size w).alloc (Nat.le_refl _) (.cells #[.int .i64 a, .int .i64 b] 71))
  go_enter Try.func43, Try.ntmps43
  go_wp2_with fail
  go_ret2
  exact ⟨rfl, HB.out⟩

set_option maxHeartbeats 2000000 in
theorem add_err (a b : Int) (h : TabIs w base tb T sv mb mp) (hT : OkT T) (he : (addT T a b).2.1 ≠ 0) :
    Calls Try.prog 43 #[.pointer (some ⟨tb, 0, none⟩), .agg #[.int .i64 a, .int .i64 b]] w fun e w' => e = .returned (.tuple #[.int .i64 0, .int .i64 (addT T a b).2.1]) ∧ Below w.heap.size w w' := by
  have hb0 := (Below.refl w.heap.size w).alloc (Nat.le_refl _) (.cells #[.int .i64 a, .int .i64 b] 71)
  have HB := Lib.hid hb0
  have h0 := h.below hb0 (Nat.le_refl _)
  have bnew := blk_new w (.cells #[.int .i64 a, .int .i64 b] 71)
  have n0 := blk_cell bnew 0
  have n1 := blk_cell bnew 1
  simp only [List.getElem?_toArray, List.getElem?_cons_zero, List.getElem?_cons_succ] at n0 n1
  have HT := Lib.hid h0
  have HA := Lib.hid (has_tab a h0)
  have HE := Lib.hid he
  have HOK := Lib.hid hT
  clear h h0 bnew hb0 he hT
  go_enter Try.func43, Try.ntmps43
  go_wp2_with fail
  generalize hW : w.alloc (.cells #[.int .i64 a, .int .i64 b] 71) = W at *
  clear hW
  refine HA.out.mono ?_
  rintro e w' ⟨rfl, rfl⟩
  clear HA
  cases ha : hasT T a with
  | false =>
    go_wp2_with fail
    go_ret2
    refine ⟨?_, HB.out⟩
    simp [addT, ha]
  | true =>
    have HA := Lib.hid ha
    have HC := Lib.hid (has_tab b HT.out)
    clear ha
    go_wp2_with fail
    refine HC.out.mono ?_
    rintro e w' ⟨rfl, rfl⟩
    clear HC
    cases hb : hasT T b with
    | false =>
      go_wp2_with fail
      go_ret2
      refine ⟨?_, HB.out⟩
      simp [addT, hb]
    | true =>
      have HAB := Lib.hid hb
      obtain ⟨k, rfl, hk, ek⟩ := hasT_at HA.out
      obtain ⟨l, rfl, hl, el⟩ := hasT_at hb
      obtain ⟨ba, o, c, rfl, g0, _, _⟩ := tab_at HT.out k hk
      obtain ⟨ba', o', c', e', g1, _, _⟩ := tab_at HT.out l hl
      cases e'
      have c0 := blk_cell HT.out.blk 0
      simp only [List.getElem?_toArray, List.getElem?_cons_zero] at c0
      have hX := HOK.out.len T[k] (List.getElem_mem hk)
      have hY := HOK.out.len T[l] (List.getElem_mem hl)
      have EK := Lib.hid ek
      have EL := Lib.hid el
      have HS := Lib.hid HOK.out.small
      obtain ⟨X, hXe⟩ : ∃ X, T[k].1 = X := ⟨_, rfl⟩
      obtain ⟨Y, hYe⟩ : ∃ Y, T[l].1 = Y := ⟨_, rfl⟩
      rw [hXe] at g0 hX
      rw [hYe] at g1 hY
      have HXE := Lib.hid hXe
      have HYE := Lib.hid hYe
      have hbig : (9223372036854775807 < (bs X).size + (bs Y).size) = False := by rw [eq_iff_iff, iff_false, bs_size, bs_size]; omega
      have HX := Lib.hid hX
      have HY := Lib.hid hY
      unfold strV at g0 g1
      have q0 : 0 ≤ (k : Int) := by omega
      have q1 : (k : Int) < (T.length : Int) := by omega
      have q2 : 0 ≤ (l : Int) := by omega
      have q3 : (l : Int) < (T.length : Int) := by omega
      rename_i j1 j2 j3 j4
      clear hb ek el hXe hYe hX hY j1 j2 j3 j4
      go_wp2_with fail
      go_quiet (fail)
      rw [bs_append]
      obtain ⟨z, hz⟩ : ∃ z, bs (X ++ Y) = z := ⟨_, rfl⟩
      have hzs : z.size = (X ++ Y).length := by rw [← hz, bs_size]
      have HZ := Lib.hid hz
      have HZS := Lib.hid hzs
      rw [hz]
      clear hz hbig g0 g1 q0 q1 q2 q3 hzs
      by_cases h64 : (64 : Int) < (z.size : Int)
      · go_wp2_with fail
        go_ret2
        refine ⟨?_, below_drewN HB.out _⟩
        rw [addT_long HA.out HAB.out (by rw [EK.out, HXE.out]) (by rw [EL.out, HYE.out]) (by have := HZS.out; omega)]
        rfl
      · by_cases h1000 : (1000 : Int) ≤ (T.length : Int)
        · go_wp2_with fail
          go_ret2
          refine ⟨?_, below_drewN HB.out _⟩
          rw [addT_full HA.out HAB.out (by rw [EK.out, HXE.out]) (by rw [EL.out, HYE.out]) (by have := HZS.out; omega) (by omega)]
          rfl
        · have hkz : strV (X ++ Y) = .string z := by unfold strV; rw [HZ.out]
          have hke := key_str (X ++ Y) (by have := HX.out; have := HY.out; rw [List.length_append]; unfold maxLen; omega)
          have c1 : (w'.drewN nq).cell? ⟨tb, 1, none⟩ = _ := blk_cell HT.out.blk 1
          simp only [List.getElem?_toArray, List.getElem?_cons_zero, List.getElem?_cons_succ] at c1
          cases hf : (findT T (X ++ Y)).isSome with
          | true =>
            go_wp2_with (refine map_look 94 _ _ rfl rfl keyed_str Try.underlying94 Try.underlying3 (zero_int _) rfl (HT.out.drewN nq).bys (X ++ Y) hkz.symm hke ?_)
            go_ret2
            refine ⟨?_, below_drewN HB.out _⟩
            rw [addT_twice HA.out HAB.out (by rw [EK.out, HXE.out]) (by rw [EL.out, HYE.out]) (by have := HZS.out; omega) (by omega) hf]
            rfl
          | false =>
            exfalso
            have := HE.out
            rw [addT_ok HA.out HAB.out (by rw [EK.out, HXE.out]) (by rw [EL.out, HYE.out]) (by have := HZS.out; omega) (by omega) hf] at this
            exact this rfl
end
end Go.Proofs.Ytpkmcokkapfnmaa
/- Layer 4 (token): Add, where it adds. -/
namespace Go.Proofs.Ytpkmcokkapfnmaa
open Go.RowKit Go.Maps Go.WideMaps
set_option maxRecDepth 100000
set_option linter.unusedVariables false
set_option linter.unusedSimpArgs false

section
variable {w : World} {base tb : Nat} {T : List Ent} {sv : Value} {mb mp : Nat}
set_option maxHeartbeats 2000000 in
theorem add_ok (a b : Int) (h : TabIs w base tb T sv mb mp) (hT : OkT T) (he : (addT T a b).2.1 = 0) (hbase : base ≤ w.heap.size) :
    Calls Try.prog 43 #[.pointer (some ⟨tb, 0, none⟩), .agg #[.int .i64 a, .int .i64 b]] w fun e w' => e = .returned (.tuple #[.int .i64 (addT T a b).1, .int .i64 0]) ∧ Added w w' base tb (addT T a b).2.2 sv mb mp := by
  have hb0 := (Below.refl w.heap.size w).alloc (Nat.le_refl _) (.cells #[.int .i64 a, .int .i64 b] 71)
  have HB := Lib.hid hb0
  have h0 := h.below hb0 (Nat.le_refl _)
  have bnew := blk_new w (.cells #[.int .i64 a, .int .i64 b] 71)
  have n0 := blk_cell bnew 0
  have n1 := blk_cell bnew 1
  simp only [List.getElem?_toArray, List.getElem?_cons_zero, List.getElem?_cons_succ] at n0 n1
  have HT := Lib.hid h0
  have HA := Lib.hid (has_tab a h0)
  have HE := Lib.hid he
  have HBASE := Lib.hid hbase
  have HNEW := Lib.hid bnew
  have HOK := Lib.hid hT
  clear h h0 bnew hb0 he hT hbase
  go_enter Try.func43, Try.ntmps43
  go_wp2_with fail
  generalize hW : w.alloc (.cells #[.int .i64 a, .int .i64 b] 71) = W at *
  clear hW
  refine HA.out.mono ?_
  rintro e w' ⟨rfl, rfl⟩
  clear HA
  cases ha : hasT T a with
  | false => exact absurd HE.out (by simp [addT, ha])
  | true =>
    have HA := Lib.hid ha
    have HC := Lib.hid (has_tab b HT.out)
    clear ha
    go_wp2_with fail
    refine HC.out.mono ?_
    rintro e w' ⟨rfl, rfl⟩
    clear HC
    cases hb : hasT T b with
    | false => exact absurd HE.out (by simp [addT, hb])
    | true =>
      have HAB := Lib.hid hb
      obtain ⟨k, rfl, hk, ek⟩ := hasT_at HA.out
      obtain ⟨l, rfl, hl, el⟩ := hasT_at hb
      obtain ⟨ba, o, c, rfl, g0, _, _⟩ := tab_at HT.out k hk
      obtain ⟨ba', o', c', e', g1, _, _⟩ := tab_at HT.out l hl
      cases e'
      have c0 := blk_cell HT.out.blk 0
      simp only [List.getElem?_toArray, List.getElem?_cons_zero] at c0
      have hX := HOK.out.len T[k] (List.getElem_mem hk)
      have hY := HOK.out.len T[l] (List.getElem_mem hl)
      have EK := Lib.hid ek
      have EL := Lib.hid el
      have HS := Lib.hid HOK.out.small
      obtain ⟨X, hXe⟩ : ∃ X, T[k].1 = X := ⟨_, rfl⟩
      obtain ⟨Y, hYe⟩ : ∃ Y, T[l].1 = Y := ⟨_, rfl⟩
      rw [hXe] at g0 hX
      rw [hYe] at g1 hY
      have HXE := Lib.hid hXe
      have HYE := Lib.hid hYe
      have hbig : (9223372036854775807 < (bs X).size + (bs Y).size) = False := by rw [eq_iff_iff, iff_false, bs_size, bs_size]; omega
      have HX := Lib.hid hX
      have HY := Lib.hid hY
      unfold strV at g0 g1
      have q0 : 0 ≤ (k : Int) := by omega
      have q1 : (k : Int) < (T.length : Int) := by omega
      have q2 : 0 ≤ (l : Int) := by omega
      have q3 : (l : Int) < (T.length : Int) := by omega
      rename_i j1 j2 j3 j4
      clear hb ek el hXe hYe hX hY j1 j2 j3 j4
      go_wp2_with fail
      go_quiet (fail)
      rw [bs_append]
      obtain ⟨z, hz⟩ : ∃ z, bs (X ++ Y) = z := ⟨_, rfl⟩
      have hzs : z.size = (X ++ Y).length := by rw [← hz, bs_size]
      have HZ := Lib.hid hz
      have HZS := Lib.hid hzs
      rw [hz]
      clear hz hbig g0 g1 q0 q1 q2 q3 hzs
      by_cases h64 : (64 : Int) < (z.size : Int)
      · exact absurd HE.out (by rw [addT_long HA.out HAB.out (by rw [EK.out, HXE.out]) (by rw [EL.out, HYE.out]) (by have := HZS.out; omega)]; simp)
      · by_cases h1000 : (1000 : Int) ≤ (T.length : Int)
        · exact absurd HE.out (by rw [addT_full HA.out HAB.out (by rw [EK.out, HXE.out]) (by rw [EL.out, HYE.out]) (by have := HZS.out; omega) (by omega)]; simp)
        · have hkz : strV (X ++ Y) = .string z := by unfold strV; rw [HZ.out]
          have hke := key_str (X ++ Y) (by have := HX.out; have := HY.out; rw [List.length_append]; unfold maxLen; omega)
          have c1 : (w'.drewN nq).cell? ⟨tb, 1, none⟩ = _ := blk_cell HT.out.blk 1
          simp only [List.getElem?_toArray, List.getElem?_cons_zero, List.getElem?_cons_succ] at c1
          cases hf : (findT T (X ++ Y)).isSome with
          | true => exact absurd HE.out (by rw [addT_twice HA.out HAB.out (by rw [EK.out, HXE.out]) (by rw [EL.out, HYE.out]) (by have := HZS.out; omega) (by omega) hf]; simp)
          | false =>
            have HADD := Lib.hid (addT_ok HA.out HAB.out (by rw [EK.out, HXE.out]) (by rw [EL.out, HYE.out]) (by have := HZS.out; omega) (by omega) hf)
            have HF := Lib.hid hf
            have HU := Lib.hid (HT.out.drewN nq)
            have HBU := Lib.hid (below_drewN HB.out nq)
            have HNU := Lib.hid (blk_drewN HNEW.out nq)
            have n0u : (w'.drewN nq).cell? ⟨w.heap.size, 0, none⟩ = _ := n0
            have n1u : (w'.drewN nq).cell? ⟨w.heap.size, 1, none⟩ = _ := n1
            have c0u : (w'.drewN nq).cell? ⟨tb, 0, none⟩ = _ := c0
            have HKE := Lib.hid hke
            have HKZ := Lib.hid hkz
            clear n0 n1 c0 HT HB HNEW
            go_upto_region 14 with (refine map_look 94 _ _ rfl rfl keyed_str Try.underlying94 Try.underlying3 (zero_int _) rfl HU.out.bys (X ++ Y) hkz.symm hke ?_)
            generalize hU : w'.drewN nq = U at *
            have c2u : U.cell? ⟨tb, 2, none⟩ = _ := blk_cell HU.out.blk 2
            simp only [List.getElem?_toArray, List.getElem?_cons_zero, List.getElem?_cons_succ] at c2u
            have HRT := Lib.hid (row_ne HU.out.row HU.out.blk (by decide))
            have HRR := Lib.hid (row_ne HU.out.row HNU.out (by decide))
            have HRB := Lib.hid (HU.out.bys.row_ne HU.out.row)
            have HRP := Lib.hid (HU.out.prs.row_ne HU.out.row)
            have HBT := Lib.hid (HU.out.bys.blk_ne HU.out.blk)
            have HPT := Lib.hid (HU.out.prs.blk_ne HU.out.blk)
            have HBR := Lib.hid (HU.out.bys.blk_ne HNU.out)
            have HPR := Lib.hid (HU.out.prs.blk_ne HNU.out)
            have hrt : w.heap.size ≠ tb := by
              intro e
              have h1 := HNU.out
              rw [e, HU.out.blk] at h1
              simp at h1
            have hown := own_drew HU.out.row
            have HGEN := Lib.hid (show base ≤ U.drew.heap.size from Nat.le_trans HBASE.out HBU.out.size)
            have HKU : Hid (Keep (fun _ => False) w U) := Lib.hid (Keep.of_below HBU.out)
            clear hU hke hkz hf
            have HOWN := Lib.hid hown
            have hs1000 := HS.out
            clear hown
            refine wp_region_G (D := 12) (S := fun V => V.cell? ⟨tb, 0, none⟩ = some (.slice (some ⟨ba, o, none⟩) T.length c) ∧ V.cell? ⟨w.heap.size, 0, none⟩ = some (.int .i64 (k : Int)) ∧ V.cell? ⟨w.heap.size, 1, none⟩ = some (.int .i64 (l : Int))) (by kernel_rfl) (by exact ⟨c0u, n0u, n1u⟩) (fun hHeld => ?_)
            refine wpAnyG_takeD (i := 0) (oi := { dst := some 69, op := Op.move (Operand.tmp 0), type := 24, pos := "token.go:121", after := #[], guard := none }) (d := 69) (v := ?_) rfl rfl (by kernel_rfl) (by kernel_rfl) (by kernel_rfl) (by kernel_rfl) (fun _ _ _ h => h) (Or.inl ⟨by rfl, ?_⟩) hHeld ?_
            rotate_left
            · (intro w' hSw; (try dsimp only at hSw); go_simp; (try with_reducible rfl))
            simp only [List.setIfInBounds_toArray, List.set_cons_zero, List.set_cons_succ]
            refine wpAnyG_takeD (i := 1) (oi := { dst := some 70, op := Op.move (Operand.tmp 0), type := 24, pos := "token.go:121", after := #[], guard := none }) (d := 70) (v := ?_) rfl rfl (by kernel_rfl) (by kernel_rfl) (by kernel_rfl) (by kernel_rfl) (fun _ _ _ h => h) (Or.inl ⟨by rfl, ?_⟩) hHeld ?_
            rotate_left
            · (intro w' hSw; (try dsimp only at hSw); go_simp; (try with_reducible rfl))
            simp only [List.setIfInBounds_toArray, List.set_cons_zero, List.set_cons_succ]
            refine wpAnyG_takeD (i := 2) (oi := { dst := some 71, op := Op.nilCheck (Operand.tmp 70), type := 0, pos := "token.go:121", after := #[{ on := 1, ground := Ground.data }], guard := none }) (d := 71) (v := ?_) rfl rfl (by kernel_rfl) (by kernel_rfl) (by kernel_rfl) (by kernel_rfl) (fun _ _ _ h => h) (Or.inl ⟨by rfl, ?_⟩) hHeld ?_
            rotate_left
            · (intro w' hSw; (try dsimp only at hSw); go_simp; (try with_reducible rfl))
            simp only [List.setIfInBounds_toArray, List.set_cons_zero, List.set_cons_succ]
            refine wpAnyG_takeD (i := 3) (oi := { dst := some 72, op := Op.fieldAddr 97 (Operand.tmp 71) 0, type := 0, pos := "token.go:121", after := #[{ on := 2, ground := Ground.data }], guard := none }) (d := 72) (v := ?_) rfl rfl (by kernel_rfl) (by kernel_rfl) (by kernel_rfl) (by kernel_rfl) (fun _ _ _ h => h) (Or.inl ⟨by rfl, ?_⟩) hHeld ?_
            rotate_left
            · (intro w' hSw; (try dsimp only at hSw); go_simp; (try with_reducible rfl))
            simp only [List.setIfInBounds_toArray, List.set_cons_zero, List.set_cons_succ]
            refine wpAnyG_takeD (i := 4) (oi := { dst := some 73, op := Op.load 90 (Operand.tmp 72), type := 90, pos := "token.go:121", after := #[{ on := 3, ground := Ground.data }], guard := none }) (d := 73) (v := ?_) rfl rfl (by kernel_rfl) (by kernel_rfl) (by kernel_rfl) (by kernel_rfl) (fun _ _ _ h => h) (Or.inl ⟨by rfl, ?_⟩) hHeld ?_
            rotate_left
            · (intro w' hSw; (try dsimp only at hSw); go_simp; (try with_reducible rfl))
            simp only [List.setIfInBounds_toArray, List.set_cons_zero, List.set_cons_succ]
            refine wpAnyG_takeD (i := 5) (oi := { dst := some 74, op := Op.move (Operand.tmp 6), type := 9, pos := "token.go:121", after := #[], guard := none }) (d := 74) (v := ?_) rfl rfl (by kernel_rfl) (by kernel_rfl) (by kernel_rfl) (by kernel_rfl) (fun _ _ _ h => h) (Or.inl ⟨by rfl, ?_⟩) hHeld ?_
            rotate_left
            · (intro w' hSw; (try dsimp only at hSw); go_simp; (try with_reducible rfl))
            simp only [List.setIfInBounds_toArray, List.set_cons_zero, List.set_cons_succ]
            refine wpAnyG_takeD (i := 6) (oi := { dst := some 75, op := Op.load 71 (Operand.tmp 3), type := 71, pos := "token.go:121", after := #[], guard := none }) (d := 75) (v := ?_) rfl rfl (by kernel_rfl) (by kernel_rfl) (by kernel_rfl) (by kernel_rfl) (fun _ _ _ h => h) (Or.inl ⟨by rfl, ?_⟩) hHeld ?_
            rotate_left
            · (intro w' hSw; (try dsimp only at hSw); go_simp; (try with_reducible rfl))
            simp only [List.setIfInBounds_toArray, List.set_cons_zero, List.set_cons_succ]
            refine wpAnyG_takeD (i := 7) (oi := { dst := some 76, op := Op.build 93 #[(0, Operand.tmp 74), (1, Operand.tmp 75)], type := 93, pos := "token.go:121", after := #[{ on := 5, ground := Ground.data }, { on := 6, ground := Ground.data }], guard := none }) (d := 76) (v := ?_) rfl rfl (by kernel_rfl) (by kernel_rfl) (by kernel_rfl) (by kernel_rfl) (fun _ _ _ h => h) (Or.inl ⟨by rfl, ?_⟩) hHeld ?_
            rotate_left
            · (intro w' hSw; (try dsimp only at hSw); go_simp; (try with_reducible rfl))
            simp only [List.setIfInBounds_toArray, List.set_cons_zero, List.set_cons_succ]
            refine wpAnyG_one (i := 8) (o := { dst := some 77, op := Op.buildSlice 90 1 #[(0, Operand.tmp 76)], type := 90, pos := "token.go:121", after := #[{ on := 7, ground := Ground.data }], guard := none }) (by kernel_rfl) rfl (by rfl) (fun K hK => ?_)
            go_simp; have hbl := (Below.refl U.drew.heap.size U.drew).alloc (Nat.le_refl _) (.cells #[.string z, .int .i64 (k : Int), .int .i64 (l : Int)] 93); have h := And.intro (below_cell hbl (Nat.le_refl _) hHeld.1) (And.intro (below_cell hbl (Nat.le_refl _) hHeld.2.1) (below_cell hbl (Nat.le_refl _) hHeld.2.2)); clear hbl
            refine hK.out _ _ h (fun hHeld => ?_)
            clear hK K
            try simp only [Act.put, List.setIfInBounds_toArray, List.set_cons_zero, List.set_cons_succ]
            refine wpAnyG_one (i := 9) (o := { dst := some 78, op := Op.call { callee := Callee.builtin Builtin.append, args := #[Operand.tmp 73, Operand.tmp 77], argTypes := #[90, 90] }, type := 90, pos := "token.go:121", after := #[{ on := 4, ground := Ground.data }, { on := 8, ground := Ground.data }], guard := none }) (by kernel_rfl) rfl (by rfl) (fun K hK => ?_)
            refine wp_app_one base 90 93 (.agg #[.string ⟨#[]⟩, .int .i64 0, .int .i64 0]) 3 32 [_, _, _] 1 _ _ rfl Try.underlying90 info_ent rfl (by decide) _ _ _ rfl _ rfl rfl rfl (by intro u hu; simp at hu; rcases hu with rfl | rfl | rfl <;> rfl) HOWN.out (by omega) (by omega) HGEN.out ?_; intro v' w1 hown1 hg1 hnew; obtain ⟨A1, cA1, rfl⟩ := own_slice hown1; have hk1 : Keep (fun g => (Value.slice (some ⟨ba, o, none⟩) T.length c).ownBlock = some g) U w1 := ((Keep.refl _ U).drew).trans (Keep.of_grown hg1 (fun g hg => hg)) (fun x hx => .inl hx); have b1 := hk1.blk HU.out.blk HRT.out; have r1 := hk1.blk HNU.out HRR.out; have h := And.intro (blk_cell b1 0) (And.intro (blk_cell r1 0) (blk_cell r1 1))
            refine hK.out _ _ h (fun hHeld => ?_)
            clear hK K
            try simp only [Act.put, List.setIfInBounds_toArray, List.set_cons_zero, List.set_cons_succ]
            refine wpAnyG_one (i := 10) (o := { dst := some 79, op := Op.nilCheck (Operand.tmp 69), type := 0, pos := "token.go:121", after := #[{ on := 0, ground := Ground.data }, { on := 0, ground := Ground.phase }, { on := 1, ground := Ground.phase }, { on := 2, ground := Ground.phase }, { on := 3, ground := Ground.phase }, { on := 4, ground := Ground.phase }, { on := 5, ground := Ground.phase }, { on := 6, ground := Ground.phase }, { on := 7, ground := Ground.phase }, { on := 8, ground := Ground.phase }, { on := 9, ground := Ground.phase }], guard := none }) (by kernel_rfl) rfl (by rfl) (fun K hK => ?_)
            go_simp
            refine hK.out _ _ hHeld (fun hHeld => ?_)
            clear hK K
            try simp only [Act.put, List.setIfInBounds_toArray, List.set_cons_zero, List.set_cons_succ]
            refine wpAnyG_takeD (i := 11) (oi := { dst := some 80, op := Op.fieldAddr 97 (Operand.tmp 79) 0, type := 0, pos := "token.go:121", after := #[{ on := 10, ground := Ground.data }, { on := 0, ground := Ground.phase }, { on := 1, ground := Ground.phase }, { on := 2, ground := Ground.phase }, { on := 3, ground := Ground.phase }, { on := 4, ground := Ground.phase }, { on := 5, ground := Ground.phase }, { on := 6, ground := Ground.phase }, { on := 7, ground := Ground.phase }, { on := 8, ground := Ground.phase }, { on := 9, ground := Ground.phase }], guard := none }) (d := 80) (v := ?_) rfl rfl (by kernel_rfl) (by kernel_rfl) (by kernel_rfl) (by kernel_rfl) (fun _ _ _ h => h) (Or.inl ⟨by rfl, ?_⟩) hHeld ?_
            rotate_left
            · (intro w' hSw; (try dsimp only at hSw); go_simp; (try with_reducible rfl))
            simp only [List.setIfInBounds_toArray, List.set_cons_zero, List.set_cons_succ]
            refine wpAnyG_last (o := { dst := none, op := Op.store 90 (Operand.tmp 80) (Operand.tmp 78), type := 0, pos := "token.go:121", after := #[{ on := 11, ground := Ground.data }, { on := 9, ground := Ground.data }, { on := 9, ground := Ground.chain }, { on := 0, ground := Ground.phase }, { on := 1, ground := Ground.phase }, { on := 2, ground := Ground.phase }, { on := 3, ground := Ground.phase }, { on := 4, ground := Ground.phase }, { on := 5, ground := Ground.phase }, { on := 6, ground := Ground.phase }, { on := 7, ground := Ground.phase }, { on := 8, ground := Ground.phase }, { on := 9, ground := Ground.phase }], guard := none }) (by kernel_rfl) rfl (by rfl) (fun K hK => ?_)
            have z0 := blk_froz b1 0; have c0 := hHeld.1; go_simp
            refine hK.out _ _ ?_
            clear hK K
            try simp only [Act.put, List.setIfInBounds_toArray, List.set_cons_zero, List.set_cons_succ]
            refine wpAnyG_done (by kernel_rfl) ?_ _
            have hF := HF.out
            have hfn : findT T (X ++ Y) = none := by
              cases hq : findT T (X ++ Y) with
              | none => rfl
              | some i => rw [hq] at hF; cases hF
            have HPN := Lib.hid (pairT_none HOK.out (a := (k : Int)) (b := (l : Int)) (by rw [EK.out, HXE.out, EL.out, HYE.out]; exact hfn) (by intro e; cases e))
            have K2 : Keep (fun g => g = tb) w1 (w1.setCell ⟨tb, 0, none⟩ (.slice A1 (T.length + 1) cA1)) := Keep.setCell (F := fun g => g = tb) (p := ⟨tb, 0, none⟩) (Keep.refl _ _) (Or.inl rfl) (.slice A1 (T.length + 1) cA1)
            have b2 := blk_set b1 0 (.slice A1 (T.length + 1) cA1)
            simp only [List.setIfInBounds_toArray, List.set_cons_zero] at b2
            have r2 := blk_far (p := ⟨tb, 0, none⟩) r1 hrt (.slice A1 (T.length + 1) cA1)
            have own2 := own_keep hown1 K2 (fun g hg e => row_ne hown1 b1 (by decide) (by rw [hg, e]))
            have bys2 := (HU.out.bys.keep hk1 HRB.out).keep K2 HBT.out
            have prs2 := (HU.out.prs.keep hk1 HRP.out).keep K2 HPT.out
            have KW2 : Keep (tabF tb (.slice (some ⟨ba, o, none⟩) T.length c) mb mp) w (w1.setCell ⟨tb, 0, none⟩ (.slice A1 (T.length + 1) cA1)) :=
              ((HKU.out.mono (fun x hx => hx.elim)).trans hk1 (fun x hx => .inl (.inr (.inl hx)))).trans K2 (fun x hx => .inl (.inl hx))
            have HNEW2 : Hid ((Value.slice A1 (T.length + 1) cA1).ownBlock = (Value.slice (some ⟨ba, o, none⟩) T.length c).ownBlock ∨ ∃ g, (Value.slice A1 (T.length + 1) cA1).ownBlock = some g ∧ w.heap.size ≤ g) :=
              Lib.hid (hnew.elim (fun e => .inl e) (fun ⟨g, e, hg⟩ => .inr ⟨g, e, Nat.le_trans HBU.out.size hg⟩))
            clear hHeld hF hnew hg1 hown1 z0 c0 c1 n0u n1u c0u c2u HOWN HGEN hs1000 b1 r1
            generalize w1.setCell ⟨tb, 0, none⟩ (.slice A1 (T.length + 1) cA1) = w2 at *
            have bys3 : MapOf Try.prog 9 3 strV w2.drew mb T.length (fun s => (findT T s).map Int.ofNat) := bys2.keep ((Keep.refl (fun _ => False) _).drew) (fun h => h)
            have prs3 : MapOf Try.prog 71 3 pairV w2.drew mp T.length (fun m => (pairT T m).map Int.ofNat) := prs2.keep ((Keep.refl (fun _ => False) _).drew) (fun h => h)
            have hlen := HS.out
            obtain ⟨st1, o1, o2, hE1, hS1, hM1⟩ := entry_new (t := 94) keyed_str Try.underlying94 Try.underlying3 zero_int strV_inj bys3 (by unfold maxLen; omega) (X ++ Y) HKE.out (by rw [hfn]; rfl) (T.length : Int) (wf_i64 (by omega) (by omega))
            rw [HKZ.out] at hE1
            have prs4 := prs3.keep (setBlock_keep (w := w2.drew) (b := mb) (o := o2)) (fun e => HU.out.ne e.symm)
            obtain ⟨st2, p1, p2, hE2, hS2, hM2⟩ := entry_new (t := 95) keyed_mrg Try.underlying95 Try.underlying3 zero_int pairV_inj prs4 (by unfold maxLen; omega) ((k : Int), (l : Int)) (key_mrg _ (wf_i64 (by omega) (by omega)) (wf_i64 (by omega) (by omega))) (by rw [HPN.out]; rfl) (T.length : Int) (wf_i64 (by omega) (by omega))
            have hmlt : mb < w2.drew.heap.size := bys3.lt
            have hplt : mp < (Go.ChangeMaps.setBlock w2.drew mb o2).heap.size := prs4.lt
            have d1 : w2.drew.heap[tb]? = _ := b2
            have e1 : w2.drew.heap[w.heap.size]? = _ := r2
            have d2 := (setBlock_keep (w := w2.drew) (b := mb) (o := o1)).blk d1 (fun e => HBT.out e.symm)
            have e2 := (setBlock_keep (w := w2.drew) (b := mb) (o := o1)).blk e1 (fun e => HBR.out e.symm)
            have d3 := (setBlock_keep (w := w2.drew) (b := mb) (o := o2)).blk d1 (fun e => HBT.out e.symm)
            have e3 := (setBlock_keep (w := w2.drew) (b := mb) (o := o2)).blk e1 (fun e => HBR.out e.symm)
            have d4 := (setBlock_keep (w := Go.ChangeMaps.setBlock w2.drew mb o2) (b := mp) (o := p1)).blk d3 (fun e => HPT.out e.symm)
            have e4 := (setBlock_keep (w := Go.ChangeMaps.setBlock w2.drew mb o2) (b := mp) (o := p1)).blk e3 (fun e => HPR.out e.symm)
            have d5 := (setBlock_keep (w := Go.ChangeMaps.setBlock w2.drew mb o2) (b := mp) (o := p2)).blk d3 (fun e => HPT.out e.symm)
            have e5 := (setBlock_keep (w := Go.ChangeMaps.setBlock w2.drew mb o2) (b := mp) (o := p2)).blk e3 (fun e => HPR.out e.symm)
            have D1 := Lib.hid d1
            have D2 := Lib.hid d2
            have D3 := Lib.hid d3
            have D4 := Lib.hid d4
            have D5 := Lib.hid d5
            have E1 := Lib.hid e1
            have E2 := Lib.hid e2
            have E3 := Lib.hid e3
            have E4 := Lib.hid e4
            have E5 := Lib.hid e5
            have RE1 := Lib.hid hE1
            have RS1 := Lib.hid (hS1 _ (setBlock_at hmlt))
            have RE2 := Lib.hid hE2
            have RS2 := Lib.hid (hS2 _ (setBlock_at hplt))
            have HM1 := Lib.hid hM1
            have HM2 := Lib.hid hM2
            have HOWN2 := Lib.hid own2
            have HBYS2 := Lib.hid bys2
            have HPRS2 := Lib.hid prs2
            have HKW2 := Lib.hid KW2
            have HB2 := Lib.hid b2
            have HR2 := Lib.hid r2
            have HHK1 := Lib.hid hk1
            clear d1 d2 d3 d4 d5 e1 e2 e3 e4 e5 hE1 hS1 hE2 hS2 hM1 hM2 own2 KW2 b2 r2 hk1 K2 bys2 prs2 bys3 prs3 prs4 hmlt hplt h
            have HFN := Lib.hid hfn
            clear hfn
            go_upto_region 15 with fail
            refine wp_region_G (D := 17) (S := fun V => V.cell? ⟨tb, 1, none⟩ = some (.map (some mb)) ∧ V.cell? ⟨tb, 2, none⟩ = some (.map (some mp)) ∧ V.cell? ⟨w.heap.size, 0, none⟩ = some (.int .i64 (k : Int)) ∧ V.cell? ⟨w.heap.size, 1, none⟩ = some (.int .i64 (l : Int))) (by kernel_rfl) (by exact ⟨blk_cell D1.out 1, blk_cell D1.out 2, blk_cell E1.out 0, blk_cell E1.out 1⟩) (fun hHeld => ?_)
            refine wpAnyG_takeD (i := 0) (oi := { dst := some 81, op := Op.move (Operand.tmp 0), type := 24, pos := "token.go:122", after := #[], guard := none }) (d := 81) (v := ?_) rfl rfl (by kernel_rfl) (by kernel_rfl) (by kernel_rfl) (by kernel_rfl) (fun _ _ _ h => h) (Or.inl ⟨by rfl, ?_⟩) hHeld ?_
            rotate_left
            · (intro w' hSw; (try dsimp only at hSw); go_simp; (try with_reducible rfl))
            simp only [List.setIfInBounds_toArray, List.set_cons_zero, List.set_cons_succ]
            refine wpAnyG_takeD (i := 1) (oi := { dst := some 82, op := Op.nilCheck (Operand.tmp 81), type := 0, pos := "token.go:122", after := #[{ on := 0, ground := Ground.data }], guard := none }) (d := 82) (v := ?_) rfl rfl (by kernel_rfl) (by kernel_rfl) (by kernel_rfl) (by kernel_rfl) (fun _ _ _ h => h) (Or.inl ⟨by rfl, ?_⟩) hHeld ?_
            rotate_left
            · (intro w' hSw; (try dsimp only at hSw); go_simp; (try with_reducible rfl))
            simp only [List.setIfInBounds_toArray, List.set_cons_zero, List.set_cons_succ]
            refine wpAnyG_takeD (i := 2) (oi := { dst := some 83, op := Op.fieldAddr 97 (Operand.tmp 82) 1, type := 0, pos := "token.go:122", after := #[{ on := 1, ground := Ground.data }], guard := none }) (d := 83) (v := ?_) rfl rfl (by kernel_rfl) (by kernel_rfl) (by kernel_rfl) (by kernel_rfl) (fun _ _ _ h => h) (Or.inl ⟨by rfl, ?_⟩) hHeld ?_
            rotate_left
            · (intro w' hSw; (try dsimp only at hSw); go_simp; (try with_reducible rfl))
            simp only [List.setIfInBounds_toArray, List.set_cons_zero, List.set_cons_succ]
            refine wpAnyG_takeD (i := 3) (oi := { dst := some 84, op := Op.load 94 (Operand.tmp 83), type := 94, pos := "token.go:122", after := #[{ on := 2, ground := Ground.data }], guard := none }) (d := 84) (v := ?_) rfl rfl (by kernel_rfl) (by kernel_rfl) (by kernel_rfl) (by kernel_rfl) (fun _ _ _ h => h) (Or.inl ⟨by rfl, ?_⟩) hHeld ?_
            rotate_left
            · (intro w' hSw; (try dsimp only at hSw); go_simp; (try with_reducible rfl))
            simp only [List.setIfInBounds_toArray, List.set_cons_zero, List.set_cons_succ]
            refine wpAnyG_takeD (i := 4) (oi := { dst := some 85, op := Op.move (Operand.tmp 6), type := 9, pos := "token.go:122", after := #[], guard := none }) (d := 85) (v := ?_) rfl rfl (by kernel_rfl) (by kernel_rfl) (by kernel_rfl) (by kernel_rfl) (fun _ _ _ h => h) (Or.inl ⟨by rfl, ?_⟩) hHeld ?_
            rotate_left
            · (intro w' hSw; (try dsimp only at hSw); go_simp; (try with_reducible rfl))
            simp only [List.setIfInBounds_toArray, List.set_cons_zero, List.set_cons_succ]
            refine wpAnyG_takeD (i := 5) (oi := { dst := some 86, op := Op.move (Operand.tmp 0), type := 24, pos := "token.go:122", after := #[], guard := none }) (d := 86) (v := ?_) rfl rfl (by kernel_rfl) (by kernel_rfl) (by kernel_rfl) (by kernel_rfl) (fun _ _ _ h => h) (Or.inl ⟨by rfl, ?_⟩) hHeld ?_
            rotate_left
            · (intro w' hSw; (try dsimp only at hSw); go_simp; (try with_reducible rfl))
            simp only [List.setIfInBounds_toArray, List.set_cons_zero, List.set_cons_succ]
            refine wpAnyG_takeD (i := 6) (oi := { dst := some 87, op := Op.nilCheck (Operand.tmp 86), type := 0, pos := "token.go:122", after := #[{ on := 5, ground := Ground.data }], guard := none }) (d := 87) (v := ?_) rfl rfl (by kernel_rfl) (by kernel_rfl) (by kernel_rfl) (by kernel_rfl) (fun _ _ _ h => h) (Or.inl ⟨by rfl, ?_⟩) hHeld ?_
            rotate_left
            · (intro w' hSw; (try dsimp only at hSw); go_simp; (try with_reducible rfl))
            simp only [List.setIfInBounds_toArray, List.set_cons_zero, List.set_cons_succ]
            refine wpAnyG_takeD (i := 7) (oi := { dst := some 88, op := Op.fieldAddr 97 (Operand.tmp 87) 2, type := 0, pos := "token.go:122", after := #[{ on := 6, ground := Ground.data }], guard := none }) (d := 88) (v := ?_) rfl rfl (by kernel_rfl) (by kernel_rfl) (by kernel_rfl) (by kernel_rfl) (fun _ _ _ h => h) (Or.inl ⟨by rfl, ?_⟩) hHeld ?_
            rotate_left
            · (intro w' hSw; (try dsimp only at hSw); go_simp; (try with_reducible rfl))
            simp only [List.setIfInBounds_toArray, List.set_cons_zero, List.set_cons_succ]
            refine wpAnyG_takeD (i := 8) (oi := { dst := some 89, op := Op.load 95 (Operand.tmp 88), type := 95, pos := "token.go:122", after := #[{ on := 7, ground := Ground.data }], guard := none }) (d := 89) (v := ?_) rfl rfl (by kernel_rfl) (by kernel_rfl) (by kernel_rfl) (by kernel_rfl) (fun _ _ _ h => h) (Or.inl ⟨by rfl, ?_⟩) hHeld ?_
            rotate_left
            · (intro w' hSw; (try dsimp only at hSw); go_simp; (try with_reducible rfl))
            simp only [List.setIfInBounds_toArray, List.set_cons_zero, List.set_cons_succ]
            refine wpAnyG_takeD (i := 9) (oi := { dst := some 90, op := Op.load 71 (Operand.tmp 3), type := 71, pos := "token.go:122", after := #[], guard := none }) (d := 90) (v := ?_) rfl rfl (by kernel_rfl) (by kernel_rfl) (by kernel_rfl) (by kernel_rfl) (fun _ _ _ h => h) (Or.inl ⟨by rfl, ?_⟩) hHeld ?_
            rotate_left
            · (intro w' hSw; (try dsimp only at hSw); go_simp; (try with_reducible rfl))
            simp only [List.setIfInBounds_toArray, List.set_cons_zero, List.set_cons_succ]
            refine wpAnyG_takeD (i := 10) (oi := { dst := some 91, op := Op.move (Operand.tmp 9), type := 3, pos := "token.go:122", after := #[{ on := 12, ground := Ground.gcOnly Departure.tupleMapEntryFirst }], guard := none }) (d := 91) (v := ?_) rfl rfl (by kernel_rfl) (by kernel_rfl) (by kernel_rfl) (by kernel_rfl) (fun _ _ _ h => h) (Or.inl ⟨by rfl, ?_⟩) hHeld ?_
            rotate_left
            · (intro w' hSw; (try dsimp only at hSw); go_simp; (try with_reducible rfl))
            simp only [List.setIfInBounds_toArray, List.set_cons_zero, List.set_cons_succ]
            refine wpAnyG_takeD (i := 11) (oi := { dst := some 92, op := Op.move (Operand.tmp 9), type := 3, pos := "token.go:122", after := #[{ on := 14, ground := Ground.gcOnly Departure.lateStores }, { on := 15, ground := Ground.gcOnly Departure.tupleMapEntryFirst }], guard := none }) (d := 92) (v := ?_) rfl rfl (by kernel_rfl) (by kernel_rfl) (by kernel_rfl) (by kernel_rfl) (fun _ _ _ h => h) (Or.inl ⟨by rfl, ?_⟩) hHeld ?_
            rotate_left
            · (intro w' hSw; (try dsimp only at hSw); go_simp; (try with_reducible rfl))
            simp only [List.setIfInBounds_toArray, List.set_cons_zero, List.set_cons_succ]
            refine wpAnyG_one (i := 12) (o := { dst := some 93, op := Op.mapEntry 94 (Operand.tmp 84) (Operand.tmp 85), type := 0, pos := "token.go:122", after := #[{ on := 3, ground := Ground.data }, { on := 4, ground := Ground.data }, { on := 0, ground := Ground.textOnly Departure.tupleMapEntryFirst }, { on := 1, ground := Ground.textOnly Departure.tupleMapEntryFirst }, { on := 2, ground := Ground.textOnly Departure.tupleMapEntryFirst }, { on := 3, ground := Ground.textOnly Departure.tupleMapEntryFirst }, { on := 4, ground := Ground.textOnly Departure.tupleMapEntryFirst }, { on := 5, ground := Ground.textOnly Departure.lateStores }, { on := 6, ground := Ground.textOnly Departure.lateStoresUnsure }, { on := 7, ground := Ground.textOnly Departure.lateStoresUnsure }, { on := 8, ground := Ground.phase }, { on := 9, ground := Ground.textOnly Departure.lateStoresUnsure }, { on := 10, ground := Ground.textOnly Departure.tupleMapEntryFirst }, { on := 11, ground := Ground.textOnly Departure.lateStores }], guard := none }) (by kernel_rfl) rfl (by rfl) (fun K hK => ?_)
            refine wp_mapEntry 94 _ _ _ _ rfl rfl rfl RE1.out ?_; have h := And.intro (blk_cell D2.out 1) (And.intro (blk_cell D2.out 2) (And.intro (blk_cell E2.out 0) (blk_cell E2.out 1)))
            refine hK.out _ _ h (fun hHeld => ?_)
            clear hK K
            try simp only [Act.put, List.setIfInBounds_toArray, List.set_cons_zero, List.set_cons_succ]
            refine wpAnyG_takeD (i := 13) (oi := { dst := some 94, op := Op.extract (Operand.tmp 93) 1, type := 3, pos := "token.go:122", after := #[{ on := 12, ground := Ground.data }], guard := none }) (d := 94) (v := ?_) rfl rfl (by kernel_rfl) (by kernel_rfl) (by kernel_rfl) (by kernel_rfl) (fun _ _ _ h => h) (Or.inl ⟨by rfl, ?_⟩) hHeld ?_
            rotate_left
            · (intro w' hSw; (try dsimp only at hSw); go_simp; (try with_reducible rfl))
            simp only [List.setIfInBounds_toArray, List.set_cons_zero, List.set_cons_succ]
            refine wpAnyG_one (i := 14) (o := { dst := none, op := Op.entryStore 94 (Operand.tmp 84) (Operand.tmp 94) (Operand.tmp 91), type := 0, pos := "token.go:122", after := #[{ on := 3, ground := Ground.data }, { on := 13, ground := Ground.data }, { on := 10, ground := Ground.data }, { on := 12, ground := Ground.chain }, { on := 0, ground := Ground.phase }, { on := 1, ground := Ground.phase }, { on := 2, ground := Ground.phase }, { on := 3, ground := Ground.phase }, { on := 4, ground := Ground.phase }, { on := 5, ground := Ground.textOnly Departure.lateStores }, { on := 6, ground := Ground.textOnly Departure.lateStoresUnsure }, { on := 7, ground := Ground.textOnly Departure.lateStoresUnsure }, { on := 8, ground := Ground.phase }, { on := 9, ground := Ground.textOnly Departure.lateStoresUnsure }, { on := 10, ground := Ground.phase }, { on := 11, ground := Ground.textOnly Departure.lateStores }, { on := 12, ground := Ground.phase }], guard := none }) (by kernel_rfl) rfl (by rfl) (fun K hK => ?_)
            refine wp_entryStore 94 _ _ _ _ _ _ rfl rfl rfl rfl RS1.out ?_; rw [setBlock_twice]; have h := And.intro (blk_cell D3.out 1) (And.intro (blk_cell D3.out 2) (And.intro (blk_cell E3.out 0) (blk_cell E3.out 1)))
            refine hK.out _ _ h (fun hHeld => ?_)
            clear hK K
            try simp only [Act.put, List.setIfInBounds_toArray, List.set_cons_zero, List.set_cons_succ]
            refine wpAnyG_one (i := 15) (o := { dst := some 95, op := Op.mapEntry 95 (Operand.tmp 89) (Operand.tmp 90), type := 0, pos := "token.go:122", after := #[{ on := 8, ground := Ground.data }, { on := 9, ground := Ground.data }, { on := 14, ground := Ground.chain }, { on := 0, ground := Ground.phase }, { on := 1, ground := Ground.phase }, { on := 2, ground := Ground.phase }, { on := 3, ground := Ground.phase }, { on := 4, ground := Ground.phase }, { on := 5, ground := Ground.textOnly Departure.tupleMapEntryFirst }, { on := 6, ground := Ground.textOnly Departure.lateStoresUnsure }, { on := 7, ground := Ground.textOnly Departure.lateStoresUnsure }, { on := 8, ground := Ground.phase }, { on := 9, ground := Ground.textOnly Departure.lateStoresUnsure }, { on := 10, ground := Ground.phase }, { on := 11, ground := Ground.textOnly Departure.tupleMapEntryFirst }, { on := 12, ground := Ground.phase }, { on := 13, ground := Ground.phase }, { on := 14, ground := Ground.phase }], guard := none }) (by kernel_rfl) rfl (by rfl) (fun K hK => ?_)
            refine wp_mapEntry 95 _ _ _ _ rfl rfl rfl RE2.out ?_; have h := And.intro (blk_cell D4.out 1) (And.intro (blk_cell D4.out 2) (And.intro (blk_cell E4.out 0) (blk_cell E4.out 1)))
            refine hK.out _ _ h (fun hHeld => ?_)
            clear hK K
            try simp only [Act.put, List.setIfInBounds_toArray, List.set_cons_zero, List.set_cons_succ]
            refine wpAnyG_takeD (i := 16) (oi := { dst := some 96, op := Op.extract (Operand.tmp 95) 1, type := 3, pos := "token.go:122", after := #[{ on := 15, ground := Ground.data }], guard := none }) (d := 96) (v := ?_) rfl rfl (by kernel_rfl) (by kernel_rfl) (by kernel_rfl) (by kernel_rfl) (fun _ _ _ h => h) (Or.inl ⟨by rfl, ?_⟩) hHeld ?_
            rotate_left
            · (intro w' hSw; (try dsimp only at hSw); go_simp; (try with_reducible rfl))
            simp only [List.setIfInBounds_toArray, List.set_cons_zero, List.set_cons_succ]
            refine wpAnyG_last (o := { dst := none, op := Op.entryStore 95 (Operand.tmp 89) (Operand.tmp 96) (Operand.tmp 92), type := 0, pos := "token.go:122", after := #[{ on := 8, ground := Ground.data }, { on := 16, ground := Ground.data }, { on := 11, ground := Ground.data }, { on := 15, ground := Ground.chain }, { on := 0, ground := Ground.phase }, { on := 1, ground := Ground.phase }, { on := 2, ground := Ground.phase }, { on := 3, ground := Ground.phase }, { on := 4, ground := Ground.phase }, { on := 5, ground := Ground.phase }, { on := 6, ground := Ground.phase }, { on := 7, ground := Ground.phase }, { on := 8, ground := Ground.phase }, { on := 9, ground := Ground.phase }, { on := 10, ground := Ground.phase }, { on := 11, ground := Ground.phase }, { on := 12, ground := Ground.phase }, { on := 13, ground := Ground.phase }, { on := 14, ground := Ground.phase }, { on := 15, ground := Ground.phase }], guard := none }) (by kernel_rfl) rfl (by rfl) (fun K hK => ?_)
            refine wp_entryStore 95 _ _ _ _ _ _ rfl rfl rfl rfl RS2.out ?_; rw [setBlock_twice]
            refine hK.out _ _ ?_
            clear hK K
            try simp only [Act.put, List.setIfInBounds_toArray, List.set_cons_zero, List.set_cons_succ]
            refine wpAnyG_done (by kernel_rfl) ?_ _
            clear hHeld
            have KA : Keep (fun g => g = mb) w2 (Go.ChangeMaps.setBlock w2.drew mb o2) := ((Keep.refl (fun g => g = mb) w2).drew).trans setBlock_keep (fun x hx => .inl hx)
            have KB : Keep (fun g => g = mp) (Go.ChangeMaps.setBlock w2.drew mb o2) (Go.ChangeMaps.setBlock (Go.ChangeMaps.setBlock w2.drew mb o2) mp p2) := setBlock_keep
            have own3 := own_keep HOWN2.out KA (fun g hg e => HBYS2.out.row_ne HOWN2.out (by rw [hg, e]))
            have prs3 := HPRS2.out.keep KA (fun e => HU.out.ne e.symm)
            have HOWN4 := Lib.hid (own_keep own3 KB (fun g hg e => prs3.row_ne own3 (by rw [hg, e])))
            have HBY4 := Lib.hid (HM1.out.keep KB (fun e => HU.out.ne e))
            have HKW4 := Lib.hid ((HKW2.out.trans KA (fun x hx => .inl (.inr (.inr (.inl hx))))).trans KB (fun x hx => .inl (.inr (.inr (.inr hx)))))
            have c3 := blk_cell D5.out 3
            have z3 := blk_froz D5.out 3
            simp only [List.getElem?_toArray, List.getElem?_cons_zero, List.getElem?_cons_succ] at c3
            clear KA KB own3 prs3 RE1 RS1 RE2 RS2 HM1 D1 D2 D3 D4 E1 E2 E3 E4 E5 HHK1
            generalize Go.ChangeMaps.setBlock (Go.ChangeMaps.setBlock w2.drew mb o2) mp p2 = w4 at *
            have FIN : Hid (∀ M : Nat, M = max (longT T) z.size → Added w (w4.setCell ⟨tb, 3, none⟩ (.int .i64 (M : Int))) base tb (addT T (k : Int) (l : Int)).2.2 (.slice (some ⟨ba, o, none⟩) T.length c) mb mp) := by
              refine Lib.hid (fun M hM => ?_)
              have K5 : Keep (fun g => g = tb) w4 (w4.setCell ⟨tb, 3, none⟩ (.int .i64 (M : Int))) := Keep.setCell (F := fun g => g = tb) (p := ⟨tb, 3, none⟩) (Keep.refl _ _) (Or.inl rfl) _
              have b5 := blk_set D5.out 3 (.int .i64 (M : Int))
              simp only [List.setIfInBounds_toArray, List.set_cons_zero, List.set_cons_succ] at b5
              rw [HADD.out]
              have hlen1 : (T ++ [(X ++ Y, (k : Int), (l : Int))]).length = T.length + 1 := by simp
              refine ⟨⟨.slice A1 (T.length + 1) cA1, ⟨?_, ?_, ?_, ?_, HU.out.ne, HU.out.lt⟩, HNEW2.out⟩, HKW4.out.trans K5 (fun x hx => .inl (.inl hx))⟩
              · simp only []
                rw [longT_snoc]
                simp only []
                rw [← HZS.out, ← hM]
                exact b5
              · simp only []
                rw [hlen1, List.flatMap_append]
                have e5 : [((X ++ Y, (k : Int), (l : Int)) : Ent)].flatMap encE = [Value.string z, .int .i64 (k : Int), .int .i64 (l : Int)] := by simp [encE, HKZ.out]
                rw [e5]
                exact own_keep HOWN4.out K5 (fun g hg e => row_ne HOWN4.out D5.out (by decide) (by rw [hg, e]))
              · simp only []
                rw [hlen1]
                refine (HBY4.out.keep K5 HBT.out).congr (fun s => ?_)
                rw [findT_snoc _ _ _ HFN.out]
                simp only []
                split <;> rfl
              · simp only []
                rw [hlen1]
                refine (HM2.out.keep K5 HPT.out).congr (fun s => ?_)
                rw [pairT_snoc _ _ _ HPN.out (by intro e; cases e)]
                simp only []
                split <;> rfl
            obtain ⟨L, hL⟩ : ∃ L, longT T = L := ⟨_, rfl⟩
            have HLL := Lib.hid hL
            rw [hL] at c3
            clear hL
            rename_i j1 j2 j3 j4 j5 j6
            go_wp2_with fail
            all_goals
              go_ret2
              refine ⟨by rw [HADD.out]; rfl, ?_⟩
              first
                | exact FIN.out z.size (by rw [HLL.out]; omega)
                | exact FIN.out L (by rw [HLL.out]; omega)
end
end Go.Proofs.Ytpkmcokkapfnmaa
/- Layer 4 (token): New. -/
namespace Go.Proofs.Ytpkmcokkapfnmaa
open Go.RowKit Go.Maps Go.WideMaps
set_option maxRecDepth 100000
set_option linter.unusedVariables false
set_option linter.unusedSimpArgs false

/-- all that is added, if all of it can be -/
def addsT (T : List Ent) : List (Int × Int) → Option (List Ent)
  | [] => some T
  | m :: r => if (addT T m.1 m.2).2.1 = 0 then addsT (addT T m.1 m.2).2.2 r else none
theorem addsT_snoc (l : List (Int × Int)) (m : Int × Int) : ∀ T, addsT T (l ++ [m]) = (addsT T l).bind (fun T' => if (addT T' m.1 m.2).2.1 = 0 then some (addT T' m.1 m.2).2.2 else none) := by
  induction l with
  | nil => intro T; simp [addsT]
  | cons a l ih =>
    intro T
    simp only [List.cons_append, addsT]
    split
    · rw [ih]
    · rfl
theorem okT_adds (l : List (Int × Int)) : ∀ T T', OkT T → addsT T l = some T' → OkT T' := by
  induction l with
  | nil => intro T T' h e; simp only [addsT, Option.some.injEq] at e; subst e; exact h
  | cons a l ih =>
    intro T T' h e
    simp only [addsT] at e
    split at e
    · rename_i h0
      exact ih _ _ (okT_add h _ _ h0) e
    · cases e
def encM (m : Int × Int) : List Value := [.int .i64 m.1, .int .i64 m.2]

/-- New's table when k are added -/
structure NewIs (w W : World) (l : List (Int × Int)) (tb mb mp k : Nat) : Prop where
  ex : ∃ T sv, addsT baseT (l.take k) = some T ∧ OkT T ∧ TabIs W w.heap.size tb T sv mb mp
  below : Below w.heap.size w W

set_option maxHeartbeats 2000000 in
theorem new_any (l : List (Int × Int)) (A : Option Addr) (c : Nat) (w : World) (hl : Sl w A encM 2 l) (hlen : l.length < 9000000000000000000) :
    Calls Try.prog 22 #[.slice A l.length c] w fun e w' => Below w.heap.size w w' ∧
      ((∃ T tb sv mb mp, e = .returned (.tuple #[.pointer (some ⟨tb, 0, none⟩), .int .i64 (l.length : Nat), .int .i64 0]) ∧ addsT baseT l = some T ∧ OkT T ∧ TabIs w' w.heap.size tb T sv mb mp) ∨
      (∃ (k : Nat) (hk : k < l.length) (T : List Ent), addsT baseT (l.take k) = some T ∧ OkT T ∧ (addT T l[k].1 l[k].2).2.1 ≠ 0 ∧ e = .returned (.tuple #[.pointer none, .int .i64 (k : Nat), .int .i64 (addT T l[k].1 l[k].2).2.1]))) := by
  have HL := Lib.hid hl
  clear hl
  go_enter Try.func22, Try.ntmps22
  go_wp2_with fail
  refine (begin_any _).mono ?_
  rintro e w0 ⟨tb, sv, mb, mp, rfl, h0, hb0⟩
  have HS := Lib.hid (show NewIs w w0 l tb mb mp 0 from ⟨⟨baseT, sv, by simp [addsT], okT_base, h0⟩, hb0⟩)
  clear h0 hb0
  go_wp2_with fail
  go_loopg [13] l.length (fun n i W => ∃ k : Nat, k + n = l.length ∧ i = .int .i64 (k : Int) ∧ NewIs w W l tb mb mp k)
  case atStart => exact ⟨0, by omega, rfl, HS.out⟩
  case round =>
    obtain ⟨k, hk, rfl, hW⟩ := hrel
    clear HS
    rename World => W
    by_cases hlt : k < l.length
    · obtain ⟨T, sv, ha, hok, ht⟩ := hW.ex
      obtain ⟨ba, o, rfl, hc0⟩ := (HL.out.below hW.below (Nat.le_refl _)).at k hlt
      have g0 : W.cell? ⟨ba, o + k * 2, none⟩ = some (.int .i64 l[k].1) := hc0 0 _ rfl
      have g1 : W.cell? ⟨ba, o + k * 2 + 1, none⟩ = some (.int .i64 l[k].2) := hc0 1 _ rfl
      obtain ⟨x, hx⟩ : ∃ x, l[k].1 = x := ⟨_, rfl⟩
      obtain ⟨y, hy⟩ : ∃ y, l[k].2 = y := ⟨_, rfl⟩
      rw [hx] at g0
      rw [hy] at g1
      have HX := Lib.hid hx
      have HY := Lib.hid hy
      have HA := Lib.hid ha
      have HOK := Lib.hid hok
      have HT := Lib.hid ht
      have HB := Lib.hid hW.below
      have q0 : 0 ≤ (k : Int) := by omega
      have q1 : (k : Int) < (l.length : Int) := by omega
      have hb1 := (Below.refl W.heap.size W).alloc (Nat.le_refl _) (.cells #[.int .i64 l[k].1, .int .i64 l[k].2] 71)
      have HT1 := Lib.hid (ht.below hb1 (Nat.le_refl _))
      have HB1 := Lib.hid (hW.below.trans (hb1.mono hW.below.size))
      rw [hx, hy] at HT1 HB1
      clear hx hy hc0 ha hok ht hW hb1
      go_wp2_with fail
      clear g0 g1
      generalize W.alloc (.cells #[.int .i64 x, .int .i64 y] 71) = W1 at *
      by_cases he : (addT T x y).2.1 = 0
      · have HE := Lib.hid he
        refine (add_ok x y HT1.out HOK.out he HB1.out.size).mono ?_
        rintro e w' ⟨rfl, had⟩
        obtain ⟨sv', ht', hn⟩ := had.ex
        have HT2 := Lib.hid ht'
        have HB2 := Lib.hid (HB1.out.trans (had.keep.below HB1.out.size (fun g hg => by
          rcases hg with rfl | hg | rfl | rfl
          · exact HT1.out.lt.1
          · exact own_base HT1.out.row g hg
          · exact HT1.out.lt.2.1
          · exact HT1.out.lt.2.2)))
        clear ht' hn had he
        go_wp2_with fail
        go_roundg (gk - 1)
        case measure => omega
        case rel =>
          refine ⟨k + 1, by omega, by simp, ⟨⟨(addT T x y).2.2, sv', ?_, okT_add HOK.out _ _ HE.out, HT2.out⟩, HB2.out⟩⟩
          rw [take_snoc hlt, addsT_snoc, HA.out]
          simp only [Option.bind_some, HX.out, HY.out, HE.out, if_true]
      · have HE := Lib.hid he
        refine (add_err x y HT1.out HOK.out he).mono ?_
        rintro e w' ⟨rfl, hbw⟩
        have HB2 := Lib.hid (HB1.out.trans (hbw.mono HB1.out.size))
        obtain ⟨E, hE⟩ : ∃ E, (addT T x y).2.1 = E := ⟨_, rfl⟩
        have HEE := Lib.hid hE
        rw [hE] at he ⊢
        clear hbw hE
        go_wp2_with fail
        refine bodyPost_ret (results_tmp3 rfl _ _ _) rfl ⟨HB2.out, .inr ⟨k, hlt, T, HA.out, HOK.out, ?_, ?_⟩⟩
        · rw [HX.out, HY.out]; exact HE.out
        · rw [HX.out, HY.out, HEE.out]; rfl
    · have : k = l.length := by omega
      subst this
      obtain ⟨T, sv, ha, hok, ht⟩ := hW.ex
      have HA := Lib.hid ha
      have HOK := Lib.hid hok
      have HT := Lib.hid ht
      have HB := Lib.hid hW.below
      clear ha hok ht hW
      go_wp2_with fail
      refine bodyPost_ret (results_tmp3 rfl _ _ _) rfl ⟨HB.out, .inl ⟨T, tb, sv, mb, mp, rfl, ?_, HOK.out, HT.out⟩⟩
      have := HA.out
      rw [List.take_length] at this
      exact this
end Go.Proofs.Ytpkmcokkapfnmaa
/- Layer 4 (token): the document's answer: a table by value. -/
namespace Go.Proofs.Ytpkmcokkapfnmaa
open Go.RowKit Go.Maps Go.WideMaps
set_option maxRecDepth 100000
set_option linter.unusedVariables false
set_option linter.unusedSimpArgs false

theorem info_str4 : (Try.prog.info? 9).map (fun i => (i.zero, i.size, i.bytes)) = some (some (.string ⟨#[]⟩), 1, 16) := by kernel_rfl
theorem info_mrg : (Try.prog.info? 71).map (fun i => (i.zero, i.size, i.bytes)) = some (some (.agg #[.int .i64 0, .int .i64 0]), 2, 16) := by kernel_rfl

def bytsT (T : List Ent) : List (List UInt8) := T.map (·.1)
def mrgsT (T : List Ent) : List (Int × Int) := (T.drop 256).map (·.2)
/-- a table of the document's answer, by value: two lists, each with its own memory -/
structure RefIs (w : World) (base : Nat) (T : List Ent) (vb vm : Value) : Prop where
  row : w.ownsRow base 9 1 vb T.length ((bytsT T).map strV)
  mrg : w.ownsRow base 71 2 vm (mrgsT T).length ((mrgsT T).flatMap encM)
  nil : (mrgsT T).length = 0 → vm = .slice none 0 0
theorem RefIs.below {B : Nat} {w w' : World} {base : Nat} {T : List Ent} {vb vm : Value} (h : RefIs w base T vb vm) (hb : Below B w w') (hB : w.heap.size ≤ B) : RefIs w' base T vb vm := ⟨own_below h.row hb hB, own_below h.mrg hb hB, h.nil⟩
theorem RefIs.keep {F : Nat → Prop} {w w' : World} {base : Nat} {T : List Ent} {vb vm : Value} (h : RefIs w base T vb vm) (k : Keep F w w') (hF : ∀ g, F g → g < base) : RefIs w' base T vb vm :=
  ⟨own_keep h.row k (fun g hg hf => by have := own_base h.row g hg; have := hF g hf; omega), own_keep h.mrg k (fun g hg hf => by have := own_base h.mrg g hg; have := hF g hf; omega), h.nil⟩
theorem RefIs.less {w : World} {b base : Nat} {T : List Ent} {vb vm : Value} (h : RefIs w b T vb vm) (hle : base ≤ b) : RefIs w base T vb vm := ⟨own_less h.row hle, own_less h.mrg hle, h.nil⟩

section
variable {w : World} {base : Nat} {T : List Ent} {vb vm : Value}
theorem rhas_any (id : Int) (h : RefIs w base T vb vm) : Calls Try.prog 40 #[.agg #[vb, vm], .int .i64 id] w fun e w' => e = .returned (.bool (hasT T id)) ∧ Below w.heap.size w w' := by
  obtain ⟨A, c, rfl⟩ := own_slice h.row
  obtain ⟨A2, c2, hvm⟩ := own_slice h.mrg
  subst hvm
  have hb0 := (Below.refl w.heap.size w).alloc (Nat.le_refl _) (.cells #[.slice A T.length c, .slice A2 (mrgsT T).length c2] 28)
  have n0 := blk_cell (blk_new w (.cells #[.slice A T.length c, .slice A2 (mrgsT T).length c2] 28)) 0
  simp only [List.getElem?_toArray, List.getElem?_cons_zero] at n0
  have HB := Lib.hid hb0
  clear hb0 h
  go_enter Try.func40, Try.ntmps40
  by_cases h0 : 0 ≤ id
  · go_wp2_with fail
    go_ret
    exact ⟨ret_bool (by simp [hasT, h0]), HB.out⟩
  · go_wp2_with fail
    go_ret
    exact ⟨ret_bool (by simp [hasT]; omega), HB.out⟩

theorem find_take {T : List Ent} {s : List UInt8} {k : Nat} (hk : k < T.length) (h : findT (T.take k) s = none) (he : T[k].1 = s) : findT T s = some k := by
  unfold findT at *
  have e : T = T.take k ++ (T[k] :: T.drop (k + 1)) := by rw [← List.drop_eq_getElem_cons hk, List.take_append_drop]
  have h0 : (T[k] :: T.drop (k + 1)).findIdx? (fun e => e.1 == s) = some 0 := by simp only [List.findIdx?_cons, he, beq_self_eq_true, if_true]
  rw [e, List.findIdx?_append, h, h0]
  simp only [Option.none_or, Option.map_some, Option.some.injEq, List.length_take]
  omega
theorem find_take_next {T : List Ent} {s : List UInt8} {k : Nat} (hk : k < T.length) (h : findT (T.take k) s = none) (he : T[k].1 ≠ s) : findT (T.take (k + 1)) s = none := by
  rw [take_snoc hk]
  unfold findT at *
  rw [find_snoc, h]
  simp [he]

/-- what Find answers -/
def findI (T : List Ent) (s : List UInt8) : Int := match findT T s with | some i => (i : Int) | none => -1

set_option maxHeartbeats 1000000 in
theorem rfind_any (s : List UInt8) (h : RefIs w base T vb vm) (hlen : T.length ≤ 1000) : Calls Try.prog 57 #[.agg #[vb, vm], strV s] w fun e w' => e = .returned (.int .i64 (findI T s)) ∧ Below w.heap.size w w' := by
  obtain ⟨A, c, rfl⟩ := own_slice h.row
  obtain ⟨A2, c2, hvm⟩ := own_slice h.mrg
  subst hvm
  have hb0 := (Below.refl w.heap.size w).alloc (Nat.le_refl _) (.cells #[.slice A T.length c, .slice A2 (mrgsT T).length c2] 28)
  have n0 := blk_cell (blk_new w (.cells #[.slice A T.length c, .slice A2 (mrgsT T).length c2] 28)) 0
  simp only [List.getElem?_toArray, List.getElem?_cons_zero] at n0
  have HSL := Lib.hid ((own_sl1 h.row).below hb0 (Nat.le_refl _))
  have HB := Lib.hid hb0
  clear hb0 h
  unfold strV
  go_enter Try.func57, Try.ntmps57
  go_wp2_with fail
  generalize hW : w.alloc (.cells #[.slice A T.length c, .slice A2 (mrgsT T).length c2] 28) = W at *
  clear hW
  go_loopg [5] T.length (fun n i W' => ∃ k : Nat, k + n = T.length ∧ i = .int .i64 (k : Int) ∧ findT (T.take k) s = none ∧ W' = W)
  case atStart => exact ⟨0, by omega, rfl, rfl, rfl⟩
  case round =>
    obtain ⟨k, hk, rfl, hf, hW⟩ := hrel
    subst hW
    have HF := Lib.hid hf
    clear hf
    by_cases hlt : k < T.length
    · obtain ⟨ba, o, rfl, g0⟩ := HSL.out.at k (by simpa [bytsT] using hlt)
      simp only [bytsT, List.getElem_map, strV] at g0
      have q0 : 0 ≤ (k : Int) := by omega
      have q1 : (k : Int) < (T.length : Int) := by omega
      by_cases he : T[k].1 = s
      · have HE := Lib.hid he
        rw [he] at g0
        clear he
        go_wp2_with fail
        go_ret
        refine ⟨ret_int ?_, HB.out⟩
        unfold findI
        rw [find_take hlt HF.out HE.out]
      · have HE := Lib.hid he
        have hne : ¬ bs T[k].1 = bs s := fun e => he (bs_inj e)
        generalize bs T[k].1 = x at *
        generalize bs s = y at *
        have hbe : (x.toList == y.toList) = false := by
          rw [beq_eq_false_iff_ne, ByteArray.toList_eq, ByteArray.toList_eq]
          intro e
          apply hne
          apply ByteArray.ext
          exact Array.ext' e
        clear he
        go_wp2_with fail
        go_roundg (gk - 1)
        case measure => omega
        case rel => exact ⟨k + 1, by omega, by simp, find_take_next hlt HF.out HE.out, rfl⟩
    · have : k = T.length := by omega
      subst this
      go_wp2_with fail
      go_ret
      refine ⟨ret_int ?_, HB.out⟩
      have := HF.out
      rw [List.take_length] at this
      unfold findI
      rw [this]
end
end Go.Proofs.Ytpkmcokkapfnmaa
/- Layer 4 (token): the document's answer: Begin. -/
namespace Go.Proofs.Ytpkmcokkapfnmaa
open Go.RowKit Go.Maps Go.WideMaps
set_option maxRecDepth 100000
set_option linter.unusedVariables false
set_option linter.unusedSimpArgs false

theorem load_ref {w : World} {r : Nat} {A B : Option Addr} {n m c d : Nat} (h : w.heap[r]? = some (.cells #[.slice A n c, .slice B m d] 28)) : (loadVar 28 ⟨r, 0, none⟩).run Try.prog w = .ok (.agg #[.slice A n c, .slice B m d]) w := by
  have n0 := blk_cell h 0
  have n1 := blk_cell h 1
  simp only [List.getElem?_toArray, List.getElem?_cons_zero, List.getElem?_cons_succ] at n0 n1
  simp [go_sem, n0, n1]

def basV (k : Nat) : List Value := ((baseT.take k).map (·.1)).map strV
structure RBegIs (w0 w : World) (r tb k : Nat) : Prop where
  ex : ∃ sv, w.heap[tb]? = some (.cells #[sv, .slice none 0 0] 28) ∧ w.ownsRow w0.heap.size 9 1 sv k (basV k)
  res : w.heap[r]? = some (.cells #[.slice none 0 0, .slice none 0 0] 28)
  below : Below w0.heap.size w0 w
  lt : w0.heap.size ≤ tb ∧ w0.heap.size ≤ r
  ne : r ≠ tb

theorem rbeg_start (w : World) : RBegIs w ((w.alloc (.cells #[.slice none 0 0, .slice none 0 0] 28)).alloc (.cells #[.slice none 0 0, .slice none 0 0] 28)) w.heap.size (w.heap.size + 1) 0 := by
  refine ⟨⟨.slice none 0 0, ?_, own_nil _ _ _ _⟩, ?_, ?_, by omega, by omega⟩
  · have := blk_new (w.alloc (.cells #[.slice none 0 0, .slice none 0 0] 28)) (.cells #[.slice none 0 0, .slice none 0 0] 28)
    rwa [size_alloc] at this
  · exact blk_alloc (blk_new w _) _
  · exact ((Below.refl _ _).alloc (Nat.le_refl _) _).alloc (by simp) _

set_option maxHeartbeats 1000000 in
theorem rbegin_any (w : World) : Calls Try.prog 48 #[] w fun e w' => ∃ vb, e = .returned (.agg #[vb, .slice none 0 0]) ∧ RefIs w' w.heap.size baseT vb (.slice none 0 0) ∧ Below w.heap.size w w' := by
  have HS := Lib.hid (rbeg_start w)
  go_enter Try.func48, Try.ntmps48
  go_wp2_with fail
  generalize hW : (w.alloc (.cells #[.slice none 0 0, .slice none 0 0] 28)).alloc (.cells #[.slice none 0 0, .slice none 0 0] 28) = W0 at *
  clear hW
  obtain ⟨tb, ht⟩ : ∃ tb, w.heap.size + 1 = tb := ⟨_, rfl⟩
  obtain ⟨r, hr⟩ : ∃ r, w.heap.size = r := ⟨_, rfl⟩
  have HS1 : Hid (RBegIs w W0 r tb 0) := Lib.hid (by rw [← ht, ← hr]; exact HS.out)
  have HTB : Hid (w.heap.size ≤ tb) := Lib.hid (by omega)
  rw [ht, hr]
  clear HS ht hr
  go_loopg [2] 256 (fun n i W => ∃ k : Nat, k + n = 256 ∧ i = .int .i64 (k : Int) ∧ RBegIs w W r tb k)
  case atStart => exact ⟨0, rfl, rfl, HS1.out⟩
  case round =>
    obtain ⟨k, hk, rfl, hW⟩ := hrel
    have HW := Lib.hid hW
    clear HS1
    rename World => W
    by_cases hlt : k < 256
    · obtain ⟨sv, hbk, hrow⟩ := hW.ex
      have c0 := blk_cell hbk 0
      simp only [List.getElem?_toArray, List.getElem?_cons_zero] at c0
      obtain ⟨svA, svc, rfl⟩ := own_slice hrow
      have hlt' : (k : Int) < 256 := by omega
      have hbyte : IntKind.u8.wrap (k : Int) = k := IntWalk.u8_in _ (by omega)
      have hconv : (convert 79 9 (.slice (some ⟨W.heap.size, 0, none⟩) 1 1)).run Try.prog (W.alloc (.cells #[.int .u8 (k : Int)] 5)) = .ok (.string (bs [UInt8.ofNat k])) (W.alloc (.cells #[.int .u8 (k : Int)] 5)) := by
        refine run_convert_bytes_back _ _ _ 5 ⟨W.heap.size, 0, none⟩ 1 [UInt8.ofNat k] Try.underlying79 Try.underlying5 Try.underlying9 ?_
        intro j hj
        have : j = 0 := by simpa using hj
        subst this
        rw [add_plain, blk_cell (blk_new W _) 0]
        have : k % 256 = k := by omega
        simp [this]
      obtain ⟨x, hx⟩ : ∃ x, bs [UInt8.ofNat k] = x := ⟨_, rfl⟩
      rw [hx] at hconv
      have HX := Lib.hid hx
      have hb5 := (Below.refl W.heap.size W).alloc (Nat.le_refl _) (.cells #[.int .u8 (k : Int)] 5)
      have hb6 := hb5.alloc (by simp) (.cells #[.string x] 9)
      have HG : Hid (((W.alloc (.cells #[.int .u8 (k : Int)] 5)).alloc (.cells #[.string x] 9)).heap[W.heap.size + 1]? = some (.cells [Value.string x].toArray 9)) := Lib.hid (by
        have := blk_new (W.alloc (.cells #[.int .u8 (k : Int)] 5)) (.cells #[.string x] 9)
        rwa [size_alloc] at this)
      have HROW := Lib.hid (own_below hrow hb6 (Nat.le_refl _))
      have HBK := Lib.hid (blk_below hb6 (blk_lt hbk) hbk)
      have HRES := Lib.hid (blk_below hb6 (blk_lt hW.res) hW.res)
      have HB6 := Lib.hid (hW.below.trans (hb6.mono hW.below.size))
      have HLE := Lib.hid hb6.size
      have HGEN := Lib.hid (Nat.le_trans hW.below.size hb6.size)
      clear hx hb5 hb6 hbk hrow hW
      go_wp2_with (at_builtin; refine app_at (w.heap.size) 25 9 (.string ⟨#[]⟩) 1 16 [_] 1 (W.heap.size + 1) _ _ rfl rfl Try.underlying25 info_str4 rfl (by decide) _ _ _ rfl rfl rfl (by intro u hu; simp at hu; subst hu; rfl) HG.out HROW.out (by omega) (by omega) HGEN.out ?_)
      intro v' w1 hown1 hg1 _
      obtain ⟨A1, cA1, rfl⟩ := own_slice hown1
      have hk1 : Keep (fun g => (Value.slice svA k svc).ownBlock = some g) ((W.alloc (.cells #[.int .u8 (k : Int)] 5)).alloc (.cells #[.string x] 9)) w1 := Keep.of_grown hg1 (fun g hg => hg)
      have b1 := hk1.blk HBK.out (row_ne HROW.out HBK.out (by decide))
      have r1 := hk1.blk HRES.out (row_ne HROW.out HRES.out (by decide))
      have hb1 := HB6.out.trans (hk1.below HGEN.out (own_base HROW.out))
      have c0 := blk_cell b1 0
      have z0 := blk_froz b1 0
      simp only [List.getElem?_toArray, List.getElem?_cons_zero] at c0
      have b2 := blk_set b1 0 (.slice A1 (k + 1) cA1)
      simp only [List.setIfInBounds_toArray, List.set_cons_zero] at b2
      have HB2 := Lib.hid b2
      have HR2 := Lib.hid (blk_far (p := ⟨tb, 0, none⟩) r1 HW.out.ne (.slice A1 (k + 1) cA1))
      have K2 : Keep (fun g => g = tb) w1 (w1.setCell ⟨tb, 0, none⟩ (.slice A1 (k + 1) cA1)) := Keep.setCell (F := fun g => g = tb) (p := ⟨tb, 0, none⟩) (Keep.refl _ _) (Or.inl rfl) _
      have HO2 := Lib.hid (own_keep hown1 K2 (fun g hg e => row_ne hown1 b1 (by decide) (by rw [hg, e])))
      have HBE2 := Lib.hid (hb1.setCell (p := ⟨tb, 0, none⟩) HTB.out (.slice A1 (k + 1) cA1))
      rename_i c0o _
      clear hown1 hg1 hk1 b1 r1 hb1 b2 K2 hconv
      go_wp2_with fail
      go_roundg (gk - 1)
      case measure => omega
      case rel =>
        refine ⟨k + 1, by omega, by simp, ⟨⟨_, HB2.out, ?_⟩, HR2.out, HBE2.out, HW.out.lt, HW.out.ne⟩⟩
        have e5 : basV (k + 1) = basV k ++ [.string x] := by
          unfold basV
          rw [base_take k hlt]
          simp [strV, HX.out]
        rw [e5]
        exact HO2.out
    · have : k = 256 := by omega
      subst this
      obtain ⟨sv, hbk, hrow⟩ := hW.ex
      obtain ⟨svA, svc, rfl⟩ := own_slice hrow
      have c0 := blk_cell hbk 0
      have c1 := blk_cell hbk 1
      have z0 := blk_froz hW.res 0
      have z1 := blk_froz hW.res 1
      have d0 := blk_cell hW.res 0
      have d1 := blk_cell hW.res 1
      simp only [List.getElem?_toArray, List.getElem?_cons_zero, List.getElem?_cons_succ] at c0 c1 d0 d1
      have HROW := Lib.hid hrow
      clear hW hbk hrow
      go_wp2_with fail
      refine ret_cell1 (r := r) rfl rfl (load_ref (by exact blk_set (blk_set HW.out.res 0 _) 1 _)) ?_
      refine ⟨_, rfl, ?_, (HW.out.below.setCell (p := ⟨r, 0, none⟩) HW.out.lt.2 _).setCell (p := ⟨r, 1, none⟩) HW.out.lt.2 _⟩
      have K3 : ∀ (W : World) (i : Nat) (u : Value), Keep (fun g => g = r) W (W.setCell ⟨r, i, none⟩ u) := fun W i u => Keep.setCell (F := fun g => g = r) (p := ⟨r, i, none⟩) (Keep.refl _ _) (Or.inl rfl) _
      have hne : ∀ g, (Value.slice svA 256 svc).ownBlock = some g → ¬ g = r := fun g hg e => row_ne HROW.out HW.out.res (by decide) (by rw [hg, e])
      refine ⟨?_, own_nil _ _ _ _, fun _ => rfl⟩
      have e6 : basV 256 = (bytsT baseT).map strV := by
        unfold basV bytsT
        rw [List.take_of_length_le (by rw [base_len]; decide)]
      rw [← e6, base_len]
      exact own_keep (own_keep HROW.out (K3 _ 0 _) hne) (K3 _ 1 _) hne
end Go.Proofs.Ytpkmcokkapfnmaa
/- Layer 4 (token): the document's answer: Add. -/
namespace Go.Proofs.Ytpkmcokkapfnmaa
open Go.RowKit Go.Maps Go.WideMaps
set_option maxRecDepth 100000
set_option linter.unusedVariables false
set_option linter.unusedSimpArgs false

end Go.Proofs.Ytpkmcokkapfnmaa
/- Layer 4 (token): the document's answer: Add, where it adds nothing. -/
namespace Go.Proofs.Ytpkmcokkapfnmaa
open Go.RowKit Go.Maps Go.WideMaps
set_option maxRecDepth 100000
set_option linter.unusedVariables false
set_option linter.unusedSimpArgs false

/-- Add's own memory: the table, the merge, the result -/
structure RAdd (w W : World) (base : Nat) (T : List Ent) (A : Option Addr) (c : Nat) (A2 : Option Addr) (c2 : Nat) (a b : Int) (r0 r1 r2 : Nat) : Prop where
  t : W.heap[r0]? = some (.cells #[.slice A T.length c, .slice A2 (mrgsT T).length c2] 28)
  m : W.heap[r1]? = some (.cells #[.int .i64 a, .int .i64 b] 71)
  r : W.heap[r2]? = some (.cells #[.slice none 0 0, .slice none 0 0] 28)
  ref : RefIs W base T (.slice A T.length c) (.slice A2 (mrgsT T).length c2)
  below : Below w.heap.size w W
  le : w.heap.size ≤ r0 ∧ w.heap.size ≤ r1 ∧ w.heap.size ≤ r2
theorem RAdd.step {w W W' : World} {base : Nat} {T : List Ent} {A : Option Addr} {c : Nat} {A2 : Option Addr} {c2 : Nat} {a b : Int} {r0 r1 r2 : Nat} (h : RAdd w W base T A c A2 c2 a b r0 r1 r2) (hb : Below W.heap.size W W') : RAdd w W' base T A c A2 c2 a b r0 r1 r2 :=
  ⟨blk_below hb (blk_lt h.t) h.t, blk_below hb (blk_lt h.m) h.m, blk_below hb (blk_lt h.r) h.r, h.ref.below hb (Nat.le_refl _), h.below.trans (hb.mono h.below.size), h.le⟩
theorem RAdd.drewN {w W : World} {base : Nat} {T : List Ent} {A : Option Addr} {c : Nat} {A2 : Option Addr} {c2 : Nat} {a b : Int} {r0 r1 r2 : Nat} (h : RAdd w W base T A c A2 c2 a b r0 r1 r2) (n : Nat) : RAdd w (W.drewN n) base T A c A2 c2 a b r0 r1 r2 := h.step (below_drewN (Below.refl _ _) n)
theorem RAdd.cells {w W : World} {base : Nat} {T : List Ent} {A : Option Addr} {c : Nat} {A2 : Option Addr} {c2 : Nat} {a b : Int} {r0 r1 r2 : Nat} (h : RAdd w W base T A c A2 c2 a b r0 r1 r2) :
    W.cell? ⟨r0, 0, none⟩ = some (.slice A T.length c) ∧ W.cell? ⟨r0, 1, none⟩ = some (.slice A2 (mrgsT T).length c2) ∧ W.cell? ⟨r1, 0, none⟩ = some (.int .i64 a) ∧ W.cell? ⟨r1, 1, none⟩ = some (.int .i64 b) ∧
    W.cell? ⟨r2, 0, none⟩ = some (.slice none 0 0) ∧ W.cell? ⟨r2, 1, none⟩ = some (.slice none 0 0) ∧ W.frozen? ⟨r2, 0, none⟩ = false ∧ W.frozen? ⟨r2, 1, none⟩ = false :=
  ⟨blk_cell h.t 0, blk_cell h.t 1, blk_cell h.m 0, blk_cell h.m 1, blk_cell h.r 0, blk_cell h.r 1, blk_froz h.r 0, blk_froz h.r 1⟩
theorem radd_start {w : World} {base : Nat} {T : List Ent} {A : Option Addr} {c : Nat} {A2 : Option Addr} {c2 : Nat} (a b : Int) (h : RefIs w base T (.slice A T.length c) (.slice A2 (mrgsT T).length c2)) :
    RAdd w (((w.alloc (.cells #[.slice A T.length c, .slice A2 (mrgsT T).length c2] 28)).alloc (.cells #[.int .i64 a, .int .i64 b] 71)).alloc (.cells #[.slice none 0 0, .slice none 0 0] 28)) base T A c A2 c2 a b w.heap.size (w.heap.size + 1) (w.heap.size + 1 + 1) := by
  have hb := (((Below.refl w.heap.size w).alloc (Nat.le_refl _) (.cells #[.slice A T.length c, .slice A2 (mrgsT T).length c2] 28)).alloc (by simp) (.cells #[.int .i64 a, .int .i64 b] 71)).alloc (by simp; omega) (.cells #[.slice none 0 0, .slice none 0 0] 28)
  refine ⟨blk_alloc (blk_alloc (blk_new w _) _) _, ?_, ?_, h.below hb (Nat.le_refl _), hb, by omega⟩
  · refine blk_alloc ?_ _
    have := blk_new (w.alloc (.cells #[.slice A T.length c, .slice A2 (mrgsT T).length c2] 28)) (.cells #[.int .i64 a, .int .i64 b] 71)
    rwa [size_alloc] at this
  · have := blk_new ((w.alloc (.cells #[.slice A T.length c, .slice A2 (mrgsT T).length c2] 28)).alloc (.cells #[.int .i64 a, .int .i64 b] 71)) (.cells #[.slice none 0 0, .slice none 0 0] 28)
    rwa [size_alloc, size_alloc] at this

/-- a struct of two slices and a number -/
theorem ret_ref {fn : Func} {R : Ending → World → Prop} {tmps : Array Value} {w : World} {r : Nat} {A B : Option Addr} {n m c d : Nat} {x : Int} {p q : Tmp}
    (h : fn.results = #[.cell p 28, .tmp q]) (hp : tmps.getD p undef = .pointer (some ⟨r, 0, none⟩)) (hq : tmps.getD q undef = .int .i64 x)
    (hl : w.heap[r]? = some (.cells #[.slice A n c, .slice B m d] 28))
    (hR : R (.returned (.tuple #[.agg #[.slice A n c, .slice B m d], .int .i64 x])) w) : bodyPost Try.prog fn R .ret ⟨tmps, []⟩ w := by
  refine bodyPost_ret (v := .tuple #[.agg #[.slice A n c, .slice B m d], .int .i64 x]) ?_ rfl hR
  rw [results_cell_tmp h, hp, hq]
  simp [asAddr, load_ref hl, Result.andThen]
/-- the result is what came in -/
theorem RAdd.same {w W : World} {base : Nat} {T : List Ent} {A : Option Addr} {c : Nat} {A2 : Option Addr} {c2 : Nat} {a b : Int} {r0 r1 r2 : Nat} (h : RAdd w W base T A c A2 c2 a b r0 r1 r2) :
    ((W.setCell ⟨r2, 0, none⟩ (.slice A T.length c)).setCell ⟨r2, 1, none⟩ (.slice A2 (mrgsT T).length c2)).heap[r2]? = some (.cells #[.slice A T.length c, .slice A2 (mrgsT T).length c2] 28) ∧
    Below w.heap.size w ((W.setCell ⟨r2, 0, none⟩ (.slice A T.length c)).setCell ⟨r2, 1, none⟩ (.slice A2 (mrgsT T).length c2)) ∧
    RefIs ((W.setCell ⟨r2, 0, none⟩ (.slice A T.length c)).setCell ⟨r2, 1, none⟩ (.slice A2 (mrgsT T).length c2)) base T (.slice A T.length c) (.slice A2 (mrgsT T).length c2) := by
  have K3 : ∀ (W : World) (i : Nat) (u : Value), Keep (fun g => g = r2) W (W.setCell ⟨r2, i, none⟩ u) := fun W i u => Keep.setCell (F := fun g => g = r2) (p := ⟨r2, i, none⟩) (Keep.refl _ _) (Or.inl rfl) _
  refine ⟨by simpa using blk_set (blk_set h.r 0 _) 1 _, (h.below.setCell (p := ⟨r2, 0, none⟩) h.le.2.2 _).setCell (p := ⟨r2, 1, none⟩) h.le.2.2 _, ?_, ?_, h.ref.nil⟩
  · exact own_keep (own_keep h.ref.row (K3 _ 0 _) (fun g hg e => row_ne h.ref.row h.r (by decide) (by rw [hg, e]))) (K3 _ 1 _) (fun g hg e => row_ne h.ref.row h.r (by decide) (by rw [hg, e]))
  · exact own_keep (own_keep h.ref.mrg (K3 _ 0 _) (fun g hg e => row_ne h.ref.mrg h.r (by decide) (by rw [hg, e]))) (K3 _ 1 _) (fun g hg e => row_ne h.ref.mrg h.r (by decide) (by rw [hg, e]))
end Go.Proofs.Ytpkmcokkapfnmaa
/- Layer 4 (token): the document's answer: Add, where it adds nothing. -/
namespace Go.Proofs.Ytpkmcokkapfnmaa
open Go.RowKit Go.Maps Go.WideMaps
set_option maxRecDepth 100000
set_option linter.unusedVariables false
set_option linter.unusedSimpArgs false

/-- what the document's Add answers -/
def RAddOk (w : World) (base : Nat) (T : List Ent) (a b : Int) (e : Ending) (w' : World) : Prop :=
  Below w.heap.size w w' ∧ ∃ A' n' c' A2' m' c2', e = .returned (.tuple #[.agg #[.slice A' n' c', .slice A2' m' c2'], .int .i64 (addT T a b).2.1]) ∧ RefIs w' base (addT T a b).2.2 (.slice A' n' c') (.slice A2' m' c2')
theorem RAdd.err {w W : World} {base : Nat} {T : List Ent} {A : Option Addr} {c : Nat} {A2 : Option Addr} {c2 : Nat} {a b : Int} {r0 r1 r2 : Nat} (h : RAdd w W base T A c A2 c2 a b r0 r1 r2) {x : Int} (hx : addT T a b = (0, x, T)) :
    RAddOk w base T a b (.returned (.tuple #[.agg #[.slice A T.length c, .slice A2 (mrgsT T).length c2], .int .i64 x])) ((W.setCell ⟨r2, 0, none⟩ (.slice A T.length c)).setCell ⟨r2, 1, none⟩ (.slice A2 (mrgsT T).length c2)) :=
  ⟨h.same.2.1, _, _, _, _, _, _, by rw [hx], by rw [hx]; exact h.same.2.2⟩

set_option maxHeartbeats 2000000 in
theorem radd_err {w : World} {base : Nat} {T : List Ent} {A : Option Addr} {c : Nat} {A2 : Option Addr} {c2 : Nat} (a b : Int) (h : RefIs w base T (.slice A T.length c) (.slice A2 (mrgsT T).length c2)) (hT : OkT T) (he : (addT T a b).2.1 ≠ 0) :
    Calls Try.prog 49 #[.agg #[.slice A T.length c, .slice A2 (mrgsT T).length c2], .agg #[.int .i64 a, .int .i64 b]] w (RAddOk w base T a b) := by
  have HS := Lib.hid (radd_start a b h)
  have HOK := Lib.hid hT
  have HE := Lib.hid he
  obtain ⟨t0, t1, m0, m1, _, _, _, _⟩ := HS.out.cells
  clear h hT he
  go_enter Try.func49, Try.ntmps49
  go_wp2_with fail
  generalize hW : ((w.alloc (.cells #[.slice A T.length c, .slice A2 (mrgsT T).length c2] 28)).alloc (.cells #[.int .i64 a, .int .i64 b] 71)).alloc (.cells #[.slice none 0 0, .slice none 0 0] 28) = W at *
  clear hW
  obtain ⟨r2, hr2⟩ : ∃ r2, w.heap.size + 1 + 1 = r2 := ⟨_, rfl⟩
  obtain ⟨r1, hr1⟩ : ∃ r1, w.heap.size + 1 = r1 := ⟨_, rfl⟩
  obtain ⟨r0, hr0⟩ : ∃ r0, w.heap.size = r0 := ⟨_, rfl⟩
  have HS1 : Hid (RAdd w W base T A c A2 c2 a b r0 r1 r2) := Lib.hid (by rw [← hr2, ← hr1, ← hr0]; exact HS.out)
  rw [hr2, hr1, hr0]
  clear HS hr2 hr1 hr0 t0 t1 m0 m1
  refine (rhas_any a HS1.out.ref).mono ?_
  rintro e W1 ⟨rfl, hb1⟩
  have HS2 := Lib.hid (HS1.out.step hb1)
  obtain ⟨t0, t1, m0, m1, d0, d1, z0, z1⟩ := HS2.out.cells
  clear hb1 HS1
  cases ha : hasT T a with
  | false =>
    go_wp2_with fail
    refine ret_ref (r := r2) rfl rfl rfl HS2.out.same.1 (HS2.out.err (x := 4) ?_)
    simp [addT, ha]
  | true =>
    have HA := Lib.hid ha
    clear ha
    go_wp2_with fail
    refine (rhas_any b HS2.out.ref).mono ?_
    rintro e W2 ⟨rfl, hb2⟩
    have HS3 := Lib.hid (HS2.out.step hb2)
    clear t0 t1 m0 m1 d0 d1 z0 z1 hb2 HS2
    obtain ⟨t0, t1, m0, m1, d0, d1, z0, z1⟩ := HS3.out.cells
    cases hb : hasT T b with
    | false =>
      go_wp2_with fail
      refine ret_ref (r := r2) rfl rfl rfl HS3.out.same.1 (HS3.out.err (x := 4) ?_)
      simp [addT, hb]
    | true =>
      have HAB := Lib.hid hb
      obtain ⟨k, rfl, hk, ek⟩ := hasT_at HA.out
      obtain ⟨l, rfl, hl, el⟩ := hasT_at hb
      obtain ⟨ba, o, rfl, g0⟩ := (own_sl1 HS3.out.ref.row).at k (by simpa [bytsT] using hk)
      obtain ⟨ba', o', e', g1⟩ := (own_sl1 HS3.out.ref.row).at l (by simpa [bytsT] using hl)
      cases e'
      simp only [bytsT, List.getElem_map, strV] at g0 g1
      have hX := HOK.out.len T[k] (List.getElem_mem hk)
      have hY := HOK.out.len T[l] (List.getElem_mem hl)
      have EK := Lib.hid ek
      have EL := Lib.hid el
      have HSM := Lib.hid HOK.out.small
      obtain ⟨X, hXe⟩ : ∃ X, T[k].1 = X := ⟨_, rfl⟩
      obtain ⟨Y, hYe⟩ : ∃ Y, T[l].1 = Y := ⟨_, rfl⟩
      rw [hXe] at g0 hX
      rw [hYe] at g1 hY
      have HXE := Lib.hid hXe
      have HYE := Lib.hid hYe
      have hbig : (9223372036854775807 < (bs X).size + (bs Y).size) = False := by rw [eq_iff_iff, iff_false, bs_size, bs_size]; omega
      have HX := Lib.hid hX
      have HY := Lib.hid hY
      have q0 : 0 ≤ (k : Int) := by omega
      have q1 : (k : Int) < (T.length : Int) := by omega
      have q2 : 0 ≤ (l : Int) := by omega
      have q3 : (l : Int) < (T.length : Int) := by omega
      clear hb ek el hXe hYe hX hY
      go_wp2_with fail
      go_quiet (fail)
      rw [bs_append]
      obtain ⟨z, hz⟩ : ∃ z, bs (X ++ Y) = z := ⟨_, rfl⟩
      have hzs : z.size = (X ++ Y).length := by rw [← hz, bs_size]
      have HZ := Lib.hid hz
      have HZS := Lib.hid hzs
      rw [hz]
      clear hz hbig g0 g1 q0 q1 q2 q3 hzs
      have HS4 := Lib.hid (HS3.out.drewN nq)
      clear t0 t1 m0 m1 d0 d1 z0 z1 HS3
      generalize W2.drewN nq = W3 at *
      obtain ⟨t0, t1, m0, m1, d0, d1, z0, z1⟩ := HS4.out.cells
      by_cases h64 : (64 : Int) < (z.size : Int)
      · go_wp2_with fail
        refine ret_ref (r := r2) rfl rfl rfl HS4.out.same.1 (HS4.out.err (x := 3) ?_)
        exact addT_long HA.out HAB.out (by rw [EK.out, HXE.out]) (by rw [EL.out, HYE.out]) (by have := HZS.out; omega)
      · by_cases h1000 : (1000 : Int) ≤ (T.length : Int)
        · go_wp2_with fail
          refine ret_ref (r := r2) rfl rfl rfl HS4.out.same.1 (HS4.out.err (x := 5) ?_)
          exact addT_full HA.out HAB.out (by rw [EK.out, HXE.out]) (by rw [EL.out, HYE.out]) (by have := HZS.out; omega) (by omega)
        · have HRF := Lib.hid (rfind_any (X ++ Y) HS4.out.ref HSM.out)
          unfold strV at HRF
          rw [HZ.out] at HRF
          go_wp2_with fail
          refine HRF.out.mono ?_
          rintro e W4 ⟨rfl, hb4⟩
          have HS5 := Lib.hid (HS4.out.step hb4)
          clear t0 t1 m0 m1 d0 d1 z0 z1 HS4 HRF hb4
          obtain ⟨t0, t1, m0, m1, d0, d1, z0, z1⟩ := HS5.out.cells
          cases hf : findT T (X ++ Y) with
          | none =>
            exfalso
            have := HE.out
            rw [addT_ok HA.out HAB.out (by rw [EK.out, HXE.out]) (by rw [EL.out, HYE.out]) (by have := HZS.out; omega) (by omega) (by rw [hf]; rfl)] at this
            exact this rfl
          | some i =>
            have hi : findI T (X ++ Y) = (i : Int) := by unfold findI; rw [hf]
            rw [hi]
            have HF := Lib.hid hf
            have h0i : 0 ≤ (i : Int) := by omega
            clear hf hi
            go_wp2_with fail
            refine ret_ref (r := r2) rfl rfl rfl HS5.out.same.1 (HS5.out.err (x := 10) ?_)
            exact addT_twice HA.out HAB.out (by rw [EK.out, HXE.out]) (by rw [EL.out, HYE.out]) (by have := HZS.out; omega) (by omega) (by rw [HF.out]; rfl)
end Go.Proofs.Ytpkmcokkapfnmaa
/- Layer 4 (token): the document's answer: Add, where it adds. -/
namespace Go.Proofs.Ytpkmcokkapfnmaa
open Go.RowKit Go.Maps Go.WideMaps
set_option maxRecDepth 100000
set_option linter.unusedVariables false
set_option linter.unusedSimpArgs false

theorem gen_below {K : Act → World → Prop} {a : Act} {W V w0 : World} {b : Nat} (hb : Below b w0 V) (hV : W = V) (h : ∀ W', W' = V → K a W') : K a W := by subst hV; exact h _ rfl
theorem gen_world {K : Act → World → Prop} {a : Act} {W : World} (h : ∀ W', W' = W → K a W') : K a W := h W rfl

theorem bel_new {w0 W : World} (h : Below w0.heap.size w0 W) (o : Obj) : (W.alloc o).heap[W.heap.size]? = some o := blk_new W o
theorem bel_alloc {w0 W : World} (h : Below w0.heap.size w0 W) (o : Obj) : Below w0.heap.size w0 (W.alloc o) := h.trans (((Below.refl W.heap.size W).alloc (Nat.le_refl _) o).mono h.size)
theorem row_alloc {W : World} {base n : Nat} {e : TypeId} {size : Nat} {v : Value} {xs : List Value} (h : W.ownsRow base e size v n xs) (o : Obj) : (W.alloc o).ownsRow base e size v n xs := own_below h ((Below.refl W.heap.size W).alloc (Nat.le_refl _) o) (Nat.le_refl _)

theorem radd_fin {w W4 W : World} {base : Nat} {T : List Ent} {A : Option Addr} {c : Nat} {A2 : Option Addr} {c2 : Nat} {a b : Int} {r0 r1 r2 : Nat} {A7 A8 : Option Addr} {c7 c8 : Nat} {z : ByteArray} {Z : List UInt8}
    (h : RAdd w W4 base T A c A2 c2 a b r0 r1 r2) (hb : Below W4.heap.size W4 W)
    (ho1 : W.ownsRow W4.heap.size 9 1 (.slice A7 (T.length + 1) c7) (T.length + 1) ((bytsT T).map strV ++ [.string z]))
    (ho2 : W.ownsRow W4.heap.size 71 2 (.slice A8 ((mrgsT T).length + 1) c8) ((mrgsT T).length + 1) ((mrgsT T).flatMap encM ++ [.int .i64 a, .int .i64 b]))
    (hz : strV Z = .string z) (hadd : addT T a b = ((T.length : Int), 0, T ++ [(Z, a, b)])) (hbase : base ≤ w.heap.size) (h256 : 256 ≤ T.length) :
    ((W.setCell ⟨r2, 0, none⟩ (.slice A7 (T.length + 1) c7)).setCell ⟨r2, 1, none⟩ (.slice A8 ((mrgsT T).length + 1) c8)).heap[r2]? = some (.cells #[.slice A7 (T.length + 1) c7, .slice A8 ((mrgsT T).length + 1) c8] 28) ∧
    RAddOk w base T a b (.returned (.tuple #[.agg #[.slice A7 (T.length + 1) c7, .slice A8 ((mrgsT T).length + 1) c8], .int .i64 0])) ((W.setCell ⟨r2, 0, none⟩ (.slice A7 (T.length + 1) c7)).setCell ⟨r2, 1, none⟩ (.slice A8 ((mrgsT T).length + 1) c8)) := by
  have h' := h.step hb
  have K3 : ∀ (W : World) (i : Nat) (u : Value), Keep (fun g => g = r2) W (W.setCell ⟨r2, i, none⟩ u) := fun W i u => Keep.setCell (F := fun g => g = r2) (p := ⟨r2, i, none⟩) (Keep.refl _ _) (Or.inl rfl) _
  have hle : base ≤ W4.heap.size := Nat.le_trans hbase h.below.size
  have e1 : bytsT (T ++ [(Z, a, b)]) = bytsT T ++ [Z] := by simp [bytsT]
  have e2 : mrgsT (T ++ [(Z, a, b)]) = mrgsT T ++ [(a, b)] := by
    unfold mrgsT
    rw [List.drop_append_of_le_length h256]
    simp
  refine ⟨by simpa using blk_set (blk_set h'.r 0 _) 1 _, (h'.below.setCell (p := ⟨r2, 0, none⟩) h.le.2.2 _).setCell (p := ⟨r2, 1, none⟩) h.le.2.2 _, _, _, _, _, _, _, by rw [hadd], ?_⟩
  rw [hadd]
  refine ⟨?_, ?_, ?_⟩
  · simp only [List.length_append, List.length_singleton, e1, List.map_append, List.map_cons, List.map_nil, hz]
    exact own_less (own_keep (own_keep ho1 (K3 _ 0 _) (fun g hg e => row_ne ho1 h'.r (by decide) (by rw [hg, e]))) (K3 _ 1 _) (fun g hg e => row_ne ho1 h'.r (by decide) (by rw [hg, e]))) hle
  · simp only [e2, List.length_append, List.length_singleton, List.flatMap_append]
    have e3 : [((a, b) : Int × Int)].flatMap encM = [.int .i64 a, .int .i64 b] := by simp [encM]
    rw [e3]
    exact own_less (own_keep (own_keep ho2 (K3 _ 0 _) (fun g hg e => row_ne ho2 h'.r (by decide) (by rw [hg, e]))) (K3 _ 1 _) (fun g hg e => row_ne ho2 h'.r (by decide) (by rw [hg, e]))) hle
  · intro e
    simp [e2] at e

set_option maxHeartbeats 2000000 in
theorem radd_ok {w : World} {base : Nat} {T : List Ent} {A : Option Addr} {c : Nat} {A2 : Option Addr} {c2 : Nat} (a b : Int) (h : RefIs w base T (.slice A T.length c) (.slice A2 (mrgsT T).length c2)) (hT : OkT T) (he : (addT T a b).2.1 = 0) (hbase : base ≤ w.heap.size) :
    Calls Try.prog 49 #[.agg #[.slice A T.length c, .slice A2 (mrgsT T).length c2], .agg #[.int .i64 a, .int .i64 b]] w (RAddOk w base T a b) := by
  have HS := Lib.hid (radd_start a b h)
  have HOK := Lib.hid hT
  have HE := Lib.hid he
  have HBASE := Lib.hid hbase
  obtain ⟨t0, t1, m0, m1, _, _, _, _⟩ := HS.out.cells
  clear h hT he hbase
  go_enter Try.func49, Try.ntmps49
  go_wp2_with fail
  generalize hW : ((w.alloc (.cells #[.slice A T.length c, .slice A2 (mrgsT T).length c2] 28)).alloc (.cells #[.int .i64 a, .int .i64 b] 71)).alloc (.cells #[.slice none 0 0, .slice none 0 0] 28) = W at *
  clear hW
  obtain ⟨r2, hr2⟩ : ∃ r2, w.heap.size + 1 + 1 = r2 := ⟨_, rfl⟩
  obtain ⟨r1, hr1⟩ : ∃ r1, w.heap.size + 1 = r1 := ⟨_, rfl⟩
  obtain ⟨r0, hr0⟩ : ∃ r0, w.heap.size = r0 := ⟨_, rfl⟩
  have HS1 : Hid (RAdd w W base T A c A2 c2 a b r0 r1 r2) := Lib.hid (by rw [← hr2, ← hr1, ← hr0]; exact HS.out)
  rw [hr2, hr1, hr0]
  clear HS hr2 hr1 hr0 t0 t1 m0 m1
  refine (rhas_any a HS1.out.ref).mono ?_
  rintro e W1 ⟨rfl, hb1⟩
  have HS2 := Lib.hid (HS1.out.step hb1)
  obtain ⟨t0, t1, m0, m1, d0, d1, z0, z1⟩ := HS2.out.cells
  clear hb1 HS1
  cases ha : hasT T a with
  | false => exact absurd HE.out (by simp [addT, ha])
  | true =>
    have HA := Lib.hid ha
    clear ha
    go_wp2_with fail
    refine (rhas_any b HS2.out.ref).mono ?_
    rintro e W2 ⟨rfl, hb2⟩
    have HS3 := Lib.hid (HS2.out.step hb2)
    clear t0 t1 m0 m1 d0 d1 z0 z1 hb2 HS2
    obtain ⟨t0, t1, m0, m1, d0, d1, z0, z1⟩ := HS3.out.cells
    cases hb : hasT T b with
    | false => exact absurd HE.out (by simp [addT, hb])
    | true =>
      have HAB := Lib.hid hb
      obtain ⟨k, rfl, hk, ek⟩ := hasT_at HA.out
      obtain ⟨l, rfl, hl, el⟩ := hasT_at hb
      obtain ⟨ba, o, rfl, g0⟩ := (own_sl1 HS3.out.ref.row).at k (by simpa [bytsT] using hk)
      obtain ⟨ba', o', e', g1⟩ := (own_sl1 HS3.out.ref.row).at l (by simpa [bytsT] using hl)
      cases e'
      simp only [bytsT, List.getElem_map, strV] at g0 g1
      have hX := HOK.out.len T[k] (List.getElem_mem hk)
      have hY := HOK.out.len T[l] (List.getElem_mem hl)
      have EK := Lib.hid ek
      have EL := Lib.hid el
      have HSM := Lib.hid HOK.out.small
      obtain ⟨X, hXe⟩ : ∃ X, T[k].1 = X := ⟨_, rfl⟩
      obtain ⟨Y, hYe⟩ : ∃ Y, T[l].1 = Y := ⟨_, rfl⟩
      rw [hXe] at g0 hX
      rw [hYe] at g1 hY
      have HXE := Lib.hid hXe
      have HYE := Lib.hid hYe
      have hbig : (9223372036854775807 < (bs X).size + (bs Y).size) = False := by rw [eq_iff_iff, iff_false, bs_size, bs_size]; omega
      have HX := Lib.hid hX
      have HY := Lib.hid hY
      have q0 : 0 ≤ (k : Int) := by omega
      have q1 : (k : Int) < (T.length : Int) := by omega
      have q2 : 0 ≤ (l : Int) := by omega
      have q3 : (l : Int) < (T.length : Int) := by omega
      clear hb ek el hXe hYe hX hY
      go_wp2_with fail
      go_quiet (fail)
      rw [bs_append]
      obtain ⟨z, hz⟩ : ∃ z, bs (X ++ Y) = z := ⟨_, rfl⟩
      have hzs : z.size = (X ++ Y).length := by rw [← hz, bs_size]
      have HZ := Lib.hid hz
      have HZS := Lib.hid hzs
      rw [hz]
      clear hz hbig g0 g1 q0 q1 q2 q3 hzs
      have HS4 := Lib.hid (HS3.out.drewN nq)
      clear t0 t1 m0 m1 d0 d1 z0 z1 HS3
      generalize W2.drewN nq = W3 at *
      obtain ⟨t0, t1, m0, m1, d0, d1, z0, z1⟩ := HS4.out.cells
      by_cases h64 : (64 : Int) < (z.size : Int)
      · exact absurd HE.out (by rw [addT_long HA.out HAB.out (by rw [EK.out, HXE.out]) (by rw [EL.out, HYE.out]) (by have := HZS.out; omega)]; simp)
      · by_cases h1000 : (1000 : Int) ≤ (T.length : Int)
        · exact absurd HE.out (by rw [addT_full HA.out HAB.out (by rw [EK.out, HXE.out]) (by rw [EL.out, HYE.out]) (by have := HZS.out; omega) (by omega)]; simp)
        · have HRF := Lib.hid (rfind_any (X ++ Y) HS4.out.ref HSM.out)
          unfold strV at HRF
          rw [HZ.out] at HRF
          go_wp2_with fail
          refine HRF.out.mono ?_
          rintro e W4 ⟨rfl, hb4⟩
          have HS5 := Lib.hid (HS4.out.step hb4)
          clear t0 t1 m0 m1 d0 d1 z0 z1 HS4 HRF hb4
          obtain ⟨t0, t1, m0, m1, d0, d1, z0, z1⟩ := HS5.out.cells
          cases hf : findT T (X ++ Y) with
          | some i => exact absurd HE.out (by rw [addT_twice HA.out HAB.out (by rw [EK.out, HXE.out]) (by rw [EL.out, HYE.out]) (by have := HZS.out; omega) (by omega) (by rw [hf]; rfl)]; simp)
          | none =>
            have HADD := Lib.hid (addT_ok HA.out HAB.out (by rw [EK.out, HXE.out]) (by rw [EL.out, HYE.out]) (by have := HZS.out; omega) (by omega) (by rw [hf]; rfl))
            have hi : findI T (X ++ Y) = -1 := by unfold findI; rw [hf]
            rw [hi]
            clear hf hi
            have hsm := HSM.out
            have hml : (mrgsT T).length ≤ 1000 := by unfold mrgsT; simp; omega
            go_wp2_with (at_builtin; refine app_copy (W4.heap.size) base 25 9 (.string ⟨#[]⟩) 1 16 _ _ rfl rfl Try.underlying25 info_str4 rfl (by decide) _ _ _ rfl rfl (by intro u hu; obtain ⟨y, _, rfl⟩ := List.mem_map.1 hu; rfl) (fun e => absurd e (by omega)) HS5.out.ref.row (by omega) (by omega) (Nat.le_refl _) ?_)
            intro v1 W5 ho1 hb5 _
            obtain ⟨A5, c5, rfl⟩ := own_slice ho1
            have HS6 := Lib.hid (HS5.out.step hb5)
            have HB5 := Lib.hid hb5
            have HO1 := Lib.hid ho1
            clear t0 t1 m0 m1 d0 d1 z0 z1 ho1 hb5
            obtain ⟨t0, t1, m0, m1, d0, d1, z0, z1⟩ := HS6.out.cells
            go_wp2_with (at_builtin; refine app_copy (W4.heap.size) base 26 71 (.agg #[.int .i64 0, .int .i64 0]) 2 16 _ _ rfl rfl Try.underlying26 info_mrg rfl (by decide) _ _ _ rfl rfl (by intro u hu; obtain ⟨y, _, hy⟩ := List.mem_flatMap.1 hu; simp [encM] at hy; rcases hy with rfl | rfl <;> rfl) HS6.out.ref.nil HS6.out.ref.mrg (by omega) (by omega) HB5.out.size ?_)
            intro v2 W6 ho2 hb6 _
            obtain ⟨A6, c6, rfl⟩ := own_slice ho2
            have HBB := Lib.hid (HB5.out.trans (hb6.mono HB5.out.size))
            have HO1 := Lib.hid (own_below HO1.out hb6 (Nat.le_refl _))
            have HO2 := Lib.hid ho2
            clear t0 t1 m0 m1 d0 d1 z0 z1 ho2 hb6
            obtain ⟨t0, t1, m0, m1, d0, d1, z0, z1⟩ := (HS5.out.step HBB.out).cells
            go_upto_region 14 with fail
            have HBB := Lib.hid (HBB.out.trans ((Below.refl W6.heap.size W6).drew.mono HBB.out.size))
            have HO1 := Lib.hid (own_drew HO1.out)
            have HO2 := Lib.hid (own_drew HO2.out)
            have HKZ := Lib.hid (show strV (X ++ Y) = .string z by unfold strV; rw [HZ.out])
            have H256 := Lib.hid (show 256 ≤ T.length by obtain ⟨M, hM⟩ := HOK.out.base; rw [hM, List.length_append, base_len]; omega)
            have HNE := Lib.hid (show r1 ≠ r2 by
              intro e
              have h1 := HS5.out.m
              rw [e, HS5.out.r] at h1
              simp at h1)
            refine wp_region_G (D := 9) (S := fun V => V.cell? ⟨r1, 0, none⟩ = some (.int .i64 (k : Int)) ∧ V.cell? ⟨r1, 1, none⟩ = some (.int .i64 (l : Int))) (by kernel_rfl) (by exact ⟨m0, m1⟩) (fun hHeld => ?_)
            refine wpAnyG_takeD (i := 0) (oi := { dst := some 60, op := Op.move (Operand.tmp 7), type := 25, pos := "ref.go:52", after := #[], guard := none }) (d := 60) (v := ?_) rfl rfl (by kernel_rfl) (by kernel_rfl) (by kernel_rfl) (by kernel_rfl) (fun _ _ _ h => h) (Or.inl ⟨by rfl, ?_⟩) hHeld ?_
            rotate_left
            · (intro w' hSw; (try dsimp only at hSw); go_simp; (try with_reducible rfl))
            simp only [List.setIfInBounds_toArray, List.set_cons_zero, List.set_cons_succ]
            refine wpAnyG_takeD (i := 1) (oi := { dst := some 61, op := Op.move (Operand.tmp 6), type := 9, pos := "ref.go:52", after := #[], guard := none }) (d := 61) (v := ?_) rfl rfl (by kernel_rfl) (by kernel_rfl) (by kernel_rfl) (by kernel_rfl) (fun _ _ _ h => h) (Or.inl ⟨by rfl, ?_⟩) hHeld ?_
            rotate_left
            · (intro w' hSw; (try dsimp only at hSw); go_simp; (try with_reducible rfl))
            simp only [List.setIfInBounds_toArray, List.set_cons_zero, List.set_cons_succ]
            refine wpAnyG_takeD (i := 4) (oi := { dst := some 64, op := Op.move (Operand.tmp 8), type := 26, pos := "ref.go:52", after := #[], guard := none }) (d := 64) (v := ?_) rfl rfl (by kernel_rfl) (by kernel_rfl) (by kernel_rfl) (by kernel_rfl) (fun _ _ _ h => h) (Or.inl ⟨by rfl, ?_⟩) hHeld ?_
            rotate_left
            · (intro w' hSw; (try dsimp only at hSw); go_simp; (try with_reducible rfl))
            simp only [List.setIfInBounds_toArray, List.set_cons_zero, List.set_cons_succ]
            refine wpAnyG_takeD (i := 5) (oi := { dst := some 65, op := Op.load 71 (Operand.tmp 3), type := 71, pos := "ref.go:52", after := #[], guard := none }) (d := 65) (v := ?_) rfl rfl (by kernel_rfl) (by kernel_rfl) (by kernel_rfl) (by kernel_rfl) (fun _ _ _ h => h) (Or.inl ⟨by rfl, ?_⟩) hHeld ?_
            rotate_left
            · (intro w' hSw; (try dsimp only at hSw); go_simp; (try with_reducible rfl))
            simp only [List.setIfInBounds_toArray, List.set_cons_zero, List.set_cons_succ]
            refine wpAnyG_two (i := 2) (j := 6) (oi := { dst := some 62, op := Op.buildSlice 25 1 #[(0, Operand.tmp 61)], type := 25, pos := "ref.go:52", after := #[{ on := 1, ground := Ground.data }], guard := none }) (oj := { dst := some 66, op := Op.buildSlice 26 1 #[(0, Operand.tmp 65)], type := 26, pos := "ref.go:52", after := #[{ on := 5, ground := Ground.data }], guard := none }) (by kernel_rfl) rfl rfl (by rfl) (by rfl) (fun K hK => ?_) (fun K hK => ?_)
            ·
              go_simp; have HE1 := Lib.hid (bel_new HBB.out (.cells #[.string z] 9)); (try have HE2 := Lib.hid (blk_alloc HE2.out (.cells #[.string z] 9))); have HO1 := Lib.hid (row_alloc HO1.out (.cells #[.string z] 9)); have HO2 := Lib.hid (row_alloc HO2.out (.cells #[.string z] 9)); have HBB := Lib.hid (bel_alloc HBB.out (.cells #[.string z] 9)); refine gen_below HBB.out rfl (fun W' hW' => ?_); rw [← hW'] at HBB HO1 HO2 HE1; (try rw [← hW'] at HE2); clear hW'; have h := And.intro (HS5.out.step HBB.out).cells.2.2.1 (HS5.out.step HBB.out).cells.2.2.2.1
              refine hK.out _ _ h (fun hHeld => ?_)
              clear hK K
              try simp only [Act.put, List.setIfInBounds_toArray, List.set_cons_zero, List.set_cons_succ]
              refine wpAnyG_two (i := 3) (j := 6) (oi := { dst := some 63, op := Op.call { callee := Callee.builtin Builtin.append, args := #[Operand.tmp 60, Operand.tmp 62], argTypes := #[25, 25] }, type := 25, pos := "ref.go:52", after := #[{ on := 0, ground := Ground.data }, { on := 2, ground := Ground.data }], guard := none }) (oj := { dst := some 66, op := Op.buildSlice 26 1 #[(0, Operand.tmp 65)], type := 26, pos := "ref.go:52", after := #[{ on := 5, ground := Ground.data }], guard := none }) (by kernel_rfl) rfl rfl (by rfl) (by rfl) (fun K hK => ?_) (fun K hK => ?_)
              ·
                refine wp_app_at (W4.heap.size) 25 9 (.string ⟨#[]⟩) 1 16 [_] 1 _ _ _ rfl Try.underlying25 info_str4 rfl (by decide) _ _ _ rfl rfl rfl (by intro u hu; simp at hu; subst hu; rfl) HE1.out HO1.out (by omega) (by omega) HBB.out.size ?_; intro v' W' hown' hg' _; obtain ⟨A7, c7, rfl⟩ := own_slice hown'; have hk' : Keep (fun g => (Value.slice A5 T.length c5).ownBlock = some g) _ W' := Keep.of_grown hg' (fun g hg => hg); (try have HE2 := Lib.hid (hk'.blk HE2.out (row_ne HO1.out HE2.out (by decide)))); have HO2 := Lib.hid (own_keep HO2.out hk' (fun g hg e => row_row_ne HO1.out HO2.out (by decide) g e hg)); have HBB := Lib.hid (HBB.out.trans (hk'.below HBB.out.size (own_base HO1.out))); have HO1 := Lib.hid hown'; clear hown' hg' hk'; have h := And.intro (HS5.out.step HBB.out).cells.2.2.1 (HS5.out.step HBB.out).cells.2.2.2.1
                refine hK.out _ _ h (fun hHeld => ?_)
                clear hK K
                try simp only [Act.put, List.setIfInBounds_toArray, List.set_cons_zero, List.set_cons_succ]
                refine wpAnyG_one (i := 6) (o := { dst := some 66, op := Op.buildSlice 26 1 #[(0, Operand.tmp 65)], type := 26, pos := "ref.go:52", after := #[{ on := 5, ground := Ground.data }], guard := none }) (by kernel_rfl) rfl (by rfl) (fun K hK => ?_)
                go_simp; have HE2 := Lib.hid (bel_new HBB.out (.cells #[.int .i64 (k : Int), .int .i64 (l : Int)] 71)); (try have HE1 := Lib.hid (blk_alloc HE1.out (.cells #[.int .i64 (k : Int), .int .i64 (l : Int)] 71))); have HO1 := Lib.hid (row_alloc HO1.out (.cells #[.int .i64 (k : Int), .int .i64 (l : Int)] 71)); have HO2 := Lib.hid (row_alloc HO2.out (.cells #[.int .i64 (k : Int), .int .i64 (l : Int)] 71)); have HBB := Lib.hid (bel_alloc HBB.out (.cells #[.int .i64 (k : Int), .int .i64 (l : Int)] 71)); refine gen_below HBB.out rfl (fun W' hW' => ?_); rw [← hW'] at HBB HO1 HO2 HE2; (try rw [← hW'] at HE1); clear hW'; have h := And.intro (HS5.out.step HBB.out).cells.2.2.1 (HS5.out.step HBB.out).cells.2.2.2.1
                refine hK.out _ _ h (fun hHeld => ?_)
                clear hK K
                try simp only [Act.put, List.setIfInBounds_toArray, List.set_cons_zero, List.set_cons_succ]
                refine wpAnyG_one (i := 7) (o := { dst := some 67, op := Op.call { callee := Callee.builtin Builtin.append, args := #[Operand.tmp 64, Operand.tmp 66], argTypes := #[26, 26] }, type := 26, pos := "ref.go:52", after := #[{ on := 4, ground := Ground.data }, { on := 6, ground := Ground.data }, { on := 3, ground := Ground.chain }], guard := none }) (by kernel_rfl) rfl (by rfl) (fun K hK => ?_)
                refine wp_app_at (W4.heap.size) 26 71 (.agg #[.int .i64 0, .int .i64 0]) 2 16 [_, _] 1 _ _ _ rfl Try.underlying26 info_mrg rfl (by decide) _ _ _ rfl rfl rfl (by intro u hu; simp at hu; rcases hu with rfl | rfl <;> rfl) HE2.out HO2.out (by omega) (by omega) HBB.out.size ?_; intro v' W' hown' hg' _; obtain ⟨A8, c8, rfl⟩ := own_slice hown'; have hk' : Keep (fun g => (Value.slice A6 (mrgsT T).length c6).ownBlock = some g) _ W' := Keep.of_grown hg' (fun g hg => hg); (try have HE1 := Lib.hid (hk'.blk HE1.out (row_ne HO2.out HE1.out (by decide)))); have HO1 := Lib.hid (own_keep HO1.out hk' (fun g hg e => row_row_ne HO2.out HO1.out (by decide) g e hg)); have HBB := Lib.hid (HBB.out.trans (hk'.below HBB.out.size (own_base HO2.out))); have HO2 := Lib.hid hown'; clear hown' hg' hk'; have h := And.intro (HS5.out.step HBB.out).cells.2.2.1 (HS5.out.step HBB.out).cells.2.2.2.1
                refine hK.out _ _ h (fun hHeld => ?_)
                clear hK K
                try simp only [Act.put, List.setIfInBounds_toArray, List.set_cons_zero, List.set_cons_succ]
                refine wpAnyG_takeD (i := 8) (oi := { dst := some 68, op := Op.build 28 #[(0, Operand.tmp 63), (1, Operand.tmp 67)], type := 28, pos := "ref.go:52", after := #[{ on := 3, ground := Ground.data }, { on := 7, ground := Ground.data }], guard := none }) (d := 68) (v := ?_) rfl rfl (by kernel_rfl) (by kernel_rfl) (by kernel_rfl) (by kernel_rfl) (fun _ _ _ h => h) (Or.inl ⟨by rfl, ?_⟩) hHeld ?_
                rotate_left
                · (intro w' hSw; (try dsimp only at hSw); go_simp; (try with_reducible rfl))
                simp only [List.setIfInBounds_toArray, List.set_cons_zero, List.set_cons_succ]
                refine wpAnyG_last (o := { dst := none, op := Op.store 28 (Operand.tmp 4) (Operand.tmp 68), type := 0, pos := "ref.go:52", after := #[{ on := 8, ground := Ground.data }, { on := 7, ground := Ground.chain }, { on := 0, ground := Ground.phase }, { on := 1, ground := Ground.phase }, { on := 2, ground := Ground.phase }, { on := 3, ground := Ground.phase }, { on := 4, ground := Ground.phase }, { on := 5, ground := Ground.phase }, { on := 6, ground := Ground.phase }, { on := 7, ground := Ground.phase }, { on := 8, ground := Ground.phase }], guard := none }) (by kernel_rfl) rfl (by rfl) (fun K hK => ?_)
                obtain ⟨_, _, _, _, d0, d1, z0, z1⟩ := (HS5.out.step HBB.out).cells; go_simp
                refine hK.out _ _ ?_
                clear hK K
                try simp only [Act.put, List.setIfInBounds_toArray, List.set_cons_zero, List.set_cons_succ]
                refine wpAnyG_one (i := 10) (o := { dst := some 5, op := Op.assign (Operand.const (Value.int IntKind.i64 0)), type := 3, pos := "ref.go:52", after := #[{ on := 9, ground := Ground.chain }, { on := 0, ground := Ground.phase }, { on := 1, ground := Ground.phase }, { on := 2, ground := Ground.phase }, { on := 3, ground := Ground.phase }, { on := 4, ground := Ground.phase }, { on := 5, ground := Ground.phase }, { on := 6, ground := Ground.phase }, { on := 7, ground := Ground.phase }, { on := 8, ground := Ground.phase }, { on := 9, ground := Ground.phase }], guard := none }) (by kernel_rfl) rfl (by rfl) (fun K hK => ?_)
                go_simp; have mm := blk_far (p := ⟨r2, 1, none⟩) (blk_far (p := ⟨r2, 0, none⟩) (HS5.out.step HBB.out).m HNE.out (.slice A7 (T.length + 1) c7)) HNE.out (.slice A8 ((mrgsT T).length + 1) c8); have h := And.intro (blk_cell mm 0) (blk_cell mm 1)
                refine hK.out _ _ h (fun hHeld => ?_)
                clear hK K
                try simp only [Act.put, List.setIfInBounds_toArray, List.set_cons_zero, List.set_cons_succ]
                refine wpAnyG_done (by kernel_rfl) ?_ _
                go_wp2_with fail; have FIN := radd_fin HS5.out HBB.out HO1.out HO2.out HKZ.out HADD.out HBASE.out H256.out; refine ret_ref (r := r2) rfl rfl rfl FIN.1 FIN.2
              ·
                go_simp; have HE2 := Lib.hid (bel_new HBB.out (.cells #[.int .i64 (k : Int), .int .i64 (l : Int)] 71)); (try have HE1 := Lib.hid (blk_alloc HE1.out (.cells #[.int .i64 (k : Int), .int .i64 (l : Int)] 71))); have HO1 := Lib.hid (row_alloc HO1.out (.cells #[.int .i64 (k : Int), .int .i64 (l : Int)] 71)); have HO2 := Lib.hid (row_alloc HO2.out (.cells #[.int .i64 (k : Int), .int .i64 (l : Int)] 71)); have HBB := Lib.hid (bel_alloc HBB.out (.cells #[.int .i64 (k : Int), .int .i64 (l : Int)] 71)); refine gen_below HBB.out rfl (fun W' hW' => ?_); rw [← hW'] at HBB HO1 HO2 HE2; (try rw [← hW'] at HE1); clear hW'; have h := And.intro (HS5.out.step HBB.out).cells.2.2.1 (HS5.out.step HBB.out).cells.2.2.2.1
                refine hK.out _ _ h (fun hHeld => ?_)
                clear hK K
                try simp only [Act.put, List.setIfInBounds_toArray, List.set_cons_zero, List.set_cons_succ]
                refine wpAnyG_one (i := 3) (o := { dst := some 63, op := Op.call { callee := Callee.builtin Builtin.append, args := #[Operand.tmp 60, Operand.tmp 62], argTypes := #[25, 25] }, type := 25, pos := "ref.go:52", after := #[{ on := 0, ground := Ground.data }, { on := 2, ground := Ground.data }], guard := none }) (by kernel_rfl) rfl (by rfl) (fun K hK => ?_)
                refine wp_app_at (W4.heap.size) 25 9 (.string ⟨#[]⟩) 1 16 [_] 1 _ _ _ rfl Try.underlying25 info_str4 rfl (by decide) _ _ _ rfl rfl rfl (by intro u hu; simp at hu; subst hu; rfl) HE1.out HO1.out (by omega) (by omega) HBB.out.size ?_; intro v' W' hown' hg' _; obtain ⟨A7, c7, rfl⟩ := own_slice hown'; have hk' : Keep (fun g => (Value.slice A5 T.length c5).ownBlock = some g) _ W' := Keep.of_grown hg' (fun g hg => hg); (try have HE2 := Lib.hid (hk'.blk HE2.out (row_ne HO1.out HE2.out (by decide)))); have HO2 := Lib.hid (own_keep HO2.out hk' (fun g hg e => row_row_ne HO1.out HO2.out (by decide) g e hg)); have HBB := Lib.hid (HBB.out.trans (hk'.below HBB.out.size (own_base HO1.out))); have HO1 := Lib.hid hown'; clear hown' hg' hk'; have h := And.intro (HS5.out.step HBB.out).cells.2.2.1 (HS5.out.step HBB.out).cells.2.2.2.1
                refine hK.out _ _ h (fun hHeld => ?_)
                clear hK K
                try simp only [Act.put, List.setIfInBounds_toArray, List.set_cons_zero, List.set_cons_succ]
                refine wpAnyG_one (i := 7) (o := { dst := some 67, op := Op.call { callee := Callee.builtin Builtin.append, args := #[Operand.tmp 64, Operand.tmp 66], argTypes := #[26, 26] }, type := 26, pos := "ref.go:52", after := #[{ on := 4, ground := Ground.data }, { on := 6, ground := Ground.data }, { on := 3, ground := Ground.chain }], guard := none }) (by kernel_rfl) rfl (by rfl) (fun K hK => ?_)
                refine wp_app_at (W4.heap.size) 26 71 (.agg #[.int .i64 0, .int .i64 0]) 2 16 [_, _] 1 _ _ _ rfl Try.underlying26 info_mrg rfl (by decide) _ _ _ rfl rfl rfl (by intro u hu; simp at hu; rcases hu with rfl | rfl <;> rfl) HE2.out HO2.out (by omega) (by omega) HBB.out.size ?_; intro v' W' hown' hg' _; obtain ⟨A8, c8, rfl⟩ := own_slice hown'; have hk' : Keep (fun g => (Value.slice A6 (mrgsT T).length c6).ownBlock = some g) _ W' := Keep.of_grown hg' (fun g hg => hg); (try have HE1 := Lib.hid (hk'.blk HE1.out (row_ne HO2.out HE1.out (by decide)))); have HO1 := Lib.hid (own_keep HO1.out hk' (fun g hg e => row_row_ne HO2.out HO1.out (by decide) g e hg)); have HBB := Lib.hid (HBB.out.trans (hk'.below HBB.out.size (own_base HO2.out))); have HO2 := Lib.hid hown'; clear hown' hg' hk'; have h := And.intro (HS5.out.step HBB.out).cells.2.2.1 (HS5.out.step HBB.out).cells.2.2.2.1
                refine hK.out _ _ h (fun hHeld => ?_)
                clear hK K
                try simp only [Act.put, List.setIfInBounds_toArray, List.set_cons_zero, List.set_cons_succ]
                refine wpAnyG_takeD (i := 8) (oi := { dst := some 68, op := Op.build 28 #[(0, Operand.tmp 63), (1, Operand.tmp 67)], type := 28, pos := "ref.go:52", after := #[{ on := 3, ground := Ground.data }, { on := 7, ground := Ground.data }], guard := none }) (d := 68) (v := ?_) rfl rfl (by kernel_rfl) (by kernel_rfl) (by kernel_rfl) (by kernel_rfl) (fun _ _ _ h => h) (Or.inl ⟨by rfl, ?_⟩) hHeld ?_
                rotate_left
                · (intro w' hSw; (try dsimp only at hSw); go_simp; (try with_reducible rfl))
                simp only [List.setIfInBounds_toArray, List.set_cons_zero, List.set_cons_succ]
                refine wpAnyG_last (o := { dst := none, op := Op.store 28 (Operand.tmp 4) (Operand.tmp 68), type := 0, pos := "ref.go:52", after := #[{ on := 8, ground := Ground.data }, { on := 7, ground := Ground.chain }, { on := 0, ground := Ground.phase }, { on := 1, ground := Ground.phase }, { on := 2, ground := Ground.phase }, { on := 3, ground := Ground.phase }, { on := 4, ground := Ground.phase }, { on := 5, ground := Ground.phase }, { on := 6, ground := Ground.phase }, { on := 7, ground := Ground.phase }, { on := 8, ground := Ground.phase }], guard := none }) (by kernel_rfl) rfl (by rfl) (fun K hK => ?_)
                obtain ⟨_, _, _, _, d0, d1, z0, z1⟩ := (HS5.out.step HBB.out).cells; go_simp
                refine hK.out _ _ ?_
                clear hK K
                try simp only [Act.put, List.setIfInBounds_toArray, List.set_cons_zero, List.set_cons_succ]
                refine wpAnyG_one (i := 10) (o := { dst := some 5, op := Op.assign (Operand.const (Value.int IntKind.i64 0)), type := 3, pos := "ref.go:52", after := #[{ on := 9, ground := Ground.chain }, { on := 0, ground := Ground.phase }, { on := 1, ground := Ground.phase }, { on := 2, ground := Ground.phase }, { on := 3, ground := Ground.phase }, { on := 4, ground := Ground.phase }, { on := 5, ground := Ground.phase }, { on := 6, ground := Ground.phase }, { on := 7, ground := Ground.phase }, { on := 8, ground := Ground.phase }, { on := 9, ground := Ground.phase }], guard := none }) (by kernel_rfl) rfl (by rfl) (fun K hK => ?_)
                go_simp; have mm := blk_far (p := ⟨r2, 1, none⟩) (blk_far (p := ⟨r2, 0, none⟩) (HS5.out.step HBB.out).m HNE.out (.slice A7 (T.length + 1) c7)) HNE.out (.slice A8 ((mrgsT T).length + 1) c8); have h := And.intro (blk_cell mm 0) (blk_cell mm 1)
                refine hK.out _ _ h (fun hHeld => ?_)
                clear hK K
                try simp only [Act.put, List.setIfInBounds_toArray, List.set_cons_zero, List.set_cons_succ]
                refine wpAnyG_done (by kernel_rfl) ?_ _
                go_wp2_with fail; have FIN := radd_fin HS5.out HBB.out HO1.out HO2.out HKZ.out HADD.out HBASE.out H256.out; refine ret_ref (r := r2) rfl rfl rfl FIN.1 FIN.2
            ·
              go_simp; have HE2 := Lib.hid (bel_new HBB.out (.cells #[.int .i64 (k : Int), .int .i64 (l : Int)] 71)); (try have HE1 := Lib.hid (blk_alloc HE1.out (.cells #[.int .i64 (k : Int), .int .i64 (l : Int)] 71))); have HO1 := Lib.hid (row_alloc HO1.out (.cells #[.int .i64 (k : Int), .int .i64 (l : Int)] 71)); have HO2 := Lib.hid (row_alloc HO2.out (.cells #[.int .i64 (k : Int), .int .i64 (l : Int)] 71)); have HBB := Lib.hid (bel_alloc HBB.out (.cells #[.int .i64 (k : Int), .int .i64 (l : Int)] 71)); refine gen_below HBB.out rfl (fun W' hW' => ?_); rw [← hW'] at HBB HO1 HO2 HE2; (try rw [← hW'] at HE1); clear hW'; have h := And.intro (HS5.out.step HBB.out).cells.2.2.1 (HS5.out.step HBB.out).cells.2.2.2.1
              refine hK.out _ _ h (fun hHeld => ?_)
              clear hK K
              try simp only [Act.put, List.setIfInBounds_toArray, List.set_cons_zero, List.set_cons_succ]
              refine wpAnyG_one (i := 2) (o := { dst := some 62, op := Op.buildSlice 25 1 #[(0, Operand.tmp 61)], type := 25, pos := "ref.go:52", after := #[{ on := 1, ground := Ground.data }], guard := none }) (by kernel_rfl) rfl (by rfl) (fun K hK => ?_)
              go_simp; have HE1 := Lib.hid (bel_new HBB.out (.cells #[.string z] 9)); (try have HE2 := Lib.hid (blk_alloc HE2.out (.cells #[.string z] 9))); have HO1 := Lib.hid (row_alloc HO1.out (.cells #[.string z] 9)); have HO2 := Lib.hid (row_alloc HO2.out (.cells #[.string z] 9)); have HBB := Lib.hid (bel_alloc HBB.out (.cells #[.string z] 9)); refine gen_below HBB.out rfl (fun W' hW' => ?_); rw [← hW'] at HBB HO1 HO2 HE1; (try rw [← hW'] at HE2); clear hW'; have h := And.intro (HS5.out.step HBB.out).cells.2.2.1 (HS5.out.step HBB.out).cells.2.2.2.1
              refine hK.out _ _ h (fun hHeld => ?_)
              clear hK K
              try simp only [Act.put, List.setIfInBounds_toArray, List.set_cons_zero, List.set_cons_succ]
              refine wpAnyG_one (i := 3) (o := { dst := some 63, op := Op.call { callee := Callee.builtin Builtin.append, args := #[Operand.tmp 60, Operand.tmp 62], argTypes := #[25, 25] }, type := 25, pos := "ref.go:52", after := #[{ on := 0, ground := Ground.data }, { on := 2, ground := Ground.data }], guard := none }) (by kernel_rfl) rfl (by rfl) (fun K hK => ?_)
              refine wp_app_at (W4.heap.size) 25 9 (.string ⟨#[]⟩) 1 16 [_] 1 _ _ _ rfl Try.underlying25 info_str4 rfl (by decide) _ _ _ rfl rfl rfl (by intro u hu; simp at hu; subst hu; rfl) HE1.out HO1.out (by omega) (by omega) HBB.out.size ?_; intro v' W' hown' hg' _; obtain ⟨A7, c7, rfl⟩ := own_slice hown'; have hk' : Keep (fun g => (Value.slice A5 T.length c5).ownBlock = some g) _ W' := Keep.of_grown hg' (fun g hg => hg); (try have HE2 := Lib.hid (hk'.blk HE2.out (row_ne HO1.out HE2.out (by decide)))); have HO2 := Lib.hid (own_keep HO2.out hk' (fun g hg e => row_row_ne HO1.out HO2.out (by decide) g e hg)); have HBB := Lib.hid (HBB.out.trans (hk'.below HBB.out.size (own_base HO1.out))); have HO1 := Lib.hid hown'; clear hown' hg' hk'; have h := And.intro (HS5.out.step HBB.out).cells.2.2.1 (HS5.out.step HBB.out).cells.2.2.2.1
              refine hK.out _ _ h (fun hHeld => ?_)
              clear hK K
              try simp only [Act.put, List.setIfInBounds_toArray, List.set_cons_zero, List.set_cons_succ]
              refine wpAnyG_one (i := 7) (o := { dst := some 67, op := Op.call { callee := Callee.builtin Builtin.append, args := #[Operand.tmp 64, Operand.tmp 66], argTypes := #[26, 26] }, type := 26, pos := "ref.go:52", after := #[{ on := 4, ground := Ground.data }, { on := 6, ground := Ground.data }, { on := 3, ground := Ground.chain }], guard := none }) (by kernel_rfl) rfl (by rfl) (fun K hK => ?_)
              refine wp_app_at (W4.heap.size) 26 71 (.agg #[.int .i64 0, .int .i64 0]) 2 16 [_, _] 1 _ _ _ rfl Try.underlying26 info_mrg rfl (by decide) _ _ _ rfl rfl rfl (by intro u hu; simp at hu; rcases hu with rfl | rfl <;> rfl) HE2.out HO2.out (by omega) (by omega) HBB.out.size ?_; intro v' W' hown' hg' _; obtain ⟨A8, c8, rfl⟩ := own_slice hown'; have hk' : Keep (fun g => (Value.slice A6 (mrgsT T).length c6).ownBlock = some g) _ W' := Keep.of_grown hg' (fun g hg => hg); (try have HE1 := Lib.hid (hk'.blk HE1.out (row_ne HO2.out HE1.out (by decide)))); have HO1 := Lib.hid (own_keep HO1.out hk' (fun g hg e => row_row_ne HO2.out HO1.out (by decide) g e hg)); have HBB := Lib.hid (HBB.out.trans (hk'.below HBB.out.size (own_base HO2.out))); have HO2 := Lib.hid hown'; clear hown' hg' hk'; have h := And.intro (HS5.out.step HBB.out).cells.2.2.1 (HS5.out.step HBB.out).cells.2.2.2.1
              refine hK.out _ _ h (fun hHeld => ?_)
              clear hK K
              try simp only [Act.put, List.setIfInBounds_toArray, List.set_cons_zero, List.set_cons_succ]
              refine wpAnyG_takeD (i := 8) (oi := { dst := some 68, op := Op.build 28 #[(0, Operand.tmp 63), (1, Operand.tmp 67)], type := 28, pos := "ref.go:52", after := #[{ on := 3, ground := Ground.data }, { on := 7, ground := Ground.data }], guard := none }) (d := 68) (v := ?_) rfl rfl (by kernel_rfl) (by kernel_rfl) (by kernel_rfl) (by kernel_rfl) (fun _ _ _ h => h) (Or.inl ⟨by rfl, ?_⟩) hHeld ?_
              rotate_left
              · (intro w' hSw; (try dsimp only at hSw); go_simp; (try with_reducible rfl))
              simp only [List.setIfInBounds_toArray, List.set_cons_zero, List.set_cons_succ]
              refine wpAnyG_last (o := { dst := none, op := Op.store 28 (Operand.tmp 4) (Operand.tmp 68), type := 0, pos := "ref.go:52", after := #[{ on := 8, ground := Ground.data }, { on := 7, ground := Ground.chain }, { on := 0, ground := Ground.phase }, { on := 1, ground := Ground.phase }, { on := 2, ground := Ground.phase }, { on := 3, ground := Ground.phase }, { on := 4, ground := Ground.phase }, { on := 5, ground := Ground.phase }, { on := 6, ground := Ground.phase }, { on := 7, ground := Ground.phase }, { on := 8, ground := Ground.phase }], guard := none }) (by kernel_rfl) rfl (by rfl) (fun K hK => ?_)
              obtain ⟨_, _, _, _, d0, d1, z0, z1⟩ := (HS5.out.step HBB.out).cells; go_simp
              refine hK.out _ _ ?_
              clear hK K
              try simp only [Act.put, List.setIfInBounds_toArray, List.set_cons_zero, List.set_cons_succ]
              refine wpAnyG_one (i := 10) (o := { dst := some 5, op := Op.assign (Operand.const (Value.int IntKind.i64 0)), type := 3, pos := "ref.go:52", after := #[{ on := 9, ground := Ground.chain }, { on := 0, ground := Ground.phase }, { on := 1, ground := Ground.phase }, { on := 2, ground := Ground.phase }, { on := 3, ground := Ground.phase }, { on := 4, ground := Ground.phase }, { on := 5, ground := Ground.phase }, { on := 6, ground := Ground.phase }, { on := 7, ground := Ground.phase }, { on := 8, ground := Ground.phase }, { on := 9, ground := Ground.phase }], guard := none }) (by kernel_rfl) rfl (by rfl) (fun K hK => ?_)
              go_simp; have mm := blk_far (p := ⟨r2, 1, none⟩) (blk_far (p := ⟨r2, 0, none⟩) (HS5.out.step HBB.out).m HNE.out (.slice A7 (T.length + 1) c7)) HNE.out (.slice A8 ((mrgsT T).length + 1) c8); have h := And.intro (blk_cell mm 0) (blk_cell mm 1)
              refine hK.out _ _ h (fun hHeld => ?_)
              clear hK K
              try simp only [Act.put, List.setIfInBounds_toArray, List.set_cons_zero, List.set_cons_succ]
              refine wpAnyG_done (by kernel_rfl) ?_ _
              go_wp2_with fail; have FIN := radd_fin HS5.out HBB.out HO1.out HO2.out HKZ.out HADD.out HBASE.out H256.out; refine ret_ref (r := r2) rfl rfl rfl FIN.1 FIN.2
end Go.Proofs.Ytpkmcokkapfnmaa
/- Layer 4 (token): what the document's Grow makes, as plain lists. -/
namespace Go.Proofs.Ytpkmcokkapfnmaa

/-- a number as a token: where it is beyond the tokens it is one of those that were made -/
def foldT (T : List Ent) (x : Nat) : Nat := if x % (T.length + (T.length - 256)) ≥ T.length then 256 + x % (T.length + (T.length - 256)) - T.length else x % (T.length + (T.length - 256))
def growStep (T : List Ent) (x y : Nat) : List Ent := if (addT T (foldT T x : Nat) (foldT T y : Nat)).2.1 = 0 then (addT T (foldT T x : Nat) (foldT T y : Nat)).2.2 else T
/-- the table behind j rounds -/
def growT (l : List Nat) : Nat → List Ent
  | 0 => baseT
  | j + 1 => growStep (growT l j) (l.getD (2 * j) 0) (l.getD (2 * j + 1) 0)
theorem okT_step {T : List Ent} (h : OkT T) (x y : Nat) : OkT (growStep T x y) := by
  unfold growStep
  split
  · rename_i h0; exact okT_add h _ _ h0
  · exact h
theorem okT_grow (l : List Nat) : ∀ j, OkT (growT l j)
  | 0 => okT_base
  | j + 1 => okT_step (okT_grow l j) _ _
theorem okT_256 {T : List Ent} (h : OkT T) : 256 ≤ T.length := by
  obtain ⟨M, hM⟩ := h.base
  rw [hM, List.length_append, base_len]
  omega
theorem mrgs_len {T : List Ent} : (mrgsT T).length = T.length - 256 := by simp [mrgsT]
end Go.Proofs.Ytpkmcokkapfnmaa
/- Layer 4 (token): the document's Grow. -/
namespace Go.Proofs.Ytpkmcokkapfnmaa
open Go.RowKit Go.Maps Go.WideMaps
set_option maxRecDepth 100000
set_option linter.unusedVariables false
set_option linter.unusedSimpArgs false

theorem radd_any {w : World} {base : Nat} {T : List Ent} {A : Option Addr} {c : Nat} {A2 : Option Addr} {c2 : Nat} (a b : Int) (h : RefIs w base T (.slice A T.length c) (.slice A2 (mrgsT T).length c2)) (hT : OkT T) (hbase : base ≤ w.heap.size) :
    Calls Try.prog 49 #[.agg #[.slice A T.length c, .slice A2 (mrgsT T).length c2], .agg #[.int .i64 a, .int .i64 b]] w (RAddOk w base T a b) := by
  by_cases he : (addT T a b).2.1 = 0
  · exact radd_ok a b h hT he hbase
  · exact radd_err a b h hT he

/-- Grow's memory behind j rounds: the result, the table -/
structure GrowIs (w W : World) (l : List Nat) (r tb j : Nat) : Prop where
  ex : ∃ A c A2 c2, W.heap[tb]? = some (.cells #[.slice A (growT l j).length c, .slice A2 (mrgsT (growT l j)).length c2] 28) ∧ RefIs W w.heap.size (growT l j) (.slice A (growT l j).length c) (.slice A2 (mrgsT (growT l j)).length c2)
  res : W.heap[r]? = some (.cells #[.slice none 0 0, .slice none 0 0] 28)
  below : Below w.heap.size w W
  le : w.heap.size ≤ r ∧ w.heap.size ≤ tb
  ne : r ≠ tb
theorem grow_start {w w1 : World} {l : List Nat} {A1 : Option Addr} {c1 : Nat} (hr : RefIs w1 (w.alloc (.cells #[.slice none 0 0, .slice none 0 0] 28)).heap.size baseT (.slice A1 baseT.length c1) (.slice none 0 0))
    (hb : Below (w.alloc (.cells #[.slice none 0 0, .slice none 0 0] 28)).heap.size (w.alloc (.cells #[.slice none 0 0, .slice none 0 0] 28)) w1) :
    GrowIs w (w1.alloc (.cells #[.slice A1 baseT.length c1, .slice none 0 0] 28)) l w.heap.size w1.heap.size 0 := by
  have e0 : (mrgsT (growT l 0)).length = 0 := by rw [mrgs_len]; simp [growT, base_len]
  have hb2 := (Below.refl w1.heap.size w1).alloc (Nat.le_refl _) (.cells #[.slice A1 baseT.length c1, .slice none 0 0] 28)
  have hr2 := (hr.below hb2 (Nat.le_refl _)).less (base := w.heap.size) (by simp)
  have hsz := hb.size
  rw [size_alloc] at hsz
  refine ⟨⟨A1, c1, none, 0, ?_, ?_⟩, blk_alloc (blk_below hb (by simp) (blk_new w _)) _, ?_, ⟨Nat.le_refl _, by omega⟩, by omega⟩
  · rw [e0]; exact blk_new w1 _
  · rw [e0]; exact hr2
  · exact (((Below.refl w.heap.size w).alloc (Nat.le_refl _) _).trans (hb.mono (by simp))).alloc (by omega) _

theorem GrowIs.err {w W w2 : World} {l : List Nat} {r tb j : Nat} (h : GrowIs w W l r tb j) (hb : Below W.heap.size W w2) (he : growT l (j + 1) = growT l j) (o : Obj) : GrowIs w (w2.alloc o) l r tb (j + 1) := by
  obtain ⟨A, c, A2, c2, hbk, href⟩ := h.ex
  have hb2 := hb.alloc hb.size o
  refine ⟨⟨A, c, A2, c2, ?_, ?_⟩, blk_below hb2 (blk_lt h.res) h.res, h.below.trans (hb2.mono h.below.size), h.le, h.ne⟩
  · rw [he]; exact blk_below hb2 (blk_lt hbk) hbk
  · rw [he]; exact href.below hb2 (Nat.le_refl _)
theorem GrowIs.ok {w W w2 : World} {l : List Nat} {r tb j n m c c2 : Nat} {A A2 : Option Addr} (h : GrowIs w W l r tb j) (hb : Below W.heap.size W w2) (href : RefIs w2 w.heap.size (growT l (j + 1)) (.slice A n c) (.slice A2 m c2)) (o : Obj) :
    GrowIs w (((w2.alloc o).setCell ⟨tb, 0, none⟩ (.slice A n c)).setCell ⟨tb, 1, none⟩ (.slice A2 m c2)) l r tb (j + 1) := by
  obtain ⟨A0, c0, A20, c20, hbk, _⟩ := h.ex
  have hb2 := hb.alloc hb.size o
  have en : n = (growT l (j + 1)).length := by obtain ⟨_, _, e⟩ := own_slice href.row; injection e
  have em : m = (mrgsT (growT l (j + 1))).length := by obtain ⟨_, _, e⟩ := own_slice href.mrg; injection e
  subst en; subst em
  have hr1 := href.below ((Below.refl w2.heap.size w2).alloc (Nat.le_refl _) o) (Nat.le_refl _)
  have b1 := blk_set (blk_set (blk_below hb2 (blk_lt hbk) hbk) 0 (.slice A (growT l (j + 1)).length c)) 1 (.slice A2 (mrgsT (growT l (j + 1))).length c2)
  simp only [List.setIfInBounds_toArray, List.set_cons_zero, List.set_cons_succ] at b1
  have K3 : ∀ (W : World) (i : Nat) (u : Value), Keep (fun g => g = tb) W (W.setCell ⟨tb, i, none⟩ u) := fun W i u => Keep.setCell (F := fun g => g = tb) (p := ⟨tb, i, none⟩) (Keep.refl _ _) (Or.inl rfl) _
  have hk1 := blk_below hb2 (blk_lt hbk) hbk
  refine ⟨⟨A, c, A2, c2, b1, ?_, ?_, hr1.nil⟩, blk_far (p := ⟨tb, 1, none⟩) (blk_far (p := ⟨tb, 0, none⟩) (blk_below hb2 (blk_lt h.res) h.res) h.ne _) h.ne _, ((h.below.trans (hb2.mono h.below.size)).setCell (p := ⟨tb, 0, none⟩) h.le.2 _).setCell (p := ⟨tb, 1, none⟩) h.le.2 _, h.le, h.ne⟩
  · exact own_keep (own_keep hr1.row (K3 _ 0 _) (fun g hg e => row_ne hr1.row hk1 (by decide) (by rw [hg, e]))) (K3 _ 1 _) (fun g hg e => row_ne hr1.row hk1 (by decide) (by rw [hg, e]))
  · exact own_keep (own_keep hr1.mrg (K3 _ 0 _) (fun g hg e => row_ne hr1.mrg hk1 (by decide) (by rw [hg, e]))) (K3 _ 1 _) (fun g hg e => row_ne hr1.mrg hk1 (by decide) (by rw [hg, e]))
theorem GrowIs.fin {w W : World} {l : List Nat} {r tb j n m c c2 : Nat} {A A2 : Option Addr} (h : GrowIs w W l r tb j) (href : RefIs W w.heap.size (growT l j) (.slice A n c) (.slice A2 m c2)) :
    ((W.setCell ⟨r, 0, none⟩ (.slice A n c)).setCell ⟨r, 1, none⟩ (.slice A2 m c2)).heap[r]? = some (.cells #[.slice A n c, .slice A2 m c2] 28) ∧ Below w.heap.size w ((W.setCell ⟨r, 0, none⟩ (.slice A n c)).setCell ⟨r, 1, none⟩ (.slice A2 m c2)) ∧
      RefIs ((W.setCell ⟨r, 0, none⟩ (.slice A n c)).setCell ⟨r, 1, none⟩ (.slice A2 m c2)) w.heap.size (growT l j) (.slice A n c) (.slice A2 m c2) := by
  have b1 := blk_set (blk_set h.res 0 (.slice A n c)) 1 (.slice A2 m c2)
  simp only [List.setIfInBounds_toArray, List.set_cons_zero, List.set_cons_succ] at b1
  have K3 : ∀ (W : World) (i : Nat) (u : Value), Keep (fun g => g = r) W (W.setCell ⟨r, i, none⟩ u) := fun W i u => Keep.setCell (F := fun g => g = r) (p := ⟨r, i, none⟩) (Keep.refl _ _) (Or.inl rfl) _
  have n1 := blk_set h.res 0 (.slice A n c)
  refine ⟨b1, (h.below.setCell (p := ⟨r, 0, none⟩) h.le.1 _).setCell (p := ⟨r, 1, none⟩) h.le.1 _, ?_, ?_, href.nil⟩
  · exact own_keep (own_keep href.row (K3 _ 0 _) (fun g hg e => row_ne href.row h.res (by decide) (by rw [hg, e]))) (K3 _ 1 _) (fun g hg e => row_ne href.row h.res (by decide) (by rw [hg, e]))
  · exact own_keep (own_keep href.mrg (K3 _ 0 _) (fun g hg e => row_ne href.mrg h.res (by decide) (by rw [hg, e]))) (K3 _ 1 _) (fun g hg e => row_ne href.mrg h.res (by decide) (by rw [hg, e]))

theorem GrowIs.drewN {w W : World} {l : List Nat} {r tb j : Nat} (h : GrowIs w W l r tb j) (n : Nat) : GrowIs w (W.drewN n) l r tb j := by
  obtain ⟨A, c, A2, c2, hbk, href⟩ := h.ex
  exact ⟨⟨A, c, A2, c2, hbk, href.row, href.mrg, href.nil⟩, h.res, below_drewN h.below n, h.le, h.ne⟩

set_option maxHeartbeats 2000000 in
theorem grow_any (l : List Nat) (A : Option Addr) (c : Nat) (w : World) (hl : Sl1 w A (fun x : Nat => .int .u16 (x : Int)) l) (hsm : ∀ x ∈ l, x < 65536) (hlen : l.length < 9000000000000000000) :
    Calls Try.prog 34 #[.slice A l.length c] w fun e w' => Below w.heap.size w w' ∧ ∃ A1 n1 c1 A2 n2 c2, e = .returned (.agg #[.slice A1 n1 c1, .slice A2 n2 c2]) ∧
      RefIs w' w.heap.size (growT l (min (l.length / 2) 30)) (.slice A1 n1 c1) (.slice A2 n2 c2) := by
  have HL := Lib.hid hl
  clear hl
  go_enter Try.func34, Try.ntmps34
  go_wp2_with fail
  refine (rbegin_any _).mono ?_
  rintro e w1 ⟨vb, rfl, hr, hb⟩
  obtain ⟨A1, c1, rfl⟩ := own_slice hr.row
  go_wp2_with fail
  have HS := Lib.hid (grow_start (l := l) hr hb)
  clear hr hb
  generalize hW : w1.alloc (.cells #[.slice A1 baseT.length c1, .slice none 0 0] 28) = W0 at *
  obtain ⟨r, hr⟩ : ∃ r, w.heap.size = r := ⟨_, rfl⟩
  obtain ⟨tb, ht⟩ : ∃ tb, w1.heap.size = tb := ⟨_, rfl⟩
  have HS1 : Hid (GrowIs w W0 l r tb 0) := Lib.hid (by rw [← hr, ← ht]; exact HS.out)
  rw [hr, ht]
  clear HS hr ht hW
  go_loopg [4] 30 (fun n i W => ∃ j : Nat, j + n = 30 ∧ 2 * j ≤ l.length + 1 ∧ j ≤ l.length / 2 ∧ i = .int .i64 ((2 * j : Nat) : Int) ∧ GrowIs w W l r tb j)
  case atStart => exact ⟨0, by omega, by omega, by omega, rfl, HS1.out⟩
  case round =>
    obtain ⟨j, hj, hj2, hj3, rfl, hW⟩ := hrel
    have HW := Lib.hid hW
    clear HS1
    rename World => W
    by_cases hgo : 2 * j + 1 < l.length ∧ j < 30
    · obtain ⟨A3, c3, A4, c4, hbk, href⟩ := hW.ex
      have c0 := blk_cell hbk 0
      have c1' := blk_cell hbk 1
      simp only [List.getElem?_toArray, List.getElem?_cons_zero, List.getElem?_cons_succ] at c0 c1'
      have hT := okT_grow l j
      have hn1 := okT_256 hT
      have hn2 := hT.small
      have hm1 := mrgs_len (T := growT l j)
      have hLW := HL.out.below hW.below (Nat.le_refl _)
      obtain ⟨b, o, hA, x0⟩ := hLW.at (2 * j) (by omega)
      obtain ⟨_, _, hA', x1⟩ := hLW.at (2 * j + 1) hgo.1
      rw [hA] at hA'
      injection hA' with hA'
      injection hA' with e1 e2
      subst e1; subst e2
      have hx0 := hsm _ (List.getElem_mem (l := l) (n := 2 * j) (by omega))
      have hx1 := hsm _ (List.getElem_mem (l := l) (n := 2 * j + 1) hgo.1)
      have eX : l.getD (2 * j) 0 = l[2 * j]'(by omega) := by rw [List.getD_eq_getElem?_getD, List.getElem?_eq_getElem (by omega)]; rfl
      have eY : l.getD (2 * j + 1) 0 = l[2 * j + 1]'hgo.1 := by rw [List.getD_eq_getElem?_getD, List.getElem?_eq_getElem hgo.1]; rfl
      generalize hX : l[2 * j]'(by omega) = x at *
      generalize hY : l[2 * j + 1]'hgo.1 = y at *
      obtain ⟨n, hn⟩ : ∃ n, (growT l j).length = n := ⟨_, rfl⟩
      obtain ⟨m, hm⟩ : ∃ m, (mrgsT (growT l j)).length = m := ⟨_, rfl⟩
      have HREF := Lib.hid href
      have HEX := Lib.hid eX
      have HEY := Lib.hid eY
      have HN := Lib.hid hn
      have HM := Lib.hid hm
      have HOKT := Lib.hid hT
      rw [hn] at c0
      rw [hm] at c1'
      rw [hn] at hn1 hn2 hm1
      rw [hm] at hm1
      have g1 : (2 * (j : Int) + 1) < (l.length : Int) := by omega
      have g2 : (2 * (j : Int)) < 60 := by omega
      have g3 : (0 : Int) ≤ 2 * (j : Int) := by omega
      have g4 : (0 : Int) ≤ 2 * (j : Int) + 1 := by omega
      have g5 : (2 * (j : Int)) < (l.length : Int) := by omega
      have w1' : IntKind.i64.wrap (x : Int) = x := IntWalk.i64_in _ (by omega)
      have w2 : IntKind.i64.wrap (y : Int) = y := IntWalk.i64_in _ (by omega)
      have w3 : IntKind.i64.wrap ((n : Int) + m) = (n : Int) + m := IntWalk.i64_in _ (by omega)
      have w4 : IntKind.i64.wrap (2 * (j : Int) + 1) = 2 * (j : Int) + 1 := IntWalk.i64_in _ (by omega)
      have t1 : (2 * (j : Int)).toNat = 2 * j := by omega
      have t2 : (2 * (j : Int) + 1).toNat = 2 * j + 1 := by omega
      have hnm : ¬ ((n : Int) + m = 0) := by omega
      have HW2 := HW
      subst hA
      clear hW hbk href eX eY hn hm hLW hT
      go_wp2_with fail
      go_quiet (fail)
      have ex : (x : Int) % ((n : Int) + ((n - 256 : Nat) : Int)) = ((x % (n + (n - 256)) : Nat) : Int) := by push_cast; rfl
      have ey : (y : Int) % ((n : Int) + ((n - 256 : Nat) : Int)) = ((y % (n + (n - 256)) : Nat) : Int) := by push_cast; rfl
      rw [ex, ey]
      have hp := Nat.mod_lt x (show n + (n - 256) > 0 by omega)
      have hq := Nat.mod_lt y (show n + (n - 256) > 0 by omega)
      have fx : foldT (growT l j) x = if x % (n + (n - 256)) ≥ n then 256 + x % (n + (n - 256)) - n else x % (n + (n - 256)) := by unfold foldT; rw [HN.out]
      have fy : foldT (growT l j) y = if y % (n + (n - 256)) ≥ n then 256 + y % (n + (n - 256)) - n else y % (n + (n - 256)) := by unfold foldT; rw [HN.out]
      generalize x % (n + (n - 256)) = p at *
      generalize y % (n + (n - 256)) = q at *
      have HFX := Lib.hid fx
      have HFY := Lib.hid fy
      have HW3 := Lib.hid (HW2.out.drewN nq)
      have HREF3 : Hid (RefIs (W.drewN nq) w.heap.size (growT l j) (.slice A3 (growT l j).length c3) (.slice A4 (mrgsT (growT l j)).length c4)) := Lib.hid ⟨HREF.out.row, HREF.out.mrg, HREF.out.nil⟩
      have d0 : (W.drewN nq).cell? ⟨tb, 0, none⟩ = some (Value.slice A3 n c3) := c0
      have d1 : (W.drewN nq).cell? ⟨tb, 1, none⟩ = some (Value.slice A4 (n - 256) c4) := by rw [← hm1]; exact c1'
      clear fx fy c0 c1' HREF HW HW2 x0 x1 ex ey
      obtain ⟨W3, hW3⟩ : ∃ W3, W.drewN nq = W3 := ⟨_, rfl⟩
      rw [hW3] at HW3 HREF3 d0 d1
      rw [hW3]
      clear hW3
      have hstep : ∀ T' : List Ent, ∀ a' b' : Int, a' = (foldT (growT l j) x : Nat) → b' = (foldT (growT l j) y : Nat) → growT l (j + 1) = if (addT (growT l j) a' b').2.1 = 0 then (addT (growT l j) a' b').2.2 else growT l j := by
        intro _ a' b' ha hb
        subst ha; subst hb
        simp only [growT, growStep, HEX.out, HEY.out]
      have HSTEP := Lib.hid hstep
      clear hstep
      have HADD : Hid (∀ a b : Int, Calls Try.prog 49 #[.agg #[.slice A3 n c3, .slice A4 (n - 256) c4], .agg #[.int .i64 a, .int .i64 b]] W3 (RAddOk W3 w.heap.size (growT l j) a b)) := Lib.hid (fun a b => by
        have h := radd_any a b HREF3.out HOKT.out HW3.out.below.size
        rw [HM.out, HN.out, hm1] at h
        exact h)
      have w5 : IntKind.i64.wrap (2 * (j : Int) + 2) = 2 * (j : Int) + 2 := IntWalk.i64_in _ (by omega)
      by_cases hpn : n ≤ p
      · by_cases hqn : n ≤ q
        · have fpn : foldT (growT l j) x = 256 + p - n := by rw [HFX.out]; exact if_pos hpn
          have wp1 : IntKind.i64.wrap (256 + (p : Int)) = 256 + (p : Int) := IntWalk.i64_in _ (by omega)
          have wp2 : IntKind.i64.wrap (256 + (p : Int) - n) = 256 + (p : Int) - n := IntWalk.i64_in _ (by omega)
          have fqn : foldT (growT l j) y = 256 + q - n := by rw [HFY.out]; exact if_pos hqn
          have wq1 : IntKind.i64.wrap (256 + (q : Int)) = 256 + (q : Int) := IntWalk.i64_in _ (by omega)
          have wq2 : IntKind.i64.wrap (256 + (q : Int) - n) = 256 + (q : Int) - n := IntWalk.i64_in _ (by omega)
          go_wp2_with fail
          refine (HADD.out _ _).mono ?_
          rintro e w4 ⟨hb, A5, n5, c5, A6, n6, c6, rfl, href⟩
          have hst := HSTEP.out [] _ _ (show 256 + (p : Int) - n = _ by rw [fpn]; omega) (show 256 + (q : Int) - n = _ by rw [fqn]; omega)
          have HB := Lib.hid hb
          have HR := Lib.hid href
          clear hb href d0 d1
          rcases Decidable.em ((addT (growT l j) (256 + (p : Int) - n) (256 + (q : Int) - n)).2.1 = 0) with he | he
          · rw [if_pos he] at hst
            rw [← hst] at HR
            have HG := Lib.hid (HW3.out.ok HB.out HR.out (.cells #[.slice A5 n5 c5, .slice A6 n6 c6] 28))
            obtain ⟨_, _, _, _, hbk, _⟩ := HW3.out.ex
            have hb4 := HB.out.alloc HB.out.size (.cells #[.slice A5 n5 c5, .slice A6 n6 c6] 28)
            have e0 := blk_cell (blk_below hb4 (blk_lt hbk) hbk) 0
            have e1 := blk_cell (blk_below hb4 (blk_lt hbk) hbk) 1
            have z0 := blk_froz (blk_below hb4 (blk_lt hbk) hbk) 0
            have z1 := blk_froz (blk_below hb4 (blk_lt hbk) hbk) 1
            have f0 := blk_cell (blk_new w4 (.cells #[.slice A5 n5 c5, .slice A6 n6 c6] 28)) 0
            have f1 := blk_cell (blk_new w4 (.cells #[.slice A5 n5 c5, .slice A6 n6 c6] 28)) 1
            simp only [List.getElem?_toArray, List.getElem?_cons_zero, List.getElem?_cons_succ] at e0 e1 f0 f1
            clear hbk hb4 hst
            go_wp2_with fail
            go_roundg (gk - 1)
            case measure => omega
            case rel => exact ⟨j + 1, by omega, by omega, by omega, by simp [Int.mul_add], HG.out⟩
          · rw [if_neg he] at hst
            have HG := Lib.hid (HW3.out.err HB.out hst (.cells #[.slice A5 n5 c5, .slice A6 n6 c6] 28))
            clear hst
            go_wp2_with fail
            go_roundg (gk - 1)
            case measure => omega
            case rel => exact ⟨j + 1, by omega, by omega, by omega, by simp [Int.mul_add], HG.out⟩
        · have fpn : foldT (growT l j) x = 256 + p - n := by rw [HFX.out]; exact if_pos hpn
          have wp1 : IntKind.i64.wrap (256 + (p : Int)) = 256 + (p : Int) := IntWalk.i64_in _ (by omega)
          have wp2 : IntKind.i64.wrap (256 + (p : Int) - n) = 256 + (p : Int) - n := IntWalk.i64_in _ (by omega)
          have fqn : foldT (growT l j) y = q := by rw [HFY.out]; exact if_neg hqn
          go_wp2_with fail
          refine (HADD.out _ _).mono ?_
          rintro e w4 ⟨hb, A5, n5, c5, A6, n6, c6, rfl, href⟩
          have hst := HSTEP.out [] _ _ (show 256 + (p : Int) - n = _ by rw [fpn]; omega) (show (q : Int) = _ by rw [fqn])
          have HB := Lib.hid hb
          have HR := Lib.hid href
          clear hb href d0 d1
          rcases Decidable.em ((addT (growT l j) (256 + (p : Int) - n) ((q : Int))).2.1 = 0) with he | he
          · rw [if_pos he] at hst
            rw [← hst] at HR
            have HG := Lib.hid (HW3.out.ok HB.out HR.out (.cells #[.slice A5 n5 c5, .slice A6 n6 c6] 28))
            obtain ⟨_, _, _, _, hbk, _⟩ := HW3.out.ex
            have hb4 := HB.out.alloc HB.out.size (.cells #[.slice A5 n5 c5, .slice A6 n6 c6] 28)
            have e0 := blk_cell (blk_below hb4 (blk_lt hbk) hbk) 0
            have e1 := blk_cell (blk_below hb4 (blk_lt hbk) hbk) 1
            have z0 := blk_froz (blk_below hb4 (blk_lt hbk) hbk) 0
            have z1 := blk_froz (blk_below hb4 (blk_lt hbk) hbk) 1
            have f0 := blk_cell (blk_new w4 (.cells #[.slice A5 n5 c5, .slice A6 n6 c6] 28)) 0
            have f1 := blk_cell (blk_new w4 (.cells #[.slice A5 n5 c5, .slice A6 n6 c6] 28)) 1
            simp only [List.getElem?_toArray, List.getElem?_cons_zero, List.getElem?_cons_succ] at e0 e1 f0 f1
            clear hbk hb4 hst
            go_wp2_with fail
            go_roundg (gk - 1)
            case measure => omega
            case rel => exact ⟨j + 1, by omega, by omega, by omega, by simp [Int.mul_add], HG.out⟩
          · rw [if_neg he] at hst
            have HG := Lib.hid (HW3.out.err HB.out hst (.cells #[.slice A5 n5 c5, .slice A6 n6 c6] 28))
            clear hst
            go_wp2_with fail
            go_roundg (gk - 1)
            case measure => omega
            case rel => exact ⟨j + 1, by omega, by omega, by omega, by simp [Int.mul_add], HG.out⟩
      · by_cases hqn : n ≤ q
        · have fpn : foldT (growT l j) x = p := by rw [HFX.out]; exact if_neg hpn
          have fqn : foldT (growT l j) y = 256 + q - n := by rw [HFY.out]; exact if_pos hqn
          have wq1 : IntKind.i64.wrap (256 + (q : Int)) = 256 + (q : Int) := IntWalk.i64_in _ (by omega)
          have wq2 : IntKind.i64.wrap (256 + (q : Int) - n) = 256 + (q : Int) - n := IntWalk.i64_in _ (by omega)
          go_wp2_with fail
          refine (HADD.out _ _).mono ?_
          rintro e w4 ⟨hb, A5, n5, c5, A6, n6, c6, rfl, href⟩
          have hst := HSTEP.out [] _ _ (show (p : Int) = _ by rw [fpn]) (show 256 + (q : Int) - n = _ by rw [fqn]; omega)
          have HB := Lib.hid hb
          have HR := Lib.hid href
          clear hb href d0 d1
          rcases Decidable.em ((addT (growT l j) ((p : Int)) (256 + (q : Int) - n)).2.1 = 0) with he | he
          · rw [if_pos he] at hst
            rw [← hst] at HR
            have HG := Lib.hid (HW3.out.ok HB.out HR.out (.cells #[.slice A5 n5 c5, .slice A6 n6 c6] 28))
            obtain ⟨_, _, _, _, hbk, _⟩ := HW3.out.ex
            have hb4 := HB.out.alloc HB.out.size (.cells #[.slice A5 n5 c5, .slice A6 n6 c6] 28)
            have e0 := blk_cell (blk_below hb4 (blk_lt hbk) hbk) 0
            have e1 := blk_cell (blk_below hb4 (blk_lt hbk) hbk) 1
            have z0 := blk_froz (blk_below hb4 (blk_lt hbk) hbk) 0
            have z1 := blk_froz (blk_below hb4 (blk_lt hbk) hbk) 1
            have f0 := blk_cell (blk_new w4 (.cells #[.slice A5 n5 c5, .slice A6 n6 c6] 28)) 0
            have f1 := blk_cell (blk_new w4 (.cells #[.slice A5 n5 c5, .slice A6 n6 c6] 28)) 1
            simp only [List.getElem?_toArray, List.getElem?_cons_zero, List.getElem?_cons_succ] at e0 e1 f0 f1
            clear hbk hb4 hst
            go_wp2_with fail
            go_roundg (gk - 1)
            case measure => omega
            case rel => exact ⟨j + 1, by omega, by omega, by omega, by simp [Int.mul_add], HG.out⟩
          · rw [if_neg he] at hst
            have HG := Lib.hid (HW3.out.err HB.out hst (.cells #[.slice A5 n5 c5, .slice A6 n6 c6] 28))
            clear hst
            go_wp2_with fail
            go_roundg (gk - 1)
            case measure => omega
            case rel => exact ⟨j + 1, by omega, by omega, by omega, by simp [Int.mul_add], HG.out⟩
        · have fpn : foldT (growT l j) x = p := by rw [HFX.out]; exact if_neg hpn
          have fqn : foldT (growT l j) y = q := by rw [HFY.out]; exact if_neg hqn
          go_wp2_with fail
          refine (HADD.out _ _).mono ?_
          rintro e w4 ⟨hb, A5, n5, c5, A6, n6, c6, rfl, href⟩
          have hst := HSTEP.out [] _ _ (show (p : Int) = _ by rw [fpn]) (show (q : Int) = _ by rw [fqn])
          have HB := Lib.hid hb
          have HR := Lib.hid href
          clear hb href d0 d1
          rcases Decidable.em ((addT (growT l j) ((p : Int)) ((q : Int))).2.1 = 0) with he | he
          · rw [if_pos he] at hst
            rw [← hst] at HR
            have HG := Lib.hid (HW3.out.ok HB.out HR.out (.cells #[.slice A5 n5 c5, .slice A6 n6 c6] 28))
            obtain ⟨_, _, _, _, hbk, _⟩ := HW3.out.ex
            have hb4 := HB.out.alloc HB.out.size (.cells #[.slice A5 n5 c5, .slice A6 n6 c6] 28)
            have e0 := blk_cell (blk_below hb4 (blk_lt hbk) hbk) 0
            have e1 := blk_cell (blk_below hb4 (blk_lt hbk) hbk) 1
            have z0 := blk_froz (blk_below hb4 (blk_lt hbk) hbk) 0
            have z1 := blk_froz (blk_below hb4 (blk_lt hbk) hbk) 1
            have f0 := blk_cell (blk_new w4 (.cells #[.slice A5 n5 c5, .slice A6 n6 c6] 28)) 0
            have f1 := blk_cell (blk_new w4 (.cells #[.slice A5 n5 c5, .slice A6 n6 c6] 28)) 1
            simp only [List.getElem?_toArray, List.getElem?_cons_zero, List.getElem?_cons_succ] at e0 e1 f0 f1
            clear hbk hb4 hst
            go_wp2_with fail
            go_roundg (gk - 1)
            case measure => omega
            case rel => exact ⟨j + 1, by omega, by omega, by omega, by simp [Int.mul_add], HG.out⟩
          · rw [if_neg he] at hst
            have HG := Lib.hid (HW3.out.err HB.out hst (.cells #[.slice A5 n5 c5, .slice A6 n6 c6] 28))
            clear hst
            go_wp2_with fail
            go_roundg (gk - 1)
            case measure => omega
            case rel => exact ⟨j + 1, by omega, by omega, by omega, by simp [Int.mul_add], HG.out⟩
    · have hmin : min (l.length / 2) 30 = j := by omega
      obtain ⟨A3, c3, A4, c4, hbk, href⟩ := hW.ex
      have c0 := blk_cell hbk 0
      have c1' := blk_cell hbk 1
      have d0 := blk_cell hW.res 0
      have d1 := blk_cell hW.res 1
      have z0 := blk_froz hW.res 0
      have z1 := blk_froz hW.res 1
      simp only [List.getElem?_toArray, List.getElem?_cons_zero, List.getElem?_cons_succ] at c0 c1' d0 d1
      have hfin := hW.fin href
      have HFIN := Lib.hid hfin
      have HMIN := Lib.hid hmin
      clear hW hbk href hmin hfin
      by_cases h1 : 2 * j + 1 < l.length
      · have h2 : j = 30 := by omega
        subst h2
        have h3 : (2 * 30 + 1 : Int) < (l.length : Int) := by omega
        go_wp2_with fail
        refine ret_cell1 (r := r) rfl rfl (load_ref HFIN.out.1) ⟨HFIN.out.2.1, _, _, _, _, _, _, rfl, ?_⟩
        rw [HMIN.out]; exact HFIN.out.2.2
      · have h3 : ¬ ((2 * j : Nat) : Int) + 1 < (l.length : Int) := by omega
        go_wp2_with fail
        refine ret_cell1 (r := r) rfl rfl (load_ref HFIN.out.1) ⟨HFIN.out.2.1, _, _, _, _, _, _, rfl, ?_⟩
        rw [HMIN.out]; exact HFIN.out.2.2
end Go.Proofs.Ytpkmcokkapfnmaa
/- Layer 4 (token): what is grown can be added again; a made token's parents. -/
namespace Go.Proofs.Ytpkmcokkapfnmaa
open Go.RowKit Go.Maps Go.WideMaps
set_option linter.unusedVariables false
set_option linter.unusedSimpArgs false

theorem addT_fine {T : List Ent} {a b : Int} (he : (addT T a b).2.1 = 0) : hasT T a = true ∧ hasT T b = true ∧ (addT T a b).2.2 = T ++ [((entT T a).1 ++ (entT T b).1, a, b)] ∧ T.length < 1000 := by
  unfold addT at *
  by_cases h1 : (!(hasT T a && hasT T b)) = true
  · rw [if_pos h1] at he; simp at he
  rw [if_neg h1] at he ⊢
  by_cases h2 : ((entT T a).1 ++ (entT T b).1).length > 64
  · rw [if_pos h2] at he; simp at he
  rw [if_neg h2] at he ⊢
  by_cases h3 : T.length ≥ 1000
  · rw [if_pos h3] at he; simp at he
  rw [if_neg h3] at he ⊢
  by_cases h4 : (findT T ((entT T a).1 ++ (entT T b).1)).isSome = true
  · rw [if_pos h4] at he; simp at he
  rw [if_neg h4]
  simp only [Bool.not_eq_true, Bool.not_eq_eq_eq_not, Bool.not_false, Bool.and_eq_true] at h1
  simp only [Bool.not_true, Bool.and_eq_false_imp, Bool.not_eq_false] at h1
  have : hasT T a = true ∧ hasT T b = true := by
    revert h1; cases hasT T a <;> cases hasT T b <;> simp
  exact ⟨this.1, this.2, rfl, by omega⟩

/-- a table that can be added, merge by merge -/
def AddsT (T : List Ent) : Prop := OkT T ∧ addsT baseT (mrgsT T) = some T
theorem addsT_base : AddsT baseT := by
  refine ⟨okT_base, ?_⟩
  have : mrgsT baseT = [] := by
    apply List.eq_nil_of_length_eq_zero
    rw [mrgs_len, base_len]
  rw [this]; rfl
theorem addsT_add {T : List Ent} (h : AddsT T) (a b : Int) (he : (addT T a b).2.1 = 0) : AddsT (addT T a b).2.2 := by
  refine ⟨okT_add h.1 a b he, ?_⟩
  obtain ⟨ha, hb, e, _⟩ := addT_fine he
  have h256 := okT_256 h.1
  have em : mrgsT (addT T a b).2.2 = mrgsT T ++ [(a, b)] := by
    rw [e]
    unfold mrgsT
    rw [List.drop_append_of_le_length h256]
    simp
  rw [em, addsT_snoc, h.2]
  simp [he]
theorem addsT_grow (l : List Nat) : ∀ j, AddsT (growT l j)
  | 0 => addsT_base
  | j + 1 => by
    show AddsT (growStep (growT l j) (l.getD (2 * j) 0) (l.getD (2 * j + 1) 0))
    unfold growStep
    split
    · rename_i h0; exact addsT_add (addsT_grow l j) _ _ h0
    · exact addsT_grow l j
theorem grow_small (l : List Nat) : ∀ j, (growT l j).length ≤ 256 + j
  | 0 => by simp [growT, base_len]
  | j + 1 => by
    show (growStep (growT l j) (l.getD (2 * j) 0) (l.getD (2 * j + 1) 0)).length ≤ _
    unfold growStep
    have := grow_small l j
    split
    · rename_i h0
      rw [(addT_fine h0).2.2.1]; simp; omega
    · omega

theorem base_ent {T : List Ent} (h : OkT T) {i : Nat} (hi : i < 256) : entT T (i : Int) = ([UInt8.ofNat i], -1, -1) := by
  obtain ⟨M, hM⟩ := h.base
  have h2 := okT_256 h
  rw [entT_nat _ _ (by omega)]
  have h0 : (baseT ++ M)[i]? = some ([UInt8.ofNat i], -1, -1) := by
    rw [List.getElem?_append_left (by rw [base_len]; exact hi), List.getElem?_eq_getElem (by rw [base_len]; exact hi), base_at i hi]
  rw [← hM, List.getElem?_eq_getElem (by omega)] at h0
  exact Option.some.inj h0

/-- of a token that was made: its parents are there, its bytes are theirs, it is their token -/
theorem made_all {T : List Ent} (h : OkT T) {i : Nat} (h1 : 256 ≤ i) (h2 : i < T.length) :
    bornT T (i : Int) = true ∧ hasT T (parT T (i : Int)).1 = true ∧ hasT T (parT T (i : Int)).2 = true ∧ hasT T (i : Int) = true ∧
    bytesT T (i : Int) = bytesT T (parT T (i : Int)).1 ++ bytesT T (parT T (i : Int)).2 ∧ pairT T (parT T (i : Int)) = some i ∧
    0 ≤ (parT T (i : Int)).1 ∧ 0 ≤ (parT T (i : Int)).2 ∧ (parT T (i : Int)).1 < i ∧ (parT T (i : Int)).2 < i := by
  obtain ⟨q1, q2, q3, q4, q5⟩ := h.made i h1 h2
  have hi : hasT T (i : Int) = true := by simp [hasT]; omega
  have hne : (entT T (i : Int)).2 ≠ (-1, -1) := by intro e; rw [e] at q1; simp at q1
  have hborn : bornT T (i : Int) = true := by
    unfold bornT
    rw [hi]
    simpa using hne
  have hpar : parT T (i : Int) = (entT T (i : Int)).2 := by unfold parT; rw [if_pos hborn]
  rw [hpar]
  have ha : hasT T (entT T (i : Int)).2.1 = true := by simp [hasT]; omega
  have hb : hasT T (entT T (i : Int)).2.2 = true := by simp [hasT]; omega
  refine ⟨hborn, ha, hb, hi, ?_, ?_, q1, q3, q2, q4⟩
  · unfold bytesT
    rw [if_pos hi, if_pos ha, if_pos hb]
    exact q5
  · unfold pairT
    rw [List.findIdx?_eq_some_iff_getElem]
    refine ⟨h2, ?_, ?_⟩
    · rw [entT_nat _ _ h2] at hne ⊢
      simpa using hne
    · intro j hj
      rw [Bool.not_eq_true, Bool.eq_false_iff]
      intro hh
      simp only [Bool.and_eq_true, beq_iff_eq] at hh
      have hjl : j < T.length := by omega
      by_cases hj2 : j < 256
      · have := base_ent h hj2
        rw [entT_nat _ _ hjl] at this
        rw [this] at hh
        exact hne hh.1.symm
      · obtain ⟨p1, p2, p3, p4, p5⟩ := h.made j (by omega) hjl
        have e2 : (entT T (j : Int)).2 = (entT T (i : Int)).2 := by rw [entT_nat _ _ hjl]; exact hh.1
        rw [e2, ← q5] at p5
        have := h.nodup j i hjl h2 p5
        omega

/-- numbers that came in, as natural ones -/
theorem nats_of {w : World} {A : Option Addr} {xs : List Int} (hw : ∀ y ∈ xs, (Lit.int .u16 y).wf = true) (hs : Sl1 w A (Value.int .u16) xs) :
    ∃ l : List Nat, l.length = xs.length ∧ (∀ x ∈ l, x < 65536) ∧ Sl1 w A (fun x : Nat => .int .u16 (x : Int)) l := by
  have hr : ∀ y ∈ xs, 0 ≤ y ∧ y < 65536 := by
    intro y hy
    have := hw y hy
    have e1 : IntKind.u16.min = 0 := by decide
    have e2 : IntKind.u16.max = 65535 := by decide
    simp only [Lit.wf, e1, e2, Bool.and_eq_true, decide_eq_true_eq] at this
    omega
  refine ⟨xs.map Int.toNat, by simp, ?_, ?_⟩
  · intro x hx
    obtain ⟨y, hy, rfl⟩ := List.mem_map.1 hx
    have := hr y hy
    omega
  · intro i x hx
    rw [List.getElem?_map, Option.map_eq_some_iff] at hx
    obtain ⟨y, hy, rfl⟩ := hx
    obtain ⟨b, o, e, hc⟩ := hs i y hy
    have := hr y (List.mem_of_getElem? hy)
    refine ⟨b, o, e, ?_⟩
    show w.cell? _ = some (Value.int .u16 (y.toNat : Int))
    rw [hc, Int.toNat_of_nonneg this.1]
end Go.Proofs.Ytpkmcokkapfnmaa
/- Layer 4 (token): Clone and Merges. -/
namespace Go.Proofs.Ytpkmcokkapfnmaa
open Go.RowKit Go.Maps Go.WideMaps
set_option maxRecDepth 100000
set_option linter.unusedVariables false
set_option linter.unusedSimpArgs false

theorem one_ent (l : List Ent) : ∀ u ∈ l.flatMap encE, u.oneCell' = true := by
  intro u hu
  obtain ⟨e, _, hu⟩ := List.mem_flatMap.1 hu
  simp [encE] at hu
  rcases hu with rfl | rfl | rfl <;> rfl
theorem len_ent (l : List Ent) : (l.flatMap encE).length = l.length * 3 := by
  induction l with
  | nil => rfl
  | cons a l ih => rw [List.flatMap_cons, List.length_append, ih, encE_len, List.length_cons]; omega

theorem eql_ent (g o n c : Nat) (w : World) : (binOp .eql 90 (.slice (some ⟨g, o, none⟩) n c) (.slice none 0 0)).run Try.prog w = .ok (.bool false) w := by kernel_rfl
theorem clone_ent (l : List Ent) (g o c : Nat) (w : World) (hg : g < w.heap.size) (hc : ∀ j u, (l.flatMap encE)[j]? = some u → w.cell? ⟨g, o + j, none⟩ = some u) (hlen : l.length ≤ 1000) :
    Calls Try.prog 46 #[.slice (some ⟨g, o, none⟩) l.length c] w fun e w' => ∃ A c', e = .returned (.slice A l.length c') ∧ w'.ownsRow w.heap.size 93 3 (.slice A l.length c') l.length (l.flatMap encE) ∧ Below w.heap.size w w' := by
  have HC := Lib.hid hc
  have heq := eql_ent g o l.length c w
  clear hc
  go_enter Try.func46, Try.ntmps46
  have hE : (w.alloc (.cells #[] 93)).ownsRow w.heap.size 93 3 (.slice (some ⟨w.heap.size, 0, none⟩) 0 0) 0 [] := ⟨by simp, .inr ⟨w.heap.size, 0, #[], rfl, Nat.le_refl _, blk_new w _, Nat.le_refl _, Nat.zero_le _, by simp, by simp⟩⟩
  have HE := Lib.hid hE
  have HN : Hid (∀ j u, (l.flatMap encE)[j]? = some u → (w.alloc (.cells #[] 93)).cell? ((⟨g, o, none⟩ : Addr).add j) = some u) := Lib.hid (by
    intro j u hu
    rw [add_plain]
    exact below_cell ((Below.refl w.heap.size w).alloc (Nat.le_refl _) _) (Nat.le_refl _) (HC.out j u hu))
  have H1 := Lib.hid (one_ent l)
  have HLEN := Lib.hid (len_ent l)
  obtain ⟨i, hi, hz0, hz1, hz2⟩ := info_parts info_ent
  have HI := Lib.hid hi
  have HZ := Lib.hid (And.intro hz0 (And.intro hz1 hz2))
  clear hi hz0 hz1 hz2 hE
  go_wp2_with (at_builtin; refine wpList_append_own_at _ rfl _ _ 90 rfl w.heap.size 93 i (.agg #[.string ⟨#[]⟩, .int .i64 0, .int .i64 0]) 3 32 Try.underlying90 HI.out HZ.out.1 HZ.out.2.1 HZ.out.2.2 rfl (by decide) _ 0 [] rfl HE.out ⟨g, o, none⟩ l.length c _ rfl HLEN.out HN.out H1.out (by unfold maxLen; omega) (by omega) (by simp) ?_)
  intro v' w' r1 r2 _ _
  have hb : Below w.heap.size w w' := by
    have h0 := (Below.refl w.heap.size w).alloc (Nat.le_refl _) (.cells #[] 93)
    have hk : Keep (fun k => k = w.heap.size) (w.alloc (.cells #[] 93)) w' := Keep.of_grown r2 (fun k hk => by simpa [Value.ownBlock] using hk.symm)
    exact h0.trans (hk.below (by simp) (fun x hx => by omega))
  obtain ⟨A, c', rfl⟩ := own_slice r1
  have HB := Lib.hid hb
  have HR := Lib.hid r1
  clear r1 r2 hb
  go_wp2_with fail
  go_ret
  exact ⟨_, _, rfl, HR.out, HB.out⟩

/-- what Merges has made: the copy, k of the merges -/
structure MrgIs (w W : World) (T : List Ent) (A : Option Addr) (cA : Nat) (v : Value) (k : Nat) : Prop where
  ents : W.ownsRow w.heap.size 93 3 (.slice A (T.drop 256).length cA) (T.drop 256).length ((T.drop 256).flatMap encE)
  row : W.ownsRow w.heap.size 71 2 v k (((mrgsT T).take k).flatMap encM)
  nil : k = 0 → v = .slice none 0 0
  below : Below w.heap.size w W
theorem info_mrg2 : (Try.prog.info? 71).map (fun i => (i.zero, i.size, i.bytes)) = some (some (.agg #[.int .i64 0, .int .i64 0]), 2, 16) := by kernel_rfl

set_option maxHeartbeats 2000000 in
theorem merges_tab {w : World} {base tb : Nat} {T : List Ent} {sv : Value} {mb mp : Nat} (h : TabIs w base tb T sv mb mp) (hT : OkT T) : Calls Try.prog 29 #[.pointer (some ⟨tb, 0, none⟩)] w fun e w' =>
    ∃ A c, e = .returned (.slice A (mrgsT T).length c) ∧ w'.ownsRow w.heap.size 71 2 (.slice A (mrgsT T).length c) (mrgsT T).length ((mrgsT T).flatMap encM) ∧ Below w.heap.size w w' := by
  have h256 := okT_256 hT
  have hsm := hT.small
  obtain ⟨g, cap, rfl, hg1, hg2, hc⟩ := own_open h.row (by omega)
  have hcap : T.length ≤ cap := by
    rcases h.row.2 with ⟨h1, _⟩ | ⟨g', cap', cur, h1, hb, hg, hc1, hc2, hc3, ht⟩
    · cases h1
    · cases h1; exact hc1
  have n0 := blk_cell h.blk 0
  simp only [List.getElem?_toArray, List.getElem?_cons_zero] at n0
  have hD : (T.drop 256).length = T.length - 256 := by simp
  have hcells : ∀ j u, ((T.drop 256).flatMap encE)[j]? = some u → w.cell? ⟨g, 768 + j, none⟩ = some u := by
    intro j u hu
    have e1 : (T.flatMap encE)[768 + j]? = some u := by
      have : T.flatMap encE = (T.take 256).flatMap encE ++ (T.drop 256).flatMap encE := by rw [← List.flatMap_append, List.take_append_drop]
      rw [this, List.getElem?_append_right (by rw [len_ent]; simp; omega), len_ent]
      have e : 768 + j - (List.take 256 T).length * 3 = j := by simp; omega
      rw [e]; exact hu
    exact (hc _ _ e1).1
  have hCL : ∃ o, (cap = 256 → o = 0) ∧ (¬ cap = 256 → o = 768) ∧ ∀ j u, ((T.drop 256).flatMap encE)[j]? = some u → w.cell? ⟨g, o + j, none⟩ = some u := by
    by_cases h0 : cap = 256
    · refine ⟨0, fun _ => rfl, fun h => absurd h0 h, ?_⟩
      have : T.drop 256 = [] := List.drop_eq_nil_of_le (by omega)
      rw [this]; intro j u hu; simp at hu
    · exact ⟨768, fun h => absurd h h0, fun _ => rfl, hcells⟩
  obtain ⟨o, ho0, ho1, hoc⟩ := hCL
  have hCL := clone_ent (T.drop 256) g o (cap - 256) w hg2 hoc (by rw [hD]; omega)
  rw [hD] at hCL
  have hm := mrgs_len (T := T)
  have hnn : ∃ n, T.length - 256 = n := ⟨_, rfl⟩
  obtain ⟨n, hn⟩ := hnn
  rw [hn] at hCL hD hm
  have HCL := Lib.hid hCL
  have HM := Lib.hid hm
  have q1 : (256 : Int) ≤ (T.length : Int) := by omega
  have q2 : (T.length : Int) ≤ (cap : Int) := by omega
  have q3 : ((T.length : Int) - 256).toNat = n := by omega
  have q4 : ((cap : Int) - 256).toNat = cap - 256 := by omega
  have HT := Lib.hid hT
  clear hc hg1 hg2 hCL h hcells hoc hT hm
  have HD := Lib.hid hD
  by_cases hcap0 : cap = 256
  · have e0 := ho0 hcap0
    subst e0
    subst hcap0
    have hl : T.length = 256 := by omega
    have hn0 : n = 0 := by omega
    subst hn0
    rw [Nat.sub_self] at HCL
    clear ho0 ho1
    go_enter Try.func29, Try.ntmps29
    go_wp2_with fail
    refine HCL.out.mono ?_
    rintro e w1 ⟨A, cA, rfl, hrow, hb1⟩
    have hs0 : MrgIs w w1 T A cA (.slice none 0 0) 0 := ⟨by rw [HD.out]; exact hrow, by simpa using own_nil _ _ _ _, fun _ => rfl, hb1⟩
    have HS := Lib.hid hs0
    clear hrow hb1 hs0
    go_wp2_with fail
    go_loopg [3, 15] 0 (fun m v i W => ∃ k : Nat, ∃ A2 c2, k + m = 0 ∧ v = .slice A2 k c2 ∧ i = .int .i64 (k : Int) ∧ MrgIs w W T A cA v k)
    case atStart => exact ⟨0, _, _, by omega, rfl, rfl, HS.out⟩
    case round =>
      obtain ⟨k, A2, c2, hk, rfl, rfl, hW⟩ := hrel
      clear HS
      rename World => W
      by_cases hlt : k < 0
      · exact absurd hlt (Nat.not_lt_zero _)
      · have hke : k = 0 := by omega
        subst hke
        have hlt1 : ¬ (0 : Int) < 0 := by omega
        have HROW := Lib.hid hW.row
        have HB := Lib.hid hW.below
        clear hW
        go_wp2_with fail
        go_ret
        have := HROW.out
        rw [List.take_of_length_le (by rw [HM.out]; exact Nat.le_refl _)] at this
        refine ⟨A2, c2, by rw [HM.out]; rfl, ?_, HB.out⟩
        rw [HM.out]
        exact this
  · have e0 := ho1 hcap0
    subst e0
    clear ho0 ho1
    go_enter Try.func29, Try.ntmps29
    go_wp2_with fail
    refine HCL.out.mono ?_
    rintro e w1 ⟨A, cA, rfl, hrow, hb1⟩
    have hs0 : MrgIs w w1 T A cA (.slice none 0 0) 0 := ⟨by rw [HD.out]; exact hrow, by simpa using own_nil _ _ _ _, fun _ => rfl, hb1⟩
    have HS := Lib.hid hs0
    clear hrow hb1 hs0
    go_wp2_with fail
    go_loopg [3, 15] n (fun m v i W => ∃ k : Nat, ∃ A2 c2, k + m = n ∧ v = .slice A2 k c2 ∧ i = .int .i64 (k : Int) ∧ MrgIs w W T A cA v k)
    case atStart => exact ⟨0, _, _, by omega, rfl, rfl, HS.out⟩
    case round =>
      obtain ⟨k, A2, c2, hk, rfl, rfl, hW⟩ := hrel
      clear HS
      rename World => W
      by_cases hlt : k < n
      · have hlt' : (k : Int) < (n : Int) := by omega
        obtain ⟨b, o, rfl, hcc⟩ := (own_sl (enc := encE) (fun _ => rfl) hW.ents (by decide)).at k (by rw [HD.out]; exact hlt)
        have hk2 : k < (T.drop 256).length := by rw [HD.out]; exact hlt
        have hmk : (mrgsT T)[k]? = some ((T.drop 256)[k]).2 := by unfold mrgsT; rw [List.getElem?_map, List.getElem?_eq_getElem hk2]; rfl
        generalize (T.drop 256)[k] = e at *
        obtain ⟨es, ea, eb⟩ := e
        have g0 : W.cell? ⟨b, o + k * 3, none⟩ = some (strV es) := hcc 0 _ rfl
        have g1 : W.cell? ⟨b, o + k * 3 + 1, none⟩ = some (.int .i64 ea) := hcc 1 _ rfl
        have g2 : W.cell? ⟨b, o + k * 3 + 2, none⟩ = some (.int .i64 eb) := hcc 2 _ rfl
        unfold strV at g0
        obtain ⟨x, hx⟩ : ∃ x, bs es = x := ⟨_, rfl⟩
        rw [hx] at g0
        have hb5 := (Below.refl W.heap.size W).alloc (Nat.le_refl _) (.cells #[.string x, .int .i64 ea, .int .i64 eb] 93)
        have hb6 := hb5.alloc (by simp) (.cells #[.int .i64 ea, .int .i64 eb] 71)
        have hn5 := blk_new W (.cells #[.string x, .int .i64 ea, .int .i64 eb] 93)
        have f0 := blk_cell hn5 0
        have f1 := blk_cell hn5 1
        have f2 := blk_cell hn5 2
        simp only [List.getElem?_toArray, List.getElem?_cons_zero, List.getElem?_cons_succ] at f0 f1 f2
        have HG : Hid (((W.alloc (.cells #[.string x, .int .i64 ea, .int .i64 eb] 93)).alloc (.cells #[.int .i64 ea, .int .i64 eb] 71)).heap[W.heap.size + 1]? = some (.cells [Value.int .i64 ea, Value.int .i64 eb].toArray 71)) := Lib.hid (by
          have := blk_new (W.alloc (.cells #[.string x, .int .i64 ea, .int .i64 eb] 93)) (.cells #[.int .i64 ea, .int .i64 eb] 71)
          rwa [size_alloc] at this)
        have HROW := Lib.hid (own_below hW.row hb6 (Nat.le_refl _))
        have HENTS := Lib.hid (own_below hW.ents hb6 (Nat.le_refl _))
        have HB6 := Lib.hid (hW.below.trans (hb6.mono hW.below.size))
        have HGEN := Lib.hid (Nat.le_trans hW.below.size hb6.size)
        have HMK := Lib.hid hmk
        have p0 : 0 ≤ (k : Int) := by omega
        clear hb5 hb6 hn5 hW hcc hmk hx
        go_wp2_with (at_builtin; refine app_at (w.heap.size) 26 71 (.agg #[.int .i64 0, .int .i64 0]) 2 16 [_, _] 1 (W.heap.size + 1) _ _ rfl rfl Try.underlying26 info_mrg2 rfl (by decide) _ _ _ rfl rfl rfl (by intro u hu; simp at hu; rcases hu with rfl | rfl <;> rfl) HG.out HROW.out (by omega) (by omega) HGEN.out ?_)
        intro v' w9 hown1 hg1 _
        obtain ⟨A3, c3, rfl⟩ := own_slice hown1
        have hk1 : Keep (fun g => (Value.slice A2 k c2).ownBlock = some g) ((W.alloc (.cells #[.string x, .int .i64 ea, .int .i64 eb] 93)).alloc (.cells #[.int .i64 ea, .int .i64 eb] 71)) w9 := Keep.of_grown hg1 (fun g hg => hg)
        have hb9 := HB6.out.trans (hk1.below HGEN.out (own_base HROW.out))
        have hents := own_keep HENTS.out hk1 (fun g hg e => row_row_ne HENTS.out HROW.out (by decide) g hg e)
        have e5 : ((mrgsT T).take k).flatMap encM ++ [Value.int .i64 ea, Value.int .i64 eb] = ((mrgsT T).take (k + 1)).flatMap encM := by
          have hkl : k < (mrgsT T).length := by rw [HM.out]; exact hlt
          have := HMK.out
          rw [List.getElem?_eq_getElem hkl] at this
          rw [take_snoc hkl, List.flatMap_append, Option.some.inj this]
          simp [encM]
        rw [e5] at hown1
        have HNEW := Lib.hid (show MrgIs w w9 T (some ⟨b, o, none⟩) cA (.slice A3 (k + 1) c3) (k + 1) from ⟨hents, hown1, fun h => by omega, hb9⟩)
        clear hown1 hg1 hk1 hb9 hents e5 f0 f1 f2 g0 g1 g2
        have wk : IntKind.i64.wrap ((k : Int) + 1) = (k : Int) + 1 := IntWalk.i64_in _ (by omega)
        go_wp2_with fail
        go_roundg (gk - 1)
        case measure => omega
        case rel => exact ⟨k + 1, A3, c3, by omega, rfl, by simp, HNEW.out⟩
      · have hke : k = n := by omega
        subst hke
        have hlt1 : ¬ (k : Int) < (k : Int) := by omega
        have HROW := Lib.hid hW.row
        have HB := Lib.hid hW.below
        clear hW
        go_wp2_with fail
        go_ret
        have := HROW.out
        rw [List.take_of_length_le (by rw [HM.out]; exact Nat.le_refl _)] at this
        refine ⟨A2, c2, by rw [HM.out]; rfl, ?_, HB.out⟩
        rw [HM.out]
        exact this
end Go.Proofs.Ytpkmcokkapfnmaa
/- Layer 5 (chain): a chain in memory: its nodes, its queue, the table; asks. -/
namespace Go.Proofs.Ytpkmcokkapfnmaa
open Go.RowKit Go.Maps Go.WideMaps
set_option maxRecDepth 100000
set_option linter.unusedVariables false
set_option linter.unusedSimpArgs false

def encN (x : Node) : List Value := [.int .i64 x.1, .int .i64 x.2.1, .int .i64 x.2.2]
theorem encN_len (x : Node) : (encN x).length = 3 := rfl
theorem flatN_len (N : List Node) : (N.flatMap encN).length = N.length * 3 := by
  induction N with
  | nil => rfl
  | cons a l ih => rw [List.flatMap_cons, List.length_append, ih, encN_len, List.length_cons]; omega
theorem info_node : (Try.prog.info? 107).map (fun i => (i.zero, i.size, i.bytes)) = some (some (.agg #[.int .i64 0, .int .i64 0, .int .i64 0]), 3, 24) := by kernel_rfl
theorem flat_modify (N : List Node) (f : Node → Node) (o : Nat) (v : Node → Value) (hf : ∀ x, encN (f x) = (encN x).set o (v x)) (ho : o < 3) : ∀ (k : Nat) (x : Node), N[k]? = some x → (N.modify k f).flatMap encN = (N.flatMap encN).set (k * 3 + o) (v x) := by
  induction N with
  | nil => intro k x h; simp at h
  | cons a N ih =>
    intro k x h
    cases k with
    | zero =>
      simp at h
      subst h
      simp only [List.modify_zero_cons, List.flatMap_cons, hf]
      rw [List.set_append_left _ _ (by rw [encN_len]; omega)]
      congr 1
      simp
    | succ k =>
      simp at h
      simp only [List.modify_succ_cons, List.flatMap_cons, ih k x h]
      have e : (k + 1) * 3 + o = (encN a).length + (k * 3 + o) := by rw [encN_len]; omega
      rw [e, List.set_append_right _ _ (Nat.le_add_right _ _), Nat.add_sub_cancel_left]
theorem flat_id (N : List Node) (u : Int) (k : Nat) (hk : k < N.length) : (N.modify k (idN u)).flatMap encN = (N.flatMap encN).set (k * 3) (.int .i64 u) :=
  flat_modify N (idN u) 0 (fun _ => .int .i64 u) (fun x => rfl) (by omega) k N[k] (List.getElem?_eq_getElem hk)
theorem flat_ahead (N : List Node) (u : Int) (k : Nat) (hk : k < N.length) : (N.modify k (aheadN u)).flatMap encN = (N.flatMap encN).set (k * 3 + 1) (.int .i64 u) :=
  flat_modify N (aheadN u) 1 (fun _ => .int .i64 u) (fun x => rfl) (by omega) k N[k] (List.getElem?_eq_getElem hk)
theorem flat_next (N : List Node) (u : Int) (k : Nat) (hk : k < N.length) : (N.modify k (nextN u)).flatMap encN = (N.flatMap encN).set (k * 3 + 2) (.int .i64 u) :=
  flat_modify N (nextN u) 2 (fun _ => .int .i64 u) (fun x => rfl) (by omega) k N[k] (List.getElem?_eq_getElem hk)

/-- a chain's own block and its nodes -/
structure LinkIs (w : World) (base cb tb qb : Nat) (N : List Node) (bel steps : Int) (A : Option Addr) (c : Nat) : Prop where
  blk : w.heap[cb]? = some (.cells #[.pointer (some ⟨tb, 0, none⟩), .slice A N.length c, .pointer (some ⟨qb, 0, none⟩), .int .i64 bel, .int .i64 steps] 78)
  row : w.ownsRow base 107 3 (.slice A N.length c) N.length (N.flatMap encN)
  le : base ≤ cb
theorem LinkIs.below {B : Nat} {w w' : World} {base cb tb qb : Nat} {N : List Node} {bel steps : Int} {A : Option Addr} {c : Nat} (h : LinkIs w base cb tb qb N bel steps A c) (hb : Below B w w') (hB : w.heap.size ≤ B) : LinkIs w' base cb tb qb N bel steps A c :=
  ⟨blk_below hb (Nat.lt_of_lt_of_le (blk_lt h.blk) hB) h.blk, own_below h.row hb hB, h.le⟩
theorem LinkIs.keep {F : Nat → Prop} {w w' : World} {base cb tb qb : Nat} {N : List Node} {bel steps : Int} {A : Option Addr} {c : Nat} (h : LinkIs w base cb tb qb N bel steps A c) (k : Keep F w w') (hF : ¬ F cb) (hA : ∀ g, A = some ⟨g, 0, none⟩ → ¬ F g) : LinkIs w' base cb tb qb N bel steps A c :=
  ⟨k.blk h.blk hF, own_keep h.row k (fun g hg => hA g (hw.own_addr h.row g hg)), h.le⟩
/-- a node, where it lies -/
theorem LinkIs.at {w : World} {base cb tb qb : Nat} {N : List Node} {bel steps : Int} {A : Option Addr} {c : Nat} (h : LinkIs w base cb tb qb N bel steps A c) (i : Nat) (x : Node) (hi : N[i]? = some x) :
    ∃ g, A = some ⟨g, 0, none⟩ ∧ w.cell? ⟨g, i * 3, none⟩ = some (.int .i64 x.1) ∧ w.cell? ⟨g, i * 3 + 1, none⟩ = some (.int .i64 x.2.1) ∧ w.cell? ⟨g, i * 3 + 2, none⟩ = some (.int .i64 x.2.2) := by
  have hlt := (List.getElem?_eq_some_iff.1 hi).1
  obtain ⟨g, cap, e, _, _, _⟩ := own_open h.row (by omega)
  injection e with e1 e2 e3
  subst e1
  obtain ⟨b, o, e2, hc⟩ := (own_sl encN_len h.row (by decide)) i x hi
  injection e2 with e2
  injection e2 with e2 e3
  subst e2; subst e3
  refine ⟨_, rfl, ?_, ?_, ?_⟩
  · have := hc 0 _ rfl; simpa using this
  · have := hc 1 _ rfl; simpa using this
  · have := hc 2 _ rfl; simpa using this
theorem row_row {w : World} {b1 b2 n1 n2 s1 s2 c1 c2 : Nat} {e1 e2 : TypeId} {A1 A2 : Option Addr} {x1 x2 : List Value} (h1 : w.ownsRow b1 e1 s1 (.slice A1 n1 c1) n1 x1) (h2 : w.ownsRow b2 e2 s2 (.slice A2 n2 c2) n2 x2) (hne : e1 ≠ e2) : ∀ g, A1 = some ⟨g, 0, none⟩ → A2 ≠ some ⟨g, 0, none⟩ := by
  intro g hg1 hg2
  rcases h1.2 with ⟨q1, _⟩ | ⟨g1, cap1, cur1, q1, _, hb1, _⟩
  · injection q1 with q1; rw [hg1] at q1; cases q1
  · rcases h2.2 with ⟨q2, _⟩ | ⟨g2, cap2, cur2, q2, _, hb2, _⟩
    · injection q2 with q2; rw [hg2] at q2; cases q2
    · injection q1 with q1; rw [hg1] at q1; injection q1 with q1; injection q1 with q1; subst q1
      injection q2 with q2; rw [hg2] at q2; injection q2 with q2; injection q2 with q2; subst q2
      rw [hb1] at hb2
      injection hb2 with hb2
      injection hb2 with _ hb2 _
      exact hne hb2
theorem row_ne2 {w : World} {b1 n1 s1 c1 : Nat} {e1 e2 : TypeId} {A1 : Option Addr} {x1 : List Value} {g : Nat} {cs : Array Value} {fz : Nat × Nat} (h1 : w.ownsRow b1 e1 s1 (.slice A1 n1 c1) n1 x1) (h2 : w.heap[g]? = some (.cells cs e2 fz)) (hne : e1 ≠ e2) : A1 ≠ some ⟨g, 0, none⟩ := by
  intro hg1
  rcases h1.2 with ⟨q1, _⟩ | ⟨g1, cap1, cur1, q1, _, hb1, _⟩
  · injection q1 with q1; rw [hg1] at q1; cases q1
  · injection q1 with q1; rw [hg1] at q1; injection q1 with q1; injection q1 with q1; subst q1
    rw [hb1] at h2
    injection h2 with h2
    injection h2 with _ h2 _
    exact hne h2
theorem blk_ne {w : World} {e1 e2 : TypeId} {g1 g2 : Nat} {c1 c2 : Array Value} {f1 f2 : Nat × Nat} (h1 : w.heap[g1]? = some (.cells c1 e1 f1)) (h2 : w.heap[g2]? = some (.cells c2 e2 f2)) (hne : e1 ≠ e2) : g1 ≠ g2 := by
  rintro rfl
  rw [h1] at h2
  injection h2 with h2
  injection h2 with _ h2 _
  exact hne h2

/-- a chain, its queue and its table -/
structure ChainIs (w : World) (base tbase tb : Nat) (T : List Ent) (sv : Value) (mb mp cb qb : Nat) (N : List Node) (bel steps : Int) (A : Option Addr) (c : Nat) (Q : List (Th Wt)) (turn : Int) (Aq : Option Addr) (cq : Nat) : Prop where
  lk : LinkIs w base cb tb qb N bel steps A c
  hp : hw.HeapWs w base qb Q turn Aq cq
  tab : TabIs w tbase tb T sv mb mp
  tlt : ∀ x, tabF tb sv mb mp x → x < base
section
variable {w w' : World} {base tbase tb : Nat} {T : List Ent} {sv : Value} {mb mp cb qb : Nat} {N : List Node} {bel steps : Int} {A : Option Addr} {c : Nat} {Q : List (Th Wt)} {turn : Int} {Aq : Option Addr} {cq : Nat}
theorem ChainIs.below {B : Nat} (h : ChainIs w base tbase tb T sv mb mp cb qb N bel steps A c Q turn Aq cq) (hb : Below B w w') (hB : w.heap.size ≤ B) : ChainIs w' base tbase tb T sv mb mp cb qb N bel steps A c Q turn Aq cq :=
  ⟨h.lk.below hb hB, h.hp.below hb hB, h.tab.below hb hB, h.tlt⟩
theorem ChainIs.drew (h : ChainIs w base tbase tb T sv mb mp cb qb N bel steps A c Q turn Aq cq) : ChainIs w.drew base tbase tb T sv mb mp cb qb N bel steps A c Q turn Aq cq :=
  h.below (B := w.heap.size) ⟨rfl, rfl, rfl, Nat.le_refl _, fun _ _ => rfl⟩ (Nat.le_refl _)
theorem ChainIs.sizes (h : ChainIs w base tbase tb T sv mb mp cb qb N bel steps A c Q turn Aq cq) : base ≤ w.heap.size := Nat.le_trans h.lk.le (Nat.le_of_lt (blk_lt h.lk.blk))
/-- the queue has turned -/
theorem ChainIs.queue {Q' : List (Th Wt)} {turn' : Int} {Aq' : Option Addr} {cq' : Nat} (h : ChainIs w base tbase tb T sv mb mp cb qb N bel steps A c Q turn Aq cq) (hq : hw.HeapWs w' base qb Q' turn' Aq' cq') (k : Keep (hw.heapF qb Aq) w w') : ChainIs w' base tbase tb T sv mb mp cb qb N bel steps A c Q' turn' Aq' cq' ∧ Below base w w' := by
  have hF : ∀ g, hw.heapF qb Aq g → base ≤ g := h.hp.base
  refine ⟨⟨h.lk.keep k ?_ ?_, hq, h.tab.keep k ?_, h.tlt⟩, k.below h.sizes hF⟩
  · rintro (e | e)
    · exact blk_ne h.lk.blk h.hp.blk (by decide) e
    · exact row_ne2 h.hp.row h.lk.blk (by decide) e
  · rintro g e (e2 | e2)
    · subst e2; exact row_ne2 h.lk.row h.hp.blk (by decide) e
    · exact row_row h.lk.row h.hp.row (by decide) g e e2
  · intro x hx hx2
    have := h.tlt x hx
    have := hF x hx2
    omega
/-- the nodes, or the chain's block, have turned -/
theorem ChainIs.link {N' : List Node} {steps' : Int} {A' : Option Addr} {c' : Nat} (h : ChainIs w base tbase tb T sv mb mp cb qb N bel steps A c Q turn Aq cq) (hl : LinkIs w' base cb tb qb N' bel steps' A' c') (k : Keep (fun g => g = cb ∨ A = some ⟨g, 0, none⟩) w w') : ChainIs w' base tbase tb T sv mb mp cb qb N' bel steps' A' c' Q turn Aq cq ∧ Below base w w' := by
  have hF : ∀ g, (g = cb ∨ A = some ⟨g, 0, none⟩) → base ≤ g := by
    rintro g (e | e)
    · rw [e]; exact h.lk.le
    · exact own_base h.lk.row g (hw.addr_own e)
  refine ⟨⟨hl, h.hp.keep k ?_, h.tab.keep k ?_, h.tlt⟩, k.below h.sizes hF⟩
  · rintro g (e | e) (e2 | e2)
    · exact blk_ne h.lk.blk h.hp.blk (by decide) (e2.symm.trans e)
    · subst e; exact row_ne2 h.lk.row h.hp.blk (by decide) e2
    · subst e2; exact row_ne2 h.hp.row h.lk.blk (by decide) e
    · exact row_row h.lk.row h.hp.row (by decide) g e2 e
  · intro x hx hx2
    have := h.tlt x hx
    have := hF x hx2
    omega
end
/-- of two tokens the one that they become, below the limit -/
def pairB (T : List Ent) (bel : Int) (a b : Int) : Option Int := (pairT T (a, b)).bind (fun r => if (r : Int) < bel then some (r : Int) else none)
end Go.Proofs.Ytpkmcokkapfnmaa
/- Layer 5 (chain): asks. -/
namespace Go.Proofs.Ytpkmcokkapfnmaa
open Go.RowKit Go.Maps Go.WideMaps
set_option maxRecDepth 100000
set_option linter.unusedVariables false
set_option linter.unusedSimpArgs false

theorem askQ_none {P : Int → Int → Option Int} {Q : List (Th Wt)} {turn i a : Int} {y : Nd} {q : List Nd} (h : P a y.2 = none) : askQ P Q turn i a (y :: q) = (Q, turn) := by simp only [askQ, h]
theorem askQ_some {P : Int → Int → Option Int} {Q : List (Th Wt)} {turn i a r : Int} {y : Nd} {q : List Nd} (h : P a y.2 = some r) : askQ P Q turn i a (y :: q) = (pushT Q ⟨r, i, turn, ⟨i, a, y.2⟩⟩, turn + 1) := by simp only [askQ, h]

section
variable {w w' : World} {base tbase tb : Nat} {T : List Ent} {sv : Value} {mb mp cb qb : Nat} {N : List Node} {bel steps : Int} {A : Option Addr} {c : Nat} {Q : List (Th Wt)} {turn : Int} {Aq : Option Addr} {cq : Nat}
theorem asks_end (h : ChainIs w base tbase tb T sv mb mp cb qb N bel steps A c Q turn Aq cq) :
    Calls Try.prog 52 #[.pointer (some ⟨cb, 0, none⟩), .int .i64 (-1)] w fun e w' => e = .returned (.tuple #[]) ∧ w' = w := by
  clear h
  go_enter Try.func52, Try.ntmps52
  go_wp2_with fail
  (try simp only [Exit.inBlock, Exit.then])
  refine bodyPost_ret (results_none rfl _ _ _) rfl ?_
  exact ⟨rfl, rfl⟩
theorem asks_last (h : ChainIs w base tbase tb T sv mb mp cb qb N bel steps A c Q turn Aq cq) (i : Nat) (a p : Int) (hi : N[i]? = some (a, p, -1)) :
    Calls Try.prog 52 #[.pointer (some ⟨cb, 0, none⟩), .int .i64 (i : Int)] w fun e w' => e = .returned (.tuple #[]) ∧ w' = w := by
  have hlt := (List.getElem?_eq_some_iff.1 hi).1
  obtain ⟨g, rfl, a0, a1, a2⟩ := h.lk.at i _ hi
  have h1 := blk_cell h.lk.blk 1
  simp only [List.getElem?_toArray, List.getElem?_cons_zero, List.getElem?_cons_succ] at h1 a2
  have p0 : (0 : Int) ≤ (i : Int) := by omega
  have p1 : (i : Int) < (N.length : Int) := by omega
  have q1 : ((i : Int) == -1) = false := by simp
  clear hi h a0 a1
  go_enter Try.func52, Try.ntmps52
  go_wp2_with fail
  (try simp only [Exit.inBlock, Exit.then])
  refine bodyPost_ret (results_none rfl _ _ _) rfl ?_
  exact ⟨rfl, rfl⟩
set_option maxHeartbeats 4000000 in
theorem asks_two (h : ChainIs w base tbase tb T sv mb mp cb qb N bel steps A c Q turn Aq cq) (i j : Nat) (a p : Int) (b : Int) (y : Int × Int) (hi : N[i]? = some (a, p, (j : Int))) (hj : N[j]? = some (b, y))
    (ha : (Lit.int .i64 a).wf = true) (hb : (Lit.int .i64 b).wf = true) (hQ : Q.length < 1000000000) (ht0 : 0 ≤ turn) (ht1 : turn < 1000000000000000000) (R : List (Th Wt) × Int) (hR : askQ (pairB T bel) Q turn i a [((j : Int), b)] = R) :
    Calls Try.prog 52 #[.pointer (some ⟨cb, 0, none⟩), .int .i64 (i : Int)] w fun e w' => e = .returned (.tuple #[]) ∧ (∃ Aq' cq', ChainIs w' base tbase tb T sv mb mp cb qb N bel steps A c R.1 R.2 Aq' cq') ∧ Below base w w' := by
  have hlt := (List.getElem?_eq_some_iff.1 hi).1
  have hlt2 := (List.getElem?_eq_some_iff.1 hj).1
  obtain ⟨g, rfl, a0, a1, a2⟩ := h.lk.at i _ hi
  obtain ⟨g', e, b0, b1, b2⟩ := h.lk.at j _ hj
  injection e with e
  injection e with e
  subst e
  have h1 := blk_cell h.lk.blk 1
  simp only [List.getElem?_toArray, List.getElem?_cons_zero, List.getElem?_cons_succ] at h1 a0 a2 b0
  have p0 : (0 : Int) ≤ (i : Int) := by omega
  have p1 : (i : Int) < (N.length : Int) := by omega
  have p2 : (0 : Int) ≤ (j : Int) := by omega
  have p3 : (j : Int) < (N.length : Int) := by omega
  have q1 : ((i : Int) == -1) = false := by simp
  have q2 : ((j : Int) == -1) = false := by simp
  have HH := Lib.hid h
  have HR := Lib.hid hR
  clear hi hj h a1 b1 b2 hR
  go_enter Try.func52, Try.ntmps52
  go_upto_region 1 with fail
  refine wp_region_D (Ds := [25]) (S := fun V => V.cell? ⟨cb, 1, none⟩ = some (.slice (some ⟨g, 0, none⟩) N.length c) ∧ V.cell? ⟨g, i * 3, none⟩ = some (.int .i64 a) ∧ V.cell? ⟨g, i * 3 + 2, none⟩ = some (.int .i64 (j : Int)) ∧ V.cell? ⟨g, j * 3, none⟩ = some (.int .i64 b)) (by kernel_rfl) (by exact ⟨h1, a0, a2, b0⟩) (fun hHeld => ?_)
  (have HD := Lib.hid HH.out.drew); (have HB0 : Hid (Below w.heap.size w w.drew) := Lib.hid ⟨rfl, rfl, rfl, Nat.le_refl _, fun _ _ => rfl⟩); generalize w.drew = W0 at *
  refine wpAnyD_takeP (i := 0) (oi := { dst := some 20, op := Op.move (Operand.tmp 0), type := 72, pos := "chain.go:54", after := #[], guard := none }) (d := 20) (v := ?_) rfl rfl (by kernel_rfl) (by kernel_rfl) (by kernel_rfl) (fun _ _ _ h => h) (Or.inl ⟨by rfl, ?_⟩) ?_
  rotate_left
  · (intro w' _; go_simp; (try with_reducible rfl))
  simp only [List.setIfInBounds_toArray, List.set_cons_zero, List.set_cons_succ]
  refine wpAnyD_takeP (i := 1) (oi := { dst := some 21, op := Op.nilCheck (Operand.tmp 20), type := 0, pos := "chain.go:54", after := #[{ on := 0, ground := Ground.data }], guard := none }) (d := 21) (v := ?_) rfl rfl (by kernel_rfl) (by kernel_rfl) (by kernel_rfl) (fun _ _ _ h => h) (Or.inl ⟨by rfl, ?_⟩) ?_
  rotate_left
  · (intro w' _; go_simp; (try with_reducible rfl))
  simp only [List.setIfInBounds_toArray, List.set_cons_zero, List.set_cons_succ]
  refine wpAnyD_takeP (i := 2) (oi := { dst := some 22, op := Op.fieldAddr 78 (Operand.tmp 21) 1, type := 0, pos := "chain.go:54", after := #[{ on := 1, ground := Ground.data }], guard := none }) (d := 22) (v := ?_) rfl rfl (by kernel_rfl) (by kernel_rfl) (by kernel_rfl) (fun _ _ _ h => h) (Or.inl ⟨by rfl, ?_⟩) ?_
  rotate_left
  · (intro w' _; go_simp; (try with_reducible rfl))
  simp only [List.setIfInBounds_toArray, List.set_cons_zero, List.set_cons_succ]
  refine wpAnyD_takeP (i := 4) (oi := { dst := some 24, op := Op.move (Operand.tmp 1), type := 3, pos := "chain.go:54", after := #[], guard := none }) (d := 24) (v := ?_) rfl rfl (by kernel_rfl) (by kernel_rfl) (by kernel_rfl) (fun _ _ _ h => h) (Or.inl ⟨by rfl, ?_⟩) ?_
  rotate_left
  · (intro w' _; go_simp; (try with_reducible rfl))
  simp only [List.setIfInBounds_toArray, List.set_cons_zero, List.set_cons_succ]
  refine wpAnyD_takeP (i := 8) (oi := { dst := some 28, op := Op.move (Operand.tmp 0), type := 72, pos := "chain.go:54", after := #[], guard := none }) (d := 28) (v := ?_) rfl rfl (by kernel_rfl) (by kernel_rfl) (by kernel_rfl) (fun _ _ _ h => h) (Or.inl ⟨by rfl, ?_⟩) ?_
  rotate_left
  · (intro w' _; go_simp; (try with_reducible rfl))
  simp only [List.setIfInBounds_toArray, List.set_cons_zero, List.set_cons_succ]
  refine wpAnyD_takeP (i := 9) (oi := { dst := some 29, op := Op.nilCheck (Operand.tmp 28), type := 0, pos := "chain.go:54", after := #[{ on := 8, ground := Ground.data }], guard := none }) (d := 29) (v := ?_) rfl rfl (by kernel_rfl) (by kernel_rfl) (by kernel_rfl) (fun _ _ _ h => h) (Or.inl ⟨by rfl, ?_⟩) ?_
  rotate_left
  · (intro w' _; go_simp; (try with_reducible rfl))
  simp only [List.setIfInBounds_toArray, List.set_cons_zero, List.set_cons_succ]
  refine wpAnyD_takeP (i := 10) (oi := { dst := some 30, op := Op.fieldAddr 78 (Operand.tmp 29) 1, type := 0, pos := "chain.go:54", after := #[{ on := 9, ground := Ground.data }], guard := none }) (d := 30) (v := ?_) rfl rfl (by kernel_rfl) (by kernel_rfl) (by kernel_rfl) (fun _ _ _ h => h) (Or.inl ⟨by rfl, ?_⟩) ?_
  rotate_left
  · (intro w' _; go_simp; (try with_reducible rfl))
  simp only [List.setIfInBounds_toArray, List.set_cons_zero, List.set_cons_succ]
  refine wpAnyD_takeP (i := 12) (oi := { dst := some 32, op := Op.move (Operand.tmp 0), type := 72, pos := "chain.go:54", after := #[], guard := none }) (d := 32) (v := ?_) rfl rfl (by kernel_rfl) (by kernel_rfl) (by kernel_rfl) (fun _ _ _ h => h) (Or.inl ⟨by rfl, ?_⟩) ?_
  rotate_left
  · (intro w' _; go_simp; (try with_reducible rfl))
  simp only [List.setIfInBounds_toArray, List.set_cons_zero, List.set_cons_succ]
  refine wpAnyD_takeP (i := 13) (oi := { dst := some 33, op := Op.nilCheck (Operand.tmp 32), type := 0, pos := "chain.go:54", after := #[{ on := 12, ground := Ground.data }], guard := none }) (d := 33) (v := ?_) rfl rfl (by kernel_rfl) (by kernel_rfl) (by kernel_rfl) (fun _ _ _ h => h) (Or.inl ⟨by rfl, ?_⟩) ?_
  rotate_left
  · (intro w' _; go_simp; (try with_reducible rfl))
  simp only [List.setIfInBounds_toArray, List.set_cons_zero, List.set_cons_succ]
  refine wpAnyD_takeP (i := 14) (oi := { dst := some 34, op := Op.fieldAddr 78 (Operand.tmp 33) 1, type := 0, pos := "chain.go:54", after := #[{ on := 13, ground := Ground.data }], guard := none }) (d := 34) (v := ?_) rfl rfl (by kernel_rfl) (by kernel_rfl) (by kernel_rfl) (fun _ _ _ h => h) (Or.inl ⟨by rfl, ?_⟩) ?_
  rotate_left
  · (intro w' _; go_simp; (try with_reducible rfl))
  simp only [List.setIfInBounds_toArray, List.set_cons_zero, List.set_cons_succ]
  refine wpAnyD_takeP (i := 16) (oi := { dst := some 36, op := Op.move (Operand.tmp 1), type := 3, pos := "chain.go:54", after := #[], guard := none }) (d := 36) (v := ?_) rfl rfl (by kernel_rfl) (by kernel_rfl) (by kernel_rfl) (fun _ _ _ h => h) (Or.inl ⟨by rfl, ?_⟩) ?_
  rotate_left
  · (intro w' _; go_simp; (try with_reducible rfl))
  simp only [List.setIfInBounds_toArray, List.set_cons_zero, List.set_cons_succ]
  refine wpAnyD_takeD (i := 3) (oi := { dst := some 23, op := Op.load 75 (Operand.tmp 22), type := 75, pos := "chain.go:54", after := #[{ on := 2, ground := Ground.data }], guard := none }) (d := 23) (v := ?_) rfl rfl (by kernel_rfl) (by kernel_rfl) (by kernel_rfl) (by kernel_rfl) (fun _ _ _ h => h) (Or.inl ⟨by rfl, ?_⟩) hHeld ?_
  rotate_left
  · (intro w' hSw; (try dsimp only at hSw); go_simp; (try with_reducible rfl))
  simp only [List.setIfInBounds_toArray, List.set_cons_zero, List.set_cons_succ]
  refine wpAnyD_takeP (i := 5) (oi := { dst := some 25, op := Op.indexAddr 75 (Operand.tmp 23) (Operand.tmp 24), type := 0, pos := "chain.go:54", after := #[{ on := 3, ground := Ground.data }, { on := 4, ground := Ground.data }], guard := none }) (d := 25) (v := ?_) rfl rfl (by kernel_rfl) (by kernel_rfl) (by kernel_rfl) (fun _ _ _ h => h) (Or.inl ⟨by rfl, ?_⟩) ?_
  rotate_left
  · (intro w' _; go_simp; (try with_reducible rfl))
  simp only [List.setIfInBounds_toArray, List.set_cons_zero, List.set_cons_succ]
  refine wpAnyD_takeP (i := 6) (oi := { dst := some 26, op := Op.fieldAddr 107 (Operand.tmp 25) 0, type := 0, pos := "chain.go:54", after := #[{ on := 5, ground := Ground.data }], guard := none }) (d := 26) (v := ?_) rfl rfl (by kernel_rfl) (by kernel_rfl) (by kernel_rfl) (fun _ _ _ h => h) (Or.inl ⟨by rfl, ?_⟩) ?_
  rotate_left
  · (intro w' _; go_simp; (try with_reducible rfl))
  simp only [List.setIfInBounds_toArray, List.set_cons_zero, List.set_cons_succ]
  refine wpAnyD_takeD (i := 7) (oi := { dst := some 27, op := Op.load 3 (Operand.tmp 26), type := 3, pos := "chain.go:54", after := #[{ on := 6, ground := Ground.data }], guard := none }) (d := 27) (v := ?_) rfl rfl (by kernel_rfl) (by kernel_rfl) (by kernel_rfl) (by kernel_rfl) (fun _ _ _ h => h) (Or.inl ⟨by rfl, ?_⟩) hHeld ?_
  rotate_left
  · (intro w' hSw; (try dsimp only at hSw); go_simp; (try with_reducible rfl))
  simp only [List.setIfInBounds_toArray, List.set_cons_zero, List.set_cons_succ]
  refine wpAnyD_takeD (i := 11) (oi := { dst := some 31, op := Op.load 75 (Operand.tmp 30), type := 75, pos := "chain.go:54", after := #[{ on := 10, ground := Ground.data }], guard := none }) (d := 31) (v := ?_) rfl rfl (by kernel_rfl) (by kernel_rfl) (by kernel_rfl) (by kernel_rfl) (fun _ _ _ h => h) (Or.inl ⟨by rfl, ?_⟩) hHeld ?_
  rotate_left
  · (intro w' hSw; (try dsimp only at hSw); go_simp; (try with_reducible rfl))
  simp only [List.setIfInBounds_toArray, List.set_cons_zero, List.set_cons_succ]
  refine wpAnyD_takeD (i := 15) (oi := { dst := some 35, op := Op.load 75 (Operand.tmp 34), type := 75, pos := "chain.go:54", after := #[{ on := 14, ground := Ground.data }], guard := none }) (d := 35) (v := ?_) rfl rfl (by kernel_rfl) (by kernel_rfl) (by kernel_rfl) (by kernel_rfl) (fun _ _ _ h => h) (Or.inl ⟨by rfl, ?_⟩) hHeld ?_
  rotate_left
  · (intro w' hSw; (try dsimp only at hSw); go_simp; (try with_reducible rfl))
  simp only [List.setIfInBounds_toArray, List.set_cons_zero, List.set_cons_succ]
  refine wpAnyD_takeP (i := 17) (oi := { dst := some 37, op := Op.indexAddr 75 (Operand.tmp 35) (Operand.tmp 36), type := 0, pos := "chain.go:54", after := #[{ on := 15, ground := Ground.data }, { on := 16, ground := Ground.data }], guard := none }) (d := 37) (v := ?_) rfl rfl (by kernel_rfl) (by kernel_rfl) (by kernel_rfl) (fun _ _ _ h => h) (Or.inl ⟨by rfl, ?_⟩) ?_
  rotate_left
  · (intro w' _; go_simp; (try with_reducible rfl))
  simp only [List.setIfInBounds_toArray, List.set_cons_zero, List.set_cons_succ]
  refine wpAnyD_takeP (i := 18) (oi := { dst := some 38, op := Op.fieldAddr 107 (Operand.tmp 37) 2, type := 0, pos := "chain.go:54", after := #[{ on := 17, ground := Ground.data }], guard := none }) (d := 38) (v := ?_) rfl rfl (by kernel_rfl) (by kernel_rfl) (by kernel_rfl) (fun _ _ _ h => h) (Or.inl ⟨by rfl, ?_⟩) ?_
  rotate_left
  · (intro w' _; go_simp; (try with_reducible rfl))
  simp only [List.setIfInBounds_toArray, List.set_cons_zero, List.set_cons_succ]
  refine wpAnyD_takeD (i := 19) (oi := { dst := some 39, op := Op.load 3 (Operand.tmp 38), type := 3, pos := "chain.go:54", after := #[{ on := 18, ground := Ground.data }], guard := none }) (d := 39) (v := ?_) rfl rfl (by kernel_rfl) (by kernel_rfl) (by kernel_rfl) (by kernel_rfl) (fun _ _ _ h => h) (Or.inl ⟨by rfl, ?_⟩) hHeld ?_
  rotate_left
  · (intro w' hSw; (try dsimp only at hSw); go_simp; (try with_reducible rfl))
  simp only [List.setIfInBounds_toArray, List.set_cons_zero, List.set_cons_succ]
  refine wpAnyD_takeP (i := 20) (oi := { dst := some 40, op := Op.indexAddr 75 (Operand.tmp 31) (Operand.tmp 39), type := 0, pos := "chain.go:54", after := #[{ on := 11, ground := Ground.data }, { on := 19, ground := Ground.data }], guard := none }) (d := 40) (v := ?_) rfl rfl (by kernel_rfl) (by kernel_rfl) (by kernel_rfl) (fun _ _ _ h => h) (Or.inl ⟨by rfl, ?_⟩) ?_
  rotate_left
  · (intro w' _; go_simp; (try with_reducible rfl))
  simp only [List.setIfInBounds_toArray, List.set_cons_zero, List.set_cons_succ]
  refine wpAnyD_takeP (i := 21) (oi := { dst := some 41, op := Op.fieldAddr 107 (Operand.tmp 40) 0, type := 0, pos := "chain.go:54", after := #[{ on := 20, ground := Ground.data }], guard := none }) (d := 41) (v := ?_) rfl rfl (by kernel_rfl) (by kernel_rfl) (by kernel_rfl) (fun _ _ _ h => h) (Or.inl ⟨by rfl, ?_⟩) ?_
  rotate_left
  · (intro w' _; go_simp; (try with_reducible rfl))
  simp only [List.setIfInBounds_toArray, List.set_cons_zero, List.set_cons_succ]
  refine wpAnyD_takeD (i := 22) (oi := { dst := some 42, op := Op.load 3 (Operand.tmp 41), type := 3, pos := "chain.go:54", after := #[{ on := 21, ground := Ground.data }], guard := none }) (d := 42) (v := ?_) rfl rfl (by kernel_rfl) (by kernel_rfl) (by kernel_rfl) (by kernel_rfl) (fun _ _ _ h => h) (Or.inl ⟨by rfl, ?_⟩) hHeld ?_
  rotate_left
  · (intro w' hSw; (try dsimp only at hSw); go_simp; (try with_reducible rfl))
  simp only [List.setIfInBounds_toArray, List.set_cons_zero, List.set_cons_succ]
  refine wpAnyD_takeP (i := 23) (oi := { dst := some 43, op := Op.build 71 #[(0, Operand.tmp 27), (1, Operand.tmp 42)], type := 71, pos := "chain.go:54", after := #[{ on := 7, ground := Ground.data }, { on := 22, ground := Ground.data }], guard := none }) (d := 43) (v := ?_) rfl rfl (by kernel_rfl) (by kernel_rfl) (by kernel_rfl) (fun _ _ _ h => h) (Or.inl ⟨by rfl, ?_⟩) ?_
  rotate_left
  · (intro w' _; go_simp; (try with_reducible rfl))
  simp only [List.setIfInBounds_toArray, List.set_cons_zero, List.set_cons_succ]
  refine wpAnyD_one (i := 24) (o := { dst := some 4, op := Op.alloc 71, type := 0, pos := "chain.go:54", after := #[], guard := none }) (by kernel_rfl) rfl (by rfl) (fun K hK => ?_)
  go_simp; have hbl := (Below.refl W0.heap.size W0).alloc (Nat.le_refl _) (.cells #[.int .i64 0, .int .i64 0] 71); have h := And.intro (below_cell hbl (Nat.le_refl _) hHeld.1) (And.intro (below_cell hbl (Nat.le_refl _) hHeld.2.1) (And.intro (below_cell hbl (Nat.le_refl _) hHeld.2.2.1) (below_cell hbl (Nat.le_refl _) hHeld.2.2.2))); clear hbl
  refine hK.out _ _ h (fun hHeld => ?_)
  clear hK K
  try simp only [Act.put, List.setIfInBounds_toArray, List.set_cons_zero, List.set_cons_succ]
  refine wpAnyD_last (D := 25) (by decide) (o := { dst := none, op := Op.store 71 (Operand.tmp 4) (Operand.tmp 43), type := 0, pos := "chain.go:54", after := #[{ on := 24, ground := Ground.data }, { on := 23, ground := Ground.data }, { on := 0, ground := Ground.phase }, { on := 1, ground := Ground.phase }, { on := 2, ground := Ground.phase }, { on := 3, ground := Ground.phase }, { on := 4, ground := Ground.phase }, { on := 5, ground := Ground.phase }, { on := 6, ground := Ground.phase }, { on := 7, ground := Ground.phase }, { on := 8, ground := Ground.phase }, { on := 9, ground := Ground.phase }, { on := 10, ground := Ground.phase }, { on := 11, ground := Ground.phase }, { on := 12, ground := Ground.phase }, { on := 13, ground := Ground.phase }, { on := 14, ground := Ground.phase }, { on := 15, ground := Ground.phase }, { on := 16, ground := Ground.phase }, { on := 17, ground := Ground.phase }, { on := 18, ground := Ground.phase }, { on := 19, ground := Ground.phase }, { on := 20, ground := Ground.phase }, { on := 21, ground := Ground.phase }, { on := 22, ground := Ground.phase }, { on := 23, ground := Ground.phase }, { on := 24, ground := Ground.phase }], guard := none }) (by kernel_rfl) rfl (by rfl) (fun K hK => ?_)
  go_simp
  refine hK.out _ _ ?_
  clear hK K
  try simp only [Act.put, List.setIfInBounds_toArray, List.set_cons_zero, List.set_cons_succ]
  refine wpAnyD_done (by kernel_rfl) ?_ _
  go_upto_region 2 with fail
  have HBW := Lib.hid ((Below.refl W0.heap.size W0).alloc (Nat.le_refl _) (.cells #[.int .i64 a, .int .i64 b] 71))
  have HN := Lib.hid (blk_new W0 (.cells #[.int .i64 a, .int .i64 b] 71))
  replace HD := Lib.hid (HD.out.below HBW.out (Nat.le_refl _))
  replace HB0 := Lib.hid (HB0.out.trans (HBW.out.mono HB0.out.size))
  clear hHeld h1 a0 a2 b0 HBW p0 p1 p2 p3 q1 q2 h
  generalize W0.heap.size = g4 at *
  generalize W0.alloc (.cells #[.int .i64 a, .int .i64 b] 71) = W1 at *
  have h0 := blk_cell HD.out.lk.blk 0
  have n0 := blk_cell HN.out 0
  have n1 := blk_cell HN.out 1
  simp only [List.getElem?_toArray, List.getElem?_cons_zero, List.getElem?_cons_succ] at h0 n0 n1
  obtain ⟨o, ho⟩ : ∃ o, pairT T (a, b) = o := ⟨_, rfl⟩
  have HO := Lib.hid ho
  refine wp_region_D (Ds := []) (S := fun V => V.cell? ⟨cb, 0, none⟩ = some (.pointer (some ⟨tb, 0, none⟩)) ∧ V.cell? ⟨g4, 0, none⟩ = some (.int .i64 a) ∧ V.cell? ⟨g4, 1, none⟩ = some (.int .i64 b)) (by kernel_rfl) (by exact ⟨h0, n0, n1⟩) (fun hHeld => ?_)
  (replace HD := Lib.hid HD.out.drew); (replace HB0 : Hid (Below w.heap.size w W1.drew) := Lib.hid HB0.out.drew); (have HN1 : Hid (W1.drew.heap[g4]? = some (.cells #[.int .i64 a, .int .i64 b] 71)) := Lib.hid HN.out); (have HP := pair_tab a b ha hb HD.out.tab); rw [ho] at HP; (replace HP := Lib.hid HP); clear HN ho; generalize W1.drew = W2 at *
  refine wpAnyD_takeP (i := 0) (oi := { dst := some 45, op := Op.move (Operand.tmp 0), type := 72, pos := "chain.go:55", after := #[], guard := none }) (d := 45) (v := ?_) rfl rfl (by kernel_rfl) (by kernel_rfl) (by kernel_rfl) (fun _ _ _ h => h) (Or.inl ⟨by rfl, ?_⟩) ?_
  rotate_left
  · (intro w' _; go_simp; (try with_reducible rfl))
  simp only [List.setIfInBounds_toArray, List.set_cons_zero, List.set_cons_succ]
  refine wpAnyD_takeP (i := 1) (oi := { dst := some 46, op := Op.nilCheck (Operand.tmp 45), type := 0, pos := "chain.go:55", after := #[{ on := 0, ground := Ground.data }], guard := none }) (d := 46) (v := ?_) rfl rfl (by kernel_rfl) (by kernel_rfl) (by kernel_rfl) (fun _ _ _ h => h) (Or.inl ⟨by rfl, ?_⟩) ?_
  rotate_left
  · (intro w' _; go_simp; (try with_reducible rfl))
  simp only [List.setIfInBounds_toArray, List.set_cons_zero, List.set_cons_succ]
  refine wpAnyD_takeP (i := 2) (oi := { dst := some 47, op := Op.fieldAddr 78 (Operand.tmp 46) 0, type := 0, pos := "chain.go:55", after := #[{ on := 1, ground := Ground.data }], guard := none }) (d := 47) (v := ?_) rfl rfl (by kernel_rfl) (by kernel_rfl) (by kernel_rfl) (fun _ _ _ h => h) (Or.inl ⟨by rfl, ?_⟩) ?_
  rotate_left
  · (intro w' _; go_simp; (try with_reducible rfl))
  simp only [List.setIfInBounds_toArray, List.set_cons_zero, List.set_cons_succ]
  refine wpAnyD_takeP (i := 4) (oi := { dst := some 49, op := Op.fieldAddr 71 (Operand.tmp 4) 0, type := 0, pos := "chain.go:55", after := #[], guard := none }) (d := 49) (v := ?_) rfl rfl (by kernel_rfl) (by kernel_rfl) (by kernel_rfl) (fun _ _ _ h => h) (Or.inl ⟨by rfl, ?_⟩) ?_
  rotate_left
  · (intro w' _; go_simp; (try with_reducible rfl))
  simp only [List.setIfInBounds_toArray, List.set_cons_zero, List.set_cons_succ]
  refine wpAnyD_takeP (i := 6) (oi := { dst := some 51, op := Op.fieldAddr 71 (Operand.tmp 4) 1, type := 0, pos := "chain.go:55", after := #[], guard := none }) (d := 51) (v := ?_) rfl rfl (by kernel_rfl) (by kernel_rfl) (by kernel_rfl) (fun _ _ _ h => h) (Or.inl ⟨by rfl, ?_⟩) ?_
  rotate_left
  · (intro w' _; go_simp; (try with_reducible rfl))
  simp only [List.setIfInBounds_toArray, List.set_cons_zero, List.set_cons_succ]
  refine wpAnyD_takeD (i := 3) (oi := { dst := some 48, op := Op.load 24 (Operand.tmp 47), type := 24, pos := "chain.go:55", after := #[{ on := 2, ground := Ground.data }], guard := none }) (d := 48) (v := ?_) rfl rfl (by kernel_rfl) (by kernel_rfl) (by kernel_rfl) (by kernel_rfl) (fun _ _ _ h => h) (Or.inl ⟨by rfl, ?_⟩) hHeld ?_
  rotate_left
  · (intro w' hSw; (try dsimp only at hSw); go_simp; (try with_reducible rfl))
  simp only [List.setIfInBounds_toArray, List.set_cons_zero, List.set_cons_succ]
  refine wpAnyD_takeD (i := 5) (oi := { dst := some 50, op := Op.load 3 (Operand.tmp 49), type := 3, pos := "chain.go:55", after := #[{ on := 4, ground := Ground.data }], guard := none }) (d := 50) (v := ?_) rfl rfl (by kernel_rfl) (by kernel_rfl) (by kernel_rfl) (by kernel_rfl) (fun _ _ _ h => h) (Or.inl ⟨by rfl, ?_⟩) hHeld ?_
  rotate_left
  · (intro w' hSw; (try dsimp only at hSw); go_simp; (try with_reducible rfl))
  simp only [List.setIfInBounds_toArray, List.set_cons_zero, List.set_cons_succ]
  refine wpAnyD_takeD (i := 7) (oi := { dst := some 52, op := Op.load 3 (Operand.tmp 51), type := 3, pos := "chain.go:55", after := #[{ on := 6, ground := Ground.data }], guard := none }) (d := 52) (v := ?_) rfl rfl (by kernel_rfl) (by kernel_rfl) (by kernel_rfl) (by kernel_rfl) (fun _ _ _ h => h) (Or.inl ⟨by rfl, ?_⟩) hHeld ?_
  rotate_left
  · (intro w' hSw; (try dsimp only at hSw); go_simp; (try with_reducible rfl))
  simp only [List.setIfInBounds_toArray, List.set_cons_zero, List.set_cons_succ]
  refine wpAnyD_one (i := 8) (o := { dst := some 53, op := Op.call { callee := Callee.value (Operand.func 58), args := #[Operand.tmp 48, Operand.tmp 50, Operand.tmp 52], argTypes := #[24, 3, 3] }, type := 113, pos := "chain.go:55", after := #[{ on := 3, ground := Ground.data }, { on := 5, ground := Ground.data }, { on := 7, ground := Ground.data }], guard := none }) (by kernel_rfl) rfl (by rfl) (fun K hK => ?_)
  go_simp; refine HP.out.mono ?_; rintro e W2 ⟨rfl, rfl⟩; have h := hHeld; go_simp
  refine hK.out _ _ h (fun hHeld => ?_)
  clear hK K
  try simp only [Act.put, List.setIfInBounds_toArray, List.set_cons_zero, List.set_cons_succ]
  refine wpAnyD_takeP (i := 9) (oi := { dst := some 44, op := Op.move (Operand.tmp 53), type := 113, pos := "chain.go:55", after := #[{ on := 8, ground := Ground.data }], guard := none }) (d := 44) (v := ?_) rfl rfl (by kernel_rfl) (by kernel_rfl) (by kernel_rfl) (fun _ _ _ h => h) (Or.inl ⟨by rfl, ?_⟩) ?_
  rotate_left
  · (intro w' _; go_simp; (try with_reducible rfl))
  simp only [List.setIfInBounds_toArray, List.set_cons_zero, List.set_cons_succ]
  refine wpAnyD_takeP (i := 10) (oi := { dst := some 54, op := Op.extract (Operand.tmp 44) 0, type := 3, pos := "chain.go:55", after := #[{ on := 9, ground := Ground.data }], guard := none }) (d := 54) (v := ?_) rfl rfl (by kernel_rfl) (by kernel_rfl) (by kernel_rfl) (fun _ _ _ h => h) (Or.inl ⟨by rfl, ?_⟩) ?_
  rotate_left
  · (intro w' _; go_simp; (try with_reducible rfl))
  simp only [List.setIfInBounds_toArray, List.set_cons_zero, List.set_cons_succ]
  refine wpAnyD_takeP (i := 11) (oi := { dst := some 55, op := Op.extract (Operand.tmp 44) 1, type := 4, pos := "chain.go:55", after := #[{ on := 9, ground := Ground.data }, { on := 12, ground := Ground.gcOnly Departure.lateStores }], guard := none }) (d := 55) (v := ?_) rfl rfl (by kernel_rfl) (by kernel_rfl) (by kernel_rfl) (fun _ _ _ h => h) (Or.inl ⟨by rfl, ?_⟩) ?_
  rotate_left
  · (intro w' _; go_simp; (try with_reducible rfl))
  simp only [List.setIfInBounds_toArray, List.set_cons_zero, List.set_cons_succ]
  refine wpAnyD_takeP (i := 12) (oi := { dst := some 5, op := Op.assign (Operand.tmp 54), type := 3, pos := "chain.go:55", after := #[{ on := 10, ground := Ground.data }, { on := 8, ground := Ground.chain }, { on := 0, ground := Ground.phase }, { on := 1, ground := Ground.phase }, { on := 2, ground := Ground.phase }, { on := 3, ground := Ground.phase }, { on := 4, ground := Ground.phase }, { on := 5, ground := Ground.phase }, { on := 6, ground := Ground.phase }, { on := 7, ground := Ground.phase }, { on := 8, ground := Ground.phase }, { on := 9, ground := Ground.phase }, { on := 10, ground := Ground.phase }, { on := 11, ground := Ground.textOnly Departure.lateStores }], guard := none }) (d := 5) (v := ?_) rfl rfl (by kernel_rfl) (by kernel_rfl) (by kernel_rfl) (fun _ _ _ h => h) (Or.inl ⟨by rfl, ?_⟩) ?_
  rotate_left
  · (intro w' _; go_simp; (try with_reducible rfl))
  simp only [List.setIfInBounds_toArray, List.set_cons_zero, List.set_cons_succ]
  refine wpAnyD_takeP (i := 13) (oi := { dst := some 6, op := Op.assign (Operand.tmp 55), type := 4, pos := "chain.go:55", after := #[{ on := 11, ground := Ground.data }, { on := 12, ground := Ground.chain }, { on := 0, ground := Ground.phase }, { on := 1, ground := Ground.phase }, { on := 2, ground := Ground.phase }, { on := 3, ground := Ground.phase }, { on := 4, ground := Ground.phase }, { on := 5, ground := Ground.phase }, { on := 6, ground := Ground.phase }, { on := 7, ground := Ground.phase }, { on := 8, ground := Ground.phase }, { on := 9, ground := Ground.phase }, { on := 10, ground := Ground.phase }, { on := 11, ground := Ground.phase }, { on := 12, ground := Ground.phase }], guard := none }) (d := 6) (v := ?_) rfl rfl (by kernel_rfl) (by kernel_rfl) (by kernel_rfl) (fun _ _ _ h => h) (Or.inl ⟨by rfl, ?_⟩) ?_
  rotate_left
  · (intro w' _; go_simp; (try with_reducible rfl))
  simp only [List.setIfInBounds_toArray, List.set_cons_zero, List.set_cons_succ]
  refine wpAnyD_done (by kernel_rfl) ?_ _
  clear h hHeld h0 n0 n1
  have h3 := blk_cell HD.out.lk.blk 3
  simp only [List.getElem?_toArray, List.getElem?_cons_zero, List.getElem?_cons_succ] at h3
  cases o with
  | none =>
    simp only [Option.getD_none, Option.isSome_none]
    go_wp2_with fail
    go_end0
    refine ⟨rfl, ⟨Aq, cq, ?_⟩, HB0.out.mono HH.out.sizes⟩
    rw [← HR.out, askQ_none (by show pairB T bel a b = none; unfold pairB; rw [HO.out]; rfl)]
    exact HD.out
  | some r =>
    simp only [Option.getD_some, Option.isSome_some]
    by_cases hlt : (r : Int) < bel
    · have HPB : Hid (pairB T bel a b = some (r : Int)) := Lib.hid (by unfold pairB; rw [HO.out]; simp [hlt])
      have hd : decide ((r : Int) < bel) = true := by simpa using hlt
      go_upto_region 4 with fail
      have h2 := blk_cell HD.out.lk.blk 2
      have n0 := blk_cell HN1.out 0
      have n1 := blk_cell HN1.out 1
      simp only [List.getElem?_toArray, List.getElem?_cons_zero, List.getElem?_cons_succ] at h2 n0 n1
      clear h3 hd HP
      refine wp_region_D (Ds := [9]) (S := fun V => V.cell? ⟨cb, 2, none⟩ = some (.pointer (some ⟨qb, 0, none⟩)) ∧ V.cell? ⟨g4, 0, none⟩ = some (.int .i64 a) ∧ V.cell? ⟨g4, 1, none⟩ = some (.int .i64 b)) (by kernel_rfl) (by exact ⟨h2, n0, n1⟩) (fun hHeld => ?_)
      (replace HD := Lib.hid HD.out.drew); (replace HB0 : Hid (Below w.heap.size w W2.drew) := Lib.hid HB0.out.drew); (have HPU := Lib.hid (by simpa only [hw.wtV] using hw.push_any HD.out.hp (r : Int) (i : Int) ⟨(i : Int), a, b⟩ hQ ht0 ht1 HD.out.sizes)); clear HN1; generalize W2.drew = W3 at *
      refine wpAnyD_takeP (i := 0) (oi := { dst := some 65, op := Op.move (Operand.tmp 0), type := 72, pos := "chain.go:56", after := #[], guard := none }) (d := 65) (v := ?_) rfl rfl (by kernel_rfl) (by kernel_rfl) (by kernel_rfl) (fun _ _ _ h => h) (Or.inl ⟨by rfl, ?_⟩) ?_
      rotate_left
      · (intro w' _; go_simp; (try with_reducible rfl))
      simp only [List.setIfInBounds_toArray, List.set_cons_zero, List.set_cons_succ]
      refine wpAnyD_takeP (i := 1) (oi := { dst := some 66, op := Op.nilCheck (Operand.tmp 65), type := 0, pos := "chain.go:56", after := #[{ on := 0, ground := Ground.data }], guard := none }) (d := 66) (v := ?_) rfl rfl (by kernel_rfl) (by kernel_rfl) (by kernel_rfl) (fun _ _ _ h => h) (Or.inl ⟨by rfl, ?_⟩) ?_
      rotate_left
      · (intro w' _; go_simp; (try with_reducible rfl))
      simp only [List.setIfInBounds_toArray, List.set_cons_zero, List.set_cons_succ]
      refine wpAnyD_takeP (i := 2) (oi := { dst := some 67, op := Op.fieldAddr 78 (Operand.tmp 66) 2, type := 0, pos := "chain.go:56", after := #[{ on := 1, ground := Ground.data }], guard := none }) (d := 67) (v := ?_) rfl rfl (by kernel_rfl) (by kernel_rfl) (by kernel_rfl) (fun _ _ _ h => h) (Or.inl ⟨by rfl, ?_⟩) ?_
      rotate_left
      · (intro w' _; go_simp; (try with_reducible rfl))
      simp only [List.setIfInBounds_toArray, List.set_cons_zero, List.set_cons_succ]
      refine wpAnyD_takeP (i := 4) (oi := { dst := some 69, op := Op.move (Operand.tmp 5), type := 3, pos := "chain.go:56", after := #[], guard := none }) (d := 69) (v := ?_) rfl rfl (by kernel_rfl) (by kernel_rfl) (by kernel_rfl) (fun _ _ _ h => h) (Or.inl ⟨by rfl, ?_⟩) ?_
      rotate_left
      · (intro w' _; go_simp; (try with_reducible rfl))
      simp only [List.setIfInBounds_toArray, List.set_cons_zero, List.set_cons_succ]
      refine wpAnyD_takeP (i := 5) (oi := { dst := some 70, op := Op.move (Operand.tmp 1), type := 3, pos := "chain.go:56", after := #[], guard := none }) (d := 70) (v := ?_) rfl rfl (by kernel_rfl) (by kernel_rfl) (by kernel_rfl) (fun _ _ _ h => h) (Or.inl ⟨by rfl, ?_⟩) ?_
      rotate_left
      · (intro w' _; go_simp; (try with_reducible rfl))
      simp only [List.setIfInBounds_toArray, List.set_cons_zero, List.set_cons_succ]
      refine wpAnyD_takeP (i := 6) (oi := { dst := some 71, op := Op.move (Operand.tmp 1), type := 3, pos := "chain.go:56", after := #[], guard := none }) (d := 71) (v := ?_) rfl rfl (by kernel_rfl) (by kernel_rfl) (by kernel_rfl) (fun _ _ _ h => h) (Or.inl ⟨by rfl, ?_⟩) ?_
      rotate_left
      · (intro w' _; go_simp; (try with_reducible rfl))
      simp only [List.setIfInBounds_toArray, List.set_cons_zero, List.set_cons_succ]
      refine wpAnyD_takeD (i := 3) (oi := { dst := some 68, op := Op.load 76 (Operand.tmp 67), type := 76, pos := "chain.go:56", after := #[{ on := 2, ground := Ground.data }], guard := none }) (d := 68) (v := ?_) rfl rfl (by kernel_rfl) (by kernel_rfl) (by kernel_rfl) (by kernel_rfl) (fun _ _ _ h => h) (Or.inl ⟨by rfl, ?_⟩) hHeld ?_
      rotate_left
      · (intro w' hSw; (try dsimp only at hSw); go_simp; (try with_reducible rfl))
      simp only [List.setIfInBounds_toArray, List.set_cons_zero, List.set_cons_succ]
      refine wpAnyD_one (i := 7) (o := { dst := some 72, op := Op.load 71 (Operand.tmp 4), type := 71, pos := "chain.go:56", after := #[], guard := none }) (by kernel_rfl) rfl (by rfl) (fun K hK => ?_)
      go_simp
      refine hK.out _ _ hHeld (fun hHeld => ?_)
      clear hK K
      try simp only [Act.put, List.setIfInBounds_toArray, List.set_cons_zero, List.set_cons_succ]
      refine wpAnyD_takeP (i := 8) (oi := { dst := some 73, op := Op.build 105 #[(0, Operand.tmp 71), (1, Operand.tmp 72)], type := 105, pos := "chain.go:56", after := #[{ on := 6, ground := Ground.data }, { on := 7, ground := Ground.data }], guard := none }) (d := 73) (v := ?_) rfl rfl (by kernel_rfl) (by kernel_rfl) (by kernel_rfl) (fun _ _ _ h => h) (Or.inl ⟨by rfl, ?_⟩) ?_
      rotate_left
      · (intro w' _; go_simp; (try with_reducible rfl))
      simp only [List.setIfInBounds_toArray, List.set_cons_zero, List.set_cons_succ]
      refine wpAnyD_last (D := 9) (by decide) (o := { dst := some 74, op := Op.call { callee := Callee.value (Operand.func 59), args := #[Operand.tmp 68, Operand.tmp 69, Operand.tmp 70, Operand.tmp 73], argTypes := #[76, 3, 3, 105] }, type := 0, pos := "chain.go:56", after := #[{ on := 3, ground := Ground.data }, { on := 4, ground := Ground.data }, { on := 5, ground := Ground.data }, { on := 8, ground := Ground.data }], guard := none }) (by kernel_rfl) rfl (by rfl) (fun K hK => ?_)
      go_simp; refine HPU.out.mono ?_; rintro e W4 ⟨rfl, h5, hk⟩; have H5 := Lib.hid h5; have HK := Lib.hid hk; clear h5 hk; go_simp
      refine hK.out _ _ ?_
      clear hK K
      try simp only [Act.put, List.setIfInBounds_toArray, List.set_cons_zero, List.set_cons_succ]
      refine wpAnyD_done (by kernel_rfl) ?_ _
      go_wp2_with fail
      go_end0
      obtain ⟨Aq', cq', h6, _⟩ := H5.out
      obtain ⟨hC, hB⟩ := HD.out.queue h6 HK.out
      refine ⟨rfl, ⟨Aq', cq', ?_⟩, (HB0.out.mono HH.out.sizes).trans hB⟩
      rw [← HR.out, askQ_some HPB.out]
      exact hC
    · have hd : decide ((r : Int) < bel) = false := by simpa using hlt
      have HPB : Hid (pairB T bel a b = none) := Lib.hid (by unfold pairB; rw [HO.out]; simp; omega)
      go_wp2_with fail
      go_end0
      refine ⟨rfl, ⟨Aq, cq, ?_⟩, HB0.out.mono HH.out.sizes⟩
      rw [← HR.out, askQ_none HPB.out]
      exact HD.out
theorem wf_id {a : Int} (h : 0 ≤ a ∧ a < 1000000) : (Lit.int .i64 a).wf = true := by
  have e1 : IntKind.i64.min = -9223372036854775808 := by decide
  have e2 : IntKind.i64.max = 9223372036854775807 := by decide
  simp only [Lit.wf, e1, e2, Bool.and_eq_true, decide_eq_true_eq]
  omega
theorem asks_live (h : ChainIs w base tbase tb T sv mb mp cb qb N bel steps A c Q turn Aq cq) {p q : List Nd} {i : Nat} {a : Int} (hL : Lives N (p ++ ((i : Int), a) :: q)) (hQ : Q.length < 1000000000) (ht0 : 0 ≤ turn) (ht1 : turn < 1000000000000000000) :
    Calls Try.prog 52 #[.pointer (some ⟨cb, 0, none⟩), .int .i64 (i : Int)] w fun e w' => e = .returned (.tuple #[]) ∧ (∃ Aq' cq', ChainIs w' base tbase tb T sv mb mp cb qb N bel steps A c (askQ (pairB T bel) Q turn i a q).1 (askQ (pairB T bel) Q turn i a q).2 Aq' cq') ∧ Below base w w' := by
  obtain ⟨k, e, hk⟩ := hL.at_ p i a q rfl
  have e : i = k := by omega
  subst e
  rcases q with _ | ⟨⟨j, b⟩, q⟩
  · exact (asks_last h i a _ hk).mono fun e w' ⟨h1, h2⟩ => ⟨h1, by subst h2; exact ⟨Aq, cq, h⟩, by subst h2; exact Below.refl _ _⟩
  · obtain ⟨m, rfl, hm⟩ := hL.at_ (p ++ [((i : Int), a)]) j b q (by simp)
    exact asks_two h i m a _ b _ hk hm (wf_id (hL.nn ((i : Int), a) (by simp))) (wf_id (hL.nn ((m : Int), b) (by simp))) hQ ht0 ht1 _ rfl
theorem asks_ahead (h : ChainIs w base tbase tb T sv mb mp cb qb N bel steps A c Q turn Aq cq) {p q : List Nd} (hL : Lives N (p ++ q)) (hQ : Q.length < 1000000000) (ht0 : 0 ≤ turn) (ht1 : turn < 1000000000000000000) :
    Calls Try.prog 52 #[.pointer (some ⟨cb, 0, none⟩), .int .i64 (lastI p)] w fun e w' => e = .returned (.tuple #[]) ∧ (∃ Aq' cq', ChainIs w' base tbase tb T sv mb mp cb qb N bel steps A c (askL (pairB T bel) Q turn p q).1 (askL (pairB T bel) Q turn p q).2 Aq' cq') ∧ Below base w w' := by
  rcases List.eq_nil_or_concat p with rfl | ⟨p', x, rfl⟩
  · exact (asks_end h).mono fun e w' ⟨h1, h2⟩ => ⟨h1, by subst h2; exact ⟨Aq, cq, h⟩, by subst h2; exact Below.refl _ _⟩
  · rw [List.concat_eq_append] at *
    have hL' : Lives N (p' ++ x :: q) := by simpa using hL
    obtain ⟨k, e, _⟩ := hL'.place (x := x) (by simp)
    obtain ⟨x1, x2⟩ := x
    simp only at e
    subst e
    have := asks_live h hL' hQ ht0 ht1
    rw [lastI_snoc]
    unfold askL
    rw [List.getLast?_concat]
    exact this
end
end Go.Proofs.Ytpkmcokkapfnmaa
