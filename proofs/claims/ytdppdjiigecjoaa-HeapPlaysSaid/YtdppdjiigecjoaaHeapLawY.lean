/- Layer 3 (heap): HeapPlays. -/
import Derived.Test.YtdppdjiigecjoaaHeapPlay0
import Derived.Test.YtdppdjiigecjoaaHeapLawS
namespace Go.Proofs.Ytdppdjiigecjoaa
open Go.RowKit Go.Maps Go.WideMaps
set_option maxRecDepth 100000
set_option linter.unusedVariables false
set_option linter.unusedSimpArgs false

theorem encTn_len (a : Tn) : (encTn a).length = 3 := rfl
theorem one_tn (l : List Tn) : ∀ u ∈ l.flatMap encTn, u.oneCell' = true := by
  intro u hu
  obtain ⟨e, _, hu⟩ := List.mem_flatMap.1 hu
  simp [encTn] at hu
  rcases hu with rfl | rfl | rfl <;> rfl
theorem len_tn (l : List Tn) : (l.flatMap encTn).length = l.length * 3 := by
  induction l with
  | nil => rfl
  | cons a l ih => rw [List.flatMap_cons, List.length_append, ih, encTn_len, List.length_cons]; omega
theorem own_cap {w : World} {base n c : Nat} {e : TypeId} {size : Nat} {A : Option Addr} {xs : List Value} (h : w.ownsRow base e size (.slice A n c) n xs) (hn : 0 < n) : n ≤ c := by
  rcases h.2 with ⟨h1, _⟩ | ⟨g', cap', cur, h1, hb, hg, hc1, hc2, hc3, ht⟩
  · omega
  · cases h1; exact hc1
theorem tn_pieces {w : World} {base c b o : Nat} {e : TypeId} {N : List Tn} (h : w.ownsRow base e 3 (.slice (some ⟨b, o, none⟩) N.length c) N.length (N.flatMap encTn)) (q : Nat) (hq : q < N.length) :
    (∀ k u, ((N.take q).flatMap encTn)[k]? = some u → w.cell? ⟨b, o + k, none⟩ = some u) ∧ (∀ k u, ((N.drop (q + 1)).flatMap encTn)[k]? = some u → w.cell? ⟨b, o + (q + 1) * 3 + k, none⟩ = some u) := by
  obtain ⟨g, cap, e1, hg1, hg2, hc⟩ := own_open h (by omega)
  injection e1 with e1 _ _
  injection e1 with e1
  injection e1 with e1 e2 _
  subst e1
  subst e2
  constructor
  · intro k u hu
    have : N.flatMap encTn = (N.take q).flatMap encTn ++ (N.drop q).flatMap encTn := by rw [← List.flatMap_append, List.take_append_drop]
    have hk := (List.getElem?_eq_some_iff.1 hu).1
    have := (hc k u (by rw [this, List.getElem?_append_left hk]; exact hu)).1
    rw [Nat.zero_add]; exact this
  · intro k u hu
    have : N.flatMap encTn = (N.take (q + 1)).flatMap encTn ++ (N.drop (q + 1)).flatMap encTn := by rw [← List.flatMap_append, List.take_append_drop]
    have hl : ((N.take (q + 1)).flatMap encTn).length = (q + 1) * 3 := by rw [len_tn, List.length_take, Nat.min_eq_left (by omega)]
    have := (hc ((q + 1) * 3 + k) u (by rw [this, List.getElem?_append_right (by omega), hl, Nat.add_sub_cancel_left]; exact hu)).1
    rw [Nat.zero_add]; exact this
theorem info_tn : (Try.prog.info? 68).map (fun i => (i.zero, i.size, i.bytes)) = some (some (.agg #[.int .i64 0, .int .i64 0, .int .i64 0]), 3, 24) := by kernel_rfl
structure PlayIs (w W : World) (hb : Nat) (H : List (Th Int)) (N : List Tn) (turn : Int) (A1 : Option Addr) (c1 : Nat) (A2 : Option Addr) (c2 j : Nat) : Prop where
  heap : hi.HeapIs W hb hb H turn A1 c1
  row : W.ownsRow hb 68 3 (.slice A2 N.length c2) N.length (N.flatMap encTn)
  pl : Pl H N turn j
  turn : 0 ≤ turn ∧ turn ≤ j
  below : Below w.heap.size w W
  le : w.heap.size ≤ hb ∧ hb ≤ W.heap.size
  len : H.length ≤ j
theorem PlayIs.apart {w W : World} {hb : Nat} {H : List (Th Int)} {N : List Tn} {turn : Int} {A1 : Option Addr} {c1 : Nat} {A2 : Option Addr} {c2 j : Nat} (h : PlayIs w W hb H N turn A1 c1 A2 c2 j) : ∀ g, (Value.slice A2 N.length c2).ownBlock = some g → ¬ hi.heapF hb A1 g := by
  intro g hg hF
  rcases hF with rfl | hF
  · exact row_ne h.row h.heap.blk (by decide) hg
  · exact row_row_ne h.row h.heap.row (by decide) g hg (hi.addr_own hF)
theorem PlayIs.next {w W : World} {hb : Nat} {H : List (Th Int)} {N : List Tn} {turn : Int} {A1 : Option Addr} {c1 : Nat} {A2 : Option Addr} {c2 j : Nat} (h : PlayIs w W hb H N turn A1 c1 A2 c2 j) : PlayIs w W hb H N turn A1 c1 A2 c2 (j + 1) :=
  ⟨h.heap, h.row, pl_next h.pl (by omega), ⟨h.turn.1, by have := h.turn.2; omega⟩, h.below, h.le, by have := h.len; omega⟩

theorem PlayIs.step {w W V : World} {hb : Nat} {H : List (Th Int)} {N : List Tn} {turn : Int} {A1 : Option Addr} {c1 : Nat} {A2 : Option Addr} {c2 j : Nat} (h : PlayIs w W hb H N turn A1 c1 A2 c2 j) (hb' : Below W.heap.size W V) : PlayIs w V hb H N turn A1 c1 A2 c2 j :=
  ⟨h.heap.below hb' (Nat.le_refl _), own_below h.row hb' (Nat.le_refl _), h.pl, h.turn, h.below.trans (hb'.mono h.below.size), ⟨h.le.1, Nat.le_trans h.le.2 hb'.size⟩, h.len⟩

set_option maxHeartbeats 8000000 in
theorem hplays_small (l : List Act3) (A : Option Addr) (c : Nat) (w : World) (hl : Sl w A encAct 3 l) (hlen : l.length ≤ 200) : Calls Try.prog 8 #[.slice A l.length c] w (RetTrue w) := by
  have h200 : ¬ (200 : Int) < (l.length : Int) := by omega
  have HL := Lib.hid hl
  clear hl
  go_enter Try.func8, Try.ntmps8
  go_wp2_with fail
  refine (hawake_any _).mono ?_
  rintro e w1 ⟨rfl, hb1⟩
  have HB1 := Lib.hid hb1
  clear hb1
  go_wp2_with fail
  refine (hi.new_any w1).mono ?_
  rintro e w2 ⟨rfl, h2, hb2⟩
  have HS : Hid (PlayIs w w2 w1.heap.size [] [] 0 none 0 none 0 0) := Lib.hid ⟨h2, by simpa using own_nil _ _ _ _, pl_nil _ _, ⟨by omega, by omega⟩, HB1.out.trans (hb2.mono HB1.out.size), ⟨HB1.out.size, hb2.size⟩, by simp⟩
  clear h2 hb2
  generalize w1.heap.size = hb at *
  go_wp2_with fail
  go_loopg [4, 5] l.length (fun n v i W => ∃ (j : Nat) (H : List (Th Int)) (N : List Tn) (turn : Int) (A1 : Option Addr) (c1 : Nat) (A2 : Option Addr) (c2 : Nat), j + n = l.length ∧ i = .int .i64 (j : Int) ∧ v = .slice A2 N.length c2 ∧ PlayIs w W hb H N turn A1 c1 A2 c2 j)
  case atStart => exact ⟨0, [], [], 0, none, 0, none, 0, by omega, rfl, rfl, HS.out⟩
  case round =>
    obtain ⟨j, H, N, turn, A1, c1, A2, c2, hj, rfl, rfl, hW⟩ := hrel
    rename World => W
    have HW := Lib.hid hW
    clear hW HS
    by_cases hlt : j < l.length
    · have hlt' : (j : Int) < (l.length : Int) := by omega
      have j0 : (0 : Int) ≤ (j : Int) := by omega
      obtain ⟨ba, o, rfl, hcc⟩ := HL.out.at j hlt
      obtain ⟨xk, xr, xp, hx⟩ : ∃ xk xr xp, l[j] = (xk, xr, xp) := ⟨_, _, _, rfl⟩
      rw [hx] at hcc
      have HSC : Hid (∀ V, Below w.heap.size w V → V.cell? ⟨ba, o + j * 3, none⟩ = some (.int .i64 xk) ∧ V.cell? ⟨ba, o + j * 3 + 1, none⟩ = some (.int .i64 xr) ∧ V.cell? ⟨ba, o + j * 3 + 2, none⟩ = some (.int .i64 xp)) := Lib.hid (fun V hV => ⟨below_cell hV (Nat.le_refl _) (hcc 0 _ rfl), below_cell hV (Nat.le_refl _) (hcc 1 _ rfl), below_cell hV (Nat.le_refl _) (hcc 2 _ rfl)⟩)
      obtain ⟨t0, t1, t2⟩ := HSC.out W HW.out.below
      have HNL := Lib.hid (pl_len HW.out.pl)
      have HLE := Lib.hid (hi.len_h HW.out.heap)
      clear hcc hx
      by_cases k0 : xk = 0
      · subst k0
        have hHl : H.length < 1000000000 := by have := HW.out.len; omega
        have hNl : N.length < 1000000 := by rw [HNL.out]; have := HW.out.len; omega
        have HD := Lib.hid HW.out.heap.drew
        have HBD := Lib.hid HW.out.below.drew
        have hsd : hb ≤ W.drew.heap.size := HW.out.le.2
        have HRD := Lib.hid (own_drew HW.out.row)
        have HAP := Lib.hid HW.out.apart
        have HT := Lib.hid HW.out.turn
        clear HLE t1 t2
        go_wp2_with fail
        refine wp_region_D (Ds := []) (S := fun V => V.cell? ⟨ba, o + j * 3, none⟩ = some (.int .i64 0) ∧ V.cell? ⟨ba, o + j * 3 + 1, none⟩ = some (.int .i64 xr) ∧ V.cell? ⟨ba, o + j * 3 + 2, none⟩ = some (.int .i64 xp)) (by kernel_rfl) (by exact HSC.out _ HBD.out) (fun hHeld => ?_)
        generalize W.drew = W0 at *
        refine wpAnyD_takeP (i := 0) (oi := { dst := some 34, op := Op.move (Operand.tmp 3), type := 61, pos := "law.go:45", after := #[], guard := none }) (d := 34) (v := ?_) rfl rfl (by kernel_rfl) (by kernel_rfl) (by kernel_rfl) (fun _ _ _ h => h) (Or.inl ⟨by rfl, ?_⟩) ?_
        rotate_left
        · (intro w' _; go_simp; (try with_reducible rfl))
        simp only [List.setIfInBounds_toArray, List.set_cons_zero, List.set_cons_succ]
        refine wpAnyD_takeP (i := 1) (oi := { dst := some 35, op := Op.move (Operand.tmp 0), type := 60, pos := "law.go:45", after := #[], guard := none }) (d := 35) (v := ?_) rfl rfl (by kernel_rfl) (by kernel_rfl) (by kernel_rfl) (fun _ _ _ h => h) (Or.inl ⟨by rfl, ?_⟩) ?_
        rotate_left
        · (intro w' _; go_simp; (try with_reducible rfl))
        simp only [List.setIfInBounds_toArray, List.set_cons_zero, List.set_cons_succ]
        refine wpAnyD_takeP (i := 2) (oi := { dst := some 36, op := Op.move (Operand.tmp 5), type := 3, pos := "law.go:45", after := #[], guard := none }) (d := 36) (v := ?_) rfl rfl (by kernel_rfl) (by kernel_rfl) (by kernel_rfl) (fun _ _ _ h => h) (Or.inl ⟨by rfl, ?_⟩) ?_
        rotate_left
        · (intro w' _; go_simp; (try with_reducible rfl))
        simp only [List.setIfInBounds_toArray, List.set_cons_zero, List.set_cons_succ]
        refine wpAnyD_takeP (i := 3) (oi := { dst := some 37, op := Op.indexAddr 60 (Operand.tmp 35) (Operand.tmp 36), type := 0, pos := "law.go:45", after := #[{ on := 1, ground := Ground.data }, { on := 2, ground := Ground.data }], guard := none }) (d := 37) (v := ?_) rfl rfl (by kernel_rfl) (by kernel_rfl) (by kernel_rfl) (fun _ _ _ h => h) (Or.inl ⟨by rfl, ?_⟩) ?_
        rotate_left
        · (intro w' _; go_simp; (try with_reducible rfl))
        simp only [List.setIfInBounds_toArray, List.set_cons_zero, List.set_cons_succ]
        refine wpAnyD_takeP (i := 4) (oi := { dst := some 38, op := Op.fieldAddr 65 (Operand.tmp 37) 1, type := 0, pos := "law.go:45", after := #[{ on := 3, ground := Ground.data }], guard := none }) (d := 38) (v := ?_) rfl rfl (by kernel_rfl) (by kernel_rfl) (by kernel_rfl) (fun _ _ _ h => h) (Or.inl ⟨by rfl, ?_⟩) ?_
        rotate_left
        · (intro w' _; go_simp; (try with_reducible rfl))
        simp only [List.setIfInBounds_toArray, List.set_cons_zero, List.set_cons_succ]
        refine wpAnyD_takeP (i := 6) (oi := { dst := some 40, op := Op.move (Operand.tmp 0), type := 60, pos := "law.go:45", after := #[], guard := none }) (d := 40) (v := ?_) rfl rfl (by kernel_rfl) (by kernel_rfl) (by kernel_rfl) (fun _ _ _ h => h) (Or.inl ⟨by rfl, ?_⟩) ?_
        rotate_left
        · (intro w' _; go_simp; (try with_reducible rfl))
        simp only [List.setIfInBounds_toArray, List.set_cons_zero, List.set_cons_succ]
        refine wpAnyD_takeP (i := 7) (oi := { dst := some 41, op := Op.move (Operand.tmp 5), type := 3, pos := "law.go:45", after := #[], guard := none }) (d := 41) (v := ?_) rfl rfl (by kernel_rfl) (by kernel_rfl) (by kernel_rfl) (fun _ _ _ h => h) (Or.inl ⟨by rfl, ?_⟩) ?_
        rotate_left
        · (intro w' _; go_simp; (try with_reducible rfl))
        simp only [List.setIfInBounds_toArray, List.set_cons_zero, List.set_cons_succ]
        refine wpAnyD_takeP (i := 8) (oi := { dst := some 42, op := Op.indexAddr 60 (Operand.tmp 40) (Operand.tmp 41), type := 0, pos := "law.go:45", after := #[{ on := 6, ground := Ground.data }, { on := 7, ground := Ground.data }], guard := none }) (d := 42) (v := ?_) rfl rfl (by kernel_rfl) (by kernel_rfl) (by kernel_rfl) (fun _ _ _ h => h) (Or.inl ⟨by rfl, ?_⟩) ?_
        rotate_left
        · (intro w' _; go_simp; (try with_reducible rfl))
        simp only [List.setIfInBounds_toArray, List.set_cons_zero, List.set_cons_succ]
        refine wpAnyD_takeP (i := 9) (oi := { dst := some 43, op := Op.fieldAddr 65 (Operand.tmp 42) 2, type := 0, pos := "law.go:45", after := #[{ on := 8, ground := Ground.data }], guard := none }) (d := 43) (v := ?_) rfl rfl (by kernel_rfl) (by kernel_rfl) (by kernel_rfl) (fun _ _ _ h => h) (Or.inl ⟨by rfl, ?_⟩) ?_
        rotate_left
        · (intro w' _; go_simp; (try with_reducible rfl))
        simp only [List.setIfInBounds_toArray, List.set_cons_zero, List.set_cons_succ]
        refine wpAnyD_takeP (i := 11) (oi := { dst := some 45, op := Op.move (Operand.tmp 5), type := 3, pos := "law.go:45", after := #[], guard := none }) (d := 45) (v := ?_) rfl rfl (by kernel_rfl) (by kernel_rfl) (by kernel_rfl) (fun _ _ _ h => h) (Or.inl ⟨by rfl, ?_⟩) ?_
        rotate_left
        · (intro w' _; go_simp; (try with_reducible rfl))
        simp only [List.setIfInBounds_toArray, List.set_cons_zero, List.set_cons_succ]
        refine wpAnyD_takeD (i := 5) (oi := { dst := some 39, op := Op.load 3 (Operand.tmp 38), type := 3, pos := "law.go:45", after := #[{ on := 4, ground := Ground.data }], guard := none }) (d := 39) (v := ?_) rfl rfl (by kernel_rfl) (by kernel_rfl) (by kernel_rfl) (by kernel_rfl) (fun _ _ _ h => h) (Or.inl ⟨by rfl, ?_⟩) hHeld ?_
        rotate_left
        · (intro w' hSw; (try dsimp only at hSw); go_simp; (try with_reducible rfl))
        simp only [List.setIfInBounds_toArray, List.set_cons_zero, List.set_cons_succ]
        refine wpAnyD_takeD (i := 10) (oi := { dst := some 44, op := Op.load 3 (Operand.tmp 43), type := 3, pos := "law.go:45", after := #[{ on := 9, ground := Ground.data }], guard := none }) (d := 44) (v := ?_) rfl rfl (by kernel_rfl) (by kernel_rfl) (by kernel_rfl) (by kernel_rfl) (fun _ _ _ h => h) (Or.inl ⟨by rfl, ?_⟩) hHeld ?_
        rotate_left
        · (intro w' hSw; (try dsimp only at hSw); go_simp; (try with_reducible rfl))
        simp only [List.setIfInBounds_toArray, List.set_cons_zero, List.set_cons_succ]
        refine wpAnyD_one (i := 12) (o := { dst := some 46, op := Op.call { callee := Callee.value (Operand.func 35), args := #[Operand.tmp 34, Operand.tmp 39, Operand.tmp 44, Operand.tmp 45], argTypes := #[61, 3, 3, 3] }, type := 0, pos := "law.go:45", after := #[{ on := 0, ground := Ground.data }, { on := 5, ground := Ground.data }, { on := 10, ground := Ground.data }, { on := 11, ground := Ground.data }], guard := none }) (by kernel_rfl) rfl (by rfl) (fun K hK => ?_)
        go_simp; refine (hi.push_any HD.out xr xp j hHl HT.out.1 (by have := HT.out.2; omega) hsd).mono ?_; rintro e w' ⟨rfl, ⟨A8, c8, h8, _⟩, hk8⟩; have HB8 := Lib.hid (HBD.out.trans (hk8.below HBD.out.size (fun g hg => Nat.le_trans HW.out.le.1 (HD.out.base g hg)))); have HS8 := Lib.hid (Nat.le_trans hsd hk8.size); have HR8 := Lib.hid (own_keep HRD.out hk8 HAP.out); have h := HSC.out _ HB8.out; have H8 := Lib.hid h8; clear h8 hk8; go_simp
        refine hK.out _ _ h (fun hHeld => ?_)
        clear hK K
        try simp only [Act.put, List.setIfInBounds_toArray, List.set_cons_zero, List.set_cons_succ]
        refine wpAnyD_done (by kernel_rfl) ?_ _
        have HBX := Lib.hid HB8.out.drew
        have HRX := Lib.hid (own_drew HR8.out)
        have HHX := Lib.hid H8.out.drew
        have HSX : Hid (hb ≤ w'.drew.heap.size) := Lib.hid HS8.out
        clear hHeld
        go_wp2_with fail
        refine wp_region_D (Ds := []) (S := fun V => V.cell? ⟨ba, o + j * 3, none⟩ = some (.int .i64 0) ∧ V.cell? ⟨ba, o + j * 3 + 1, none⟩ = some (.int .i64 xr) ∧ V.cell? ⟨ba, o + j * 3 + 2, none⟩ = some (.int .i64 xp)) (by kernel_rfl) (by exact HSC.out _ HBX.out) (fun hHeld => ?_)
        generalize w'.drew = W1 at *
        refine wpAnyD_takeP (i := 0) (oi := { dst := some 47, op := Op.move (Operand.tmp 4), type := 63, pos := "law.go:46", after := #[], guard := none }) (d := 47) (v := ?_) rfl rfl (by kernel_rfl) (by kernel_rfl) (by kernel_rfl) (fun _ _ _ h => h) (Or.inl ⟨by rfl, ?_⟩) ?_
        rotate_left
        · (intro w' _; go_simp; (try with_reducible rfl))
        simp only [List.setIfInBounds_toArray, List.set_cons_zero, List.set_cons_succ]
        refine wpAnyD_takeP (i := 1) (oi := { dst := some 48, op := Op.move (Operand.tmp 0), type := 60, pos := "law.go:46", after := #[], guard := none }) (d := 48) (v := ?_) rfl rfl (by kernel_rfl) (by kernel_rfl) (by kernel_rfl) (fun _ _ _ h => h) (Or.inl ⟨by rfl, ?_⟩) ?_
        rotate_left
        · (intro w' _; go_simp; (try with_reducible rfl))
        simp only [List.setIfInBounds_toArray, List.set_cons_zero, List.set_cons_succ]
        refine wpAnyD_takeP (i := 2) (oi := { dst := some 49, op := Op.move (Operand.tmp 5), type := 3, pos := "law.go:46", after := #[], guard := none }) (d := 49) (v := ?_) rfl rfl (by kernel_rfl) (by kernel_rfl) (by kernel_rfl) (fun _ _ _ h => h) (Or.inl ⟨by rfl, ?_⟩) ?_
        rotate_left
        · (intro w' _; go_simp; (try with_reducible rfl))
        simp only [List.setIfInBounds_toArray, List.set_cons_zero, List.set_cons_succ]
        refine wpAnyD_takeP (i := 3) (oi := { dst := some 50, op := Op.indexAddr 60 (Operand.tmp 48) (Operand.tmp 49), type := 0, pos := "law.go:46", after := #[{ on := 1, ground := Ground.data }, { on := 2, ground := Ground.data }], guard := none }) (d := 50) (v := ?_) rfl rfl (by kernel_rfl) (by kernel_rfl) (by kernel_rfl) (fun _ _ _ h => h) (Or.inl ⟨by rfl, ?_⟩) ?_
        rotate_left
        · (intro w' _; go_simp; (try with_reducible rfl))
        simp only [List.setIfInBounds_toArray, List.set_cons_zero, List.set_cons_succ]
        refine wpAnyD_takeP (i := 4) (oi := { dst := some 51, op := Op.fieldAddr 65 (Operand.tmp 50) 1, type := 0, pos := "law.go:46", after := #[{ on := 3, ground := Ground.data }], guard := none }) (d := 51) (v := ?_) rfl rfl (by kernel_rfl) (by kernel_rfl) (by kernel_rfl) (fun _ _ _ h => h) (Or.inl ⟨by rfl, ?_⟩) ?_
        rotate_left
        · (intro w' _; go_simp; (try with_reducible rfl))
        simp only [List.setIfInBounds_toArray, List.set_cons_zero, List.set_cons_succ]
        refine wpAnyD_takeP (i := 6) (oi := { dst := some 53, op := Op.move (Operand.tmp 0), type := 60, pos := "law.go:46", after := #[], guard := none }) (d := 53) (v := ?_) rfl rfl (by kernel_rfl) (by kernel_rfl) (by kernel_rfl) (fun _ _ _ h => h) (Or.inl ⟨by rfl, ?_⟩) ?_
        rotate_left
        · (intro w' _; go_simp; (try with_reducible rfl))
        simp only [List.setIfInBounds_toArray, List.set_cons_zero, List.set_cons_succ]
        refine wpAnyD_takeP (i := 7) (oi := { dst := some 54, op := Op.move (Operand.tmp 5), type := 3, pos := "law.go:46", after := #[], guard := none }) (d := 54) (v := ?_) rfl rfl (by kernel_rfl) (by kernel_rfl) (by kernel_rfl) (fun _ _ _ h => h) (Or.inl ⟨by rfl, ?_⟩) ?_
        rotate_left
        · (intro w' _; go_simp; (try with_reducible rfl))
        simp only [List.setIfInBounds_toArray, List.set_cons_zero, List.set_cons_succ]
        refine wpAnyD_takeP (i := 8) (oi := { dst := some 55, op := Op.indexAddr 60 (Operand.tmp 53) (Operand.tmp 54), type := 0, pos := "law.go:46", after := #[{ on := 6, ground := Ground.data }, { on := 7, ground := Ground.data }], guard := none }) (d := 55) (v := ?_) rfl rfl (by kernel_rfl) (by kernel_rfl) (by kernel_rfl) (fun _ _ _ h => h) (Or.inl ⟨by rfl, ?_⟩) ?_
        rotate_left
        · (intro w' _; go_simp; (try with_reducible rfl))
        simp only [List.setIfInBounds_toArray, List.set_cons_zero, List.set_cons_succ]
        refine wpAnyD_takeP (i := 9) (oi := { dst := some 56, op := Op.fieldAddr 65 (Operand.tmp 55) 2, type := 0, pos := "law.go:46", after := #[{ on := 8, ground := Ground.data }], guard := none }) (d := 56) (v := ?_) rfl rfl (by kernel_rfl) (by kernel_rfl) (by kernel_rfl) (fun _ _ _ h => h) (Or.inl ⟨by rfl, ?_⟩) ?_
        rotate_left
        · (intro w' _; go_simp; (try with_reducible rfl))
        simp only [List.setIfInBounds_toArray, List.set_cons_zero, List.set_cons_succ]
        refine wpAnyD_takeP (i := 11) (oi := { dst := some 58, op := Op.move (Operand.tmp 5), type := 3, pos := "law.go:46", after := #[], guard := none }) (d := 58) (v := ?_) rfl rfl (by kernel_rfl) (by kernel_rfl) (by kernel_rfl) (fun _ _ _ h => h) (Or.inl ⟨by rfl, ?_⟩) ?_
        rotate_left
        · (intro w' _; go_simp; (try with_reducible rfl))
        simp only [List.setIfInBounds_toArray, List.set_cons_zero, List.set_cons_succ]
        refine wpAnyD_takeD (i := 5) (oi := { dst := some 52, op := Op.load 3 (Operand.tmp 51), type := 3, pos := "law.go:46", after := #[{ on := 4, ground := Ground.data }], guard := none }) (d := 52) (v := ?_) rfl rfl (by kernel_rfl) (by kernel_rfl) (by kernel_rfl) (by kernel_rfl) (fun _ _ _ h => h) (Or.inl ⟨by rfl, ?_⟩) hHeld ?_
        rotate_left
        · (intro w' hSw; (try dsimp only at hSw); go_simp; (try with_reducible rfl))
        simp only [List.setIfInBounds_toArray, List.set_cons_zero, List.set_cons_succ]
        refine wpAnyD_takeD (i := 10) (oi := { dst := some 57, op := Op.load 3 (Operand.tmp 56), type := 3, pos := "law.go:46", after := #[{ on := 9, ground := Ground.data }], guard := none }) (d := 57) (v := ?_) rfl rfl (by kernel_rfl) (by kernel_rfl) (by kernel_rfl) (by kernel_rfl) (fun _ _ _ h => h) (Or.inl ⟨by rfl, ?_⟩) hHeld ?_
        rotate_left
        · (intro w' hSw; (try dsimp only at hSw); go_simp; (try with_reducible rfl))
        simp only [List.setIfInBounds_toArray, List.set_cons_zero, List.set_cons_succ]
        refine wpAnyD_takeP (i := 12) (oi := { dst := some 59, op := Op.build 68 #[(0, Operand.tmp 52), (1, Operand.tmp 57), (2, Operand.tmp 58)], type := 68, pos := "law.go:46", after := #[{ on := 5, ground := Ground.data }, { on := 10, ground := Ground.data }, { on := 11, ground := Ground.data }], guard := none }) (d := 59) (v := ?_) rfl rfl (by kernel_rfl) (by kernel_rfl) (by kernel_rfl) (fun _ _ _ h => h) (Or.inl ⟨by rfl, ?_⟩) ?_
        rotate_left
        · (intro w' _; go_simp; (try with_reducible rfl))
        simp only [List.setIfInBounds_toArray, List.set_cons_zero, List.set_cons_succ]
        refine wpAnyD_one (i := 13) (o := { dst := some 60, op := Op.buildSlice 63 1 #[(0, Operand.tmp 59)], type := 63, pos := "law.go:46", after := #[{ on := 12, ground := Ground.data }], guard := none }) (by kernel_rfl) rfl (by rfl) (fun K hK => ?_)
        go_simp; have h := HSC.out _ (HBX.out.trans (((Below.refl W1.heap.size W1).alloc (Nat.le_refl _) (.cells #[.int .i64 xr, .int .i64 xp, .int .i64 j] 68)).mono HBX.out.size))
        refine hK.out _ _ h (fun hHeld => ?_)
        clear hK K
        try simp only [Act.put, List.setIfInBounds_toArray, List.set_cons_zero, List.set_cons_succ]
        refine wpAnyD_one (i := 14) (o := { dst := some 61, op := Op.call { callee := Callee.builtin Builtin.append, args := #[Operand.tmp 47, Operand.tmp 60], argTypes := #[63, 63] }, type := 63, pos := "law.go:46", after := #[{ on := 0, ground := Ground.data }, { on := 13, ground := Ground.data }], guard := none }) (by kernel_rfl) rfl (by rfl) (fun K hK => ?_)
        refine wp_app_one hb 63 68 (.agg #[.int .i64 0, .int .i64 0, .int .i64 0]) 3 24 [_, _, _] 1 _ _ rfl Try.underlying63 info_tn rfl (by decide) _ _ _ rfl _ rfl rfl rfl (by intro u hu; simp at hu; rcases hu with rfl | rfl | rfl <;> rfl) HRX.out (by omega) (by omega) HSX.out ?_; intro v' w9 hown hg9 _; obtain ⟨A9, c9, rfl⟩ := own_slice hown; have hk9 : Keep (fun g => (Value.slice A2 N.length c2).ownBlock = some g) W1 w9 := Keep.of_grown hg9 (fun g hg => hg); have HB9 := Lib.hid (HBX.out.trans (hk9.below HBX.out.size (fun g hg => Nat.le_trans HW.out.le.1 (own_base HRX.out g hg)))); have h := HSC.out _ HB9.out
        refine hK.out _ _ h (fun hHeld => ?_)
        clear hK K
        try simp only [Act.put, List.setIfInBounds_toArray, List.set_cons_zero, List.set_cons_succ]
        refine wpAnyD_takeP (i := 15) (oi := { dst := some 4, op := Op.assign (Operand.tmp 61), type := 63, pos := "law.go:46", after := #[{ on := 14, ground := Ground.data }, { on := 14, ground := Ground.chain }, { on := 0, ground := Ground.phase }, { on := 1, ground := Ground.phase }, { on := 2, ground := Ground.phase }, { on := 3, ground := Ground.phase }, { on := 4, ground := Ground.phase }, { on := 5, ground := Ground.phase }, { on := 6, ground := Ground.phase }, { on := 7, ground := Ground.phase }, { on := 8, ground := Ground.phase }, { on := 9, ground := Ground.phase }, { on := 10, ground := Ground.phase }, { on := 11, ground := Ground.phase }, { on := 12, ground := Ground.phase }, { on := 13, ground := Ground.phase }, { on := 14, ground := Ground.phase }], guard := none }) (d := 4) (v := ?_) rfl rfl (by kernel_rfl) (by kernel_rfl) (by kernel_rfl) (fun _ _ _ h => h) (Or.inl ⟨by rfl, ?_⟩) ?_
        rotate_left
        · (intro w' _; go_simp; (try with_reducible rfl))
        simp only [List.setIfInBounds_toArray, List.set_cons_zero, List.set_cons_succ]
        refine wpAnyD_done (by kernel_rfl) ?_ _
        have HN9 : Hid (PlayIs w w9 hb (pushT H ⟨xr, xp, turn, j⟩) (N ++ [⟨xr, xp, j, ()⟩]) (turn + 1) A8 c8 A9 c9 (j + 1)) := Lib.hid (by
          refine ⟨HHX.out.keep hk9 (fun g hF hg => ?_), ?_, ?_, ⟨by have := HT.out.1; omega, by have := HT.out.2; omega⟩, HB9.out, ⟨HW.out.le.1, Nat.le_trans HSX.out hk9.size⟩, by rw [push_len]; have := HW.out.len; omega⟩
          · rcases hF with rfl | hF
            · exact row_ne HRX.out HHX.out.blk (by decide) hg
            · exact row_row_ne HRX.out HHX.out.row (by decide) g hg (hi.addr_own hF)
          · rw [List.length_append, List.flatMap_append]; simpa [encTn] using hown
          · have := pl_push HW.out.pl xr xp
            simpa using this)
        have HLE := Lib.hid (hi.len_h HN9.out.heap)
        rw [push_len, ← HNL.out] at HLE
        clear hHeld hown hg9 hk9
        go_wp2_with fail
        refine HLE.out.mono ?_
        rintro e W6 ⟨rfl, hW6⟩
        subst hW6
        go_wp2_with fail
        go_roundg (gk - 1)
        case measure => omega
        case rel => exact ⟨j + 1, _, _, _, A8, c8, A9, c9, by omega, by simp, by rw [List.length_append]; rfl, HN9.out⟩
      · by_cases k1 : xk = 1
        · subst k1
          rcases Nat.eq_zero_or_pos H.length with hz | hz
          · have hH : H = [] := List.eq_nil_of_length_eq_zero hz
            have hN : N = [] := List.eq_nil_of_length_eq_zero (by rw [HNL.out]; exact hz)
            subst hH
            subst hN
            clear HLE HNL
            go_wp2_with fail
            refine (hi.pop_none HW.out.heap).mono ?_
            rintro e W4 ⟨rfl, hW4⟩
            subst hW4
            go_wp2_with fail
            go_roundg (gk - 1)
            case measure => omega
            case rel => exact ⟨j + 1, [], [], turn, A1, c1, A2, c2, by omega, by simp, rfl, HW.out.next⟩
          · have hNl : 0 < N.length := by rw [HNL.out]; exact hz
            have hN0 : ¬ (N.length : Int) = 0 := by omega
            have hkl : lesT N < N.length := lesK_lt N hNl N.length
            have HTOP : Hid (N[lesT N]'hkl = toTn H[0]) := Lib.hid (pl_top HW.out.pl hz hNl)
            have HPK := Lib.hid (hi.pop_h HW.out.heap hz (by have := HW.out.len; omega))
            have hsm : N.length < 1000000 := by rw [HNL.out]; have := HW.out.len; omega
            have HKL := Lib.hid hkl
            generalize H[0] = x at *
            obtain ⟨yr, yp, yt, yx⟩ := x
            clear HLE
            go_wp2_with fail
            refine HPK.out.mono ?_
            rintro e W4 ⟨rfl, h4, hk4⟩
            have HR4 := Lib.hid (own_keep HW.out.row hk4 HW.out.apart)
            have H4 := Lib.hid h4
            have HB4 := Lib.hid (HW.out.below.trans (hk4.below HW.out.below.size (fun g hg => Nat.le_trans HW.out.le.1 (HW.out.heap.base g hg))))
            have HS4 := Lib.hid (Nat.le_trans HW.out.le.2 hk4.size)
            clear h4 hk4 HPK
            go_wp2_with fail
            refine (least_any N A2 c2 W4 (own_sl encTn_len HR4.out (by decide)) hsm).mono ?_
            rintro e W5 ⟨rfl, hb5⟩
            have HR5 := Lib.hid (own_below HR4.out hb5 (Nat.le_refl _))
            have H5 := Lib.hid (H4.out.below hb5 (Nat.le_refl _))
            have HB5 := Lib.hid (HB4.out.trans (hb5.mono HB4.out.size))
            have HS5 := Lib.hid (Nat.le_trans HS4.out hb5.size)
            obtain ⟨b2, o2, hA2, hcc2⟩ := (own_sl encTn_len HR5.out (by decide)).at (lesT N) HKL.out
            rw [HTOP.out] at hcc2
            subst hA2
            have r0 := hcc2 0 _ rfl
            have r1 := hcc2 1 _ rfl
            have r2 := hcc2 2 _ rfl
            obtain ⟨u0, u1, u2⟩ := HSC.out W5 HB5.out
            obtain ⟨q, hq⟩ : ∃ q, lesT N = q := ⟨_, rfl⟩
            rw [hq] at r0 r1 r2 ⊢
            have q0 : (0 : Int) ≤ (q : Int) := by omega
            have q1 : (q : Int) < (N.length : Int) := by have := HKL.out; omega
            simp only [toTn, Nat.add_zero] at r0 r1 r2
            have HQ := Lib.hid hq
            clear hb5 hcc2 hq HTOP t0 t1 t2
            have HPN := Lib.hid (pl_pop HW.out.pl hz hNl)
            rw [HQ.out] at HPN
            obtain ⟨i, hif, hz0, hz1, hz2⟩ := info_parts info_tn
            have HI := Lib.hid hif
            have HZ := Lib.hid (And.intro hz0 (And.intro hz1 hz2))
            obtain ⟨HA1, HA2⟩ := tn_pieces HR5.out q (by omega)
            have hq2 : (q : Int) ≤ (c2 : Int) ∧ (N.length : Int) ≤ (c2 : Int) := by have := own_cap HR5.out (by omega); omega
            obtain ⟨hq2, hq3⟩ := hq2
            have w1 : IntKind.i64.wrap ((q : Int) + 1) = (q : Int) + 1 := IntWalk.i64_in _ (by omega)
            have n1 : (N.length : Int).toNat = N.length := by simp
            have n2 : ((q : Int) + 1).toNat = q + 1 := by omega
            have n3 : ((N.length : Int) - ((q : Int) + 1)).toNat = N.length - (q + 1) := by omega
            have hq4 : (q : Int) + 1 ≤ (N.length : Int) := by omega
            have hq5 : (0 : Int) ≤ (q : Int) + 1 := by omega
            obtain ⟨o3, ho3, ho4, HC3⟩ : ∃ o3, (c2 = q + 1 → o3 = o2) ∧ (¬ c2 = q + 1 → o3 = o2 + (q + 1) * 3) ∧ Hid (∀ k u, ((N.drop (q + 1)).flatMap encTn)[k]? = some u → W5.cell? ⟨b2, o3 + k, none⟩ = some u) := by
              by_cases h0 : c2 = q + 1
              · refine ⟨o2, fun _ => rfl, fun h => absurd h0 h, Lib.hid ?_⟩
                have : N.drop (q + 1) = [] := List.drop_eq_nil_of_le (by omega)
                rw [this]; intro k u hu; simp at hu
              · exact ⟨_, fun h => absurd h h0, fun _ => rfl, Lib.hid HA2⟩
            have HB1 := Lib.hid (HA1)
            clear HA1 HA2
            have HLK : Hid (((N.take q).flatMap encTn).length = q * 3) := Lib.hid (by rw [len_tn, List.length_take, Nat.min_eq_left (by omega)])
            have HLD : Hid (((N.drop (q + 1)).flatMap encTn).length = (N.length - (q + 1)) * 3) := Lib.hid (by rw [len_tn, List.length_drop])
            go_wp2_with (at_builtin; refine wpList_append_own_at _ rfl _ _ 63 rfl hb 68 i (.agg #[.int .i64 0, .int .i64 0, .int .i64 0]) 3 24 Try.underlying63 HI.out HZ.out.1 HZ.out.2.1 HZ.out.2.2 rfl (by decide) _ 0 [] rfl (own_nil _ _ _ _) ⟨b2, o2, none⟩ q c2 _ rfl HLK.out (by intro k u hu; rw [add_plain]; exact HB1.out k u hu) (one_tn _) (by unfold maxLen; omega) (by omega) HS5.out ?_)
            intro v6 w6 r1 r2 _ r4
            have hk6 : Keep (fun _ => False) W5 w6 := Keep.of_grown r2 (fun g hg => by simp [Value.ownBlock] at hg)
            have hb6 : Below W5.heap.size W5 w6 := hk6.below (Nat.le_refl _) (fun x hx => hx.elim)
            obtain ⟨A3, c3, rfl⟩ := own_slice r1
            have HR6 := Lib.hid r1
            have H6 := Lib.hid (H5.out.below hb6 (Nat.le_refl _))
            have HB6 := Lib.hid (HB5.out.trans (hb6.mono HB5.out.size))
            have HS6 := Lib.hid (Nat.le_trans HS5.out hb6.size)
            have HC6 : Hid (∀ k u, ((N.drop (q + 1)).flatMap encTn)[k]? = some u → w6.cell? ⟨b2, o3 + k, none⟩ = some u) := Lib.hid (fun k u hu => below_cell hb6 (Nat.le_refl _) (HC3.out k u hu))
            clear r1 r2 r4 hk6 hb6
            have hsp : (if c2 = q + 1 then some (⟨b2, o2, none⟩ : Addr) else some ⟨b2, o2 + (q + 1) * 3, none⟩) = some ⟨b2, o3, none⟩ := by split <;> (rename_i h0; first | rw [ho3 h0] | rw [ho4 h0])
            go_wp2_with (at_builtin; refine wpList_append_own_at _ rfl _ _ 63 rfl hb 68 i (.agg #[.int .i64 0, .int .i64 0, .int .i64 0]) 3 24 Try.underlying63 HI.out HZ.out.1 HZ.out.2.1 HZ.out.2.2 rfl (by decide) _ q _ rfl HR6.out ⟨b2, o3, none⟩ (N.length - (q + 1)) (c2 - (q + 1)) _ ?_ HLD.out (by intro k u hu; rw [add_plain]; exact HC6.out k u hu) (one_tn _) (by unfold maxLen; omega) (by omega) HS6.out ?_; (focus (go_simp; try rw [hsp])))
            intro v9 w9 hown hg9 _ _
            have e9 : q + (N.length - (q + 1)) = (N.take q ++ N.drop (q + 1)).length := by rw [List.length_append, List.length_take, List.length_drop, Nat.min_eq_left (by omega)]
            have e8 : (N.take q ++ N.drop (q + 1)).length = min q N.length + (N.length - (q + 1)) := by rw [List.length_append, List.length_take, List.length_drop]
            have E8 := Lib.hid e8
            clear e8
            rw [e9, ← List.flatMap_append] at hown
            obtain ⟨A9, c9, rfl⟩ := own_slice hown
            have hk9 : Keep (fun g => (Value.slice A3 q c3).ownBlock = some g) w6 w9 := Keep.of_grown hg9 (fun g hg => hg)
            have HB9 := Lib.hid (HB6.out.trans (hk9.below HB6.out.size (fun g hg => Nat.le_trans HW.out.le.1 (own_base HR6.out g hg))))
            have HN9 : Hid (PlayIs w w9 hb (popT H) (N.take q ++ N.drop (q + 1)) turn A1 c1 A9 c9 (j + 1)) := Lib.hid (by
              refine ⟨H6.out.keep hk9 (fun g hF hg => ?_), hown, pl_next HPN.out (by omega), ⟨by have := HW.out.turn.1; omega, by have := HW.out.turn.2; omega⟩, HB9.out, ⟨HW.out.le.1, Nat.le_trans HS6.out hk9.size⟩, by rw [pop_len]; have := HW.out.len; omega⟩
              rcases hF with rfl | hF
              · exact row_ne HR6.out H6.out.blk (by decide) hg
              · exact row_row_ne HR6.out H6.out.row (by decide) g hg (hi.addr_own hF))
            have HLE := Lib.hid (hi.len_h HN9.out.heap)
            have HEL : Hid ((popT H).length = (N.take q ++ N.drop (q + 1)).length) := Lib.hid (pl_len HPN.out).symm
            rw [HEL.out] at HLE
            clear hown hg9 hk9 e9
            go_wp2_with fail
            refine HLE.out.mono ?_
            rintro e W6 ⟨rfl, hW6⟩
            subst hW6
            go_wp2_with fail
            go_roundg (gk - 1)
            case measure => omega
            case rel => exact ⟨j + 1, _, _, _, A1, c1, A9, c9, by omega, by simp, by rw [← E8.out], HN9.out⟩
        · by_cases k2 : xk = 2
          · subst k2
            rcases Nat.eq_zero_or_pos H.length with hz | hz
            · have hH : H = [] := List.eq_nil_of_length_eq_zero hz
              have hN : N = [] := List.eq_nil_of_length_eq_zero (by rw [HNL.out]; exact hz)
              subst hH
              subst hN
              clear HLE HNL
              go_wp2_with fail
              refine (hi.peek_none HW.out.heap).mono ?_
              rintro e W4 ⟨rfl, hW4⟩
              subst hW4
              go_wp2_with fail
              go_roundg (gk - 1)
              case measure => omega
              case rel => exact ⟨j + 1, [], [], turn, A1, c1, A2, c2, by omega, by simp, rfl, HW.out.next⟩
            · have hNl : 0 < N.length := by rw [HNL.out]; exact hz
              have hN0 : ¬ (N.length : Int) = 0 := by omega
              have hkl : lesT N < N.length := lesK_lt N hNl N.length
              have HTOP : Hid (N[lesT N]'hkl = toTn H[0]) := Lib.hid (pl_top HW.out.pl hz hNl)
              have HPK := Lib.hid (hi.peek_h HW.out.heap hz)
              have hsm : N.length < 1000000 := by rw [HNL.out]; have := HW.out.len; omega
              have HKL := Lib.hid hkl
              generalize H[0] = x at *
              obtain ⟨yr, yp, yt, yx⟩ := x
              clear HLE
              go_wp2_with fail
              refine HPK.out.mono ?_
              rintro e W4 ⟨rfl, hb4⟩
              have HW4 := Lib.hid (HW.out.step hb4)
              clear hb4 HPK
              go_wp2_with fail
              refine (least_any N A2 c2 W4 (own_sl encTn_len HW4.out.row (by decide)) hsm).mono ?_
              rintro e W5 ⟨rfl, hb5⟩
              have HW5 := Lib.hid (HW4.out.step hb5)
              obtain ⟨b2, o2, hA2, hcc2⟩ := (own_sl encTn_len HW5.out.row (by decide)).at (lesT N) HKL.out
              rw [HTOP.out] at hcc2
              subst hA2
              have r0 := hcc2 0 _ rfl
              have r1 := hcc2 1 _ rfl
              have r2 := hcc2 2 _ rfl
              obtain ⟨u0, u1, u2⟩ := HSC.out W5 HW5.out.below
              obtain ⟨q, hq⟩ : ∃ q, lesT N = q := ⟨_, rfl⟩
              rw [hq] at r0 r1 r2 ⊢
              have q0 : (0 : Int) ≤ (q : Int) := by omega
              have q1 : (q : Int) < (N.length : Int) := by have := HKL.out; omega
              have HLE := Lib.hid (hi.len_h HW5.out.heap)
              simp only [toTn, Nat.add_zero] at r0 r1 r2
              clear hb5 hcc2 hq HTOP HKL t0 t1 t2
              go_wp2_with fail
              refine HLE.out.mono ?_
              rintro e W6 ⟨rfl, hW6⟩
              subst hW6
              rw [← HNL.out]
              go_wp2_with fail
              go_roundg (gk - 1)
              case measure => omega
              case rel => exact ⟨j + 1, H, N, turn, A1, c1, _, c2, by omega, by simp, rfl, HW5.out.next⟩
          · by_cases k3 : xk = 3
            · subst k3
              clear HLE HNL
              go_wp2_with fail
              refine (hi.clear_h HW.out.heap).mono ?_
              rintro e W4 ⟨rfl, h4, hk4⟩
              have HN : Hid (PlayIs w W4 hb [] [] turn A1 c1 none 0 (j + 1)) := Lib.hid ⟨h4, by simpa using own_nil _ _ _ _, pl_nil _ _, ⟨HW.out.turn.1, by have := HW.out.turn.2; omega⟩,
                HW.out.below.trans (hk4.below HW.out.below.size (fun g hg => Nat.le_trans HW.out.le.1 (HW.out.heap.base g hg))), ⟨HW.out.le.1, Nat.le_trans HW.out.le.2 hk4.size⟩, by simp⟩
              have HLE := Lib.hid (hi.len_h h4)
              clear h4 hk4
              go_wp2_with fail
              refine HLE.out.mono ?_
              rintro e W5 ⟨rfl, hW5⟩
              subst hW5
              go_wp2_with fail
              go_roundg (gk - 1)
              case measure => omega
              case rel => exact ⟨j + 1, [], [], turn, A1, c1, none, 0, by omega, by simp, rfl, HN.out⟩
            · go_wp2_with fail
              refine HLE.out.mono ?_
              rintro e W4 ⟨rfl, hW4⟩
              subst hW4
              rw [← HNL.out]
              go_wp2_with fail
              go_roundg (gk - 1)
              case measure => omega
              case rel => exact ⟨j + 1, H, N, turn, A1, c1, A2, c2, by omega, by simp, rfl, HW.out.next⟩
    · have hje : j = l.length := by omega
      subst hje
      have hlt' : ¬ ((l.length : Nat) : Int) < (l.length : Int) := by omega
      go_wp2_with fail
      go_ret
      exact ⟨rfl, HW.out.below⟩

theorem hplays_law (x0 : List (List Int)) (A : Option Addr) (cA : Nat) (w : World)
    (_ : x0.length ≤ cA) (_ : cA ≤ maxLen) (h0 : ∀ y ∈ x0, y.length = 3 ∧ ∀ z ∈ y, (Lit.int .i64 z).wf = true) (hA : Sl w A (encInts .i64) 3 x0) :
    Calls Try.prog 8 #[.slice A x0.length cA] w (RetTrue w) := by
  by_cases h : x0.length ≤ 200
  · have e0 : x0.length = (x0.map toAct).length := by simp
    rw [e0]
    exact hplays_small _ A cA w (sl_act hA (fun y hy => (h0 y hy).1)) (by rw [← e0]; exact h)
  · have h1 : (200 : Int) < (x0.length : Int) := by omega
    go_enter Try.func8, Try.ntmps8
    go_wp2_with fail
    refine (hawake_any _).mono ?_
    rintro e w1 ⟨rfl, hb1⟩
    go_wp2_with fail
    go_ret
    exact ⟨by simp, hb1⟩
end Go.Proofs.Ytdppdjiigecjoaa
