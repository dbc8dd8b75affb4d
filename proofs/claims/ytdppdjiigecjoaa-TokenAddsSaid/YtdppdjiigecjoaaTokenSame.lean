/- Layer 4 (token): the laws' comparison of a table with the document's. -/
import Derived.Test.YtdppdjiigecjoaaRef7
import Derived.Test.YtdppdjiigecjoaaToken6
namespace Go.Proofs.Ytdppdjiigecjoaa
open Go.RowKit Go.Maps Go.WideMaps
set_option maxRecDepth 100000
set_option linter.unusedVariables false
set_option linter.unusedSimpArgs false

/-- the greatest length among the first k -/
def lonK (T : List Ent) (k : Nat) : Nat := (T.take k).foldl (fun n e => max n e.1.length) 0
theorem lonK_next {T : List Ent} {k : Nat} (hk : k < T.length) : lonK T (k + 1) = max (lonK T k) T[k].1.length := by
  unfold lonK; rw [take_snoc hk, List.foldl_append]; rfl
theorem lonK_le {T : List Ent} (h : OkT T) : ∀ k, k ≤ T.length → lonK T k ≤ 64
  | 0, _ => by simp [lonK]
  | k + 1, hk => by
    rw [lonK_next (by omega)]
    have := lonK_le h k (by omega)
    have := (h.len T[k] (List.getElem_mem _)).2
    omega
theorem foldl_max (l : List Ent) : ∀ n, l.foldl (fun n e => max n e.1.length) n = max n (l.foldl (fun n e => max n e.1.length) 0) := by
  induction l with
  | nil => intro n; simp
  | cons a l ih => intro n; simp only [List.foldl_cons]; rw [ih, ih (max 0 _)]; omega
theorem lonK_all {T : List Ent} (h : OkT T) : lonK T T.length = longT T := by
  have h256 := okT_256 h
  unfold lonK longT
  rw [List.take_length, foldl_max T 1]
  have : 1 ≤ T.foldl (fun n e => max n e.1.length) 0 := by
    cases T with
    | nil => simp at h256
    | cons a l =>
      simp only [List.foldl_cons]
      rw [foldl_max]
      have := (h.len a (by simp)).1
      omega
  omega
theorem find_own {T : List Ent} (h : OkT T) {k : Nat} (hk : k < T.length) : findT T T[k].1 = some k := by
  unfold findT
  rw [List.findIdx?_eq_some_iff_getElem]
  refine ⟨hk, by simp, ?_⟩
  intro j hj
  rw [Bool.not_eq_true, beq_eq_false_iff_ne]
  intro e
  have := h.nodup j k (by omega) hk (by rw [entT_nat _ _ (by omega), entT_nat _ _ hk]; exact e)
  omega
theorem neq_mrg (x y : Int) (w : World) : (binOp .neq 52 (.agg #[.int .i64 x, .int .i64 y]) (.agg #[.int .i64 x, .int .i64 y])).run Try.prog w = .ok (.bool false) w := by
  simp [go_sem]

structure SameIs (w W : World) (base tb : Nat) (T : List Ent) (sv : Value) (mb mp : Nat) (vb vm : Value) (g : Nat) : Prop where
  tab : TabIs W base tb T sv mb mp
  ref : RefIs W base T vb vm
  blk : W.heap[g]? = some (.cells #[vb, vm] 48)
  below : Below w.heap.size w W
theorem SameIs.step {w W W2 : World} {base tb : Nat} {T : List Ent} {sv : Value} {mb mp : Nat} {vb vm : Value} {g : Nat} (h : SameIs w W base tb T sv mb mp vb vm g) (hb : Below W.heap.size W W2) : SameIs w W2 base tb T sv mb mp vb vm g :=
  ⟨h.tab.below hb (Nat.le_refl _), h.ref.below hb (Nat.le_refl _), blk_below hb (blk_lt h.blk) h.blk, h.below.trans (hb.mono h.below.size)⟩
theorem same_start {w : World} {base tb : Nat} {T : List Ent} {sv : Value} {mb mp : Nat} {vb vm : Value} (ht : TabIs w base tb T sv mb mp) (hr : RefIs w base T vb vm) :
    SameIs w (w.alloc (.cells #[vb, vm] 48)) base tb T sv mb mp vb vm w.heap.size := by
  have hb := (Below.refl w.heap.size w).alloc (Nat.le_refl _) (.cells #[vb, vm] 48)
  exact ⟨ht.below hb (Nat.le_refl _), hr.below hb (Nat.le_refl _), blk_new w _, hb⟩

theorem par_mrg {T : List Ent} (h : OkT T) {k : Nat} (hk : k < (mrgsT T).length) : parT T ((256 + k : Nat) : Int) = (mrgsT T)[k] ∧ bornT T ((256 + k : Nat) : Int) = true := by
  have h256 := okT_256 h
  have hk' := hk
  rw [mrgs_len] at hk'
  have hb := (made_all h (i := 256 + k) (by omega) (by omega)).1
  refine ⟨?_, hb⟩
  unfold parT
  rw [if_pos hb, entT_nat _ _ (by omega)]
  unfold mrgsT
  simp

set_option maxHeartbeats 4000000 in
theorem same_any {w : World} {base tb : Nat} {T : List Ent} {sv : Value} {mb mp : Nat} {vb vm : Value} (ht : TabIs w base tb T sv mb mp) (hr : RefIs w base T vb vm) (hT : OkT T) :
    Calls Try.prog 49 #[.pointer (some ⟨tb, 0, none⟩), .agg #[vb, vm]] w fun e w' => e = .returned (.bool true) ∧ Below w.heap.size w w' := by
  obtain ⟨A, c, rfl⟩ := own_slice hr.row
  obtain ⟨A2, c2, hvm⟩ := own_slice hr.mrg
  subst hvm
  have hsm := hT.small
  have HS := Lib.hid (same_start ht hr)
  have HT := Lib.hid hT
  have n0 := blk_cell HS.out.blk 0
  simp only [List.getElem?_toArray, List.getElem?_cons_zero, List.getElem?_cons_succ] at n0
  clear ht hr hT
  go_enter Try.func49, Try.ntmps49
  go_wp2_with fail
  generalize w.alloc (.cells #[.slice A T.length c, .slice A2 (mrgsT T).length c2] 48) = W at *
  obtain ⟨g, hg⟩ : ∃ g, w.heap.size = g := ⟨_, rfl⟩
  have HS1 : Hid (SameIs w W base tb T sv mb mp (.slice A T.length c) (.slice A2 (mrgsT T).length c2) g) := Lib.hid (by rw [← hg]; exact HS.out)
  rw [hg] at n0 ⊢
  clear HS hg
  go_loopg [5, 6] T.length (fun n u i W' => ∃ k : Nat, k + n = T.length ∧ i = .int .i64 (k : Int) ∧ u = .int .i64 ((lonK T k : Nat) : Int) ∧ W' = W)
  case atStart => exact ⟨0, by omega, rfl, by simp [lonK], rfl⟩
  case round =>
    obtain ⟨k, hk, rfl, rfl, hW⟩ := hrel
    subst hW
    by_cases hlt : k < T.length
    · have hlt' : (k : Int) < (T.length : Int) := by omega
      have p0 : (0 : Int) ≤ k := by omega
      have hlen := HT.out.len T[k] (List.getElem_mem hlt)
      go_wp2_with fail
      refine (bytes_tab k HS1.out.tab).mono ?_
      rintro e w' ⟨rfl, rfl⟩
      have hhas : hasT T (k : Int) = true := by simp [hasT]; omega
      have hby : bytesT T (k : Int) = T[k].1 := by unfold bytesT; rw [if_pos hhas, entT_nat _ _ hlt]
      rw [hhas, hby]
      have hsl := own_sl1 HS1.out.ref.row
      obtain ⟨ba, o, hA, g0⟩ := hsl.at k (by simpa [bytsT] using hlt)
      subst hA
      simp only [bytsT, List.getElem_map] at g0
      clear hsl hhas hby
      have HF := Lib.hid (find_tab T[k].1 (by have := hlen.2; unfold maxLen; omega) HS1.out.tab)
      rw [find_own HT.out hlt] at HF
      have HLK := Lib.hid (lonK_next hlt)
      have hll := lonK_le HT.out k (by omega)
      have HBS := Lib.hid (bs_size T[k].1)
      unfold strV at g0 HF ⊢
      generalize T[k].1 = s at *
      obtain ⟨z, hz⟩ : ∃ z, bs s = z := ⟨_, rfl⟩
      rw [hz] at g0 HF HBS ⊢
      go_wp2_with fail
      refine HF.out.mono ?_
      rintro e w'' ⟨rfl, rfl⟩
      go_wp2_with fail
      · go_roundg (gk - 1)
        case measure => omega
        case rel =>
          refine ⟨k + 1, by omega, by simp, ?_, rfl⟩
          rw [HLK.out, ← HBS.out]
          simp
          omega
      · go_roundg (gk - 1)
        case measure => omega
        case rel =>
          refine ⟨k + 1, by omega, by simp, ?_, rfl⟩
          rw [HLK.out, ← HBS.out]
          simp
          omega
    · have hke : k = T.length := by omega
      subst hke
      have hlt' : ¬ ((T.length : Nat) : Int) < (T.length : Int) := by omega
      go_wp2_with fail
      refine (merges_tab HS1.out.tab HT.out).mono ?_
      rintro e w2 ⟨A5, c5, rfl, hrow, hb⟩
      have HS2 := Lib.hid (HS1.out.step hb)
      have HROW := Lib.hid hrow
      have HLL := Lib.hid (lonK_all HT.out)
      have n0 := blk_cell HS2.out.blk 0
      have n1 := blk_cell HS2.out.blk 1
      simp only [List.getElem?_toArray, List.getElem?_cons_zero, List.getElem?_cons_succ] at n0 n1
      rw [HLL.out]
      clear hb hrow
      go_wp2_with fail
      refine wp_region_held_drew (S := fun V => V.cell? ⟨g, 0, none⟩ = some (.slice A T.length c) ∧ V.cell? ⟨g, 1, none⟩ = some (.slice A2 (mrgsT T).length c2)) (by kernel_rfl) (by exact ⟨n0, n1⟩) (fun hHeld => ?_)
      refine wpAnyH_takeD (i := 0) (oi := { dst := some 64, op := Op.move (Operand.tmp 11), type := 46, pos := "law.go:44", after := #[], guard := none }) (d := 64) (v := ?_) rfl rfl (by kernel_rfl) (by kernel_rfl) (by kernel_rfl) (fun _ _ _ h => h) (Or.inl ⟨by rfl, ?_⟩) hHeld ?_
      rotate_left
      · (intro w' hSw; (try dsimp only at hSw); go_simp; (try with_reducible rfl))
      simp only [List.setIfInBounds_toArray, List.set_cons_zero, List.set_cons_succ]
      refine wpAnyH_takeD (i := 1) (oi := { dst := some 65, op := Op.call { callee := Callee.builtin Builtin.len, args := #[Operand.tmp 64], argTypes := #[46] }, type := 3, pos := "law.go:44", after := #[{ on := 0, ground := Ground.data }], guard := none }) (d := 65) (v := ?_) rfl rfl (by kernel_rfl) (by kernel_rfl) (by kernel_rfl) (fun _ _ _ h => h) (Or.inl ⟨by rfl, ?_⟩) hHeld ?_
      rotate_left
      · (intro w' hSw; (try dsimp only at hSw); go_simp; (try with_reducible rfl))
      simp only [List.setIfInBounds_toArray, List.set_cons_zero, List.set_cons_succ]
      refine wpAnyH_takeD (i := 2) (oi := { dst := some 66, op := Op.fieldAddr 48 (Operand.tmp 3) 1, type := 0, pos := "law.go:44", after := #[], guard := none }) (d := 66) (v := ?_) rfl rfl (by kernel_rfl) (by kernel_rfl) (by kernel_rfl) (fun _ _ _ h => h) (Or.inl ⟨by rfl, ?_⟩) hHeld ?_
      rotate_left
      · (intro w' hSw; (try dsimp only at hSw); go_simp; (try with_reducible rfl))
      simp only [List.setIfInBounds_toArray, List.set_cons_zero, List.set_cons_succ]
      refine wpAnyH_takeD (i := 3) (oi := { dst := some 67, op := Op.load 46 (Operand.tmp 66), type := 46, pos := "law.go:44", after := #[{ on := 2, ground := Ground.data }], guard := none }) (d := 67) (v := ?_) rfl rfl (by kernel_rfl) (by kernel_rfl) (by kernel_rfl) (fun _ _ _ h => h) (Or.inl ⟨by rfl, ?_⟩) hHeld ?_
      rotate_left
      · (intro w' hSw; (try dsimp only at hSw); go_simp; (try with_reducible rfl))
      simp only [List.setIfInBounds_toArray, List.set_cons_zero, List.set_cons_succ]
      refine wpAnyH_takeD (i := 4) (oi := { dst := some 68, op := Op.call { callee := Callee.builtin Builtin.len, args := #[Operand.tmp 67], argTypes := #[46] }, type := 3, pos := "law.go:44", after := #[{ on := 3, ground := Ground.data }], guard := none }) (d := 68) (v := ?_) rfl rfl (by kernel_rfl) (by kernel_rfl) (by kernel_rfl) (fun _ _ _ h => h) (Or.inl ⟨by rfl, ?_⟩) hHeld ?_
      rotate_left
      · (intro w' hSw; (try dsimp only at hSw); go_simp; (try with_reducible rfl))
      simp only [List.setIfInBounds_toArray, List.set_cons_zero, List.set_cons_succ]
      refine wpAnyH_takeD (i := 5) (oi := { dst := some 69, op := Op.binOp BinOp.neq 3 (Operand.tmp 65) (Operand.tmp 68) 3, type := 4, pos := "law.go:44", after := #[{ on := 1, ground := Ground.data }, { on := 4, ground := Ground.data }], guard := none }) (d := 69) (v := ?_) rfl rfl (by kernel_rfl) (by kernel_rfl) (by kernel_rfl) (fun _ _ _ h => h) (Or.inl ⟨by rfl, ?_⟩) hHeld ?_
      rotate_left
      · (intro w' hSw; (try dsimp only at hSw); go_simp; (try with_reducible rfl))
      simp only [List.setIfInBounds_toArray, List.set_cons_zero, List.set_cons_succ]
      refine wpAnyH_takeD (i := 6) (oi := { dst := some 70, op := Op.move (Operand.tmp 69), type := 4, pos := "law.go:44", after := #[{ on := 5, ground := Ground.data }], guard := none }) (d := 70) (v := ?_) rfl rfl (by kernel_rfl) (by kernel_rfl) (by kernel_rfl) (fun _ _ _ h => h) (Or.inl ⟨by rfl, ?_⟩) hHeld ?_
      rotate_left
      · (intro w' hSw; (try dsimp only at hSw); go_simp; (try with_reducible rfl))
      simp only [List.setIfInBounds_toArray, List.set_cons_zero, List.set_cons_succ]
      refine wpAnyH_takeD (i := 7) (oi := { dst := some 71, op := Op.move (Operand.tmp 0), type := 43, pos := "law.go:44", after := #[{ on := 6, ground := Ground.guard }], guard := some (6, false) }) (d := 71) (v := ?_) rfl rfl (by kernel_rfl) (by kernel_rfl) (by kernel_rfl) (fun _ _ _ h => h) (Or.inl ⟨by rfl, ?_⟩) hHeld ?_
      rotate_left
      · (intro w' hSw; (try dsimp only at hSw); go_simp; (try with_reducible rfl))
      simp only [List.setIfInBounds_toArray, List.set_cons_zero, List.set_cons_succ]
      refine wpAnyH_takeD (i := 9) (oi := { dst := some 73, op := Op.fieldAddr 48 (Operand.tmp 3) 0, type := 0, pos := "law.go:44", after := #[{ on := 6, ground := Ground.guard }], guard := some (6, false) }) (d := 73) (v := ?_) rfl rfl (by kernel_rfl) (by kernel_rfl) (by kernel_rfl) (fun _ _ _ h => h) (Or.inl ⟨by rfl, ?_⟩) hHeld ?_
      rotate_left
      · (intro w' hSw; (try dsimp only at hSw); go_simp; (try with_reducible rfl))
      simp only [List.setIfInBounds_toArray, List.set_cons_zero, List.set_cons_succ]
      refine wpAnyH_takeD (i := 10) (oi := { dst := some 74, op := Op.load 32 (Operand.tmp 73), type := 32, pos := "law.go:44", after := #[{ on := 9, ground := Ground.data }, { on := 6, ground := Ground.guard }], guard := some (6, false) }) (d := 74) (v := ?_) rfl rfl (by kernel_rfl) (by kernel_rfl) (by kernel_rfl) (fun _ _ _ h => h) (Or.inl ⟨by rfl, ?_⟩) hHeld ?_
      rotate_left
      · (intro w' hSw; (try dsimp only at hSw); go_simp; (try with_reducible rfl))
      simp only [List.setIfInBounds_toArray, List.set_cons_zero, List.set_cons_succ]
      refine wpAnyH_takeD (i := 11) (oi := { dst := some 75, op := Op.call { callee := Callee.builtin Builtin.len, args := #[Operand.tmp 74], argTypes := #[32] }, type := 3, pos := "law.go:44", after := #[{ on := 10, ground := Ground.data }, { on := 6, ground := Ground.guard }], guard := some (6, false) }) (d := 75) (v := ?_) rfl rfl (by kernel_rfl) (by kernel_rfl) (by kernel_rfl) (fun _ _ _ h => h) (Or.inl ⟨by rfl, ?_⟩) hHeld ?_
      rotate_left
      · (intro w' hSw; (try dsimp only at hSw); go_simp; (try with_reducible rfl))
      simp only [List.setIfInBounds_toArray, List.set_cons_zero, List.set_cons_succ]
      refine wpAnyH_ready (rs := [8]) (by kernel_rfl) (by simp) ?_
      refine AllReadyH.cons (o := { dst := some 72, op := Op.call { callee := Callee.value (Operand.func 29), args := #[Operand.tmp 71], argTypes := #[43] }, type := 3, pos := "law.go:44", after := #[{ on := 7, ground := Ground.data }, { on := 6, ground := Ground.chain }, { on := 6, ground := Ground.guard }], guard := some (6, false) }) rfl (fun K hK => ?_) AllReadyH.nil
      (try go_simp)
      refine (len_tab HS2.out.tab.drew).mono ?_; rintro e w' ⟨rfl, rfl⟩; have h := hHeld
      go_wp2_with fail
      refine hK.out _ _ h (fun hHeld => ?_)
      clear hK K
      try simp only [Act.put, List.setIfInBounds_toArray, List.set_cons_zero, List.set_cons_succ]
      refine wpAnyH_takeD (i := 12) (oi := { dst := some 76, op := Op.binOp BinOp.neq 3 (Operand.tmp 72) (Operand.tmp 75) 3, type := 4, pos := "law.go:44", after := #[{ on := 8, ground := Ground.data }, { on := 11, ground := Ground.data }, { on := 6, ground := Ground.guard }], guard := some (6, false) }) (d := 76) (v := ?_) rfl rfl (by kernel_rfl) (by kernel_rfl) (by kernel_rfl) (fun _ _ _ h => h) (Or.inl ⟨by rfl, ?_⟩) hHeld ?_
      rotate_left
      · (intro w' hSw; (try dsimp only at hSw); go_simp; (try with_reducible rfl))
      simp only [List.setIfInBounds_toArray, List.set_cons_zero, List.set_cons_succ]
      refine wpAnyH_takeD (i := 13) (oi := { dst := some 77, op := Op.pick (Operand.tmp 70) (Operand.const (Value.bool true)) (Operand.tmp 76), type := 4, pos := "law.go:44", after := #[{ on := 6, ground := Ground.data }, { on := 12, ground := Ground.data }], guard := none }) (d := 77) (v := ?_) rfl rfl (by kernel_rfl) (by kernel_rfl) (by kernel_rfl) (fun _ _ _ h => h) (Or.inl ⟨by rfl, ?_⟩) hHeld ?_
      rotate_left
      · (intro w' hSw; (try dsimp only at hSw); go_simp; (try with_reducible rfl))
      simp only [List.setIfInBounds_toArray, List.set_cons_zero, List.set_cons_succ]
      refine wpAnyH_takeD (i := 14) (oi := { dst := some 78, op := Op.move (Operand.tmp 77), type := 4, pos := "law.go:44", after := #[{ on := 13, ground := Ground.data }, { on := 8, ground := Ground.chain }], guard := none }) (d := 78) (v := ?_) rfl rfl (by kernel_rfl) (by kernel_rfl) (by kernel_rfl) (fun _ _ _ h => h) (Or.inl ⟨by rfl, ?_⟩) hHeld ?_
      rotate_left
      · (intro w' hSw; (try dsimp only at hSw); go_simp; (try with_reducible rfl))
      simp only [List.setIfInBounds_toArray, List.set_cons_zero, List.set_cons_succ]
      refine wpAnyH_takeD (i := 15) (oi := { dst := some 79, op := Op.move (Operand.tmp 0), type := 43, pos := "law.go:44", after := #[{ on := 14, ground := Ground.guard }], guard := some (14, false) }) (d := 79) (v := ?_) rfl rfl (by kernel_rfl) (by kernel_rfl) (by kernel_rfl) (fun _ _ _ h => h) (Or.inl ⟨by rfl, ?_⟩) hHeld ?_
      rotate_left
      · (intro w' hSw; (try dsimp only at hSw); go_simp; (try with_reducible rfl))
      simp only [List.setIfInBounds_toArray, List.set_cons_zero, List.set_cons_succ]
      refine wpAnyH_takeD (i := 17) (oi := { dst := some 81, op := Op.move (Operand.tmp 5), type := 3, pos := "law.go:44", after := #[{ on := 14, ground := Ground.guard }], guard := some (14, false) }) (d := 81) (v := ?_) rfl rfl (by kernel_rfl) (by kernel_rfl) (by kernel_rfl) (fun _ _ _ h => h) (Or.inl ⟨by rfl, ?_⟩) hHeld ?_
      rotate_left
      · (intro w' hSw; (try dsimp only at hSw); go_simp; (try with_reducible rfl))
      simp only [List.setIfInBounds_toArray, List.set_cons_zero, List.set_cons_succ]
      refine wpAnyH_ready (rs := [16]) (by kernel_rfl) (by simp) ?_
      refine AllReadyH.cons (o := { dst := some 80, op := Op.call { callee := Callee.value (Operand.func 57), args := #[Operand.tmp 79], argTypes := #[43] }, type := 3, pos := "law.go:44", after := #[{ on := 15, ground := Ground.data }, { on := 14, ground := Ground.chain }, { on := 14, ground := Ground.guard }], guard := some (14, false) }) rfl (fun K hK => ?_) AllReadyH.nil
      (try go_simp)
      refine (longest_tab HS2.out.tab.drew).mono ?_; rintro e w' ⟨rfl, rfl⟩; have h := hHeld
      go_wp2_with fail
      refine hK.out _ _ h (fun hHeld => ?_)
      clear hK K
      try simp only [Act.put, List.setIfInBounds_toArray, List.set_cons_zero, List.set_cons_succ]
      refine wpAnyH_takeD (i := 18) (oi := { dst := some 82, op := Op.binOp BinOp.neq 3 (Operand.tmp 80) (Operand.tmp 81) 3, type := 4, pos := "law.go:44", after := #[{ on := 16, ground := Ground.data }, { on := 17, ground := Ground.data }, { on := 14, ground := Ground.guard }], guard := some (14, false) }) (d := 82) (v := ?_) rfl rfl (by kernel_rfl) (by kernel_rfl) (by kernel_rfl) (fun _ _ _ h => h) (Or.inl ⟨by rfl, ?_⟩) hHeld ?_
      rotate_left
      · (intro w' hSw; (try dsimp only at hSw); go_simp; (try with_reducible rfl))
      simp only [List.setIfInBounds_toArray, List.set_cons_zero, List.set_cons_succ]
      refine wpAnyH_takeD (i := 19) (oi := { dst := some 83, op := Op.pick (Operand.tmp 78) (Operand.const (Value.bool true)) (Operand.tmp 82), type := 4, pos := "law.go:44", after := #[{ on := 14, ground := Ground.data }, { on := 18, ground := Ground.data }], guard := none }) (d := 83) (v := ?_) rfl rfl (by kernel_rfl) (by kernel_rfl) (by kernel_rfl) (fun _ _ _ h => h) (Or.inl ⟨by rfl, ?_⟩) hHeld ?_
      rotate_left
      · (intro w' hSw; (try dsimp only at hSw); go_simp; (try with_reducible rfl))
      simp only [List.setIfInBounds_toArray, List.set_cons_zero, List.set_cons_succ]
      refine wpAnyH_done (by kernel_rfl) ?_ _
      have HS3 : Hid (SameIs w w2.drew base tb T sv mb mp (.slice A T.length c) (.slice A2 (mrgsT T).length c2) g) := Lib.hid (HS2.out.step ⟨rfl, rfl, rfl, Nat.le_refl _, fun _ _ => rfl⟩)
      have HROW3 := Lib.hid (own_drew HROW.out)
      clear HS2 HROW hHeld n0 n1
      generalize w2.drew = w3 at *
      go_wp2_with fail
      obtain ⟨b5, hb5⟩ : ∃ b, ‹World›.heap.size = b := ⟨_, rfl⟩
      clear hb5
      obtain ⟨M, hM⟩ : ∃ M, mrgsT T = M := ⟨_, rfl⟩
      have HPM := Lib.hid (fun k hk => par_mrg HT.out (k := k) hk)
      have hml : (mrgsT T).length ≤ 1000 := by rw [mrgs_len]; omega
      have HM := Lib.hid hM
      rw [hM] at HS3 HROW3 hml HPM ⊢
      clear hM
      go_loopg [12] M.length (fun n i W' => ∃ k : Nat, k + n = M.length ∧ i = .int .i64 (k : Int) ∧ SameIs w W' base tb T sv mb mp (.slice A T.length c) (.slice A2 M.length c2) g ∧ ∃ b5, W'.ownsRow b5 52 2 (.slice A5 M.length c5) M.length (M.flatMap encM))
      case atStart => exact ⟨0, by omega, rfl, HS3.out, _, HROW3.out⟩
      case round =>
        obtain ⟨k, hk, rfl, hS, b6, hR⟩ := hrel
        clear HS3 HROW3 HS1
        rename World => W
        have HS := Lib.hid hS
        have HR := Lib.hid hR
        by_cases hlt : k < M.length
        · have hlt' : (k : Int) < (M.length : Int) := by omega
          have p0 : (0 : Int) ≤ k := by omega
          have w1 : IntKind.i64.wrap (256 + (k : Int)) = 256 + (k : Int) := IntWalk.i64_in _ (by omega)
          have HP := Lib.hid (par_tab (256 + k : Nat) hS.tab)
          rw [(HPM.out k hlt).1, (HPM.out k hlt).2] at HP
          rw [Int.natCast_add] at HP
          clear hS hR
          go_wp2_with fail
          refine HP.out.mono ?_
          rintro e w4 ⟨rfl, hb4⟩
          obtain ⟨x, y, hxy⟩ : ∃ x y, M[k] = (x, y) := ⟨_, _, rfl⟩
          have HXY := Lib.hid hxy
          rw [hxy]
          unfold pairV
          have hb6 := hb4.alloc hb4.size (.cells #[.int .i64 x, .int .i64 y] 52)
          have hn6 := blk_new w4 (.cells #[.int .i64 x, .int .i64 y] 52)
          have HS6 := Lib.hid (HS.out.step hb6)
          have HR6 := Lib.hid (own_below HR.out hb6 (Nat.le_refl _))
          have n0 := blk_cell hn6 0
          have n1 := blk_cell hn6 1
          obtain ⟨ba, o, hA5, hcc⟩ := (own_sl (enc := encM) (fun _ => rfl) HR6.out (by decide)).at k hlt
          subst hA5
          rw [hxy] at hcc
          have g0 : World.cell? _ ⟨ba, o + k * 2, none⟩ = some (.int .i64 x) := hcc 0 _ rfl
          have g1 : World.cell? _ ⟨ba, o + k * 2 + 1, none⟩ = some (.int .i64 y) := hcc 1 _ rfl
          obtain ⟨bb, o2, hA6, hdd⟩ := (own_sl (enc := encM) (sz := 2) (fun _ => rfl) (by have := HS6.out.ref.mrg; rw [HM.out] at this; exact this) (by decide)).at k hlt
          subst hA6
          have m0 := blk_cell HS6.out.blk 1
          simp only [List.getElem?_toArray, List.getElem?_cons_zero, List.getElem?_cons_succ] at n0 n1 m0
          rw [hxy] at hdd
          have k0 : World.cell? _ ⟨bb, o2 + k * 2, none⟩ = some (.int .i64 x) := hdd 0 _ rfl
          have k1 : World.cell? _ ⟨bb, o2 + k * 2 + 1, none⟩ = some (.int .i64 y) := hdd 1 _ rfl
          clear hcc hxy hb6 hn6 hb4 hdd
          go_upto_region 17 with fail
          generalize w4.alloc (.cells #[.int .i64 x, .int .i64 y] 52) = w6 at *
          go_wp2_with fail
          have hq := neq_mrg x y w6
          go_quiet (fail)
          go_wp2_with fail
          go_roundg (gk - 1)
          case measure => omega
          case rel => exact ⟨k + 1, by omega, by simp, HS6.out.step (below_drewN (Below.refl _ _) _), _, own_drewN HR6.out _⟩
        · have hlt' : ¬ (k : Int) < (M.length : Int) := by omega
          clear hS hR
          go_wp2_with fail
          go_ret
          exact ⟨rfl, HS.out.below⟩
end Go.Proofs.Ytdppdjiigecjoaa
