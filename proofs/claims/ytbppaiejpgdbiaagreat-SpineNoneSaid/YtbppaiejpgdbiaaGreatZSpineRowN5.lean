/- Texts of several layers, one behind the other: Spine2, Spine3, Spine4, Spine6, Beside0, Beside1, VocNew0, Awake14, First0, SpineLawN. -/
import Derived.Test.YtbppaiejpgdbiaaGreatZSpineRowN4
import Derived.WalkKit
import Derived.KernelRfl
import Derived.Lib.Hide
import Derived.Deep.QuietTactic
import Derived.BigQuiet
import Derived.OwnWalk
import Derived.Lib.Strings
import Derived.Deep.DeepCutAuto
import Derived.Deep.RegionHeld3
import Derived.StillTailTactics
import Derived.Test.YtbppaiejpgdbiaaGreatProg
import Derived.Deep.Slices
import Derived.Deep.Fields
import Derived.ChangeSame
import Derived.SliceStrings
import Derived.OpenShut
import Derived.Maps.OwnSet
import Derived.Maps.OwnOps
import Derived.DeepKeys4
import Derived.WideKeyEntry
import Derived.Maps.AppendAt
import Derived.Laws.ResultCell
import Derived.Laws.IdiomStrings
import Derived.Laws.AppendOwnNone
import Derived.Lib.AppendStr
import Derived.Laws.LoneSync
import Derived.Tactics
import Derived.Tactics2
import Derived.Defers
import Derived.Laws.Pointers
import Derived.RegionTactic
import Derived.RegionCalls
import Derived.ChangeAlike
import Derived.Test.YtbppaiejpgdbiaaGreatRows
import Derived.ProofKit
import Derived.ShutString
import Derived.ChangeOld
import Derived.Below
import Derived.Lib.SmallJoins
/- Layer 14 (spine): a walk in memory: blocked, apart. -/
namespace Go.Proofs.YtbppaiejpgdbiaaGreat
open Go.RowKit Go.Maps Go.WideMaps
set_option maxRecDepth 100000
set_option linter.unusedVariables false
set_option linter.unusedSimpArgs false
section
variable {w w' : World} {base wb tbase tb : Nat} {T : List Ent} {sv : Value} {mb mp : Nat} {A B lim st : Int}
set_option maxHeartbeats 4000000 in
theorem blocked_any (h : WalkIs w base wb tbase tb T sv mb mp A B lim st) (ha : 0 ≤ A ∧ A < 100000) (hb : 0 ≤ B ∧ B < 100000) :
    Calls Tryz.prog 103 #[.pointer (some ⟨wb, 0, none⟩)] w fun e w' => e = .returned (.bool (pairB T lim A B).isSome) ∧ Below w.heap.size w w' := by
  have h0 := blk_cell h.blk 0
  have h1 := blk_cell h.blk 1
  have h2 := blk_cell h.blk 2
  have h3 := blk_cell h.blk 3
  simp only [List.getElem?_toArray, List.getElem?_cons_zero, List.getElem?_cons_succ] at h0 h1 h2 h3
  obtain ⟨r, b, hrb, hres⟩ : ∃ (r : Nat) (b : Bool), ((pairT T (A, B)).getD 0 = r ∧ (pairT T (A, B)).isSome = b) ∧ (pairB T lim A B).isSome = (b && decide ((r : Int) < lim)) := by
    refine ⟨_, _, ⟨rfl, rfl⟩, ?_⟩
    unfold pairB
    cases hp : pairT T (A, B) with
    | none => simp
    | some i => simp only [Option.bind_some, Option.getD_some, Option.isSome_some, Bool.true_and]; split <;> simp [*]
  rw [hres]
  have HRB := Lib.hid hrb
  have HT := Lib.hid h.tab.drew
  have HB0 : Hid (Below w.heap.size w w.drew) := Lib.hid ⟨rfl, rfl, rfl, Nat.le_refl _, fun _ _ => rfl⟩
  have WA := Lib.hid (wf_i64 (c := A) (by omega) (by omega))
  have WB := Lib.hid (wf_i64 (c := B) (by omega) (by omega))
  clear h ha hb hrb hres
  go_enter Tryz.func103, Tryz.ntmps103
  go_upto_region 1 with fail
  refine wp_region_held_drew (S := fun V => V.cell? ⟨wb, 0, none⟩ = some (.int .i64 A) ∧ V.cell? ⟨wb, 1, none⟩ = some (.int .i64 B) ∧ V.cell? ⟨wb, 2, none⟩ = some (.pointer (some ⟨tb, 0, none⟩)) ∧ V.cell? ⟨wb, 3, none⟩ = some (.int .i64 lim)) (by kernel_rfl) (by exact ⟨h0, h1, h2, h3⟩) (fun hHeld => ?_)
  refine wpAnyH_takeD (i := 0) (oi := { dst := some 6, op := Op.move (Operand.tmp 0), type := 116, pos := "spine.go:30", after := #[], guard := none }) (d := 6) (v := ?_) rfl rfl (by kernel_rfl) (by kernel_rfl) (by kernel_rfl) (fun _ _ _ h => h) (Or.inl ⟨by rfl, ?_⟩) hHeld ?_
  rotate_left
  · (intro w' hSw; (try dsimp only at hSw); go_simp; (try with_reducible rfl))
  simp only [List.setIfInBounds_toArray, List.set_cons_zero, List.set_cons_succ]
  refine wpAnyH_takeD (i := 1) (oi := { dst := some 7, op := Op.nilCheck (Operand.tmp 6), type := 0, pos := "spine.go:30", after := #[{ on := 0, ground := Ground.data }], guard := none }) (d := 7) (v := ?_) rfl rfl (by kernel_rfl) (by kernel_rfl) (by kernel_rfl) (fun _ _ _ h => h) (Or.inl ⟨by rfl, ?_⟩) hHeld ?_
  rotate_left
  · (intro w' hSw; (try dsimp only at hSw); go_simp; (try with_reducible rfl))
  simp only [List.setIfInBounds_toArray, List.set_cons_zero, List.set_cons_succ]
  refine wpAnyH_takeD (i := 2) (oi := { dst := some 8, op := Op.fieldAddr 121 (Operand.tmp 7) 1, type := 0, pos := "spine.go:30", after := #[{ on := 1, ground := Ground.data }], guard := none }) (d := 8) (v := ?_) rfl rfl (by kernel_rfl) (by kernel_rfl) (by kernel_rfl) (fun _ _ _ h => h) (Or.inl ⟨by rfl, ?_⟩) hHeld ?_
  rotate_left
  · (intro w' hSw; (try dsimp only at hSw); go_simp; (try with_reducible rfl))
  simp only [List.setIfInBounds_toArray, List.set_cons_zero, List.set_cons_succ]
  refine wpAnyH_takeD (i := 3) (oi := { dst := some 9, op := Op.load 63 (Operand.tmp 8), type := 63, pos := "spine.go:30", after := #[{ on := 2, ground := Ground.data }], guard := none }) (d := 9) (v := ?_) rfl rfl (by kernel_rfl) (by kernel_rfl) (by kernel_rfl) (fun _ _ _ h => h) (Or.inl ⟨by rfl, ?_⟩) hHeld ?_
  rotate_left
  · (intro w' hSw; (try dsimp only at hSw); go_simp; (try with_reducible rfl))
  simp only [List.setIfInBounds_toArray, List.set_cons_zero, List.set_cons_succ]
  refine wpAnyH_takeD (i := 4) (oi := { dst := some 10, op := Op.move (Operand.tmp 0), type := 116, pos := "spine.go:30", after := #[], guard := none }) (d := 10) (v := ?_) rfl rfl (by kernel_rfl) (by kernel_rfl) (by kernel_rfl) (fun _ _ _ h => h) (Or.inl ⟨by rfl, ?_⟩) hHeld ?_
  rotate_left
  · (intro w' hSw; (try dsimp only at hSw); go_simp; (try with_reducible rfl))
  simp only [List.setIfInBounds_toArray, List.set_cons_zero, List.set_cons_succ]
  refine wpAnyH_takeD (i := 5) (oi := { dst := some 11, op := Op.nilCheck (Operand.tmp 10), type := 0, pos := "spine.go:30", after := #[{ on := 4, ground := Ground.data }], guard := none }) (d := 11) (v := ?_) rfl rfl (by kernel_rfl) (by kernel_rfl) (by kernel_rfl) (fun _ _ _ h => h) (Or.inl ⟨by rfl, ?_⟩) hHeld ?_
  rotate_left
  · (intro w' hSw; (try dsimp only at hSw); go_simp; (try with_reducible rfl))
  simp only [List.setIfInBounds_toArray, List.set_cons_zero, List.set_cons_succ]
  refine wpAnyH_takeD (i := 6) (oi := { dst := some 12, op := Op.fieldAddr 121 (Operand.tmp 11) 0, type := 0, pos := "spine.go:30", after := #[{ on := 5, ground := Ground.data }], guard := none }) (d := 12) (v := ?_) rfl rfl (by kernel_rfl) (by kernel_rfl) (by kernel_rfl) (fun _ _ _ h => h) (Or.inl ⟨by rfl, ?_⟩) hHeld ?_
  rotate_left
  · (intro w' hSw; (try dsimp only at hSw); go_simp; (try with_reducible rfl))
  simp only [List.setIfInBounds_toArray, List.set_cons_zero, List.set_cons_succ]
  refine wpAnyH_takeD (i := 7) (oi := { dst := some 13, op := Op.fieldAddr 119 (Operand.tmp 12) 0, type := 0, pos := "spine.go:30", after := #[{ on := 6, ground := Ground.data }], guard := none }) (d := 13) (v := ?_) rfl rfl (by kernel_rfl) (by kernel_rfl) (by kernel_rfl) (fun _ _ _ h => h) (Or.inl ⟨by rfl, ?_⟩) hHeld ?_
  rotate_left
  · (intro w' hSw; (try dsimp only at hSw); go_simp; (try with_reducible rfl))
  simp only [List.setIfInBounds_toArray, List.set_cons_zero, List.set_cons_succ]
  refine wpAnyH_takeD (i := 8) (oi := { dst := some 14, op := Op.fieldAddr 55 (Operand.tmp 13) 0, type := 0, pos := "spine.go:30", after := #[{ on := 7, ground := Ground.data }], guard := none }) (d := 14) (v := ?_) rfl rfl (by kernel_rfl) (by kernel_rfl) (by kernel_rfl) (fun _ _ _ h => h) (Or.inl ⟨by rfl, ?_⟩) hHeld ?_
  rotate_left
  · (intro w' hSw; (try dsimp only at hSw); go_simp; (try with_reducible rfl))
  simp only [List.setIfInBounds_toArray, List.set_cons_zero, List.set_cons_succ]
  refine wpAnyH_takeD (i := 9) (oi := { dst := some 15, op := Op.load 3 (Operand.tmp 14), type := 3, pos := "spine.go:30", after := #[{ on := 8, ground := Ground.data }], guard := none }) (d := 15) (v := ?_) rfl rfl (by kernel_rfl) (by kernel_rfl) (by kernel_rfl) (fun _ _ _ h => h) (Or.inl ⟨by rfl, ?_⟩) hHeld ?_
  rotate_left
  · (intro w' hSw; (try dsimp only at hSw); go_simp; (try with_reducible rfl))
  simp only [List.setIfInBounds_toArray, List.set_cons_zero, List.set_cons_succ]
  refine wpAnyH_takeD (i := 10) (oi := { dst := some 16, op := Op.move (Operand.tmp 0), type := 116, pos := "spine.go:30", after := #[], guard := none }) (d := 16) (v := ?_) rfl rfl (by kernel_rfl) (by kernel_rfl) (by kernel_rfl) (fun _ _ _ h => h) (Or.inl ⟨by rfl, ?_⟩) hHeld ?_
  rotate_left
  · (intro w' hSw; (try dsimp only at hSw); go_simp; (try with_reducible rfl))
  simp only [List.setIfInBounds_toArray, List.set_cons_zero, List.set_cons_succ]
  refine wpAnyH_takeD (i := 11) (oi := { dst := some 17, op := Op.nilCheck (Operand.tmp 16), type := 0, pos := "spine.go:30", after := #[{ on := 10, ground := Ground.data }], guard := none }) (d := 17) (v := ?_) rfl rfl (by kernel_rfl) (by kernel_rfl) (by kernel_rfl) (fun _ _ _ h => h) (Or.inl ⟨by rfl, ?_⟩) hHeld ?_
  rotate_left
  · (intro w' hSw; (try dsimp only at hSw); go_simp; (try with_reducible rfl))
  simp only [List.setIfInBounds_toArray, List.set_cons_zero, List.set_cons_succ]
  refine wpAnyH_takeD (i := 12) (oi := { dst := some 18, op := Op.fieldAddr 121 (Operand.tmp 17) 0, type := 0, pos := "spine.go:30", after := #[{ on := 11, ground := Ground.data }], guard := none }) (d := 18) (v := ?_) rfl rfl (by kernel_rfl) (by kernel_rfl) (by kernel_rfl) (fun _ _ _ h => h) (Or.inl ⟨by rfl, ?_⟩) hHeld ?_
  rotate_left
  · (intro w' hSw; (try dsimp only at hSw); go_simp; (try with_reducible rfl))
  simp only [List.setIfInBounds_toArray, List.set_cons_zero, List.set_cons_succ]
  refine wpAnyH_takeD (i := 13) (oi := { dst := some 19, op := Op.fieldAddr 119 (Operand.tmp 18) 0, type := 0, pos := "spine.go:30", after := #[{ on := 12, ground := Ground.data }], guard := none }) (d := 19) (v := ?_) rfl rfl (by kernel_rfl) (by kernel_rfl) (by kernel_rfl) (fun _ _ _ h => h) (Or.inl ⟨by rfl, ?_⟩) hHeld ?_
  rotate_left
  · (intro w' hSw; (try dsimp only at hSw); go_simp; (try with_reducible rfl))
  simp only [List.setIfInBounds_toArray, List.set_cons_zero, List.set_cons_succ]
  refine wpAnyH_takeD (i := 14) (oi := { dst := some 20, op := Op.fieldAddr 55 (Operand.tmp 19) 1, type := 0, pos := "spine.go:30", after := #[{ on := 13, ground := Ground.data }], guard := none }) (d := 20) (v := ?_) rfl rfl (by kernel_rfl) (by kernel_rfl) (by kernel_rfl) (fun _ _ _ h => h) (Or.inl ⟨by rfl, ?_⟩) hHeld ?_
  rotate_left
  · (intro w' hSw; (try dsimp only at hSw); go_simp; (try with_reducible rfl))
  simp only [List.setIfInBounds_toArray, List.set_cons_zero, List.set_cons_succ]
  refine wpAnyH_takeD (i := 15) (oi := { dst := some 21, op := Op.load 3 (Operand.tmp 20), type := 3, pos := "spine.go:30", after := #[{ on := 14, ground := Ground.data }], guard := none }) (d := 21) (v := ?_) rfl rfl (by kernel_rfl) (by kernel_rfl) (by kernel_rfl) (fun _ _ _ h => h) (Or.inl ⟨by rfl, ?_⟩) hHeld ?_
  rotate_left
  · (intro w' hSw; (try dsimp only at hSw); go_simp; (try with_reducible rfl))
  simp only [List.setIfInBounds_toArray, List.set_cons_zero, List.set_cons_succ]
  refine wpAnyH_ready (rs := [16]) (by kernel_rfl) (by simp) ?_
  refine AllReadyH.cons (o := { dst := some 22, op := Op.call { callee := Callee.value (Operand.func 138), args := #[Operand.tmp 9, Operand.tmp 15, Operand.tmp 21], argTypes := #[63, 3, 3] }, type := 69, pos := "spine.go:30", after := #[{ on := 3, ground := Ground.data }, { on := 9, ground := Ground.data }, { on := 15, ground := Ground.data }], guard := none }) rfl (fun K hK => ?_) AllReadyH.nil
  (try go_simp)
  refine (pair_tab A B WA.out WB.out HT.out).mono ?_; rintro e V1 ⟨rfl, rfl⟩; rw [HRB.out.1, HRB.out.2]; have h := hHeld; go_simp
  go_wp2_with fail
  refine hK.out _ _ h (fun hHeld => ?_)
  clear hK K
  try simp only [Act.put, List.setIfInBounds_toArray, List.set_cons_zero, List.set_cons_succ]
  refine wpAnyH_takeD (i := 17) (oi := { dst := some 5, op := Op.move (Operand.tmp 22), type := 69, pos := "spine.go:30", after := #[{ on := 16, ground := Ground.data }], guard := none }) (d := 5) (v := ?_) rfl rfl (by kernel_rfl) (by kernel_rfl) (by kernel_rfl) (fun _ _ _ h => h) (Or.inl ⟨by rfl, ?_⟩) hHeld ?_
  rotate_left
  · (intro w' hSw; (try dsimp only at hSw); go_simp; (try with_reducible rfl))
  simp only [List.setIfInBounds_toArray, List.set_cons_zero, List.set_cons_succ]
  refine wpAnyH_takeD (i := 18) (oi := { dst := some 23, op := Op.extract (Operand.tmp 5) 0, type := 3, pos := "spine.go:30", after := #[{ on := 17, ground := Ground.data }], guard := none }) (d := 23) (v := ?_) rfl rfl (by kernel_rfl) (by kernel_rfl) (by kernel_rfl) (fun _ _ _ h => h) (Or.inl ⟨by rfl, ?_⟩) hHeld ?_
  rotate_left
  · (intro w' hSw; (try dsimp only at hSw); go_simp; (try with_reducible rfl))
  simp only [List.setIfInBounds_toArray, List.set_cons_zero, List.set_cons_succ]
  refine wpAnyH_takeD (i := 19) (oi := { dst := some 24, op := Op.extract (Operand.tmp 5) 1, type := 4, pos := "spine.go:30", after := #[{ on := 17, ground := Ground.data }, { on := 20, ground := Ground.gcOnly Departure.lateStores }], guard := none }) (d := 24) (v := ?_) rfl rfl (by kernel_rfl) (by kernel_rfl) (by kernel_rfl) (fun _ _ _ h => h) (Or.inl ⟨by rfl, ?_⟩) hHeld ?_
  rotate_left
  · (intro w' hSw; (try dsimp only at hSw); go_simp; (try with_reducible rfl))
  simp only [List.setIfInBounds_toArray, List.set_cons_zero, List.set_cons_succ]
  refine wpAnyH_takeD (i := 20) (oi := { dst := some 3, op := Op.assign (Operand.tmp 23), type := 3, pos := "spine.go:30", after := #[{ on := 18, ground := Ground.data }, { on := 16, ground := Ground.chain }, { on := 0, ground := Ground.phase }, { on := 1, ground := Ground.phase }, { on := 2, ground := Ground.phase }, { on := 3, ground := Ground.phase }, { on := 4, ground := Ground.phase }, { on := 5, ground := Ground.phase }, { on := 6, ground := Ground.phase }, { on := 7, ground := Ground.phase }, { on := 8, ground := Ground.phase }, { on := 9, ground := Ground.phase }, { on := 10, ground := Ground.phase }, { on := 11, ground := Ground.phase }, { on := 12, ground := Ground.phase }, { on := 13, ground := Ground.phase }, { on := 14, ground := Ground.phase }, { on := 15, ground := Ground.phase }, { on := 16, ground := Ground.phase }, { on := 17, ground := Ground.phase }, { on := 18, ground := Ground.phase }, { on := 19, ground := Ground.textOnly Departure.lateStores }], guard := none }) (d := 3) (v := ?_) rfl rfl (by kernel_rfl) (by kernel_rfl) (by kernel_rfl) (fun _ _ _ h => h) (Or.inl ⟨by rfl, ?_⟩) hHeld ?_
  rotate_left
  · (intro w' hSw; (try dsimp only at hSw); go_simp; (try with_reducible rfl))
  simp only [List.setIfInBounds_toArray, List.set_cons_zero, List.set_cons_succ]
  refine wpAnyH_takeD (i := 21) (oi := { dst := some 4, op := Op.assign (Operand.tmp 24), type := 4, pos := "spine.go:30", after := #[{ on := 19, ground := Ground.data }, { on := 20, ground := Ground.chain }, { on := 0, ground := Ground.phase }, { on := 1, ground := Ground.phase }, { on := 2, ground := Ground.phase }, { on := 3, ground := Ground.phase }, { on := 4, ground := Ground.phase }, { on := 5, ground := Ground.phase }, { on := 6, ground := Ground.phase }, { on := 7, ground := Ground.phase }, { on := 8, ground := Ground.phase }, { on := 9, ground := Ground.phase }, { on := 10, ground := Ground.phase }, { on := 11, ground := Ground.phase }, { on := 12, ground := Ground.phase }, { on := 13, ground := Ground.phase }, { on := 14, ground := Ground.phase }, { on := 15, ground := Ground.phase }, { on := 16, ground := Ground.phase }, { on := 17, ground := Ground.phase }, { on := 18, ground := Ground.phase }, { on := 19, ground := Ground.phase }, { on := 20, ground := Ground.phase }], guard := none }) (d := 4) (v := ?_) rfl rfl (by kernel_rfl) (by kernel_rfl) (by kernel_rfl) (fun _ _ _ h => h) (Or.inl ⟨by rfl, ?_⟩) hHeld ?_
  rotate_left
  · (intro w' hSw; (try dsimp only at hSw); go_simp; (try with_reducible rfl))
  simp only [List.setIfInBounds_toArray, List.set_cons_zero, List.set_cons_succ]
  refine wpAnyH_done (by kernel_rfl) ?_ _
  rcases b with _ | _
  · go_wp2_with fail
    go_ret
    exact ⟨rfl, HB0.out⟩
  · go_wp2_with fail
    go_ret
    exact ⟨rfl, HB0.out⟩
set_option maxHeartbeats 4000000 in
theorem apart_l (h : WalkIs w base wb tbase tb T sv mb mp A B lim st) (hc : B < A) (hA : bornT T A = true) (hx : 0 ≤ A ∧ A < 100000) (hst : 0 ≤ st ∧ st < 1000000000) :
    Calls Tryz.prog 104 #[.pointer (some ⟨wb, 0, none⟩)] w fun e w' => e = .returned (.bool true) ∧ WalkIs w' base wb tbase tb T sv mb mp (parT T A).2 B A (st + 1) ∧ Below base w w' := by
  have h0 := blk_cell h.blk 0
  have h1 := blk_cell h.blk 1
  simp only [List.getElem?_toArray, List.getElem?_cons_zero, List.getElem?_cons_succ] at h0 h1
  have HB0 : Hid (Below w.heap.size w w.drew) := Lib.hid ⟨rfl, rfl, rfl, Nat.le_refl _, fun _ _ => rfl⟩
  have HD := Lib.hid (h.below HB0.out (Nat.le_refl _))
  have HE := Lib.hid (Nat.le_trans h.le (Nat.le_of_lt (blk_lt h.blk)))
  have HNA := Lib.hid hA
  
  have hc' := hc
  clear h hA 
  go_enter Tryz.func104, Tryz.ntmps104
  go_upto_region 1 with fail
  refine wp_region_held_drew (S := fun V => V.cell? ⟨wb, 0, none⟩ = some (.int .i64 A) ∧ V.cell? ⟨wb, 1, none⟩ = some (.int .i64 B)) (by kernel_rfl) (by exact ⟨h0, h1⟩) (fun hHeld => ?_)
  refine wpAnyH_takeD (i := 0) (oi := { dst := some 3, op := Op.move (Operand.tmp 0), type := 116, pos := "spine.go:56", after := #[], guard := none }) (d := 3) (v := ?_) rfl rfl (by kernel_rfl) (by kernel_rfl) (by kernel_rfl) (fun _ _ _ h => h) (Or.inl ⟨by rfl, ?_⟩) hHeld ?_
  rotate_left
  · (intro w' hSw; (try dsimp only at hSw); go_simp; (try with_reducible rfl))
  simp only [List.setIfInBounds_toArray, List.set_cons_zero, List.set_cons_succ]
  refine wpAnyH_takeD (i := 1) (oi := { dst := some 4, op := Op.nilCheck (Operand.tmp 3), type := 0, pos := "spine.go:56", after := #[{ on := 0, ground := Ground.data }], guard := none }) (d := 4) (v := ?_) rfl rfl (by kernel_rfl) (by kernel_rfl) (by kernel_rfl) (fun _ _ _ h => h) (Or.inl ⟨by rfl, ?_⟩) hHeld ?_
  rotate_left
  · (intro w' hSw; (try dsimp only at hSw); go_simp; (try with_reducible rfl))
  simp only [List.setIfInBounds_toArray, List.set_cons_zero, List.set_cons_succ]
  refine wpAnyH_takeD (i := 2) (oi := { dst := some 5, op := Op.fieldAddr 121 (Operand.tmp 4) 0, type := 0, pos := "spine.go:56", after := #[{ on := 1, ground := Ground.data }], guard := none }) (d := 5) (v := ?_) rfl rfl (by kernel_rfl) (by kernel_rfl) (by kernel_rfl) (fun _ _ _ h => h) (Or.inl ⟨by rfl, ?_⟩) hHeld ?_
  rotate_left
  · (intro w' hSw; (try dsimp only at hSw); go_simp; (try with_reducible rfl))
  simp only [List.setIfInBounds_toArray, List.set_cons_zero, List.set_cons_succ]
  refine wpAnyH_takeD (i := 3) (oi := { dst := some 6, op := Op.fieldAddr 119 (Operand.tmp 5) 0, type := 0, pos := "spine.go:56", after := #[{ on := 2, ground := Ground.data }], guard := none }) (d := 6) (v := ?_) rfl rfl (by kernel_rfl) (by kernel_rfl) (by kernel_rfl) (fun _ _ _ h => h) (Or.inl ⟨by rfl, ?_⟩) hHeld ?_
  rotate_left
  · (intro w' hSw; (try dsimp only at hSw); go_simp; (try with_reducible rfl))
  simp only [List.setIfInBounds_toArray, List.set_cons_zero, List.set_cons_succ]
  refine wpAnyH_takeD (i := 4) (oi := { dst := some 7, op := Op.fieldAddr 55 (Operand.tmp 6) 0, type := 0, pos := "spine.go:56", after := #[{ on := 3, ground := Ground.data }], guard := none }) (d := 7) (v := ?_) rfl rfl (by kernel_rfl) (by kernel_rfl) (by kernel_rfl) (fun _ _ _ h => h) (Or.inl ⟨by rfl, ?_⟩) hHeld ?_
  rotate_left
  · (intro w' hSw; (try dsimp only at hSw); go_simp; (try with_reducible rfl))
  simp only [List.setIfInBounds_toArray, List.set_cons_zero, List.set_cons_succ]
  refine wpAnyH_takeD (i := 5) (oi := { dst := some 8, op := Op.load 3 (Operand.tmp 7), type := 3, pos := "spine.go:56", after := #[{ on := 4, ground := Ground.data }], guard := none }) (d := 8) (v := ?_) rfl rfl (by kernel_rfl) (by kernel_rfl) (by kernel_rfl) (fun _ _ _ h => h) (Or.inl ⟨by rfl, ?_⟩) hHeld ?_
  rotate_left
  · (intro w' hSw; (try dsimp only at hSw); go_simp; (try with_reducible rfl))
  simp only [List.setIfInBounds_toArray, List.set_cons_zero, List.set_cons_succ]
  refine wpAnyH_takeD (i := 6) (oi := { dst := some 9, op := Op.move (Operand.tmp 0), type := 116, pos := "spine.go:56", after := #[], guard := none }) (d := 9) (v := ?_) rfl rfl (by kernel_rfl) (by kernel_rfl) (by kernel_rfl) (fun _ _ _ h => h) (Or.inl ⟨by rfl, ?_⟩) hHeld ?_
  rotate_left
  · (intro w' hSw; (try dsimp only at hSw); go_simp; (try with_reducible rfl))
  simp only [List.setIfInBounds_toArray, List.set_cons_zero, List.set_cons_succ]
  refine wpAnyH_takeD (i := 7) (oi := { dst := some 10, op := Op.nilCheck (Operand.tmp 9), type := 0, pos := "spine.go:56", after := #[{ on := 6, ground := Ground.data }], guard := none }) (d := 10) (v := ?_) rfl rfl (by kernel_rfl) (by kernel_rfl) (by kernel_rfl) (fun _ _ _ h => h) (Or.inl ⟨by rfl, ?_⟩) hHeld ?_
  rotate_left
  · (intro w' hSw; (try dsimp only at hSw); go_simp; (try with_reducible rfl))
  simp only [List.setIfInBounds_toArray, List.set_cons_zero, List.set_cons_succ]
  refine wpAnyH_takeD (i := 8) (oi := { dst := some 11, op := Op.fieldAddr 121 (Operand.tmp 10) 0, type := 0, pos := "spine.go:56", after := #[{ on := 7, ground := Ground.data }], guard := none }) (d := 11) (v := ?_) rfl rfl (by kernel_rfl) (by kernel_rfl) (by kernel_rfl) (fun _ _ _ h => h) (Or.inl ⟨by rfl, ?_⟩) hHeld ?_
  rotate_left
  · (intro w' hSw; (try dsimp only at hSw); go_simp; (try with_reducible rfl))
  simp only [List.setIfInBounds_toArray, List.set_cons_zero, List.set_cons_succ]
  refine wpAnyH_takeD (i := 9) (oi := { dst := some 12, op := Op.fieldAddr 119 (Operand.tmp 11) 0, type := 0, pos := "spine.go:56", after := #[{ on := 8, ground := Ground.data }], guard := none }) (d := 12) (v := ?_) rfl rfl (by kernel_rfl) (by kernel_rfl) (by kernel_rfl) (fun _ _ _ h => h) (Or.inl ⟨by rfl, ?_⟩) hHeld ?_
  rotate_left
  · (intro w' hSw; (try dsimp only at hSw); go_simp; (try with_reducible rfl))
  simp only [List.setIfInBounds_toArray, List.set_cons_zero, List.set_cons_succ]
  refine wpAnyH_takeD (i := 10) (oi := { dst := some 13, op := Op.fieldAddr 55 (Operand.tmp 12) 1, type := 0, pos := "spine.go:56", after := #[{ on := 9, ground := Ground.data }], guard := none }) (d := 13) (v := ?_) rfl rfl (by kernel_rfl) (by kernel_rfl) (by kernel_rfl) (fun _ _ _ h => h) (Or.inl ⟨by rfl, ?_⟩) hHeld ?_
  rotate_left
  · (intro w' hSw; (try dsimp only at hSw); go_simp; (try with_reducible rfl))
  simp only [List.setIfInBounds_toArray, List.set_cons_zero, List.set_cons_succ]
  refine wpAnyH_takeD (i := 11) (oi := { dst := some 14, op := Op.load 3 (Operand.tmp 13), type := 3, pos := "spine.go:56", after := #[{ on := 10, ground := Ground.data }], guard := none }) (d := 14) (v := ?_) rfl rfl (by kernel_rfl) (by kernel_rfl) (by kernel_rfl) (fun _ _ _ h => h) (Or.inl ⟨by rfl, ?_⟩) hHeld ?_
  rotate_left
  · (intro w' hSw; (try dsimp only at hSw); go_simp; (try with_reducible rfl))
  simp only [List.setIfInBounds_toArray, List.set_cons_zero, List.set_cons_succ]
  refine wpAnyH_takeD (i := 12) (oi := { dst := some 15, op := Op.binOp BinOp.gtr 3 (Operand.tmp 8) (Operand.tmp 14) 3, type := 4, pos := "spine.go:56", after := #[{ on := 5, ground := Ground.data }, { on := 11, ground := Ground.data }], guard := none }) (d := 15) (v := ?_) rfl rfl (by kernel_rfl) (by kernel_rfl) (by kernel_rfl) (fun _ _ _ h => h) (Or.inl ⟨by rfl, ?_⟩) hHeld ?_
  rotate_left
  · (intro w' hSw; (try dsimp only at hSw); go_simp; (try with_reducible rfl))
  simp only [List.setIfInBounds_toArray, List.set_cons_zero, List.set_cons_succ]
  refine wpAnyH_done (by kernel_rfl) ?_ _
  clear hHeld h0 h1
  generalize w.drew = W0 at *
  go_wp2_with ((refine (left_yes HD.out HNA.out hx hst).mono ?_); (rintro e V1 ⟨rfl, hw, hb⟩); (have HW := Lib.hid hw); (have HB1 := Lib.hid ((HB0.out.mono HE.out).trans hb)); (clear hw hb))
  go_ret
  exact ⟨rfl, HW.out, HB1.out⟩
set_option maxHeartbeats 4000000 in
theorem apart_r (h : WalkIs w base wb tbase tb T sv mb mp A B lim st) (hc : A ≤ B) (hB : bornT T B = true) (hx : 0 ≤ B ∧ B < 100000) (hst : 0 ≤ st ∧ st < 1000000000) :
    Calls Tryz.prog 104 #[.pointer (some ⟨wb, 0, none⟩)] w fun e w' => e = .returned (.bool true) ∧ WalkIs w' base wb tbase tb T sv mb mp A (parT T B).1 (B + 1) (st + 1) ∧ Below base w w' := by
  have h0 := blk_cell h.blk 0
  have h1 := blk_cell h.blk 1
  simp only [List.getElem?_toArray, List.getElem?_cons_zero, List.getElem?_cons_succ] at h0 h1
  have HB0 : Hid (Below w.heap.size w w.drew) := Lib.hid ⟨rfl, rfl, rfl, Nat.le_refl _, fun _ _ => rfl⟩
  have HD := Lib.hid (h.below HB0.out (Nat.le_refl _))
  have HE := Lib.hid (Nat.le_trans h.le (Nat.le_of_lt (blk_lt h.blk)))
  
  have HNB := Lib.hid hB
  have hc' := hc
  clear h  hB
  go_enter Tryz.func104, Tryz.ntmps104
  go_upto_region 1 with fail
  refine wp_region_held_drew (S := fun V => V.cell? ⟨wb, 0, none⟩ = some (.int .i64 A) ∧ V.cell? ⟨wb, 1, none⟩ = some (.int .i64 B)) (by kernel_rfl) (by exact ⟨h0, h1⟩) (fun hHeld => ?_)
  refine wpAnyH_takeD (i := 0) (oi := { dst := some 3, op := Op.move (Operand.tmp 0), type := 116, pos := "spine.go:56", after := #[], guard := none }) (d := 3) (v := ?_) rfl rfl (by kernel_rfl) (by kernel_rfl) (by kernel_rfl) (fun _ _ _ h => h) (Or.inl ⟨by rfl, ?_⟩) hHeld ?_
  rotate_left
  · (intro w' hSw; (try dsimp only at hSw); go_simp; (try with_reducible rfl))
  simp only [List.setIfInBounds_toArray, List.set_cons_zero, List.set_cons_succ]
  refine wpAnyH_takeD (i := 1) (oi := { dst := some 4, op := Op.nilCheck (Operand.tmp 3), type := 0, pos := "spine.go:56", after := #[{ on := 0, ground := Ground.data }], guard := none }) (d := 4) (v := ?_) rfl rfl (by kernel_rfl) (by kernel_rfl) (by kernel_rfl) (fun _ _ _ h => h) (Or.inl ⟨by rfl, ?_⟩) hHeld ?_
  rotate_left
  · (intro w' hSw; (try dsimp only at hSw); go_simp; (try with_reducible rfl))
  simp only [List.setIfInBounds_toArray, List.set_cons_zero, List.set_cons_succ]
  refine wpAnyH_takeD (i := 2) (oi := { dst := some 5, op := Op.fieldAddr 121 (Operand.tmp 4) 0, type := 0, pos := "spine.go:56", after := #[{ on := 1, ground := Ground.data }], guard := none }) (d := 5) (v := ?_) rfl rfl (by kernel_rfl) (by kernel_rfl) (by kernel_rfl) (fun _ _ _ h => h) (Or.inl ⟨by rfl, ?_⟩) hHeld ?_
  rotate_left
  · (intro w' hSw; (try dsimp only at hSw); go_simp; (try with_reducible rfl))
  simp only [List.setIfInBounds_toArray, List.set_cons_zero, List.set_cons_succ]
  refine wpAnyH_takeD (i := 3) (oi := { dst := some 6, op := Op.fieldAddr 119 (Operand.tmp 5) 0, type := 0, pos := "spine.go:56", after := #[{ on := 2, ground := Ground.data }], guard := none }) (d := 6) (v := ?_) rfl rfl (by kernel_rfl) (by kernel_rfl) (by kernel_rfl) (fun _ _ _ h => h) (Or.inl ⟨by rfl, ?_⟩) hHeld ?_
  rotate_left
  · (intro w' hSw; (try dsimp only at hSw); go_simp; (try with_reducible rfl))
  simp only [List.setIfInBounds_toArray, List.set_cons_zero, List.set_cons_succ]
  refine wpAnyH_takeD (i := 4) (oi := { dst := some 7, op := Op.fieldAddr 55 (Operand.tmp 6) 0, type := 0, pos := "spine.go:56", after := #[{ on := 3, ground := Ground.data }], guard := none }) (d := 7) (v := ?_) rfl rfl (by kernel_rfl) (by kernel_rfl) (by kernel_rfl) (fun _ _ _ h => h) (Or.inl ⟨by rfl, ?_⟩) hHeld ?_
  rotate_left
  · (intro w' hSw; (try dsimp only at hSw); go_simp; (try with_reducible rfl))
  simp only [List.setIfInBounds_toArray, List.set_cons_zero, List.set_cons_succ]
  refine wpAnyH_takeD (i := 5) (oi := { dst := some 8, op := Op.load 3 (Operand.tmp 7), type := 3, pos := "spine.go:56", after := #[{ on := 4, ground := Ground.data }], guard := none }) (d := 8) (v := ?_) rfl rfl (by kernel_rfl) (by kernel_rfl) (by kernel_rfl) (fun _ _ _ h => h) (Or.inl ⟨by rfl, ?_⟩) hHeld ?_
  rotate_left
  · (intro w' hSw; (try dsimp only at hSw); go_simp; (try with_reducible rfl))
  simp only [List.setIfInBounds_toArray, List.set_cons_zero, List.set_cons_succ]
  refine wpAnyH_takeD (i := 6) (oi := { dst := some 9, op := Op.move (Operand.tmp 0), type := 116, pos := "spine.go:56", after := #[], guard := none }) (d := 9) (v := ?_) rfl rfl (by kernel_rfl) (by kernel_rfl) (by kernel_rfl) (fun _ _ _ h => h) (Or.inl ⟨by rfl, ?_⟩) hHeld ?_
  rotate_left
  · (intro w' hSw; (try dsimp only at hSw); go_simp; (try with_reducible rfl))
  simp only [List.setIfInBounds_toArray, List.set_cons_zero, List.set_cons_succ]
  refine wpAnyH_takeD (i := 7) (oi := { dst := some 10, op := Op.nilCheck (Operand.tmp 9), type := 0, pos := "spine.go:56", after := #[{ on := 6, ground := Ground.data }], guard := none }) (d := 10) (v := ?_) rfl rfl (by kernel_rfl) (by kernel_rfl) (by kernel_rfl) (fun _ _ _ h => h) (Or.inl ⟨by rfl, ?_⟩) hHeld ?_
  rotate_left
  · (intro w' hSw; (try dsimp only at hSw); go_simp; (try with_reducible rfl))
  simp only [List.setIfInBounds_toArray, List.set_cons_zero, List.set_cons_succ]
  refine wpAnyH_takeD (i := 8) (oi := { dst := some 11, op := Op.fieldAddr 121 (Operand.tmp 10) 0, type := 0, pos := "spine.go:56", after := #[{ on := 7, ground := Ground.data }], guard := none }) (d := 11) (v := ?_) rfl rfl (by kernel_rfl) (by kernel_rfl) (by kernel_rfl) (fun _ _ _ h => h) (Or.inl ⟨by rfl, ?_⟩) hHeld ?_
  rotate_left
  · (intro w' hSw; (try dsimp only at hSw); go_simp; (try with_reducible rfl))
  simp only [List.setIfInBounds_toArray, List.set_cons_zero, List.set_cons_succ]
  refine wpAnyH_takeD (i := 9) (oi := { dst := some 12, op := Op.fieldAddr 119 (Operand.tmp 11) 0, type := 0, pos := "spine.go:56", after := #[{ on := 8, ground := Ground.data }], guard := none }) (d := 12) (v := ?_) rfl rfl (by kernel_rfl) (by kernel_rfl) (by kernel_rfl) (fun _ _ _ h => h) (Or.inl ⟨by rfl, ?_⟩) hHeld ?_
  rotate_left
  · (intro w' hSw; (try dsimp only at hSw); go_simp; (try with_reducible rfl))
  simp only [List.setIfInBounds_toArray, List.set_cons_zero, List.set_cons_succ]
  refine wpAnyH_takeD (i := 10) (oi := { dst := some 13, op := Op.fieldAddr 55 (Operand.tmp 12) 1, type := 0, pos := "spine.go:56", after := #[{ on := 9, ground := Ground.data }], guard := none }) (d := 13) (v := ?_) rfl rfl (by kernel_rfl) (by kernel_rfl) (by kernel_rfl) (fun _ _ _ h => h) (Or.inl ⟨by rfl, ?_⟩) hHeld ?_
  rotate_left
  · (intro w' hSw; (try dsimp only at hSw); go_simp; (try with_reducible rfl))
  simp only [List.setIfInBounds_toArray, List.set_cons_zero, List.set_cons_succ]
  refine wpAnyH_takeD (i := 11) (oi := { dst := some 14, op := Op.load 3 (Operand.tmp 13), type := 3, pos := "spine.go:56", after := #[{ on := 10, ground := Ground.data }], guard := none }) (d := 14) (v := ?_) rfl rfl (by kernel_rfl) (by kernel_rfl) (by kernel_rfl) (fun _ _ _ h => h) (Or.inl ⟨by rfl, ?_⟩) hHeld ?_
  rotate_left
  · (intro w' hSw; (try dsimp only at hSw); go_simp; (try with_reducible rfl))
  simp only [List.setIfInBounds_toArray, List.set_cons_zero, List.set_cons_succ]
  refine wpAnyH_takeD (i := 12) (oi := { dst := some 15, op := Op.binOp BinOp.gtr 3 (Operand.tmp 8) (Operand.tmp 14) 3, type := 4, pos := "spine.go:56", after := #[{ on := 5, ground := Ground.data }, { on := 11, ground := Ground.data }], guard := none }) (d := 15) (v := ?_) rfl rfl (by kernel_rfl) (by kernel_rfl) (by kernel_rfl) (fun _ _ _ h => h) (Or.inl ⟨by rfl, ?_⟩) hHeld ?_
  rotate_left
  · (intro w' hSw; (try dsimp only at hSw); go_simp; (try with_reducible rfl))
  simp only [List.setIfInBounds_toArray, List.set_cons_zero, List.set_cons_succ]
  refine wpAnyH_done (by kernel_rfl) ?_ _
  clear hHeld h0 h1
  generalize w.drew = W0 at *
  go_wp2_with ((refine (right_yes HD.out HNB.out hx hst).mono ?_); (rintro e V1 ⟨rfl, hw, hb⟩); (have HW := Lib.hid hw); (have HB1 := Lib.hid ((HB0.out.mono HE.out).trans hb)); (clear hw hb))
  go_ret
  exact ⟨rfl, HW.out, HB1.out⟩
set_option maxHeartbeats 4000000 in
theorem apart_n1 (h : WalkIs w base wb tbase tb T sv mb mp A B lim st) (hc : B < A) (hA : bornT T A = false) (hB : bornT T B = false) :
    Calls Tryz.prog 104 #[.pointer (some ⟨wb, 0, none⟩)] w fun e w' => e = .returned (.bool false) ∧ Below w.heap.size w w' := by
  have h0 := blk_cell h.blk 0
  have h1 := blk_cell h.blk 1
  simp only [List.getElem?_toArray, List.getElem?_cons_zero, List.getElem?_cons_succ] at h0 h1
  have HB0 : Hid (Below w.heap.size w w.drew) := Lib.hid ⟨rfl, rfl, rfl, Nat.le_refl _, fun _ _ => rfl⟩
  have HD := Lib.hid (h.below HB0.out (Nat.le_refl _))
  have HE := Lib.hid (Nat.le_trans h.le (Nat.le_of_lt (blk_lt h.blk)))
  have HNA := Lib.hid hA
  have HNB := Lib.hid hB
  have hc' := hc
  clear h hA hB
  go_enter Tryz.func104, Tryz.ntmps104
  go_upto_region 1 with fail
  refine wp_region_held_drew (S := fun V => V.cell? ⟨wb, 0, none⟩ = some (.int .i64 A) ∧ V.cell? ⟨wb, 1, none⟩ = some (.int .i64 B)) (by kernel_rfl) (by exact ⟨h0, h1⟩) (fun hHeld => ?_)
  refine wpAnyH_takeD (i := 0) (oi := { dst := some 3, op := Op.move (Operand.tmp 0), type := 116, pos := "spine.go:56", after := #[], guard := none }) (d := 3) (v := ?_) rfl rfl (by kernel_rfl) (by kernel_rfl) (by kernel_rfl) (fun _ _ _ h => h) (Or.inl ⟨by rfl, ?_⟩) hHeld ?_
  rotate_left
  · (intro w' hSw; (try dsimp only at hSw); go_simp; (try with_reducible rfl))
  simp only [List.setIfInBounds_toArray, List.set_cons_zero, List.set_cons_succ]
  refine wpAnyH_takeD (i := 1) (oi := { dst := some 4, op := Op.nilCheck (Operand.tmp 3), type := 0, pos := "spine.go:56", after := #[{ on := 0, ground := Ground.data }], guard := none }) (d := 4) (v := ?_) rfl rfl (by kernel_rfl) (by kernel_rfl) (by kernel_rfl) (fun _ _ _ h => h) (Or.inl ⟨by rfl, ?_⟩) hHeld ?_
  rotate_left
  · (intro w' hSw; (try dsimp only at hSw); go_simp; (try with_reducible rfl))
  simp only [List.setIfInBounds_toArray, List.set_cons_zero, List.set_cons_succ]
  refine wpAnyH_takeD (i := 2) (oi := { dst := some 5, op := Op.fieldAddr 121 (Operand.tmp 4) 0, type := 0, pos := "spine.go:56", after := #[{ on := 1, ground := Ground.data }], guard := none }) (d := 5) (v := ?_) rfl rfl (by kernel_rfl) (by kernel_rfl) (by kernel_rfl) (fun _ _ _ h => h) (Or.inl ⟨by rfl, ?_⟩) hHeld ?_
  rotate_left
  · (intro w' hSw; (try dsimp only at hSw); go_simp; (try with_reducible rfl))
  simp only [List.setIfInBounds_toArray, List.set_cons_zero, List.set_cons_succ]
  refine wpAnyH_takeD (i := 3) (oi := { dst := some 6, op := Op.fieldAddr 119 (Operand.tmp 5) 0, type := 0, pos := "spine.go:56", after := #[{ on := 2, ground := Ground.data }], guard := none }) (d := 6) (v := ?_) rfl rfl (by kernel_rfl) (by kernel_rfl) (by kernel_rfl) (fun _ _ _ h => h) (Or.inl ⟨by rfl, ?_⟩) hHeld ?_
  rotate_left
  · (intro w' hSw; (try dsimp only at hSw); go_simp; (try with_reducible rfl))
  simp only [List.setIfInBounds_toArray, List.set_cons_zero, List.set_cons_succ]
  refine wpAnyH_takeD (i := 4) (oi := { dst := some 7, op := Op.fieldAddr 55 (Operand.tmp 6) 0, type := 0, pos := "spine.go:56", after := #[{ on := 3, ground := Ground.data }], guard := none }) (d := 7) (v := ?_) rfl rfl (by kernel_rfl) (by kernel_rfl) (by kernel_rfl) (fun _ _ _ h => h) (Or.inl ⟨by rfl, ?_⟩) hHeld ?_
  rotate_left
  · (intro w' hSw; (try dsimp only at hSw); go_simp; (try with_reducible rfl))
  simp only [List.setIfInBounds_toArray, List.set_cons_zero, List.set_cons_succ]
  refine wpAnyH_takeD (i := 5) (oi := { dst := some 8, op := Op.load 3 (Operand.tmp 7), type := 3, pos := "spine.go:56", after := #[{ on := 4, ground := Ground.data }], guard := none }) (d := 8) (v := ?_) rfl rfl (by kernel_rfl) (by kernel_rfl) (by kernel_rfl) (fun _ _ _ h => h) (Or.inl ⟨by rfl, ?_⟩) hHeld ?_
  rotate_left
  · (intro w' hSw; (try dsimp only at hSw); go_simp; (try with_reducible rfl))
  simp only [List.setIfInBounds_toArray, List.set_cons_zero, List.set_cons_succ]
  refine wpAnyH_takeD (i := 6) (oi := { dst := some 9, op := Op.move (Operand.tmp 0), type := 116, pos := "spine.go:56", after := #[], guard := none }) (d := 9) (v := ?_) rfl rfl (by kernel_rfl) (by kernel_rfl) (by kernel_rfl) (fun _ _ _ h => h) (Or.inl ⟨by rfl, ?_⟩) hHeld ?_
  rotate_left
  · (intro w' hSw; (try dsimp only at hSw); go_simp; (try with_reducible rfl))
  simp only [List.setIfInBounds_toArray, List.set_cons_zero, List.set_cons_succ]
  refine wpAnyH_takeD (i := 7) (oi := { dst := some 10, op := Op.nilCheck (Operand.tmp 9), type := 0, pos := "spine.go:56", after := #[{ on := 6, ground := Ground.data }], guard := none }) (d := 10) (v := ?_) rfl rfl (by kernel_rfl) (by kernel_rfl) (by kernel_rfl) (fun _ _ _ h => h) (Or.inl ⟨by rfl, ?_⟩) hHeld ?_
  rotate_left
  · (intro w' hSw; (try dsimp only at hSw); go_simp; (try with_reducible rfl))
  simp only [List.setIfInBounds_toArray, List.set_cons_zero, List.set_cons_succ]
  refine wpAnyH_takeD (i := 8) (oi := { dst := some 11, op := Op.fieldAddr 121 (Operand.tmp 10) 0, type := 0, pos := "spine.go:56", after := #[{ on := 7, ground := Ground.data }], guard := none }) (d := 11) (v := ?_) rfl rfl (by kernel_rfl) (by kernel_rfl) (by kernel_rfl) (fun _ _ _ h => h) (Or.inl ⟨by rfl, ?_⟩) hHeld ?_
  rotate_left
  · (intro w' hSw; (try dsimp only at hSw); go_simp; (try with_reducible rfl))
  simp only [List.setIfInBounds_toArray, List.set_cons_zero, List.set_cons_succ]
  refine wpAnyH_takeD (i := 9) (oi := { dst := some 12, op := Op.fieldAddr 119 (Operand.tmp 11) 0, type := 0, pos := "spine.go:56", after := #[{ on := 8, ground := Ground.data }], guard := none }) (d := 12) (v := ?_) rfl rfl (by kernel_rfl) (by kernel_rfl) (by kernel_rfl) (fun _ _ _ h => h) (Or.inl ⟨by rfl, ?_⟩) hHeld ?_
  rotate_left
  · (intro w' hSw; (try dsimp only at hSw); go_simp; (try with_reducible rfl))
  simp only [List.setIfInBounds_toArray, List.set_cons_zero, List.set_cons_succ]
  refine wpAnyH_takeD (i := 10) (oi := { dst := some 13, op := Op.fieldAddr 55 (Operand.tmp 12) 1, type := 0, pos := "spine.go:56", after := #[{ on := 9, ground := Ground.data }], guard := none }) (d := 13) (v := ?_) rfl rfl (by kernel_rfl) (by kernel_rfl) (by kernel_rfl) (fun _ _ _ h => h) (Or.inl ⟨by rfl, ?_⟩) hHeld ?_
  rotate_left
  · (intro w' hSw; (try dsimp only at hSw); go_simp; (try with_reducible rfl))
  simp only [List.setIfInBounds_toArray, List.set_cons_zero, List.set_cons_succ]
  refine wpAnyH_takeD (i := 11) (oi := { dst := some 14, op := Op.load 3 (Operand.tmp 13), type := 3, pos := "spine.go:56", after := #[{ on := 10, ground := Ground.data }], guard := none }) (d := 14) (v := ?_) rfl rfl (by kernel_rfl) (by kernel_rfl) (by kernel_rfl) (fun _ _ _ h => h) (Or.inl ⟨by rfl, ?_⟩) hHeld ?_
  rotate_left
  · (intro w' hSw; (try dsimp only at hSw); go_simp; (try with_reducible rfl))
  simp only [List.setIfInBounds_toArray, List.set_cons_zero, List.set_cons_succ]
  refine wpAnyH_takeD (i := 12) (oi := { dst := some 15, op := Op.binOp BinOp.gtr 3 (Operand.tmp 8) (Operand.tmp 14) 3, type := 4, pos := "spine.go:56", after := #[{ on := 5, ground := Ground.data }, { on := 11, ground := Ground.data }], guard := none }) (d := 15) (v := ?_) rfl rfl (by kernel_rfl) (by kernel_rfl) (by kernel_rfl) (fun _ _ _ h => h) (Or.inl ⟨by rfl, ?_⟩) hHeld ?_
  rotate_left
  · (intro w' hSw; (try dsimp only at hSw); go_simp; (try with_reducible rfl))
  simp only [List.setIfInBounds_toArray, List.set_cons_zero, List.set_cons_succ]
  refine wpAnyH_done (by kernel_rfl) ?_ _
  clear hHeld h0 h1
  generalize w.drew = W0 at *
  go_wp2_with (first | ((refine (left_no HD.out HNA.out).mono ?_); (rintro e V1 ⟨rfl, hb⟩); (have HB1 := Lib.hid (HB0.out.trans (hb.mono HB0.out.size))); (have HD1 := Lib.hid (HD.out.below hb (Nat.le_refl _))); (clear hb)) | ((refine (right_no HD1.out HNB.out).mono ?_); (rintro e V2 ⟨rfl, hb⟩); (have HB2 := Lib.hid (HB1.out.trans (hb.mono HB1.out.size))); (clear hb)))
  go_ret
  exact ⟨rfl, HB2.out⟩
set_option maxHeartbeats 4000000 in
theorem apart_n2 (h : WalkIs w base wb tbase tb T sv mb mp A B lim st) (hc : A ≤ B) (hA : bornT T A = false) (hB : bornT T B = false) :
    Calls Tryz.prog 104 #[.pointer (some ⟨wb, 0, none⟩)] w fun e w' => e = .returned (.bool false) ∧ Below w.heap.size w w' := by
  have h0 := blk_cell h.blk 0
  have h1 := blk_cell h.blk 1
  simp only [List.getElem?_toArray, List.getElem?_cons_zero, List.getElem?_cons_succ] at h0 h1
  have HB0 : Hid (Below w.heap.size w w.drew) := Lib.hid ⟨rfl, rfl, rfl, Nat.le_refl _, fun _ _ => rfl⟩
  have HD := Lib.hid (h.below HB0.out (Nat.le_refl _))
  have HE := Lib.hid (Nat.le_trans h.le (Nat.le_of_lt (blk_lt h.blk)))
  have HNA := Lib.hid hA
  have HNB := Lib.hid hB
  have hc' := hc
  clear h hA hB
  go_enter Tryz.func104, Tryz.ntmps104
  go_upto_region 1 with fail
  refine wp_region_held_drew (S := fun V => V.cell? ⟨wb, 0, none⟩ = some (.int .i64 A) ∧ V.cell? ⟨wb, 1, none⟩ = some (.int .i64 B)) (by kernel_rfl) (by exact ⟨h0, h1⟩) (fun hHeld => ?_)
  refine wpAnyH_takeD (i := 0) (oi := { dst := some 3, op := Op.move (Operand.tmp 0), type := 116, pos := "spine.go:56", after := #[], guard := none }) (d := 3) (v := ?_) rfl rfl (by kernel_rfl) (by kernel_rfl) (by kernel_rfl) (fun _ _ _ h => h) (Or.inl ⟨by rfl, ?_⟩) hHeld ?_
  rotate_left
  · (intro w' hSw; (try dsimp only at hSw); go_simp; (try with_reducible rfl))
  simp only [List.setIfInBounds_toArray, List.set_cons_zero, List.set_cons_succ]
  refine wpAnyH_takeD (i := 1) (oi := { dst := some 4, op := Op.nilCheck (Operand.tmp 3), type := 0, pos := "spine.go:56", after := #[{ on := 0, ground := Ground.data }], guard := none }) (d := 4) (v := ?_) rfl rfl (by kernel_rfl) (by kernel_rfl) (by kernel_rfl) (fun _ _ _ h => h) (Or.inl ⟨by rfl, ?_⟩) hHeld ?_
  rotate_left
  · (intro w' hSw; (try dsimp only at hSw); go_simp; (try with_reducible rfl))
  simp only [List.setIfInBounds_toArray, List.set_cons_zero, List.set_cons_succ]
  refine wpAnyH_takeD (i := 2) (oi := { dst := some 5, op := Op.fieldAddr 121 (Operand.tmp 4) 0, type := 0, pos := "spine.go:56", after := #[{ on := 1, ground := Ground.data }], guard := none }) (d := 5) (v := ?_) rfl rfl (by kernel_rfl) (by kernel_rfl) (by kernel_rfl) (fun _ _ _ h => h) (Or.inl ⟨by rfl, ?_⟩) hHeld ?_
  rotate_left
  · (intro w' hSw; (try dsimp only at hSw); go_simp; (try with_reducible rfl))
  simp only [List.setIfInBounds_toArray, List.set_cons_zero, List.set_cons_succ]
  refine wpAnyH_takeD (i := 3) (oi := { dst := some 6, op := Op.fieldAddr 119 (Operand.tmp 5) 0, type := 0, pos := "spine.go:56", after := #[{ on := 2, ground := Ground.data }], guard := none }) (d := 6) (v := ?_) rfl rfl (by kernel_rfl) (by kernel_rfl) (by kernel_rfl) (fun _ _ _ h => h) (Or.inl ⟨by rfl, ?_⟩) hHeld ?_
  rotate_left
  · (intro w' hSw; (try dsimp only at hSw); go_simp; (try with_reducible rfl))
  simp only [List.setIfInBounds_toArray, List.set_cons_zero, List.set_cons_succ]
  refine wpAnyH_takeD (i := 4) (oi := { dst := some 7, op := Op.fieldAddr 55 (Operand.tmp 6) 0, type := 0, pos := "spine.go:56", after := #[{ on := 3, ground := Ground.data }], guard := none }) (d := 7) (v := ?_) rfl rfl (by kernel_rfl) (by kernel_rfl) (by kernel_rfl) (fun _ _ _ h => h) (Or.inl ⟨by rfl, ?_⟩) hHeld ?_
  rotate_left
  · (intro w' hSw; (try dsimp only at hSw); go_simp; (try with_reducible rfl))
  simp only [List.setIfInBounds_toArray, List.set_cons_zero, List.set_cons_succ]
  refine wpAnyH_takeD (i := 5) (oi := { dst := some 8, op := Op.load 3 (Operand.tmp 7), type := 3, pos := "spine.go:56", after := #[{ on := 4, ground := Ground.data }], guard := none }) (d := 8) (v := ?_) rfl rfl (by kernel_rfl) (by kernel_rfl) (by kernel_rfl) (fun _ _ _ h => h) (Or.inl ⟨by rfl, ?_⟩) hHeld ?_
  rotate_left
  · (intro w' hSw; (try dsimp only at hSw); go_simp; (try with_reducible rfl))
  simp only [List.setIfInBounds_toArray, List.set_cons_zero, List.set_cons_succ]
  refine wpAnyH_takeD (i := 6) (oi := { dst := some 9, op := Op.move (Operand.tmp 0), type := 116, pos := "spine.go:56", after := #[], guard := none }) (d := 9) (v := ?_) rfl rfl (by kernel_rfl) (by kernel_rfl) (by kernel_rfl) (fun _ _ _ h => h) (Or.inl ⟨by rfl, ?_⟩) hHeld ?_
  rotate_left
  · (intro w' hSw; (try dsimp only at hSw); go_simp; (try with_reducible rfl))
  simp only [List.setIfInBounds_toArray, List.set_cons_zero, List.set_cons_succ]
  refine wpAnyH_takeD (i := 7) (oi := { dst := some 10, op := Op.nilCheck (Operand.tmp 9), type := 0, pos := "spine.go:56", after := #[{ on := 6, ground := Ground.data }], guard := none }) (d := 10) (v := ?_) rfl rfl (by kernel_rfl) (by kernel_rfl) (by kernel_rfl) (fun _ _ _ h => h) (Or.inl ⟨by rfl, ?_⟩) hHeld ?_
  rotate_left
  · (intro w' hSw; (try dsimp only at hSw); go_simp; (try with_reducible rfl))
  simp only [List.setIfInBounds_toArray, List.set_cons_zero, List.set_cons_succ]
  refine wpAnyH_takeD (i := 8) (oi := { dst := some 11, op := Op.fieldAddr 121 (Operand.tmp 10) 0, type := 0, pos := "spine.go:56", after := #[{ on := 7, ground := Ground.data }], guard := none }) (d := 11) (v := ?_) rfl rfl (by kernel_rfl) (by kernel_rfl) (by kernel_rfl) (fun _ _ _ h => h) (Or.inl ⟨by rfl, ?_⟩) hHeld ?_
  rotate_left
  · (intro w' hSw; (try dsimp only at hSw); go_simp; (try with_reducible rfl))
  simp only [List.setIfInBounds_toArray, List.set_cons_zero, List.set_cons_succ]
  refine wpAnyH_takeD (i := 9) (oi := { dst := some 12, op := Op.fieldAddr 119 (Operand.tmp 11) 0, type := 0, pos := "spine.go:56", after := #[{ on := 8, ground := Ground.data }], guard := none }) (d := 12) (v := ?_) rfl rfl (by kernel_rfl) (by kernel_rfl) (by kernel_rfl) (fun _ _ _ h => h) (Or.inl ⟨by rfl, ?_⟩) hHeld ?_
  rotate_left
  · (intro w' hSw; (try dsimp only at hSw); go_simp; (try with_reducible rfl))
  simp only [List.setIfInBounds_toArray, List.set_cons_zero, List.set_cons_succ]
  refine wpAnyH_takeD (i := 10) (oi := { dst := some 13, op := Op.fieldAddr 55 (Operand.tmp 12) 1, type := 0, pos := "spine.go:56", after := #[{ on := 9, ground := Ground.data }], guard := none }) (d := 13) (v := ?_) rfl rfl (by kernel_rfl) (by kernel_rfl) (by kernel_rfl) (fun _ _ _ h => h) (Or.inl ⟨by rfl, ?_⟩) hHeld ?_
  rotate_left
  · (intro w' hSw; (try dsimp only at hSw); go_simp; (try with_reducible rfl))
  simp only [List.setIfInBounds_toArray, List.set_cons_zero, List.set_cons_succ]
  refine wpAnyH_takeD (i := 11) (oi := { dst := some 14, op := Op.load 3 (Operand.tmp 13), type := 3, pos := "spine.go:56", after := #[{ on := 10, ground := Ground.data }], guard := none }) (d := 14) (v := ?_) rfl rfl (by kernel_rfl) (by kernel_rfl) (by kernel_rfl) (fun _ _ _ h => h) (Or.inl ⟨by rfl, ?_⟩) hHeld ?_
  rotate_left
  · (intro w' hSw; (try dsimp only at hSw); go_simp; (try with_reducible rfl))
  simp only [List.setIfInBounds_toArray, List.set_cons_zero, List.set_cons_succ]
  refine wpAnyH_takeD (i := 12) (oi := { dst := some 15, op := Op.binOp BinOp.gtr 3 (Operand.tmp 8) (Operand.tmp 14) 3, type := 4, pos := "spine.go:56", after := #[{ on := 5, ground := Ground.data }, { on := 11, ground := Ground.data }], guard := none }) (d := 15) (v := ?_) rfl rfl (by kernel_rfl) (by kernel_rfl) (by kernel_rfl) (fun _ _ _ h => h) (Or.inl ⟨by rfl, ?_⟩) hHeld ?_
  rotate_left
  · (intro w' hSw; (try dsimp only at hSw); go_simp; (try with_reducible rfl))
  simp only [List.setIfInBounds_toArray, List.set_cons_zero, List.set_cons_succ]
  refine wpAnyH_done (by kernel_rfl) ?_ _
  clear hHeld h0 h1
  generalize w.drew = W0 at *
  go_wp2_with (first | ((refine (right_no HD.out HNB.out).mono ?_); (rintro e V1 ⟨rfl, hb⟩); (have HB1 := Lib.hid (HB0.out.trans (hb.mono HB0.out.size))); (have HD1 := Lib.hid (HD.out.below hb (Nat.le_refl _))); (clear hb)) | ((refine (left_no HD1.out HNA.out).mono ?_); (rintro e V2 ⟨rfl, hb⟩); (have HB2 := Lib.hid (HB1.out.trans (hb.mono HB1.out.size))); (clear hb)))
  go_ret
  exact ⟨rfl, HB2.out⟩
theorem apart_yes (h : WalkIs w base wb tbase tb T sv mb mp A B lim st) (hT : OkT T) (hl : T.length ≤ 100000) (ha : hasT T A = true) (hb : hasT T B = true) (hst : 0 ≤ st ∧ st < 1000000000) (hn : ¬ (A < 256 ∧ B < 256)) :
    Calls Tryz.prog 104 #[.pointer (some ⟨wb, 0, none⟩)] w fun e w' => e = .returned (.bool true) ∧ WalkIs w' base wb tbase tb T sv mb mp (nxtW T A B).1 (nxtW T A B).2.1 (nxtW T A B).2.2 (st + 1) ∧ Below base w w' := by
  have a1 := hasT_iff.1 ha
  have b1 := hasT_iff.1 hb
  unfold nxtW
  by_cases hc : B < A
  · rw [if_pos (Or.inr hc)]
    exact apart_l h hc (by rw [born_iff hT ha]; simp; omega) (by omega) hst
  · have h2 : 256 ≤ B := by omega
    rw [if_neg (by omega)]
    exact apart_r h (by omega) (by rw [born_iff hT hb]; simp; omega) (by omega) hst
theorem apart_no (h : WalkIs w base wb tbase tb T sv mb mp A B lim st) (hT : OkT T) (ha : hasT T A = true) (hb : hasT T B = true) (hn : A < 256 ∧ B < 256) :
    Calls Tryz.prog 104 #[.pointer (some ⟨wb, 0, none⟩)] w fun e w' => e = .returned (.bool false) ∧ Below w.heap.size w w' := by
  have e1 : bornT T A = false := by rw [born_iff hT ha]; simp; omega
  have e2 : bornT T B = false := by rw [born_iff hT hb]; simp; omega
  by_cases hc : B < A
  · exact apart_n1 h hc e1 e2
  · exact apart_n2 h (by omega) e1 e2
end
end Go.Proofs.YtbppaiejpgdbiaaGreat

/- Layer 14 (spine): a walk in memory: free, has, begin, Walk, Steps. -/
namespace Go.Proofs.YtbppaiejpgdbiaaGreat
open Go.RowKit Go.Maps Go.WideMaps
set_option maxRecDepth 100000
set_option linter.unusedVariables false
set_option linter.unusedSimpArgs false

theorem TabIs.lt_size {w : World} {tbase tb : Nat} {T : List Ent} {sv : Value} {mb mp : Nat} (h : TabIs w tbase tb T sv mb mp) : ∀ x, tabF tb sv mb mp x → x < w.heap.size := by
  intro x hx
  rcases hx with rfl | e | rfl | rfl
  · exact blk_lt h.blk
  · exact hw.own_lt h.row x e
  · exact h.bys.lt
  · exact h.prs.lt

structure FreeIs (w W : World) (base wb tbase tb : Nat) (T : List Ent) (sv : Value) (mb mp : Nat) (A B lim st A' B' lim' st' : Int) : Prop where
  wk : WalkIs W base wb tbase tb T sv mb mp A' B' lim' st'
  ha : hasT T A' = true
  hb : hasT T B' = true
  ok : (wlkT T A B lim).1 = (wlkT T A' B' lim').1
  cnt : st + ((wlkT T A B lim).2 : Int) = st' + ((wlkT T A' B' lim').2 : Int)
  s0 : 0 ≤ st'
  s1 : st' + A' + B' < 1000000000
  bl : Below base w W
section
variable {w W V : World} {base wb tbase tb : Nat} {T : List Ent} {sv : Value} {mb mp : Nat} {A B lim st A' B' lim' st' : Int}
theorem FreeIs.below (h : FreeIs w W base wb tbase tb T sv mb mp A B lim st A' B' lim' st') (hb : Below W.heap.size W V) : FreeIs w V base wb tbase tb T sv mb mp A B lim st A' B' lim' st' :=
  ⟨h.wk.below hb (Nat.le_refl _), h.ha, h.hb, h.ok, h.cnt, h.s0, h.s1, h.bl.trans (hb.mono (Nat.le_trans h.wk.le (Nat.le_of_lt (blk_lt h.wk.blk))))⟩
theorem FreeIs.next (h : FreeIs w W base wb tbase tb T sv mb mp A B lim st A' B' lim' st') (hT : OkT T) (hp : (pairB T lim' A' B').isSome = false) (hn : ¬ (A' < 256 ∧ B' < 256))
    (hw : WalkIs V base wb tbase tb T sv mb mp (nxtW T A' B').1 (nxtW T A' B').2.1 (nxtW T A' B').2.2 (st' + 1)) (hb : Below base W V) :
    FreeIs w V base wb tbase tb T sv mb mp A B lim st (nxtW T A' B').1 (nxtW T A' B').2.1 (nxtW T A' B').2.2 (st' + 1) := by
  obtain ⟨q1, q2, q3⟩ := nxt_has hT h.ha h.hb hn
  have e := wlk_next hT h.ha h.hb hp hn
  have h0 := h.s0
  have h1 := h.s1
  have p1 := hasT_iff.1 q1
  have p2 := hasT_iff.1 q2
  have p3 := hasT_iff.1 h.ha
  have p4 := hasT_iff.1 h.hb
  refine ⟨hw, q1, q2, ?_, ?_, by omega, by omega, h.bl.trans hb⟩
  · rw [h.ok, e]
  · rw [h.cnt, e]; simp only; omega
set_option maxHeartbeats 4000000 in
theorem free_any (h : WalkIs w base wb tbase tb T sv mb mp A B lim st) (hT : OkT T) (hl : T.length ≤ 100000) (ha : hasT T A = true) (hb : hasT T B = true) (hst : 0 ≤ st ∧ st < 100000000) :
    Calls Tryz.prog 64 #[.pointer (some ⟨wb, 0, none⟩)] w fun e w' => e = .returned (.bool (wlkT T A B lim).1) ∧ (∃ A' B' lim', WalkIs w' base wb tbase tb T sv mb mp A' B' lim' (st + ((wlkT T A B lim).2 : Int))) ∧ Below base w w' := by
  have i1 := hasT_iff.1 ha
  have i2 := hasT_iff.1 hb
  have HF : Hid (FreeIs w w base wb tbase tb T sv mb mp A B lim st A B lim st) := Lib.hid ⟨h, ha, hb, rfl, rfl, hst.1, by omega, Below.refl _ _⟩
  have HT := Lib.hid hT
  have HL := Lib.hid hl
  clear h hT hl ha hb hst i1 i2
  go_enter Tryz.func64, Tryz.ntmps64
  go_wp2_with fail
  go_loopg [] (A.toNat + B.toNat) (fun n W => ∃ A' B' lim' st', A'.toNat + B'.toNat ≤ n ∧ FreeIs w W base wb tbase tb T sv mb mp A B lim st A' B' lim' st')
  case atStart => exact ⟨A, B, lim, st, Nat.le_refl _, HF.out⟩
  case round =>
    obtain ⟨A', B', lim', st', hle, hF⟩ := hrel
    clear HF
    rename World => W
    have i1 := hasT_iff.1 hF.ha
    have i2 := hasT_iff.1 hF.hb
    have hl := HL.out
    have HBK := Lib.hid (blocked_any hF.wk (by omega) (by omega))
    have HF := Lib.hid hF
    have HLE := Lib.hid hle
    obtain ⟨bb, hbb⟩ : ∃ bb, (pairB T lim' A' B').isSome = bb := ⟨_, rfl⟩
    rw [hbb] at HBK
    have HBB := Lib.hid hbb
    clear hF hle hbb hl
    by_cases h2 : A' < 256 ∧ B' < 256
    · have H2 := Lib.hid h2
      clear i1 i2 h2
      rcases bb with _ | _
      · go_wp2_with (first | ((refine HBK.out.mono ?_); (rintro e V1 ⟨rfl, hb⟩); (have HF1 := Lib.hid (HF.out.below hb)); (clear hb)) | ((refine (apart_no HF1.out.wk HT.out HF1.out.ha HF1.out.hb H2.out).mono ?_); (rintro e V2 ⟨rfl, hb⟩); (have HF2 := Lib.hid (HF1.out.below hb)); (clear hb)))
        go_ret
        have e := wlk_bytes HBB.out H2.out
        have c := HF.out.cnt
        rw [HF.out.ok, c, e]
        exact ⟨rfl, ⟨_, _, _, by simpa using HF2.out.wk⟩, HF2.out.bl⟩
      · go_wp2_with ((refine HBK.out.mono ?_); (rintro e V1 ⟨rfl, hb⟩); (have HF1 := Lib.hid (HF.out.below hb)); (clear hb))
        go_ret
        have e := wlk_blocked HBB.out
        have c := HF.out.cnt
        rw [HF.out.ok, c, e]
        exact ⟨rfl, ⟨_, _, _, by simpa using HF1.out.wk⟩, HF1.out.bl⟩
    · have H2 := Lib.hid h2
      have s0 := HF.out.s0
      have s1 := HF.out.s1
      have hst : 0 ≤ st' ∧ st' < 1000000000 := ⟨s0, by omega⟩
      clear i1 i2 h2 s0 s1
      rcases bb with _ | _
      · go_wp2_with (first | ((refine HBK.out.mono ?_); (rintro e V1 ⟨rfl, hb⟩); (have HF1 := Lib.hid (HF.out.below hb)); (clear hb)) | ((refine (apart_yes HF1.out.wk HT.out HL.out HF1.out.ha HF1.out.hb hst H2.out).mono ?_); (rintro e V2 ⟨rfl, hw, hb⟩); (have HF2 := Lib.hid (HF1.out.next HT.out HBB.out H2.out hw hb)); (clear hw hb)))
        have q := (nxt_has HT.out HF.out.ha HF.out.hb H2.out).2.2
        have hle := HLE.out
        go_roundg ((nxtW T A' B').1.toNat + (nxtW T A' B').2.1.toNat)
        · exact ⟨_, _, _, _, Nat.le_refl _, HF2.out⟩
        · omega
      · go_wp2_with ((refine HBK.out.mono ?_); (rintro e V1 ⟨rfl, hb⟩); (have HF1 := Lib.hid (HF.out.below hb)); (clear hb))
        go_ret
        have e := wlk_blocked HBB.out
        have c := HF.out.cnt
        rw [HF.out.ok, c, e]
        exact ⟨rfl, ⟨_, _, _, by simpa using HF1.out.wk⟩, HF1.out.bl⟩
variable {a b : Int}
theorem shas_any (h : TabIs w tbase tb T sv mb mp) (hl : T.length ≤ 100000) :
    Calls Tryz.prog 58 #[.pointer (some ⟨tb, 0, none⟩), .int .i64 a, .int .i64 b] w fun e w' => e = .returned (.bool (hasT T a && hasT T b)) ∧ w' = w := by
  have HT := Lib.hid h
  have hr : (hasT T a && hasT T b) = (decide (0 ≤ a) && decide (a < (T.length : Int)) && decide (0 ≤ b) && decide (b < (T.length : Int))) := by simp only [hasT, Bool.and_assoc]
  rw [hr]
  clear h hr hl
  by_cases p1 : 0 ≤ a
  · by_cases p2 : a < (T.length : Int)
    · by_cases p3 : 0 ≤ b
      · go_enter Tryz.func58, Tryz.ntmps58
        go_wp2_with ((refine (len_tab HT.out).mono ?_); (rintro e V1 ⟨rfl, rfl⟩))
        go_ret
        exact ⟨by simp [p1, p2, p3], rfl⟩
      · go_enter Tryz.func58, Tryz.ntmps58
        go_wp2_with ((refine (len_tab HT.out).mono ?_); (rintro e V1 ⟨rfl, rfl⟩))
        go_ret
        exact ⟨by rw [decide_eq_false (p := 0 ≤ b) (by omega)]; simp, rfl⟩
    · go_enter Tryz.func58, Tryz.ntmps58
      go_wp2_with ((refine (len_tab HT.out).mono ?_); (rintro e V1 ⟨rfl, rfl⟩))
      go_ret
      exact ⟨by rw [decide_eq_false (p := a < (T.length : Int)) (by omega)]; simp, rfl⟩
  · go_enter Tryz.func58, Tryz.ntmps58
    go_wp2_with fail
    go_ret
    exact ⟨by rw [decide_eq_false (p := 0 ≤ a) (by omega)]; simp, rfl⟩
theorem sbegin_any (h : TabIs w tbase tb T sv mb mp) :
    Calls Tryz.prog 63 #[.pointer (some ⟨tb, 0, none⟩), .int .i64 a, .int .i64 b, .int .i64 lim] w fun e w' => (∃ nb, e = .returned (.pointer (some ⟨nb, 0, none⟩)) ∧ WalkIs w' w.heap.size nb tbase tb T sv mb mp a b lim 0) ∧ Below w.heap.size w w' := by
  have HT := Lib.hid h
  clear h
  go_enter Tryz.func63, Tryz.ntmps63
  go_wp2_with fail
  go_ret
  have hb := (Below.refl w.heap.size w).alloc (Nat.le_refl _) (.cells #[.int .i64 a, .int .i64 b, .pointer (some ⟨tb, 0, none⟩), .int .i64 lim, .int .i64 0] 121)
  exact ⟨⟨_, rfl, ⟨blk_new _ _, HT.out.below hb (Nat.le_refl _), HT.out.lt_size, Nat.le_refl _⟩⟩, hb⟩
end
end Go.Proofs.YtbppaiejpgdbiaaGreat

/- Layer 14 (spine): Walk, Steps, Alone. -/
namespace Go.Proofs.YtbppaiejpgdbiaaGreat
open Go.RowKit Go.Maps Go.WideMaps
set_option maxRecDepth 100000
set_option linter.unusedVariables false
set_option linter.unusedSimpArgs false
section
variable {w W V : World} {tbase tb : Nat} {T : List Ent} {sv : Value} {mb mp : Nat} {a b lim : Int}
set_option maxHeartbeats 4000000 in
theorem swalk_any (h : TabIs w tbase tb T sv mb mp) (hT : OkT T) (hl : T.length ≤ 100000) :
    Calls Tryz.prog 33 #[.pointer (some ⟨tb, 0, none⟩), .int .i64 a, .int .i64 b, .int .i64 lim] w fun e w' => e = .returned (.bool (hasT T a && hasT T b && (wlkT T a b lim).1)) ∧ Below w.heap.size w w' := by
  have HT := Lib.hid h
  have HS := Lib.hid (shas_any (a := a) (b := b) h hl)
  have HBG := Lib.hid (sbegin_any (a := a) (b := b) (lim := lim) h)
  obtain ⟨k, hk⟩ : ∃ k, (hasT T a && hasT T b) = k := ⟨_, rfl⟩
  rw [hk] at HS ⊢
  cases k with
  | false =>
    clear h hl hk
    go_enter Tryz.func33, Tryz.ntmps33
    go_wp2_with ((refine HS.out.mono ?_); (rintro e V1 ⟨rfl, rfl⟩))
    go_ret
    exact ⟨rfl, Below.refl _ _⟩
  | true =>
    rw [Bool.and_eq_true] at hk
    have HK := Lib.hid hk
    have HOK := Lib.hid hT
    have HL := Lib.hid hl
    clear h hl hk hT
    go_enter Tryz.func33, Tryz.ntmps33
    go_wp2_with (first | ((refine HS.out.mono ?_); (rintro e V1 ⟨rfl, rfl⟩)) | ((refine HBG.out.mono ?_); (rintro e V2 ⟨⟨nb, rfl, hw⟩, hb⟩); (have HW := Lib.hid hw); (have HB := Lib.hid hb); (clear hw hb)) | ((refine (free_any HW.out HOK.out HL.out HK.out.1 HK.out.2 (by decide)).mono ?_); (rintro e V3 ⟨rfl, hw, hb⟩); (have HB2 := Lib.hid (HB.out.trans hb)); (clear hw hb)))
    go_ret
    exact ⟨rfl, HB2.out⟩
end
end Go.Proofs.YtbppaiejpgdbiaaGreat

/- Layer 14 (spine): is a token a special one. -/
namespace Go.Proofs.YtbppaiejpgdbiaaGreat
open Go.RowKit Go.Maps Go.WideMaps
set_option maxRecDepth 100000
set_option linter.unusedVariables false
set_option linter.unusedSimpArgs false
section
variable {w : World} {base vb : Nat} {s : SpecP} {T : List Ent} {A1 A2 A3 A4 A5 : Option Addr} {c1 c2 c3 c4 c5 tbase tb bk kbase mk : Nat} {sv : Value} {mb mp : Nat} {sv2 : Value} {mi mt : Nat} {l : Value} {dn st se us : Int}
theorem special_any (h : VocIs w base vb s T A1 A2 A3 A4 A5 c1 c2 c3 c4 c5 tbase tb bk kbase mk sv mb mp sv2 mi mt l dn st se us) (id : Int) (hw : (Lit.int .i64 id).wf = true) (hM : s.xs.length ≤ 1000) :
    Calls Tryz.prog 96 #[.pointer (some ⟨vb, 0, none⟩), .int .i64 id] w fun e w' => e = .returned (.bool (fndI s.xs id).isSome) ∧ w' = w := by
  have h1 := Lib.hid (vmarks_any h)
  have h2 := Lib.hid (mark_any h.mrk id hw hM)
  clear h hw hM
  go_enter Tryz.func96, Tryz.ntmps96
  go_wp2_with (first | (go_at_call 68; (refine h1.out.mono ?_); (rintro e V1 ⟨rfl, rfl⟩)) | (go_at_call 93; (refine h2.out.mono ?_); (rintro e V1 ⟨rfl, rfl⟩)))
  all_goals (go_ret; exact ⟨rfl, rfl⟩)
end
end Go.Proofs.YtbppaiejpgdbiaaGreat

/- Layer 14 (spine): beside, Valid. -/
namespace Go.Proofs.YtbppaiejpgdbiaaGreat
open Go.RowKit Go.Maps Go.WideMaps
set_option maxRecDepth 100000
set_option linter.unusedVariables false
set_option linter.unusedSimpArgs false
/-- may two stand side by side that are ordinary tokens -/
def VocP.besO (p : VocP) (a b : Int) : Bool := betB p.cut (bytesT p.T a) (bytesT p.T b) || (hasT p.T a && hasT p.T b && (wlkT p.T a b 9223372036854775807).1)
/-- may two stand side by side -/
def VocP.bes (p : VocP) (a b : Int) : Bool := (fndI p.s.xs a).isSome || (fndI p.s.xs b).isSome || p.besO a b
section
variable {w w' : World} {base : Nat} {p : VocP} {g : Option Nat} {l : Value} {dn st se us : Int}
set_option maxHeartbeats 2000000 in
theorem beside_q (h : VocQ w base p l dn st se us) (hT : OkT p.T) (a b : Int) (ha : (Lit.int .i64 a).wf = true) (hb : (Lit.int .i64 b).wf = true) (hM : p.s.xs.length ≤ 1000) :
    Calls Tryz.prog 52 #[.pointer (some ⟨p.vb, 0, none⟩), .int .i64 a, .int .i64 b] w fun e w' => e = .returned (.bool (p.bes a b)) ∧ Below w.heap.size w w' := by
  have HS : Hid (∀ x, (x = a ∨ x = b) → Calls Tryz.prog 96 #[.pointer (some ⟨p.vb, 0, none⟩), .int .i64 x] w fun e w' => e = .returned (.bool (fndI p.s.xs x).isSome) ∧ w' = w) := Lib.hid (by
    rintro x (rfl | rfl)
    · exact special_any h _ ha hM
    · exact special_any h _ hb hM)
  have HTB := Lib.hid (vtable_any h)
  have HBO := Lib.hid (vbounds_any h)
  have HB : Hid (∀ x, Calls Tryz.prog 97 #[.pointer (some ⟨p.tb, 0, none⟩), .int .i64 x] w fun e w' => e = .returned (.tuple #[.string (bs (bytesT p.T x)), .bool (hasT p.T x)]) ∧ w' = w) := Lib.hid (fun x => bytes_tab x h.tab)
  have HBT := Lib.hid (between_any (some ⟨p.bk, 0, none⟩) p.cut (bs (bytesT p.T a)) (bs (bytesT p.T b)) w (.inr ⟨p.bk, Cof p.s.cs, Jof p.s.js, rfl, h.bnd, rfl⟩) (by rw [bs_size]; have := bytesT_le hT a; omega))
  have HT : Hid (∀ m, VocQ (w.drewN m) base p l dn st se us) := Lib.hid (fun m => h.below (B := w.heap.size) (below_drewN (Below.refl _ _) m) (Nat.le_refl _))
  have HW := Lib.hid (fun m => swalk_any (a := a) (b := b) (lim := 9223372036854775807) (h.tab.drewN m) hT (by have := hT.small; omega))
  have ebs : ∀ l : List UInt8, (bs l).data.toList = l := fun l => rfl
  rw [ebs, ebs] at HBT
  unfold VocP.bes VocP.besO
  obtain ⟨q1, h1⟩ : ∃ q, (fndI p.s.xs a).isSome = q := ⟨_, rfl⟩
  obtain ⟨q2, h2⟩ : ∃ q, (fndI p.s.xs b).isSome = q := ⟨_, rfl⟩
  have HQ1 := Lib.hid h1
  have HQ2 := Lib.hid h2
  rw [h1, h2]
  generalize betB p.cut (bytesT p.T a) (bytesT p.T b) = q3 at *
  generalize (hasT p.T a && hasT p.T b && (wlkT p.T a b 9223372036854775807).1) = q4 at *
  clear h hT ha hb hM h1 h2 ebs
  cases q1 with
  | true =>
    go_enter Tryz.func52, Tryz.ntmps52
    go_wp2_with (go_at_call 96; refine (HS.out _ (.inl rfl)).mono ?_; rintro e W1 ⟨he, rfl⟩; rw [HQ1.out] at he; subst he)
    go_ret
    exact ⟨by simp, Below.refl _ _⟩
  | false =>
    cases q2 with
    | true =>
      go_enter Tryz.func52, Tryz.ntmps52
      go_wp2_with (go_at_call 96; refine (HS.out _ (by first | exact .inl rfl | exact .inr rfl)).mono ?_; rintro e W1 ⟨he, rfl⟩; (first | rw [HQ1.out] at he | rw [HQ2.out] at he); subst he)
      go_ret
      exact ⟨by simp, Below.refl _ _⟩
    | false =>
      have arm : True := trivial
      cases q3 with
      | true =>
        go_enter Tryz.func52, Tryz.ntmps52
        go_wp2_with (first
          | (go_at_call 96; refine (HS.out _ (by first | exact .inl rfl | exact .inr rfl)).mono ?_; rintro e W1 ⟨he, rfl⟩; (first | rw [HQ1.out] at he | rw [HQ2.out] at he); subst he)
          | (go_at_call 65; refine HTB.out.mono ?_; rintro e W1 ⟨rfl, rfl⟩)
          | (go_at_call 98; refine HBO.out.mono ?_; rintro e W1 ⟨rfl, rfl⟩)
          | (go_at_call 97; refine (HB.out _).mono ?_; rintro e W1 ⟨rfl, rfl⟩)
          | (go_at_call 99; refine HBT.out.mono ?_; rintro e W1 ⟨rfl, m, rfl⟩))
        go_ret
        exact ⟨by simp, below_drewN (Below.refl _ _) _⟩
      | false =>
        go_enter Tryz.func52, Tryz.ntmps52
        go_wp2_with (first
          | (go_at_call 96; refine (HS.out _ (by first | exact .inl rfl | exact .inr rfl)).mono ?_; rintro e W1 ⟨he, rfl⟩; (first | rw [HQ1.out] at he | rw [HQ2.out] at he); subst he)
          | (go_at_call 65; first | (refine HTB.out.mono ?_; rintro e W1 ⟨rfl, rfl⟩) | (refine (vtable_any (HT.out _)).mono ?_; rintro e W1 ⟨rfl, rfl⟩))
          | (go_at_call 98; refine HBO.out.mono ?_; rintro e W1 ⟨rfl, rfl⟩)
          | (go_at_call 97; refine (HB.out _).mono ?_; rintro e W1 ⟨rfl, rfl⟩)
          | (go_at_call 99; refine HBT.out.mono ?_; rintro e W1 ⟨rfl, m, rfl⟩)
          | (go_at_call 33; refine (HW.out _).mono ?_; rintro e W2 ⟨rfl, hb⟩; have HBW := Lib.hid hb; clear hb))
        go_ret
        exact ⟨by simp, (below_drewN (Below.refl _ _) _).trans HBW.out⟩
end
end Go.Proofs.YtbppaiejpgdbiaaGreat

/- Layer 14 (spine): Valid; of nothing. -/
namespace Go.Proofs.YtbppaiejpgdbiaaGreat
open Go.RowKit Go.Maps Go.WideMaps
set_option maxRecDepth 100000
set_option linter.unusedVariables false
set_option linter.unusedSimpArgs false
section
variable {w w' W W1 : World} {base : Nat} {p : VocP} {g g1 : Option Nat}
theorem AskV.trans (hk : Keep (fun x => x = p.vb) w W) (hl : g1 = g ∨ ∃ x, g1 = some x ∧ w.heap.size ≤ x) (h2 : AskV W W1 base p g1) : AskV w W1 base p g := by
  obtain ⟨g2, hv, hk2, hl2⟩ := h2
  refine ⟨g2, hv, hk.trans hk2 (fun x hx => .inl hx), ?_⟩
  rcases hl2 with rfl | ⟨x, rfl, hx⟩
  · exact hl
  · exact .inr ⟨x, rfl, Nat.le_trans hk.size hx⟩
theorem AskV.of_below (h : VocAt w base p g) (hb : Below w.heap.size w W) : AskV w W base p g :=
  ⟨g, h.below hb (Nat.le_refl _), Keep.of_below hb, .inl rfl⟩
theorem VocAt.bes_any (h : VocAt w base p g) (hT : OkT p.T) (a b : Int) (ha : (Lit.int .i64 a).wf = true) (hb : (Lit.int .i64 b).wf = true) (hM : p.s.xs.length ≤ 1000) :
    Calls Tryz.prog 52 #[.pointer (some ⟨p.vb, 0, none⟩), .int .i64 a, .int .i64 b] w fun e w' => e = .returned (.bool (p.bes a b)) ∧ Below w.heap.size w w' := by
  obtain ⟨l, dn, st, se, us, h1, _⟩ := h
  exact beside_q h1 hT a b ha hb hM
set_option maxHeartbeats 1000000 in
theorem svalid_any (h : VocAt w base p g) (hT : OkT p.T) (a b : Int) (ha : (Lit.int .i64 a).wf = true) (hb : (Lit.int .i64 b).wf = true) (hM : p.s.xs.length ≤ 1000) :
    Calls Tryz.prog 19 #[.pointer (some ⟨p.vb, 0, none⟩), .int .i64 a, .int .i64 b] w fun e w' => e = .returned (.bool (p.aln a && p.aln b && p.bes a b)) ∧ AskV w w' base p g := by
  have HA := Lib.hid (valone_any h hT a ha hM)
  have HB : Hid (∀ V g, VocAt V base p g → Calls Tryz.prog 51 #[.pointer (some ⟨p.vb, 0, none⟩), .int .i64 b] V fun e w' => e = .returned (.bool (p.aln b)) ∧ AskV V w' base p g) := Lib.hid (fun V g hV => valone_any hV hT b hb hM)
  have HC : Hid (∀ V g, VocAt V base p g → Calls Tryz.prog 52 #[.pointer (some ⟨p.vb, 0, none⟩), .int .i64 a, .int .i64 b] V fun e w' => e = .returned (.bool (p.bes a b)) ∧ Below V.heap.size V w') := Lib.hid (fun V g hV => hV.bes_any hT a b ha hb hM)
  clear h hT ha hb hM
  obtain ⟨q1, h1⟩ : ∃ q, p.aln a = q := ⟨_, rfl⟩
  obtain ⟨q2, h2⟩ : ∃ q, p.aln b = q := ⟨_, rfl⟩
  rw [h1] at HA ⊢
  rw [h2] at HB ⊢
  clear h1 h2
  generalize p.bes a b = q3 at *
  cases q1 with
  | false =>
    go_enter Tryz.func19, Tryz.ntmps19
    go_wp2_with (go_at_call 51; refine HA.out.mono ?_; rintro e W1 ⟨rfl, hA⟩; have HR := Lib.hid hA; clear hA)
    go_ret
    exact ⟨by simp, HR.out⟩
  | true =>
    cases q2 with
    | false =>
      go_enter Tryz.func19, Tryz.ntmps19
      go_wp2_with (go_at_call 51; first
        | (refine HA.out.mono ?_; rintro e W1 ⟨rfl, g1, hv, hk, hl⟩; (have HV := Lib.hid hv); (have HK := Lib.hid hk); (have HL := Lib.hid hl); clear hv hk hl HA)
        | (refine (HB.out _ g1 HV.out).mono ?_; rintro e W2 ⟨rfl, hA⟩; have HR := Lib.hid (AskV.trans HK.out HL.out hA); clear hA))
      go_ret
      exact ⟨by simp, HR.out⟩
    | true =>
      go_enter Tryz.func19, Tryz.ntmps19
      go_wp2_with (first
        | (go_at_call 51; first
          | (refine HA.out.mono ?_; rintro e W1 ⟨rfl, g1, hv, hk, hl⟩; (have HV := Lib.hid hv); (have HK := Lib.hid hk); (have HL := Lib.hid hl); clear hv hk hl HA)
          | (refine (HB.out _ g1 HV.out).mono ?_; rintro e W2 ⟨rfl, hA⟩; (have HR := Lib.hid (AskV.trans HK.out HL.out hA)); obtain ⟨g2, hv, _⟩ := hA; (have HV2 := Lib.hid hv); clear hv))
        | (go_at_call 52; refine (HC.out _ g2 HV2.out).mono ?_; rintro e W3 ⟨rfl, hb⟩; have HBE := Lib.hid hb; clear hb))
      go_ret
      obtain ⟨g3, hv3, hk3, hl3⟩ := HR.out
      exact ⟨by simp, AskV.trans hk3 hl3 (AskV.of_below hv3 HBE.out)⟩
theorem svalid_nil (a b : Int) (w : World) : Calls Tryz.prog 19 #[.pointer none, .int .i64 a, .int .i64 b] w fun e w' => e = .returned (.bool false) ∧ w' = w := by
  have HA := Lib.hid (valone_nil a w)
  go_enter Tryz.func19, Tryz.ntmps19
  go_wp2_with (go_at_call 51; refine HA.out.mono ?_; rintro e W1 ⟨rfl, rfl⟩)
  go_ret
  exact ⟨rfl, rfl⟩
theorem shas_nil (a b : Int) (w : World) : Calls Tryz.prog 58 #[.pointer none, .int .i64 a, .int .i64 b] w fun e w' => e = .returned (.bool false) ∧ w' = w := by
  have HL := Lib.hid (len_nil w)
  by_cases h : 0 ≤ a
  · have h2 : ¬ a < 0 := by omega
    go_enter Tryz.func58, Tryz.ntmps58
    go_wp2_with (go_at_call 66; refine HL.out.mono ?_; rintro e W1 ⟨rfl, rfl⟩)
    go_ret
    exact ⟨rfl, rfl⟩
  · go_enter Tryz.func58, Tryz.ntmps58
    go_wp2_with fail
    go_ret
    exact ⟨rfl, rfl⟩
theorem swalk_nil (a b lim : Int) (w : World) : Calls Tryz.prog 33 #[.pointer none, .int .i64 a, .int .i64 b, .int .i64 lim] w fun e w' => e = .returned (.bool false) ∧ w' = w := by
  have HS := Lib.hid (shas_nil a b w)
  go_enter Tryz.func33, Tryz.ntmps33
  go_wp2_with (go_at_call 58; refine HS.out.mono ?_; rintro e W1 ⟨rfl, rfl⟩)
  go_ret
  exact ⟨rfl, rfl⟩
theorem ssteps_nil (a b : Int) (w : World) : Calls Tryz.prog 34 #[.pointer none, .int .i64 a, .int .i64 b] w fun e w' => e = .returned (.int .i64 0) ∧ w' = w := by
  have HS := Lib.hid (shas_nil a b w)
  go_enter Tryz.func34, Tryz.ntmps34
  go_wp2_with (go_at_call 58; refine HS.out.mono ?_; rintro e W1 ⟨rfl, rfl⟩)
  go_ret
  exact ⟨rfl, rfl⟩
theorem salone_nil (a : Int) (w : World) : Calls Tryz.prog 22 #[.pointer none, .int .i64 a] w fun e w' => e = .returned (.bool false) ∧ Below w.heap.size w w' := by
  have HP := Lib.hid (par_nil a w)
  have HS := Lib.hid (fun V => shas_nil a a V)
  go_enter Tryz.func22, Tryz.ntmps22
  go_wp2_with (first | (go_at_call 57; refine HP.out.mono ?_; rintro e V1 ⟨rfl, hb⟩; unfold pairV; (have HB := Lib.hid (hb.trans (((Below.refl V1.heap.size V1).alloc (Nat.le_refl _) (.cells #[.int .i64 0, .int .i64 0] 55)).mono hb.size))); clear hb) | (go_at_call 58; refine (HS.out _).mono ?_; rintro e W1 ⟨rfl, rfl⟩))
  go_ret
  exact ⟨rfl, HB.out⟩
end
end Go.Proofs.YtbppaiejpgdbiaaGreat

/- Layer 10 (vocab): New of merges alone. -/
namespace Go.Proofs.YtbppaiejpgdbiaaGreat
open Go.RowKit Go.Maps Go.WideMaps
set_option maxRecDepth 100000
set_option linter.unusedVariables false
set_option linter.unusedSimpArgs false
def mrgS (l : List (Int × Int)) : SpecP := ⟨false, l, [], [], [], []⟩
theorem VocAt.base_le {w : World} {base : Nat} {p : VocP} {g : Option Nat} (h : VocAt w base p g) : base ≤ p.vb := by
  obtain ⟨l, dn, st, se, us, h1, _⟩ := h
  exact h1.lt.1
theorem AskV.below {w0 w W : World} {base : Nat} {p : VocP} {g : Option Nat} (h : AskV w W base p g) (hB : Below w0.heap.size w0 w) (hb : w0.heap.size ≤ p.vb) : Below w0.heap.size w0 W := by
  obtain ⟨g', hv, hk, hl⟩ := h
  exact hB.trans (hk.below hB.size (fun x hx => by omega))
theorem adds_okT : ∀ (l : List (Int × Int)) (T T' : List Ent), OkT T → addsT T l = some T' → OkT T'
  | [], T, T', h, e => by simp [addsT] at e; rw [← e]; exact h
  | m :: l, T, T', h, e => by
    rw [addsT] at e
    split at e
    · rename_i h0
      exact adds_okT l _ T' (okT_add h _ _ h0) e
    · simp at e
theorem vnew_m {l : List (Int × Int)} {T : List Ent} (hT : addsT baseT l = some T) (A : Option Addr) (c : Nat) (w : World) (hl : Sl w A encM 2 l) (hlen : l.length ≤ 744) (hr : l.all mrgR = true) :
    Calls Tryz.prog 15 #[specV false A l.length c none 0 0 none 0 0 none 0 0 none 0 0] w fun e w' => (∃ p, e = .returned (.tuple #[.pointer (some ⟨p.vb, 0, none⟩), .int .i64 0, .int .i64 0]) ∧ VocAt w' w.heap.size p none ∧ p.T = T ∧ p.s = mrgS l ∧ OkT T) ∧ Below w.heap.size w w' := by
  have hs : SpecAt w (mrgS l) A none none none none := ⟨hl, Sl1.nil _ _ _, Sl.nil _ _ _ _, Sl.nil _ _ _ _, Sl.nil _ _ _ _, by simp [mrgS]; omega⟩
  have hR : rightS (mrgS l) = true := by
    have h1 : headR (mrgS l) = true := rfl
    have h2 : (decide ((((mrgS l).ms.length : Nat) : Int) ≤ 744) && (mrgS l).ms.all mrgR) = true := by
      show (decide (((l.length : Nat) : Int) ≤ 744) && l.all mrgR) = true
      rw [hr]; simp; omega
    unfold rightS
    rw [h1, h2]
    rfl
  have hok : OkT T := adds_okT l baseT T okT_base hT
  have hL : ∀ V, Below w.heap.size w V → Calls Tryz.prog 87 #[specW (mrgS l) A none none none none c 0 0 0 0] V fun e w' => (∃ tb sv mb mp n, e = .returned (.tuple #[.pointer (some ⟨tb, 0, none⟩), .int .i64 n, .int .i64 0]) ∧ TabIs w' V.heap.size tb T sv mb mp) ∧ Below V.heap.size V w' := by
    intro V hV
    refine (load_false (R := fun x y z w' => (∃ tb sv mb mp n, x = .pointer (some ⟨tb, 0, none⟩) ∧ y = .int .i64 n ∧ z = .int .i64 0 ∧ TabIs w' V.heap.size tb T sv mb mp) ∧ Below V.heap.size V w') rfl (fun W hW => ?_)).mono ?_
    · refine (new_ok hT A c W (hl.below (hV.trans (hW.mono hV.size)) (Nat.le_refl _)) (by omega)).mono ?_
      rintro e w' ⟨tb, sv, mb, mp, rfl, _, ht, hb⟩
      exact ⟨_, _, _, rfl, ⟨tb, sv, mb, mp, _, rfl, rfl, rfl, ht.less hW.size⟩, hW.trans (hb.mono hW.size)⟩
    · rintro e w' ⟨x, y, z, rfl, ⟨tb, sv, mb, mp, n, rfl, rfl, rfl, ht⟩, hb⟩
      exact ⟨⟨tb, sv, mb, mp, n, rfl, ht⟩, hb⟩
  have hM : ∀ V, Below w.heap.size w V → Calls Tryz.prog 88 #[.slice none (mrgS l).xs.length 0] V fun e w' => (∃ mb sv mi mt n, e = .returned (.tuple #[.pointer (some ⟨mb, 0, none⟩), .int .i64 n, .int .i64 0]) ∧ MarkIs w' V.heap.size mb (mrgS l).xs sv mi mt) ∧ Below V.heap.size V w' := by
    intro V hV
    refine (mnew_nil V 0).mono ?_
    rintro e w' ⟨⟨mb, sv, mi, mt, rfl, hm⟩, hb⟩
    exact ⟨⟨mb, sv, mi, mt, 0, rfl, hm⟩, hb⟩
  refine (vnew_any (cM := c) (cT := 0) (cX := 0) (cC := 0) (cJ := 0) hs hR hL hM rfl (by simp [mrgS]; omega) rfl rfl).mono ?_
  rintro e w' ⟨⟨vb, A1, A2, A3, A4, A5, c1, c2, c3, c4, c5, tbase, tb, bk, kbase, mk, sv, mb, mp, sv2, mi, mt, rfl, hv⟩, hb⟩
  exact ⟨⟨⟨vb, mrgS l, T, A1, A2, A3, A4, A5, c1, c2, c3, c4, c5, tbase, tb, bk, kbase, mk, sv, mb, mp, sv2, mi, mt⟩, rfl, ⟨_, 0, 0, 0, 0, hv, .inl ⟨rfl, rfl, rfl, rfl⟩⟩, rfl, rfl, hok⟩, hb⟩
theorem VocP.aln_eq {p q : VocP} (h1 : p.T = q.T) (h2 : p.s = q.s) (x : Int) : p.aln x = q.aln x := by unfold VocP.aln; rw [h1, h2]
theorem VocP.bes_eq {p q : VocP} (h1 : p.T = q.T) (h2 : p.s = q.s) (x y : Int) : p.bes x y = q.bes x y := by unfold VocP.bes VocP.besO VocP.cut; rw [h1, h2]
end Go.Proofs.YtbppaiejpgdbiaaGreat

/- Layer 14 (spine): the document's example. -/
namespace Go.Proofs.YtbppaiejpgdbiaaGreat
open Go.RowKit Go.Maps Go.WideMaps
set_option maxRecDepth 100000
set_option linter.unusedVariables false
set_option linter.unusedSimpArgs false
def aw14 : List (Int × Int) := [(97, 98), (98, 99)]
def awT14a : List Ent := baseT ++ [([97, 98], 97, 98)]
def awT14 : List Ent := awT14a ++ [([98, 99], 98, 99)]
theorem aw14_1 : addT baseT 97 98 = (256, 0, awT14a) := by kernel_rfl
theorem aw14_2 : addT awT14a 98 99 = (257, 0, awT14) := by kernel_rfl
theorem aw14_adds : addsT baseT aw14 = some awT14 := by simp only [aw14, addsT, aw14_1, aw14_2, if_true]
def awp14 : VocP := ⟨0, mrgS aw14, awT14, none, none, none, none, none, 0, 0, 0, 0, 0, 0, 0, 0, 0, 0, .bool false, 0, 0, .bool false, 0, 0⟩
theorem aw14_v1 : (awp14.aln 97 && awp14.aln 257 && awp14.bes 97 257) = false := by kernel_rfl
theorem aw14_v2 : (awp14.aln 256 && awp14.aln 99 && awp14.bes 256 99) = true := by kernel_rfl
theorem aw14_v3 : (awp14.aln 256 && awp14.aln 257 && awp14.bes 256 257) = true := by kernel_rfl
set_option maxHeartbeats 2000000 in
theorem awake14_any (w : World) : Calls Tryz.prog 16 #[] w fun e w' => e = .returned (.bool true) ∧ Below w.heap.size w w' := by
  have HB0 := Lib.hid ((Below.refl w.heap.size w).alloc (Nat.le_refl _) (.cells #[.int .i64 97, .int .i64 98, .int .i64 98, .int .i64 99] 55))
  have HSL := Lib.hid (sl_mrg (l := aw14) (blk_new w (.cells #[.int .i64 97, .int .i64 98, .int .i64 98, .int .i64 99] 55)))
  have HN : Hid (∀ V, Sl V (some ⟨w.heap.size, 0, none⟩) encM 2 aw14 → Calls Tryz.prog 15 #[.agg #[.bool false, .slice (some ⟨w.heap.size, 0, none⟩) 2 2, .slice none 0 0, .slice none 0 0, .slice none 0 0, .slice none 0 0]] V fun e w' => (∃ p, e = .returned (.tuple #[.pointer (some ⟨p.vb, 0, none⟩), .int .i64 0, .int .i64 0]) ∧ VocAt w' V.heap.size p none ∧ p.T = awT14 ∧ p.s = mrgS aw14 ∧ OkT awT14) ∧ Below V.heap.size V w') := Lib.hid (fun V hV => vnew_m aw14_adds _ 2 V hV (by decide) (by decide))
  go_enter Tryz.func16, Tryz.ntmps16
  go_upto_region 2 with (go_at_call 15; refine (HN.out _ HSL.out).mono ?_; rintro e W ⟨⟨p, rfl, hv, hT, hs, hok⟩, hb⟩; (have HV := Lib.hid hv); (have HT := Lib.hid hT); (have HS := Lib.hid hs); (have HOK := Lib.hid hok); (have HB := Lib.hid (HB0.out.trans (hb.mono HB0.out.size))); (have HVB := Lib.hid (Nat.le_trans HB0.out.size hv.base_le)); clear hv hT hs hok hb)
  have E1 : Hid ((p.aln 97 && p.aln 257 && p.bes 97 257) = false) := Lib.hid (by rw [VocP.aln_eq (q := awp14) HT.out HS.out, VocP.aln_eq (q := awp14) HT.out HS.out, VocP.bes_eq (q := awp14) HT.out HS.out]; exact aw14_v1)
  have E2 : Hid ((p.aln 256 && p.aln 99 && p.bes 256 99) = true) := Lib.hid (by rw [VocP.aln_eq (q := awp14) HT.out HS.out, VocP.aln_eq (q := awp14) HT.out HS.out, VocP.bes_eq (q := awp14) HT.out HS.out]; exact aw14_v2)
  have E3 : Hid ((p.aln 256 && p.aln 257 && p.bes 256 257) = true) := Lib.hid (by rw [VocP.aln_eq (q := awp14) HT.out HS.out, VocP.aln_eq (q := awp14) HT.out HS.out, VocP.bes_eq (q := awp14) HT.out HS.out]; exact aw14_v3)
  have HM : Hid (p.s.xs.length ≤ 1000) := Lib.hid (by rw [HS.out]; decide)
  have HOP : Hid (OkT p.T) := Lib.hid (by rw [HT.out]; exact HOK.out)
  have HVX : Hid (∃ g, VocAt W (w.alloc (.cells #[.int .i64 97, .int .i64 98, .int .i64 98, .int .i64 99] 55)).heap.size p g) := Lib.hid ⟨_, HV.out⟩
  clear HV HT HS HOK HSL HN HB0
  obtain ⟨gb, hgb⟩ : ∃ b, (w.alloc (.cells #[.int .i64 97, .int .i64 98, .int .i64 98, .int .i64 99] 55)).heap.size = b := ⟨_, rfl⟩
  rw [hgb] at HVX
  clear hgb
  have HVA : Hid (∀ V a b, (∃ g, VocAt V gb p g) → (Lit.int .i64 a).wf = true → (Lit.int .i64 b).wf = true → Calls Tryz.prog 19 #[.pointer (some ⟨p.vb, 0, none⟩), .int .i64 a, .int .i64 b] V fun e w' => e = .returned (.bool (p.aln a && p.aln b && p.bes a b)) ∧ (∃ g, VocAt w' gb p g) ∧ (Below w.heap.size w V → Below w.heap.size w w')) := Lib.hid (fun V a b ⟨g, hV⟩ ha hb => by
    refine (svalid_any hV HOP.out a b ha hb HM.out).mono ?_
    rintro e w' ⟨rfl, hA⟩
    exact ⟨rfl, ⟨_, hA.choose_spec.1⟩, fun hB => hA.below hB HVB.out⟩)
  go_wp2_with (go_at_call 19; refine (HVA.out _ _ _ HVX.out (by rfl) (by rfl)).mono ?_; rintro e V ⟨he, hx, hb⟩; (first | rw [E1.out] at he | rw [E2.out] at he | rw [E3.out] at he); subst he; (replace HVX := Lib.hid hx); (replace HB := Lib.hid (hb HB.out)); clear hx hb)
  go_ret
  exact ⟨rfl, HB.out⟩
end Go.Proofs.YtbppaiejpgdbiaaGreat

/- Layer 14 (spine): First. -/
namespace Go.Proofs.YtbppaiejpgdbiaaGreat
open Go.RowKit Go.Maps Go.WideMaps
set_option maxRecDepth 100000
set_option linter.unusedVariables false
set_option linter.unusedSimpArgs false
/-- may the i-th token stand where it does -/
def VocP.ok (p : VocP) (ids : List Int) (i : Nat) : Bool := p.aln (ids.getD i 0) && (decide (i = 0) || p.bes (ids.getD (i - 1) 0) (ids.getD i 0))
/-- the first token that may not -/
def VocP.fst (p : VocP) (ids : List Int) : Option Nat := (List.range ids.length).find? (fun i => !p.ok ids i)
theorem first_nil0 (w : World) : Calls Tryz.prog 24 #[.pointer none, .slice none 0 0] w fun e w' => e = .returned (.tuple #[.int .i64 0, .bool false]) ∧ w' = w := by
  go_enter Tryz.func24, Tryz.ntmps24
  go_wp2_with fail
  go_loopg [10] 0 (fun n i W => i = .int .i64 0 ∧ W = w)
  case atStart => exact ⟨rfl, rfl⟩
  case round =>
    obtain ⟨rfl, rfl⟩ := hrel
    go_wp2_with fail
    go_ret2
    exact ⟨rfl, rfl⟩
theorem first_nil1 (b : Nat) (x : Int) (w : World) (h : w.cell? ⟨b, 0, none⟩ = some (.int .i64 x)) : Calls Tryz.prog 24 #[.pointer none, .slice (some ⟨b, 0, none⟩) 1 1] w fun e w' => e = .returned (.tuple #[.int .i64 0, .bool true]) ∧ w' = w := by
  have HA := Lib.hid (valone_nil x w)
  go_enter Tryz.func24, Tryz.ntmps24
  go_wp2_with fail
  go_loopg [10] 0 (fun n i W => i = .int .i64 0 ∧ W = w)
  case atStart => exact ⟨rfl, rfl⟩
  case round =>
    obtain ⟨rfl, rfl⟩ := hrel
    go_wp2_with (go_at_call 51; refine HA.out.mono ?_; rintro e W1 ⟨rfl, rfl⟩)
    go_ret2
    exact ⟨rfl, rfl⟩
end Go.Proofs.YtbppaiejpgdbiaaGreat

/- Layer 14 (spine): SpineNone. -/
namespace Go.Proofs.YtbppaiejpgdbiaaGreat
open Go.RowKit Go.Maps Go.WideMaps
set_option maxRecDepth 100000
set_option linter.unusedVariables false
set_option linter.unusedSimpArgs false
set_option maxHeartbeats 1000000 in
theorem snone_law (x0 x1 x2 : Int) (w : World) (_ : (Lit.int .i64 x0).wf = true) (_ : (Lit.int .i64 x1).wf = true) (_ : (Lit.int .i64 x2).wf = true) :
    Calls Tryz.prog 9 #[.int .i64 x0, .int .i64 x1, .int .i64 x2] w (RetTrue w) := by
  have HB0 := Lib.hid ((Below.refl w.heap.size w).alloc (Nat.le_refl _) (.cells #[.int .i64 x0] 3))
  have HC := Lib.hid (blk_cell (blk_new w (.cells #[.int .i64 x0] 3)) 0)
  simp only [List.getElem?_toArray, List.getElem?_cons_zero] at HC
  go_enter Tryz.func9, Tryz.ntmps9
  go_upto_region 2 with (go_at_call 24; refine (first_nil1 _ x0 _ HC.out).mono ?_; rintro e W ⟨rfl, rfl⟩)
  go_wp2_with (first
    | (go_at_call 24; refine (first_nil0 _).mono ?_; rintro e W ⟨rfl, rfl⟩)
    | (go_at_call 33; refine (swalk_nil _ _ _ _).mono ?_; rintro e W ⟨rfl, rfl⟩)
    | (go_at_call 34; refine (ssteps_nil _ _ _).mono ?_; rintro e W ⟨rfl, rfl⟩)
    | (go_at_call 22; refine (salone_nil _ _).mono ?_; rintro e W1 ⟨rfl, hb⟩; (have HB1 := Lib.hid (HB0.out.trans (hb.mono HB0.out.size))); clear hb)
    | (go_at_call 19; refine (svalid_nil _ _ _).mono ?_; rintro e W ⟨rfl, rfl⟩)
    | (go_at_call 16; refine (awake14_any _).mono ?_; rintro e W2 ⟨rfl, hb⟩; (have HB2 := Lib.hid (HB1.out.trans (hb.mono HB1.out.size))); clear hb))
  go_ret
  exact ⟨rfl, HB2.out⟩
end Go.Proofs.YtbppaiejpgdbiaaGreat

