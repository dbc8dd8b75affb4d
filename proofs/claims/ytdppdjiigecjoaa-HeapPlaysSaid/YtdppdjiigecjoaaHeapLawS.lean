/- Layer 3 (heap): HeapSorts. -/
import Derived.Test.YtdppdjiigecjoaaHeapSort0
import Derived.Test.YtdppdjiigecjoaaHeapAwake
import Derived.Test.YtdppdjiigecjoaaOpen
import Derived.Laws.OwnMore
namespace Go.Proofs.Ytdppdjiigecjoaa
open Go.RowKit Go.Maps Go.WideMaps
set_option maxRecDepth 100000
set_option linter.unusedVariables false
set_option linter.unusedSimpArgs false

theorem info_bool : (Try.prog.info? 4).map (fun i => (i.zero, i.size, i.bytes)) = some (some (.bool false), 1, 1) := by kernel_rfl
theorem made_false (n : Nat) : (madeCells (Value.bool false).cells (n * 1)).toList = (List.replicate n false).map Value.bool := by
  apply List.ext_getElem
  · simp [madeCells]
  · intro i h1 h2
    simp [madeCells, Value.cells, Nat.mod_one]
/-- a slice that was just made -/
theorem make_bools (n : Nat) (w : World) (hn : n ≤ 200) : ∃ w', (Instr.makeSlice 75 (.int .i64 (n : Int)) (.int .i64 (n : Int))).run Try.prog w = .ok (.slice (some ⟨w.heap.size, 0, none⟩) n n) w' ∧
    w'.ownsRow w.heap.size 4 1 (.slice (some ⟨w.heap.size, 0, none⟩) n n) n ((List.replicate n false).map Value.bool) ∧ Below w.heap.size w w' := by
  obtain ⟨i, hi, hz0, hz1, hz2⟩ := info_parts info_bool
  obtain ⟨w', h1, h2, h3⟩ := run_makeSlice_full (P := Try.prog) w w.heap.size 75 4 i (.bool false) 1 Try.underlying75 hi hz0 hz1 .i64 .i64 n (by omega) (by rw [hz2]; omega) (by unfold maxLen; omega) (Nat.le_refl _)
  rw [made_false] at h2
  exact ⟨w', h1, h2, (Keep.of_grown (F := fun _ => False) h3 (fun k hk => by cases hk)).below (Nat.le_refl _) (fun x hx => hx.elim)⟩
theorem own_cells2 {w : World} {base n cap g : Nat} {e : TypeId} {xs : List Value} (h : w.ownsRow base e 1 (.slice (some ⟨g, 0, none⟩) n cap) n xs) (k : Nat) (hk : k < n) : w.frozen? ⟨g, k, none⟩ = false := by
  obtain ⟨g', cap', e1, _, _, hc⟩ := own_open h (by omega)
  injection e1 with e1 e2 e3
  injection e1 with e1
  injection e1 with e1
  subst e1
  have hl := h.1
  exact (hc k xs[k] (List.getElem?_eq_getElem (by omega))).2
structure SrtIs (w W : World) (l : List Act3) (hb : Nat) (A1 : Option Addr) (c1 : Nat) (A3 : Option Addr) (c3 rb sb hb2 i : Nat) : Prop where
  heap : hi.HeapIs W hb hb (popsN l i) l.length A1 c1
  out : W.ownsRow rb 3 1 (.slice A3 l.length c3) l.length ((sortN l).map hi.outV)
  seen : W.ownsRow sb 4 1 (.slice (some ⟨sb, 0, none⟩) l.length l.length) l.length ((seenL l i).map Value.bool)
  below : Below w.heap.size w W
theorem SrtIs.pop {w W W4 : World} {l : List Act3} {hb : Nat} {A1 : Option Addr} {c1 : Nat} {A3 : Option Addr} {c3 rb sb hb2 i : Nat} (h : SrtIs w W l hb A1 c1 A3 c3 rb sb hb2 i) (hle : w.heap.size ≤ hb) (hlow : ∀ g, hi.heapF hb A1 g → g < hb2) (h1 : hb2 ≤ rb) (h2 : hb2 ≤ sb)
    (h4 : hi.HeapIs W4 hb hb (popT (popsN l i)) l.length A1 c1) (hk : Keep (hi.heapF hb A1) W W4) :
    W4.ownsRow rb 3 1 (.slice A3 l.length c3) l.length ((sortN l).map hi.outV) ∧ W4.ownsRow sb 4 1 (.slice (some ⟨sb, 0, none⟩) l.length l.length) l.length ((seenL l i).map Value.bool) ∧ Below w.heap.size w W4 :=
  ⟨own_keep h.out hk (fun g hg hF => by have := own_base h.out g hg; have := hlow g hF; omega), own_keep h.seen hk (fun g hg hF => by have := own_base h.seen g hg; have := hlow g hF; omega),
   h.below.trans (hk.below h.below.size (fun g hg => Nat.le_trans hle (h.heap.base g hg)))⟩
theorem SrtIs.mark {w W4 : World} {l : List Act3} {hb : Nat} {A1 : Option Addr} {c1 : Nat} {A3 : Option Addr} {c3 rb sb hb2 i k : Nat} (hlow : ∀ g, hi.heapF hb A1 g → g < hb2) (h2 : hb2 ≤ sb) (hws : w.heap.size ≤ sb)
    (h4 : hi.HeapIs W4 hb hb (popT (popsN l i)) l.length A1 c1) (ho : W4.ownsRow rb 3 1 (.slice A3 l.length c3) l.length ((sortN l).map hi.outV)) (hs : W4.ownsRow sb 4 1 (.slice (some ⟨sb, 0, none⟩) l.length l.length) l.length ((seenL l i).map Value.bool)) (hb4 : Below w.heap.size w W4)
    (hi' : i < (sortN l).length) (e : (sortN l)[i].x = (k : Int)) : SrtIs w (W4.setCell ⟨sb, k, none⟩ (.bool true)) l hb A1 c1 A3 c3 rb sb hb2 (i + 1) := by
  have K : Keep (fun g => g = sb) W4 (W4.setCell ⟨sb, k, none⟩ (.bool true)) := Keep.setCell (F := fun g => g = sb) (p := ⟨sb, k, none⟩) (Keep.refl _ _) (.inl rfl) _
  refine ⟨h4.keep K (fun g hF e => by have := hlow g hF; omega), own_keep ho K (fun g hg e => row_row_ne ho hs (by decide) g hg (by rw [e]; rfl)), ?_, hb4.setCell (p := ⟨sb, k, none⟩) hws _⟩
  have := own_set hs k (.bool true)
  rw [← List.map_set, ← seenL_next l i k hi' e] at this
  exact this
def encAct (a : Act3) : List Value := [.int .i64 a.1, .int .i64 a.2.1, .int .i64 a.2.2]
def toAct (l : List Int) : Act3 := (l.getD 0 0, l.getD 1 0, l.getD 2 0)
theorem enc_toAct (l : List Int) (h : l.length = 3) : encInts .i64 l = encAct (toAct l) := by
  match l, h with
  | [a, b, c], _ => rfl
theorem sl_act {w : World} {A : Option Addr} {xs : List (List Int)} (hA : Sl w A (encInts .i64) 3 xs) (h : ∀ y ∈ xs, y.length = 3) : Sl w A encAct 3 (xs.map toAct) := by
  intro i x hx
  rw [List.getElem?_map, Option.map_eq_some_iff] at hx
  obtain ⟨y, hy, rfl⟩ := hx
  obtain ⟨b, o, e, hc⟩ := hA i y hy
  exact ⟨b, o, e, by rw [← enc_toAct y (h y (List.mem_of_getElem? hy))]; exact hc⟩

set_option maxHeartbeats 8000000 in
theorem hsorts_small (l : List Act3) (A : Option Addr) (c : Nat) (w : World) (hl : Sl w A encAct 3 l) (hlen : l.length ≤ 200) : Calls Try.prog 9 #[.slice A l.length c] w (RetTrue w) := by
  have h200 : ¬ (200 : Int) < (l.length : Int) := by omega
  have HL := Lib.hid hl
  clear hl
  go_enter Try.func9, Try.ntmps9
  go_wp2_with fail
  refine (hawake_any _).mono ?_
  rintro e w1 ⟨rfl, hb1⟩
  have HB1 := Lib.hid hb1
  clear hb1
  go_wp2_with fail
  refine (hi.new_any w1).mono ?_
  rintro e w2 ⟨rfl, h2, hb2⟩
  have HB2 := Lib.hid (HB1.out.trans (hb2.mono HB1.out.size))
  have HHB := Lib.hid HB1.out.size
  have HS2 := Lib.hid hb2.size
  have H2 := Lib.hid h2
  clear h2 hb2
  generalize w1.heap.size = hb at *
  go_wp2_with fail
  go_loopg [4] l.length (fun n i W => ∃ k : Nat, k + n = l.length ∧ i = .int .i64 (k : Int) ∧ Below w.heap.size w W ∧ hb ≤ W.heap.size ∧ ∃ A9 c9, hi.HeapIs W hb hb (pushN l k) k A9 c9)
  case atStart => exact ⟨0, by omega, rfl, HB2.out, HS2.out, none, 0, H2.out⟩
  case round =>
    obtain ⟨k, hk, rfl, hB, hS, hP⟩ := hrel
    rename World => W
    have HB := Lib.hid hB
    have HP := Lib.hid hP
    have HS := Lib.hid hS
    clear hB hP hS H2 HS2
    by_cases hlt : k < l.length
    · have hlt' : (k : Int) < (l.length : Int) := by omega
      have p0 : (0 : Int) ≤ (k : Int) := by omega
      obtain ⟨ba, o, rfl, hcc⟩ := HL.out.at k hlt
      have HTH := Lib.hid (show thK l k = ⟨l[k].2.1, l[k].2.2, k, k⟩ from by unfold thK; rw [List.getD_eq_getElem?_getD, List.getElem?_eq_getElem hlt]; rfl)
      obtain ⟨xk, xr, xp, hx⟩ : ∃ xk xr xp, l[k] = (xk, xr, xp) := ⟨_, _, _, rfl⟩
      rw [hx] at hcc HTH
      have g1 := hcc 1 _ rfl
      have g2 := hcc 2 _ rfl
      have HSC : Hid (∀ V, Below w.heap.size w V → V.cell? ⟨ba, o + k * 3 + 1, none⟩ = some (.int .i64 xr) ∧ V.cell? ⟨ba, o + k * 3 + 2, none⟩ = some (.int .i64 xp)) := Lib.hid (fun V hV => ⟨below_cell hV (Nat.le_refl _) g1, below_cell hV (Nat.le_refl _) g2⟩)
      clear hcc hx g1 g2
      obtain ⟨A9, c9, h9⟩ := HP.out
      have H9 := Lib.hid h9.drew
      have HBD := Lib.hid (HB.out.drew)
      have hsd : hb ≤ W.drew.heap.size := HS.out
      have hpl := pushN_len l k
      have HPL := Lib.hid hpl
      clear h9 hpl
      go_wp2_with fail
      refine wp_region_D (Ds := []) (S := fun V => V.cell? ⟨ba, o + k * 3 + 1, none⟩ = some (.int .i64 xr) ∧ V.cell? ⟨ba, o + k * 3 + 2, none⟩ = some (.int .i64 xp)) (by kernel_rfl) (by exact HSC.out _ HBD.out) (fun hHeld => ?_)
      generalize W.drew = W0 at *
      refine wpAnyD_takeP (i := 0) (oi := { dst := some 35, op := Op.move (Operand.tmp 3), type := 61, pos := "law.go:87", after := #[], guard := none }) (d := 35) (v := ?_) rfl rfl (by kernel_rfl) (by kernel_rfl) (by kernel_rfl) (fun _ _ _ h => h) (Or.inl ⟨by rfl, ?_⟩) ?_
      rotate_left
      · (intro w' _; go_simp; (try with_reducible rfl))
      simp only [List.setIfInBounds_toArray, List.set_cons_zero, List.set_cons_succ]
      refine wpAnyD_takeP (i := 1) (oi := { dst := some 36, op := Op.move (Operand.tmp 0), type := 60, pos := "law.go:87", after := #[], guard := none }) (d := 36) (v := ?_) rfl rfl (by kernel_rfl) (by kernel_rfl) (by kernel_rfl) (fun _ _ _ h => h) (Or.inl ⟨by rfl, ?_⟩) ?_
      rotate_left
      · (intro w' _; go_simp; (try with_reducible rfl))
      simp only [List.setIfInBounds_toArray, List.set_cons_zero, List.set_cons_succ]
      refine wpAnyD_takeP (i := 2) (oi := { dst := some 37, op := Op.move (Operand.tmp 4), type := 3, pos := "law.go:87", after := #[], guard := none }) (d := 37) (v := ?_) rfl rfl (by kernel_rfl) (by kernel_rfl) (by kernel_rfl) (fun _ _ _ h => h) (Or.inl ⟨by rfl, ?_⟩) ?_
      rotate_left
      · (intro w' _; go_simp; (try with_reducible rfl))
      simp only [List.setIfInBounds_toArray, List.set_cons_zero, List.set_cons_succ]
      refine wpAnyD_takeP (i := 3) (oi := { dst := some 38, op := Op.indexAddr 60 (Operand.tmp 36) (Operand.tmp 37), type := 0, pos := "law.go:87", after := #[{ on := 1, ground := Ground.data }, { on := 2, ground := Ground.data }], guard := none }) (d := 38) (v := ?_) rfl rfl (by kernel_rfl) (by kernel_rfl) (by kernel_rfl) (fun _ _ _ h => h) (Or.inl ⟨by rfl, ?_⟩) ?_
      rotate_left
      · (intro w' _; go_simp; (try with_reducible rfl))
      simp only [List.setIfInBounds_toArray, List.set_cons_zero, List.set_cons_succ]
      refine wpAnyD_takeP (i := 4) (oi := { dst := some 39, op := Op.fieldAddr 65 (Operand.tmp 38) 1, type := 0, pos := "law.go:87", after := #[{ on := 3, ground := Ground.data }], guard := none }) (d := 39) (v := ?_) rfl rfl (by kernel_rfl) (by kernel_rfl) (by kernel_rfl) (fun _ _ _ h => h) (Or.inl ⟨by rfl, ?_⟩) ?_
      rotate_left
      · (intro w' _; go_simp; (try with_reducible rfl))
      simp only [List.setIfInBounds_toArray, List.set_cons_zero, List.set_cons_succ]
      refine wpAnyD_takeP (i := 6) (oi := { dst := some 41, op := Op.move (Operand.tmp 0), type := 60, pos := "law.go:87", after := #[], guard := none }) (d := 41) (v := ?_) rfl rfl (by kernel_rfl) (by kernel_rfl) (by kernel_rfl) (fun _ _ _ h => h) (Or.inl ⟨by rfl, ?_⟩) ?_
      rotate_left
      · (intro w' _; go_simp; (try with_reducible rfl))
      simp only [List.setIfInBounds_toArray, List.set_cons_zero, List.set_cons_succ]
      refine wpAnyD_takeP (i := 7) (oi := { dst := some 42, op := Op.move (Operand.tmp 4), type := 3, pos := "law.go:87", after := #[], guard := none }) (d := 42) (v := ?_) rfl rfl (by kernel_rfl) (by kernel_rfl) (by kernel_rfl) (fun _ _ _ h => h) (Or.inl ⟨by rfl, ?_⟩) ?_
      rotate_left
      · (intro w' _; go_simp; (try with_reducible rfl))
      simp only [List.setIfInBounds_toArray, List.set_cons_zero, List.set_cons_succ]
      refine wpAnyD_takeP (i := 8) (oi := { dst := some 43, op := Op.indexAddr 60 (Operand.tmp 41) (Operand.tmp 42), type := 0, pos := "law.go:87", after := #[{ on := 6, ground := Ground.data }, { on := 7, ground := Ground.data }], guard := none }) (d := 43) (v := ?_) rfl rfl (by kernel_rfl) (by kernel_rfl) (by kernel_rfl) (fun _ _ _ h => h) (Or.inl ⟨by rfl, ?_⟩) ?_
      rotate_left
      · (intro w' _; go_simp; (try with_reducible rfl))
      simp only [List.setIfInBounds_toArray, List.set_cons_zero, List.set_cons_succ]
      refine wpAnyD_takeP (i := 9) (oi := { dst := some 44, op := Op.fieldAddr 65 (Operand.tmp 43) 2, type := 0, pos := "law.go:87", after := #[{ on := 8, ground := Ground.data }], guard := none }) (d := 44) (v := ?_) rfl rfl (by kernel_rfl) (by kernel_rfl) (by kernel_rfl) (fun _ _ _ h => h) (Or.inl ⟨by rfl, ?_⟩) ?_
      rotate_left
      · (intro w' _; go_simp; (try with_reducible rfl))
      simp only [List.setIfInBounds_toArray, List.set_cons_zero, List.set_cons_succ]
      refine wpAnyD_takeP (i := 11) (oi := { dst := some 46, op := Op.move (Operand.tmp 4), type := 3, pos := "law.go:87", after := #[], guard := none }) (d := 46) (v := ?_) rfl rfl (by kernel_rfl) (by kernel_rfl) (by kernel_rfl) (fun _ _ _ h => h) (Or.inl ⟨by rfl, ?_⟩) ?_
      rotate_left
      · (intro w' _; go_simp; (try with_reducible rfl))
      simp only [List.setIfInBounds_toArray, List.set_cons_zero, List.set_cons_succ]
      refine wpAnyD_takeD (i := 5) (oi := { dst := some 40, op := Op.load 3 (Operand.tmp 39), type := 3, pos := "law.go:87", after := #[{ on := 4, ground := Ground.data }], guard := none }) (d := 40) (v := ?_) rfl rfl (by kernel_rfl) (by kernel_rfl) (by kernel_rfl) (by kernel_rfl) (fun _ _ _ h => h) (Or.inl ⟨by rfl, ?_⟩) hHeld ?_
      rotate_left
      · (intro w' hSw; (try dsimp only at hSw); go_simp; (try with_reducible rfl))
      simp only [List.setIfInBounds_toArray, List.set_cons_zero, List.set_cons_succ]
      refine wpAnyD_takeD (i := 10) (oi := { dst := some 45, op := Op.load 3 (Operand.tmp 44), type := 3, pos := "law.go:87", after := #[{ on := 9, ground := Ground.data }], guard := none }) (d := 45) (v := ?_) rfl rfl (by kernel_rfl) (by kernel_rfl) (by kernel_rfl) (by kernel_rfl) (fun _ _ _ h => h) (Or.inl ⟨by rfl, ?_⟩) hHeld ?_
      rotate_left
      · (intro w' hSw; (try dsimp only at hSw); go_simp; (try with_reducible rfl))
      simp only [List.setIfInBounds_toArray, List.set_cons_zero, List.set_cons_succ]
      refine wpAnyD_one (i := 12) (o := { dst := some 47, op := Op.call { callee := Callee.value (Operand.func 35), args := #[Operand.tmp 35, Operand.tmp 40, Operand.tmp 45, Operand.tmp 46], argTypes := #[61, 3, 3, 3] }, type := 0, pos := "law.go:87", after := #[{ on := 0, ground := Ground.data }, { on := 5, ground := Ground.data }, { on := 10, ground := Ground.data }, { on := 11, ground := Ground.data }], guard := none }) (by kernel_rfl) rfl (by rfl) (fun K hK => ?_)
      go_simp; refine (hi.push_any H9.out xr xp k (by rw [HPL.out]; omega) p0 (by omega) hsd).mono ?_; rintro e w' ⟨rfl, ⟨A8, c8, h8, _⟩, hk8⟩; have HB8 := Lib.hid (HBD.out.trans (hk8.below HBD.out.size (fun g hg => Nat.le_trans HHB.out (H9.out.base g hg)))); have HS8 := Lib.hid (Nat.le_trans hsd hk8.size); have h := HSC.out _ HB8.out; have H8 := Lib.hid h8; clear h8 hk8; go_simp
      refine hK.out _ _ h (fun hHeld => ?_)
      clear hK K
      try simp only [Act.put, List.setIfInBounds_toArray, List.set_cons_zero, List.set_cons_succ]
      refine wpAnyD_done (by kernel_rfl) ?_ _
      go_wp2_with fail
      go_roundg (gk - 1)
      case measure => omega
      case rel => exact ⟨k + 1, by omega, by simp, HB8.out, HS8.out, by
        have := H8.out
        rw [← HTH.out] at this
        exact ⟨A8, c8, by simpa [pushN] using this⟩⟩
    · have hke : k = l.length := by omega
      subst hke
      have hlt' : ¬ ((l.length : Nat) : Int) < (l.length : Int) := by omega
      obtain ⟨A1, c1, h1⟩ := HP.out
      have H1 := Lib.hid h1
      clear h1
      go_wp2_with fail
      refine (hi.new_any W).mono ?_
      rintro e w5 ⟨rfl, h5, hb5⟩
      have HF1 := Lib.hid (fun g hg => H1.out.lt g hg)
      have H15 := Lib.hid (H1.out.below hb5 (Nat.le_refl _))
      have HB5 := Lib.hid (HB.out.trans (hb5.mono HB.out.size))
      have HHB2 := Lib.hid HB.out.size
      have HS5 := Lib.hid hb5.size
      have H5 := Lib.hid h5
      have HT5 : Hid (hi.HeapIs w5 hb hb (pushN l l.length) l.length A1 c1 ∧ Below W.heap.size w5 w5) := Lib.hid ⟨H15.out, Below.refl _ _⟩
      have HHLE := Lib.hid HS.out
      clear h5 hb5 H15 H1 HP HB HS
      have HW0 : Hid (∀ V, Below W.heap.size w5 V → hi.HeapIs V hb hb (pushN l l.length) l.length A1 c1) := Lib.hid (fun V hV => ⟨blk_below hV (HF1.out _ (.inl rfl)) HT5.out.1.blk, own_keep HT5.out.1.row (F := fun g => W.heap.size ≤ g) ⟨hV.os, hV.tape, hV.output, hV.size, fun x hx hf => hV.block x (by omega)⟩ (fun g hg hf => absurd (HF1.out g (.inr (hi.own_addr HT5.out.1.row g hg))) (by omega)), HT5.out.1.le⟩)
      generalize W.heap.size = hb2 at *
      go_wp2_with fail
      go_loopg [6] l.length (fun n i W => ∃ k : Nat, k + n = l.length ∧ i = .int .i64 (k : Int) ∧ Below w.heap.size w W ∧ (hb2 ≤ W.heap.size ∧ Below hb2 w5 W) ∧ ∃ A9 c9, hi.HeapIs W hb2 hb2 (pushN l k) k A9 c9)
      case atStart => exact ⟨0, by omega, rfl, HB5.out, ⟨HS5.out, Below.refl _ _⟩, none, 0, H5.out⟩
      case round =>
        obtain ⟨k, hk, rfl, hB, hS, hP⟩ := hrel
        rename World => W
        have HB := Lib.hid hB
        have HP := Lib.hid hP
        have HS := Lib.hid hS
        clear hB hP hS
        by_cases hlt : k < l.length
        · have hlt' : (k : Int) < (l.length : Int) := by omega
          have p0 : (0 : Int) ≤ (k : Int) := by omega
          obtain ⟨ba, o, rfl, hcc⟩ := HL.out.at k hlt
          have HTH := Lib.hid (show thK l k = ⟨l[k].2.1, l[k].2.2, k, k⟩ from by unfold thK; rw [List.getD_eq_getElem?_getD, List.getElem?_eq_getElem hlt]; rfl)
          obtain ⟨xk, xr, xp, hx⟩ : ∃ xk xr xp, l[k] = (xk, xr, xp) := ⟨_, _, _, rfl⟩
          rw [hx] at hcc HTH
          have g1 := hcc 1 _ rfl
          have g2 := hcc 2 _ rfl
          have HSC : Hid (∀ V, Below w.heap.size w V → V.cell? ⟨ba, o + k * 3 + 1, none⟩ = some (.int .i64 xr) ∧ V.cell? ⟨ba, o + k * 3 + 2, none⟩ = some (.int .i64 xp)) := Lib.hid (fun V hV => ⟨below_cell hV (Nat.le_refl _) g1, below_cell hV (Nat.le_refl _) g2⟩)
          clear hcc hx g1 g2
          obtain ⟨A9, c9, h9⟩ := HP.out
          have H9 := Lib.hid h9.drew
          have HBD := Lib.hid (HB.out.drew)
          have hsd : hb2 ≤ W.drew.heap.size := HS.out.1
          have HBD5 := Lib.hid HS.out.2.drew
          have hpl := pushN_len l k
          have HPL := Lib.hid hpl
          clear h9 hpl
          go_wp2_with fail
          refine wp_region_D (Ds := []) (S := fun V => V.cell? ⟨ba, o + k * 3 + 1, none⟩ = some (.int .i64 xr) ∧ V.cell? ⟨ba, o + k * 3 + 2, none⟩ = some (.int .i64 xp)) (by kernel_rfl) (by exact HSC.out _ HBD.out) (fun hHeld => ?_)
          generalize W.drew = W0 at *
          refine wpAnyD_takeP (i := 0) (oi := { dst := some 55, op := Op.move (Operand.tmp 5), type := 61, pos := "law.go:91", after := #[], guard := none }) (d := 55) (v := ?_) rfl rfl (by kernel_rfl) (by kernel_rfl) (by kernel_rfl) (fun _ _ _ h => h) (Or.inl ⟨by rfl, ?_⟩) ?_
          rotate_left
          · (intro w' _; go_simp; (try with_reducible rfl))
          simp only [List.setIfInBounds_toArray, List.set_cons_zero, List.set_cons_succ]
          refine wpAnyD_takeP (i := 1) (oi := { dst := some 56, op := Op.move (Operand.tmp 0), type := 60, pos := "law.go:91", after := #[], guard := none }) (d := 56) (v := ?_) rfl rfl (by kernel_rfl) (by kernel_rfl) (by kernel_rfl) (fun _ _ _ h => h) (Or.inl ⟨by rfl, ?_⟩) ?_
          rotate_left
          · (intro w' _; go_simp; (try with_reducible rfl))
          simp only [List.setIfInBounds_toArray, List.set_cons_zero, List.set_cons_succ]
          refine wpAnyD_takeP (i := 2) (oi := { dst := some 57, op := Op.move (Operand.tmp 6), type := 3, pos := "law.go:91", after := #[], guard := none }) (d := 57) (v := ?_) rfl rfl (by kernel_rfl) (by kernel_rfl) (by kernel_rfl) (fun _ _ _ h => h) (Or.inl ⟨by rfl, ?_⟩) ?_
          rotate_left
          · (intro w' _; go_simp; (try with_reducible rfl))
          simp only [List.setIfInBounds_toArray, List.set_cons_zero, List.set_cons_succ]
          refine wpAnyD_takeP (i := 3) (oi := { dst := some 58, op := Op.indexAddr 60 (Operand.tmp 56) (Operand.tmp 57), type := 0, pos := "law.go:91", after := #[{ on := 1, ground := Ground.data }, { on := 2, ground := Ground.data }], guard := none }) (d := 58) (v := ?_) rfl rfl (by kernel_rfl) (by kernel_rfl) (by kernel_rfl) (fun _ _ _ h => h) (Or.inl ⟨by rfl, ?_⟩) ?_
          rotate_left
          · (intro w' _; go_simp; (try with_reducible rfl))
          simp only [List.setIfInBounds_toArray, List.set_cons_zero, List.set_cons_succ]
          refine wpAnyD_takeP (i := 4) (oi := { dst := some 59, op := Op.fieldAddr 65 (Operand.tmp 58) 1, type := 0, pos := "law.go:91", after := #[{ on := 3, ground := Ground.data }], guard := none }) (d := 59) (v := ?_) rfl rfl (by kernel_rfl) (by kernel_rfl) (by kernel_rfl) (fun _ _ _ h => h) (Or.inl ⟨by rfl, ?_⟩) ?_
          rotate_left
          · (intro w' _; go_simp; (try with_reducible rfl))
          simp only [List.setIfInBounds_toArray, List.set_cons_zero, List.set_cons_succ]
          refine wpAnyD_takeP (i := 6) (oi := { dst := some 61, op := Op.move (Operand.tmp 0), type := 60, pos := "law.go:91", after := #[], guard := none }) (d := 61) (v := ?_) rfl rfl (by kernel_rfl) (by kernel_rfl) (by kernel_rfl) (fun _ _ _ h => h) (Or.inl ⟨by rfl, ?_⟩) ?_
          rotate_left
          · (intro w' _; go_simp; (try with_reducible rfl))
          simp only [List.setIfInBounds_toArray, List.set_cons_zero, List.set_cons_succ]
          refine wpAnyD_takeP (i := 7) (oi := { dst := some 62, op := Op.move (Operand.tmp 6), type := 3, pos := "law.go:91", after := #[], guard := none }) (d := 62) (v := ?_) rfl rfl (by kernel_rfl) (by kernel_rfl) (by kernel_rfl) (fun _ _ _ h => h) (Or.inl ⟨by rfl, ?_⟩) ?_
          rotate_left
          · (intro w' _; go_simp; (try with_reducible rfl))
          simp only [List.setIfInBounds_toArray, List.set_cons_zero, List.set_cons_succ]
          refine wpAnyD_takeP (i := 8) (oi := { dst := some 63, op := Op.indexAddr 60 (Operand.tmp 61) (Operand.tmp 62), type := 0, pos := "law.go:91", after := #[{ on := 6, ground := Ground.data }, { on := 7, ground := Ground.data }], guard := none }) (d := 63) (v := ?_) rfl rfl (by kernel_rfl) (by kernel_rfl) (by kernel_rfl) (fun _ _ _ h => h) (Or.inl ⟨by rfl, ?_⟩) ?_
          rotate_left
          · (intro w' _; go_simp; (try with_reducible rfl))
          simp only [List.setIfInBounds_toArray, List.set_cons_zero, List.set_cons_succ]
          refine wpAnyD_takeP (i := 9) (oi := { dst := some 64, op := Op.fieldAddr 65 (Operand.tmp 63) 2, type := 0, pos := "law.go:91", after := #[{ on := 8, ground := Ground.data }], guard := none }) (d := 64) (v := ?_) rfl rfl (by kernel_rfl) (by kernel_rfl) (by kernel_rfl) (fun _ _ _ h => h) (Or.inl ⟨by rfl, ?_⟩) ?_
          rotate_left
          · (intro w' _; go_simp; (try with_reducible rfl))
          simp only [List.setIfInBounds_toArray, List.set_cons_zero, List.set_cons_succ]
          refine wpAnyD_takeP (i := 11) (oi := { dst := some 66, op := Op.move (Operand.tmp 6), type := 3, pos := "law.go:91", after := #[], guard := none }) (d := 66) (v := ?_) rfl rfl (by kernel_rfl) (by kernel_rfl) (by kernel_rfl) (fun _ _ _ h => h) (Or.inl ⟨by rfl, ?_⟩) ?_
          rotate_left
          · (intro w' _; go_simp; (try with_reducible rfl))
          simp only [List.setIfInBounds_toArray, List.set_cons_zero, List.set_cons_succ]
          refine wpAnyD_takeD (i := 5) (oi := { dst := some 60, op := Op.load 3 (Operand.tmp 59), type := 3, pos := "law.go:91", after := #[{ on := 4, ground := Ground.data }], guard := none }) (d := 60) (v := ?_) rfl rfl (by kernel_rfl) (by kernel_rfl) (by kernel_rfl) (by kernel_rfl) (fun _ _ _ h => h) (Or.inl ⟨by rfl, ?_⟩) hHeld ?_
          rotate_left
          · (intro w' hSw; (try dsimp only at hSw); go_simp; (try with_reducible rfl))
          simp only [List.setIfInBounds_toArray, List.set_cons_zero, List.set_cons_succ]
          refine wpAnyD_takeD (i := 10) (oi := { dst := some 65, op := Op.load 3 (Operand.tmp 64), type := 3, pos := "law.go:91", after := #[{ on := 9, ground := Ground.data }], guard := none }) (d := 65) (v := ?_) rfl rfl (by kernel_rfl) (by kernel_rfl) (by kernel_rfl) (by kernel_rfl) (fun _ _ _ h => h) (Or.inl ⟨by rfl, ?_⟩) hHeld ?_
          rotate_left
          · (intro w' hSw; (try dsimp only at hSw); go_simp; (try with_reducible rfl))
          simp only [List.setIfInBounds_toArray, List.set_cons_zero, List.set_cons_succ]
          refine wpAnyD_one (i := 12) (o := { dst := some 67, op := Op.call { callee := Callee.value (Operand.func 35), args := #[Operand.tmp 55, Operand.tmp 60, Operand.tmp 65, Operand.tmp 66], argTypes := #[61, 3, 3, 3] }, type := 0, pos := "law.go:91", after := #[{ on := 0, ground := Ground.data }, { on := 5, ground := Ground.data }, { on := 10, ground := Ground.data }, { on := 11, ground := Ground.data }], guard := none }) (by kernel_rfl) rfl (by rfl) (fun K hK => ?_)
          go_simp; refine (hi.push_any H9.out xr xp k (by rw [HPL.out]; omega) p0 (by omega) hsd).mono ?_; rintro e w' ⟨rfl, ⟨A8, c8, h8, _⟩, hk8⟩; have HB8 := Lib.hid (HBD.out.trans (hk8.below HBD.out.size (fun g hg => Nat.le_trans HHB2.out (H9.out.base g hg)))); have HS8 := Lib.hid (And.intro (Nat.le_trans hsd hk8.size) (HBD5.out.trans (hk8.below hsd (fun g hg => H9.out.base g hg)))); have h := HSC.out _ HB8.out; have H8 := Lib.hid h8; clear h8 hk8; go_simp
          refine hK.out _ _ h (fun hHeld => ?_)
          clear hK K
          try simp only [Act.put, List.setIfInBounds_toArray, List.set_cons_zero, List.set_cons_succ]
          refine wpAnyD_done (by kernel_rfl) ?_ _
          go_wp2_with fail
          go_roundg (gk - 1)
          case measure => omega
          case rel => exact ⟨k + 1, by omega, by simp, HB8.out, HS8.out, by
            have := H8.out
            rw [← HTH.out] at this
            exact ⟨A8, c8, by simpa [pushN] using this⟩⟩
        · have hke : k = l.length := by omega
          subst hke
          have hlt' : ¬ ((l.length : Nat) : Int) < (l.length : Int) := by omega
          obtain ⟨A2, c2, h2⟩ := HP.out
          have H2 := Lib.hid h2
          clear h2
          have HLEN2 := Lib.hid (pushN_len l l.length)
          go_wp2_with fail
          refine (hi.drain_any H2.out (by rw [HLEN2.out]; omega)).mono ?_
          rintro e w6 ⟨⟨A3, c3, rfl, hrow⟩, h6, hk6⟩
          rw [HLEN2.out] at hrow ⊢
          have HB6 := Lib.hid (HB.out.trans (hk6.below HB.out.size (fun g hg => Nat.le_trans HHB2.out (H2.out.base g hg))))
          have HB56 := Lib.hid (HS.out.2.trans (hk6.below HS.out.1 (fun g hg => H2.out.base g hg)))
          have HROW := Lib.hid (show w6.ownsRow W.heap.size 3 1 (.slice A3 l.length c3) l.length ((sortN l).map hi.outV) from hrow)
          have H16 := Lib.hid (HW0.out _ HB56.out)
          have H26 := Lib.hid (hi.len_h h6)
          have HW2 := Lib.hid HS.out.1
          have HS5x := Lib.hid HS5.out
          clear hrow h6 hk6 HW0 H2 HB HS HP HT5 HB5 H5 HS5
          go_wp2_with fail
          refine H26.out.mono ?_
          rintro e w7 ⟨rfl, hw7⟩
          subst hw7
          clear H26
          obtain ⟨w8, hmk, hseen, hb8⟩ := make_bools l.length w7 hlen
          rw [← seenL_zero] at hseen
          have HROW8 := own_below HROW.out hb8 (Nat.le_refl _)
          have H18 := H16.out.below hb8 (Nat.le_refl _)
          have HSRT : Hid (SrtIs w w8 l hb A1 c1 A3 c3 W.heap.size w7.heap.size hb2 0) := Lib.hid ⟨H18, HROW8, hseen, HB6.out.trans (hb8.mono HB6.out.size)⟩
          have HSB : Hid (hb2 ≤ w7.heap.size) := Lib.hid (Nat.le_trans HS5x.out HB56.out.size)
          have HWS := Lib.hid HB6.out.size
          clear hseen hb8 HROW8 H18 HROW H16 HB6 HB56
          generalize W.heap.size = rb at *
          generalize w7.heap.size = sb at *
          go_wp2_with fail
          go_loopg [9, 10, 11] l.length (fun n u v i V => ∃ (j : Nat) (r p : Int), j + n = l.length ∧ u = .int .i64 r ∧ v = .int .i64 p ∧ i = .int .i64 (j : Int) ∧ (∀ (h : 0 < j) (h2 : j - 1 < (sortN l).length), r = (sortN l)[j - 1].r ∧ p = (sortN l)[j - 1].p) ∧ SrtIs w V l hb A1 c1 A3 c3 rb sb hb2 j)
          case atStart => exact ⟨0, 0, 0, by omega, rfl, rfl, rfl, fun h => absurd h (by omega), HSRT.out⟩
          case round =>
            obtain ⟨j, r, p, hj, rfl, rfl, rfl, hrp, hV⟩ := hrel
            clear HSRT hmk
            rename World => V
            have HV := Lib.hid hV
            have HRP := Lib.hid hrp
            have HPL := Lib.hid (popsN_len l j)
            have HSL := Lib.hid (sortN_len l)
            clear hV hrp
            by_cases hlt : j < l.length
            · have hlt' : (j : Int) < (l.length : Int) := by omega
              have h0 : 0 < (popsN l j).length := by rw [HPL.out]; omega
              have hjs : j < (sortN l).length := by rw [HSL.out]; exact hlt
              go_wp2_with fail
              refine (hi.pop_h HV.out.heap h0 (by rw [HPL.out]; omega)).mono ?_
              rintro e V4 ⟨rfl, h4, hk4⟩
              rw [popsN_top l j hlt h0]
              obtain ⟨ho, hs, hb4⟩ := HV.out.pop HHB.out HF1.out HW2.out HSB.out h4 hk4
              obtain ⟨k, hk, he⟩ := sortN_at l j hjs
              have HTH := Lib.hid (show thK l k = ⟨l[k].2.1, l[k].2.2, k, k⟩ from by unfold thK; rw [List.getD_eq_getElem?_getD, List.getElem?_eq_getElem hk]; rfl)
              have HE := Lib.hid he
              have HX := Lib.hid (show (sortN l)[j].x = (k : Int) from by rw [he]; rfl)
              obtain ⟨ba, o, hA, hcc⟩ := HL.out.at k hk
              have t1 := below_cell hb4 (Nat.le_refl _) (hcc 1 _ rfl)
              have t2 := below_cell hb4 (Nat.le_refl _) (hcc 2 _ rfl)
              subst hA
              obtain ⟨b3, o3, hA3, d0⟩ := (own_sl1 (enc := hi.outV) ho).at j hjs
              obtain ⟨b4, o4, hA4, s0⟩ := (own_sl1 (enc := Value.bool) hs).at k (by simpa [seenL] using hk)
              have hz0 := own_cells2 hs k hk
              have s1 : (seenL l j)[k]'(by simpa [seenL] using hk) = false := by unfold seenL; simp; exact seen_no l j k hjs (by rw [he]; rfl)
              rw [s1] at s0
              have d1 : hi.outV (sortN l)[j] = .int .i64 (k : Int) := by rw [he]; rfl
              rw [d1] at d0
              subst hA3
              injection hA4 with hA4
              injection hA4 with q1 q2
              subst q1; subst q2
              rw [Nat.zero_add] at s0
              have HMARK := Lib.hid (SrtIs.mark (k := k) HF1.out HSB.out HWS.out h4 ho hs hb4 hjs (by rw [he]; rfl))
              have HPREV := Lib.hid (fun (h : 0 < j) => sortN_le l (j - 1) (by omega))
              have HRP2 := Lib.hid (fun (h : 0 < j) => HRP.out h (by omega))
              rw [he, HTH.out]
              obtain ⟨xk, xr, xp, hx⟩ : ∃ xk xr xp, l[k] = (xk, xr, xp) := ⟨_, _, _, rfl⟩
              rw [hx] at t1 t2 HTH ⊢
              clear hcc hx h4 hk4 ho hs hb4 he s1 d1 HRP
              have k0 : (0 : Int) ≤ (k : Int) := by omega
              have k1 : (k : Int) < (l.length : Int) := by omega
              have j0 : (0 : Int) ≤ (j : Int) := by omega
              have k2 : ¬ (k : Int) < 0 := by omega
              by_cases hj0 : j = 0
              · subst hj0
                have e0 : ¬ (0 : Int) < ((0 : Nat) : Int) := by omega
                simp only [Nat.add_zero] at d0
                go_upto_region 22 with fail
                go_wp2_with fail
                go_roundg (gk - 1)
                case measure => omega
                case rel => exact ⟨0 + 1, xr, xp, by omega, rfl, rfl, by simp, fun _ h2 => by
                  have e1 := HE.out
                  rw [HTH.out] at e1
                  simp only [Nat.add_sub_cancel, e1]
                  exact ⟨trivial, trivial⟩, HMARK.out⟩
              · have e0 : (0 : Int) < (j : Int) := by omega
                have hprev : leT (⟨r, p, 0, 0⟩ : Th Int) ⟨xr, xp, 0, 0⟩ := by
                  have h1 := HPREV.out (by omega)
                  obtain ⟨r1, r2⟩ := HRP2.out (by omega)
                  have ej : j - 1 + 1 = j := by omega
                  simp only [ej] at h1
                  have e1 := HE.out
                  rw [HTH.out] at e1
                  rw [e1] at h1
                  rw [r1, r2]
                  unfold leT at h1 ⊢
                  simp only at h1 ⊢
                  omega
                unfold leT at hprev
                simp only at hprev
                have n1 : ¬ xr < r := by omega
                by_cases hr : xr = r
                · have n2 : ¬ xp < p := by omega
                  have HPV := Lib.hid hprev
                  clear hprev
                  subst hr
                  go_upto_region 22 with fail
                  go_wp2_with fail
                  go_roundg (gk - 1)
                  case measure => omega
                  case rel => exact ⟨j + 1, xr, xp, by omega, rfl, rfl, by simp, fun _ h2 => by
                    have e1 := HE.out
                    rw [HTH.out] at e1
                    simp only [Nat.add_sub_cancel, e1]
                    exact ⟨trivial, trivial⟩, HMARK.out⟩
                · have HPV := Lib.hid hprev
                  clear hprev
                  go_upto_region 22 with fail
                  go_wp2_with fail
                  go_roundg (gk - 1)
                  case measure => omega
                  case rel => exact ⟨j + 1, xr, xp, by omega, rfl, rfl, by simp, fun _ h2 => by
                    have e1 := HE.out
                    rw [HTH.out] at e1
                    simp only [Nat.add_sub_cancel, e1]
                    exact ⟨trivial, trivial⟩, HMARK.out⟩
            · have hje : j = l.length := by omega
              subst hje
              have hlt' : ¬ ((l.length : Nat) : Int) < (l.length : Int) := by omega
              have hnil : popsN l l.length = [] := List.eq_nil_of_length_eq_zero (by rw [HPL.out]; omega)
              have hh := HV.out.heap
              rw [hnil] at hh
              have HH := Lib.hid hh
              clear hh hnil
              go_wp2_with fail
              refine (hi.pop_none HH.out).mono ?_
              rintro e V2 ⟨rfl, hV2⟩
              subst hV2
              go_wp2_with fail
              refine (hi.len_h HH.out).mono ?_
              rintro e V3 ⟨rfl, hV3⟩
              subst hV3
              go_wp2_with fail
              go_ret
              exact ⟨rfl, HV.out.below⟩

theorem hsorts_law (x0 : List (List Int)) (A : Option Addr) (cA : Nat) (w : World)
    (_ : x0.length ≤ cA) (_ : cA ≤ maxLen) (h0 : ∀ y ∈ x0, y.length = 3 ∧ ∀ z ∈ y, (Lit.int .i64 z).wf = true) (hA : Sl w A (encInts .i64) 3 x0) :
    Calls Try.prog 9 #[.slice A x0.length cA] w (RetTrue w) := by
  by_cases h : x0.length ≤ 200
  · have e0 : x0.length = (x0.map toAct).length := by simp
    rw [e0]
    exact hsorts_small _ A cA w (sl_act hA (fun y hy => (h0 y hy).1)) (by rw [← e0]; exact h)
  · have h1 : (200 : Int) < (x0.length : Int) := by omega
    go_enter Try.func9, Try.ntmps9
    go_wp2_with fail
    refine (hawake_any _).mono ?_
    rintro e w1 ⟨rfl, hb1⟩
    go_wp2_with fail
    go_ret
    exact ⟨by simp, hb1⟩
end Go.Proofs.Ytdppdjiigecjoaa
