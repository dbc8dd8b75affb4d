/- Texts of several layers, one behind the other: Voc0, Find2, Alone0, Spine1, Spine2, Spine3, Spine4, Spine5, Spine6, Beside0. -/
import Derived.Test.YtbppaiejpgdbiaaGreatZA4
import Derived.WalkKit
import Derived.KernelRfl
import Derived.Lib.Hide
import Derived.Deep.QuietTactic
import Derived.BigQuiet
import Derived.OwnWalk
import Derived.Lib.Strings
import Derived.Deep.DeepCutAuto
import Derived.Deep.RegionHeld3
import Derived.StillTailTactics
import Derived.Test.YtbppaiejpgdbiaaGreatProg
import Derived.Deep.Slices
import Derived.Deep.Fields
import Derived.ChangeSame
import Derived.SliceStrings
import Derived.OpenShut
import Derived.Maps.OwnSet
import Derived.Maps.OwnOps
import Derived.DeepKeys4
import Derived.WideKeyEntry
import Derived.Maps.AppendAt
import Derived.Laws.ResultCell
import Derived.Laws.IdiomStrings
import Derived.Laws.AppendOwnNone
import Derived.Lib.AppendStr
import Derived.Laws.LoneSync
import Derived.Tactics
import Derived.Tactics2
import Derived.Defers
import Derived.Laws.Pointers
import Derived.RegionTactic
import Derived.RegionCalls
import Derived.ChangeAlike
import Derived.Test.YtbppaiejpgdbiaaGreatRows
import Derived.ProofKit
import Derived.ShutString
import Derived.ChangeOld
import Derived.Below
import Derived.Lib.SmallJoins
/- Layer 10 (vocab): a vocabulary in memory, its parts under one name; what keeps it. -/
namespace Go.Proofs.YtbppaiejpgdbiaaGreat
open Go.RowKit Go.Maps Go.WideMaps
set_option maxRecDepth 100000
set_option linter.unusedVariables false
set_option linter.unusedSimpArgs false
/-- where the parts of a vocabulary lie -/
structure VocP where
  (vb : Nat) (s : SpecP) (T : List Ent) (A1 A2 A3 A4 A5 : Option Addr) (c1 c2 c3 c4 c5 tbase tb bk kbase km : Nat) (sv : Value) (mb mp : Nat) (sv2 : Value) (mi mt : Nat)
def VocQ (w : World) (base : Nat) (p : VocP) (l : Value) (dn st se us : Int) : Prop :=
  VocIs w base p.vb p.s p.T p.A1 p.A2 p.A3 p.A4 p.A5 p.c1 p.c2 p.c3 p.c4 p.c5 p.tbase p.tb p.bk p.kbase p.km p.sv p.mb p.mp p.sv2 p.mi p.mt l dn st se us
section
variable {w w' : World} {base B : Nat} {p : VocP} {l : Value} {dn st se us : Int}
theorem VocQ.keep {F : Nat → Prop} (h : VocQ w base p l dn st se us) (k : Keep F w w') (hF : ∀ x, x ≤ p.vb → ¬ F x) : VocQ w' base p l dn st se us := by
  obtain ⟨V0, h1, h2, h3, h4, h5, h6⟩ := h.org
  exact ⟨k.blk h.blk (hF _ (Nat.le_refl _)), ⟨V0, h1, h2, h3, h4, h5, h6.trans (k.below h6.size (fun x hx => by
    apply Classical.byContradiction
    intro hn
    exact hF x (by omega) hx))⟩, h.lt⟩
theorem VocQ.lt_size (h : VocQ w base p l dn st se us) : p.vb < w.heap.size := blk_lt h.blk
theorem VocQ.below (h : VocQ w base p l dn st se us) (hb : Below B w w') (hB : w.heap.size ≤ B) : VocQ w' base p l dn st se us :=
  h.keep (F := fun x => B ≤ x) ⟨hb.os, hb.tape, hb.output, hb.size, fun x hx hf => hb.block x (by omega)⟩ (fun x hx hf => by have := h.lt_size; omega)
theorem VocQ.drew (h : VocQ w base p l dn st se us) : VocQ w.drew base p l dn st se us := h.below (B := w.heap.size) ⟨rfl, rfl, rfl, Nat.le_refl _, fun _ _ => rfl⟩ (Nat.le_refl _)
theorem VocQ.putL (h : VocQ w base p l dn st se us) (l' : Value) : VocQ (w.setCell ⟨p.vb, 12, none⟩ l') base p l' dn st se us := by
  obtain ⟨V0, h1, h2, h3, h4, h5, h6⟩ := h.org
  exact ⟨blk_set h.blk 12 l', ⟨V0, h1, h2, h3, h4, h5, h6.setCell h1 _⟩, h.lt⟩
theorem VocQ.putU (h : VocQ w base p l dn st se us) (u : Int) : VocQ (w.setCell ⟨p.vb, 13, none⟩ (.int .i64 u)) base p l dn st se u := by
  obtain ⟨V0, h1, h2, h3, h4, h5, h6⟩ := h.org
  exact ⟨blk_set h.blk 13 _, ⟨V0, h1, h2, h3, h4, h5, h6.setCell h1 _⟩, h.lt⟩
theorem VocQ.putD (h : VocQ w base p l dn st se us) (u : Int) : VocQ (w.setCell ⟨p.vb, 9, none⟩ (.int .u32 u)) base p l u st se us := by
  obtain ⟨V0, h1, h2, h3, h4, h5, h6⟩ := h.org
  exact ⟨blk_set h.blk 9 _, ⟨V0, h1, h2, h3, h4, h5, h6.setCell h1 _⟩, h.lt⟩
theorem VocQ.putS (h : VocQ w base p l dn st se us) (u : Int) : VocQ (w.setCell ⟨p.vb, 10, none⟩ (.int .i32 u)) base p l dn u se us := by
  obtain ⟨V0, h1, h2, h3, h4, h5, h6⟩ := h.org
  exact ⟨blk_set h.blk 10 _, ⟨V0, h1, h2, h3, h4, h5, h6.setCell h1 _⟩, h.lt⟩
theorem VocQ.cellL (h : VocQ w base p l dn st se us) : w.cell? ⟨p.vb, 12, none⟩ = some l := by have := blk_cell h.blk 12; simpa using this
theorem VocQ.cellD (h : VocQ w base p l dn st se us) : w.cell? ⟨p.vb, 9, none⟩ = some (.int .u32 dn) := by have := blk_cell h.blk 9; simpa using this
theorem VocQ.cellS (h : VocQ w base p l dn st se us) : w.cell? ⟨p.vb, 10, none⟩ = some (.int .i32 st) := by have := blk_cell h.blk 10; simpa using this
theorem VocQ.cellU (h : VocQ w base p l dn st se us) : w.cell? ⟨p.vb, 13, none⟩ = some (.int .i64 us) := by have := blk_cell h.blk 13; simpa using this
theorem VocQ.cellT (h : VocQ w base p l dn st se us) : w.cell? ⟨p.vb, 6, none⟩ = some (.pointer (some ⟨p.tb, 0, none⟩)) := by have := blk_cell h.blk 6; simpa using this
theorem VocQ.cellB (h : VocQ w base p l dn st se us) : w.cell? ⟨p.vb, 7, none⟩ = some (.pointer (some ⟨p.bk, 0, none⟩)) := by have := blk_cell h.blk 7; simpa using this
theorem VocQ.cellM (h : VocQ w base p l dn st se us) : w.cell? ⟨p.vb, 8, none⟩ = some (.pointer (some ⟨p.km, 0, none⟩)) := by have := blk_cell h.blk 8; simpa using this
theorem VocQ.froz (h : VocQ w base p l dn st se us) (i : Nat) : w.frozen? ⟨p.vb, i, none⟩ = false := blk_froz h.blk i
theorem VocQ.tab (h : VocQ w base p l dn st se us) : TabIs w p.tbase p.tb p.T p.sv p.mb p.mp := VocIs.tab h
theorem VocQ.bnd (h : VocQ w base p l dn st se us) : BTab w p.bk (Cof p.s.cs) (Jof p.s.js) := VocIs.bnd h
theorem VocQ.mrk (h : VocQ w base p l dn st se us) : MarkIs w p.kbase p.km p.s.xs p.sv2 p.mi p.mt := VocIs.mrk h
end
/-- where bytes are cut by a vocabulary -/
def VocP.cut (p : VocP) : Nat → Nat → Bool := cutB (Cof p.s.cs) (Jof p.s.js)
/-- the ordinary tokens that are alone -/
def VocP.al (p : VocP) (k : Nat) : List Bool := aloneL p.T (Cof p.s.cs) (Jof p.s.js) k
/-- a vocabulary; what find found, if it was asked: the row's block -/
def VocAt (w : World) (base : Nat) (p : VocP) (g : Option Nat) : Prop :=
  ∃ l dn st se us, VocQ w base p l dn st se us ∧ ((g = none ∧ l = .slice none 0 0 ∧ dn = 0 ∧ st = 0) ∨
    ∃ r, g = some r ∧ p.vb < r ∧ l = .slice (some ⟨r, 0, none⟩) p.T.length p.T.length ∧ dn = 1 ∧ w.ownsRow r 4 1 (.slice (some ⟨r, 0, none⟩) p.T.length p.T.length) p.T.length ((p.al p.T.length).map Value.bool))
section
variable {w w' : World} {base B : Nat} {p : VocP} {g : Option Nat}
theorem VocAt.keep {F : Nat → Prop} (h : VocAt w base p g) (k : Keep F w w') (hF : ∀ x, x ≤ p.vb ∨ g = some x → ¬ F x) : VocAt w' base p g := by
  obtain ⟨l, dn, st, se, us, h1, h2⟩ := h
  refine ⟨l, dn, st, se, us, h1.keep k (fun x hx => hF x (.inl hx)), ?_⟩
  rcases h2 with h2 | ⟨r, h3, h4, h5, h6, h7⟩
  · exact .inl h2
  · refine .inr ⟨r, h3, h4, h5, h6, own_keep h7 k (fun x hx => ?_)⟩
    simp only [Value.ownBlock, Option.some.injEq] at hx
    subst hx
    exact hF _ (.inr h3)
theorem VocAt.lt_size (h : VocAt w base p g) : p.vb < w.heap.size := by
  obtain ⟨l, dn, st, se, us, h1, h2⟩ := h
  exact h1.lt_size
theorem VocAt.below (h : VocAt w base p g) (hb : Below B w w') (hB : w.heap.size ≤ B) : VocAt w' base p g := by
  obtain ⟨l, dn, st, se, us, h1, h2⟩ := h
  refine ⟨l, dn, st, se, us, h1.below hb hB, ?_⟩
  rcases h2 with h2 | ⟨r, h3, h4, h5, h6, h7⟩
  · exact .inl h2
  · exact .inr ⟨r, h3, h4, h5, h6, own_below h7 hb hB⟩
end
end Go.Proofs.YtbppaiejpgdbiaaGreat

/- Layer 10 (vocab): find. -/
namespace Go.Proofs.YtbppaiejpgdbiaaGreat
open Go.RowKit Go.Maps Go.WideMaps
set_option maxRecDepth 100000
set_option linter.unusedVariables false
set_option linter.unusedSimpArgs false
/-- find under way -/
structure FindIs (w W : World) (base : Nat) (p : VocP) (r : Nat) (dn st se us : Int) (k : Nat) : Prop where
  voc : VocQ W base p (.slice (some ⟨r, 0, none⟩) p.T.length p.T.length) dn st se us
  row : W.ownsRow r 4 1 (.slice (some ⟨r, 0, none⟩) p.T.length p.T.length) p.T.length ((p.al k).map Value.bool)
  keep : Keep (fun x => x = p.vb) w W
  lt : w.heap.size ≤ r
  vlt : p.vb < w.heap.size
section
variable {w W W' : World} {base r k : Nat} {p : VocP} {dn st se us : Int} {l : Value}
theorem FindIs.below (h : FindIs w W base p r dn st se us k) (hb : Below W.heap.size W W') : FindIs w W' base p r dn st se us k :=
  ⟨h.voc.below hb (Nat.le_refl _), own_below h.row hb (Nat.le_refl _), h.keep.trans (G := fun _ => False) ⟨hb.os, hb.tape, hb.output, hb.size, fun x hx _ => hb.block x hx⟩ (fun x hx => hx.elim), h.lt, h.vlt⟩
theorem FindIs.put (h : FindIs w W base p r dn st se us k) (x : Bool) (hx : aloneB p.T (Cof p.s.cs) (Jof p.s.js) (k : Int) = x) : FindIs w (W.setCell ⟨r, k, none⟩ (.bool x)) base p r dn st se us (k + 1) := by
  have hne : ¬ r ≤ p.vb := by have := h.lt; have := h.vlt; omega
  have hkp : Keep (fun x => x = r) W (W.setCell ⟨r, k, none⟩ (.bool x)) := (Keep.refl (fun x => x = r) W).setCell (p := ⟨r, k, none⟩) (.inl rfl) _
  refine ⟨h.voc.keep hkp (fun y hy e => hne (e ▸ hy)), ?_, h.keep.trans hkp (fun y hy => .inr (by rw [hy]; exact h.lt)), h.lt, h.vlt⟩
  have := own_set h.row k (.bool x)
  unfold VocP.al at this ⊢
  rw [aloneL_succ, hx, List.map_set]
  exact this
theorem FindIs.drew (h : FindIs w W base p r dn st se us k) : FindIs w W.drew base p r dn st se us k := h.below ⟨rfl, rfl, rfl, Nat.le_refl _, fun _ _ => rfl⟩
theorem FindIs.cellAt (h : FindIs w W base p r dn st se us k) (j : Nat) (hj : j < p.T.length) : (∃ u, W.cell? ⟨r, j, none⟩ = some (.bool u)) ∧ W.frozen? ⟨r, j, none⟩ = false := by
  obtain ⟨g, cap, e, _, _, hc⟩ := own_open h.row (by omega)
  injection e with e _ _
  injection e with e
  injection e with e _
  subst e
  have hl : j < (p.al k).length := by unfold VocP.al; rw [aloneL_len]; exact hj
  obtain ⟨h1, h2⟩ := hc j (.bool (p.al k)[j]) (by simp [hl])
  exact ⟨⟨_, h1⟩, h2⟩
set_option maxHeartbeats 1000000 in
theorem find_any (h : VocQ w base p l dn st se us) (hT : OkT p.T) :
    Calls Tryz.prog 95 #[.pointer (some ⟨p.vb, 0, none⟩)] w fun e w' => e = .returned (.tuple #[]) ∧ ∃ r, FindIs w w' base p r dn st se us p.T.length := by
  have HZ := Lib.hid (vsize_any h)
  have hsm := hT.small
  have c12 := h.cellL
  obtain ⟨W1, hmk, hrow, hbl⟩ := make_bools p.T.length w (by omega)
  have d12 := below_cell hbl (Nat.le_refl _) c12
  have z12 := (h.below hbl (Nat.le_refl _)).froz 12
  rw [← aloneL_zero p.T (Cof p.s.cs) (Jof p.s.js)] at hrow
  have HF : Hid (FindIs w (W1.setCell ⟨p.vb, 12, none⟩ (.slice (some ⟨w.heap.size, 0, none⟩) p.T.length p.T.length)) base p w.heap.size dn st se us 0) := Lib.hid (by
    have hv := h.below hbl (Nat.le_refl _)
    refine ⟨hv.putL _, ?_, ?_, Nat.le_refl _, h.lt_size⟩
    · exact own_keep hrow ((Keep.refl (fun x => x = p.vb) W1).setCell (.inl rfl) _) (fun x hx => by
        simp only [Value.ownBlock, Option.some.injEq] at hx
        have := h.lt_size; omega)
    · exact (Keep.of_below hbl : Keep (fun x => x = p.vb) w W1).setCell (.inl rfl) _)
  have HT := Lib.hid hT
  have HSM := Lib.hid hsm
  clear hbl hrow h hT hsm
  go_enter Tryz.func95, Tryz.ntmps95
  go_upto_region 1 with (go_at_call 36; refine HZ.out.mono ?_; rintro e V1 ⟨rfl, rfl⟩)
  generalize V1.heap.size = r at *
  clear hmk c12 d12 z12
  generalize W1.setCell ⟨p.vb, 12, none⟩ (.slice (some ⟨r, 0, none⟩) p.T.length p.T.length) = W2 at *
  have c1 := HF.out.voc.cellL
  go_wp2_with fail
  clear c1
  obtain ⟨N, hN⟩ : ∃ N, p.T.length = N := ⟨_, rfl⟩
  have HN := Lib.hid hN
  rw [hN] at HSM HZ ⊢
  clear hN
  go_loopg [19] N (fun n i W => ∃ k : Nat, k + n = N ∧ i = .int .i64 (k : Int) ∧ FindIs V1 W base p r dn st se us k)
  case atStart => exact ⟨0, by omega, rfl, HF.out⟩
  case round =>
    obtain ⟨k, hk, rfl, hf⟩ := hrel
    clear HF
    rename World => W
    have HF := Lib.hid hf
    clear hf
    by_cases hlt : k < N
    · have hlt' : (k : Int) < (N : Int) := by omega
      have HB := Lib.hid (bytes_tab (k : Int) HF.out.voc.tab)
      have HE := Lib.hid (encode_any HF.out.voc.tab HT.out (bs (bytesT p.T (k : Int))) (by rw [bs_size]; have := bytesT_le HT.out (k : Int); omega))
      have c6 := HF.out.voc.cellT
      unfold strV at HB
      obtain ⟨z, hz⟩ : ∃ z, bs (bytesT p.T (k : Int)) = z := ⟨_, rfl⟩
      have HZS := Lib.hid (show z.data.toList = bytesT p.T (k : Int) by rw [← hz]; rfl)
      rw [hz] at HB HE
      clear hz
      go_upto_region 6 with (first | (go_at_call 97; refine HB.out.mono ?_; rintro e W1 ⟨rfl, rfl⟩) | (go_at_call 135; refine HE.out.mono ?_; rintro e W3 ⟨⟨v, rfl, hi⟩, hb⟩; (have HI := Lib.hid hi); (have HF3 := Lib.hid (HF.out.below hb)); clear hi hb))
      obtain ⟨E, hE⟩ : ∃ E, encT p.T p.T.length z.data.toList = E := ⟨_, rfl⟩
      have HEE := Lib.hid hE
      rw [hE] at HI
      clear hE HB HE
      have d12 := HF3.out.voc.cellL
      have d7 := HF3.out.voc.cellB
      rw [HN.out] at d12
      have q0 : (0 : Int) ≤ (k : Int) := by omega
      obtain ⟨A, c, rfl, hrow⟩ := HI.out
      have HROW := Lib.hid hrow
      clear hrow HI
      by_cases hE1 : E.length = 1
      · obtain ⟨e0, rfl⟩ := List.length_eq_one_iff.1 hE1
        obtain ⟨b, o, hA, hc⟩ := (own_sl1 HROW.out).at 0 (by simp)
        subst hA
        simp only [List.getElem_cons_zero, Nat.add_zero] at hc
        simp only [List.length_singleton, Int.cast_ofNat_Int] at *
        clear hE1
        by_cases he : e0 = (k : Int)
        · subst he
          obtain ⟨x, hx⟩ : ∃ x, decide ((pcs p.cut z.data.toList).length ≤ 1) = x := ⟨_, rfl⟩
          have HXW := Lib.hid hx
          have HX : Hid (aloneB p.T (Cof p.s.cs) (Jof p.s.js) (k : Int) = x) := Lib.hid (by
            unfold aloneB
            rw [← HZS.out, HEE.out, ← hx]
            simp [VocP.cut]
            rfl)
          clear hx
          have HC4 : Hid (W3.drew.cell? ⟨b, o, none⟩ = some (.int .i64 (k : Int))) := Lib.hid hc
          refine wp_region_G (D := 26) (S := fun V => V.cell? ⟨p.vb, 12, none⟩ = some (.slice (some ⟨r, 0, none⟩) N N) ∧ V.cell? ⟨p.vb, 7, none⟩ = some (.pointer (some ⟨p.bk, 0, none⟩)) ∧ V.cell? ⟨b, o, none⟩ = some (.int .i64 (k : Int))) (by kernel_rfl) (by exact And.intro d12 (And.intro d7 hc)) (fun hHeld => ?_)
          (replace HF3 := Lib.hid (HF3.out.drew)); (replace HX := HX); generalize W3.drew = W4 at *
          refine wpAnyG_takeD (i := 0) (d := 39) (v := ?_) rfl rfl (by kernel_rfl) (by kernel_rfl) (by kernel_rfl) (by kernel_rfl) (fun _ _ _ h => h) (Or.inl ⟨by rfl, ?_⟩) hHeld ?_
          rotate_left
          · (intro w' hSw; (try dsimp only at hSw); go_simp; (try with_reducible rfl))
          simp only [List.setIfInBounds_toArray, List.set_cons_zero, List.set_cons_succ]
          refine wpAnyG_takeD (i := 1) (d := 40) (v := ?_) rfl rfl (by kernel_rfl) (by kernel_rfl) (by kernel_rfl) (by kernel_rfl) (fun _ _ _ h => h) (Or.inl ⟨by rfl, ?_⟩) hHeld ?_
          rotate_left
          · (intro w' hSw; (try dsimp only at hSw); go_simp; (try with_reducible rfl))
          simp only [List.setIfInBounds_toArray, List.set_cons_zero, List.set_cons_succ]
          refine wpAnyG_takeD (i := 2) (d := 41) (v := ?_) rfl rfl (by kernel_rfl) (by kernel_rfl) (by kernel_rfl) (by kernel_rfl) (fun _ _ _ h => h) (Or.inl ⟨by rfl, ?_⟩) hHeld ?_
          rotate_left
          · (intro w' hSw; (try dsimp only at hSw); go_simp; (try with_reducible rfl))
          simp only [List.setIfInBounds_toArray, List.set_cons_zero, List.set_cons_succ]
          refine wpAnyG_takeD (i := 3) (d := 42) (v := ?_) rfl rfl (by kernel_rfl) (by kernel_rfl) (by kernel_rfl) (by kernel_rfl) (fun _ _ _ h => h) (Or.inl ⟨by rfl, ?_⟩) hHeld ?_
          rotate_left
          · (intro w' hSw; (try dsimp only at hSw); go_simp; (try with_reducible rfl))
          simp only [List.setIfInBounds_toArray, List.set_cons_zero, List.set_cons_succ]
          refine wpAnyG_takeD (i := 4) (d := 43) (v := ?_) rfl rfl (by kernel_rfl) (by kernel_rfl) (by kernel_rfl) (by kernel_rfl) (fun _ _ _ h => h) (Or.inl ⟨by rfl, ?_⟩) hHeld ?_
          rotate_left
          · (intro w' hSw; (try dsimp only at hSw); go_simp; (try with_reducible rfl))
          simp only [List.setIfInBounds_toArray, List.set_cons_zero, List.set_cons_succ]
          refine wpAnyG_takeD (i := 5) (d := 44) (v := ?_) rfl rfl (by kernel_rfl) (by kernel_rfl) (by kernel_rfl) (by kernel_rfl) (fun _ _ _ h => h) (Or.inl ⟨by rfl, ?_⟩) hHeld ?_
          rotate_left
          · (intro w' hSw; (try dsimp only at hSw); go_simp; (try with_reducible rfl))
          simp only [List.setIfInBounds_toArray, List.set_cons_zero, List.set_cons_succ]
          refine wpAnyG_takeD (i := 6) (d := 45) (v := ?_) rfl rfl (by kernel_rfl) (by kernel_rfl) (by kernel_rfl) (by kernel_rfl) (fun _ _ _ h => h) (Or.inl ⟨by rfl, ?_⟩) hHeld ?_
          rotate_left
          · (intro w' hSw; (try dsimp only at hSw); go_simp; (try with_reducible rfl))
          simp only [List.setIfInBounds_toArray, List.set_cons_zero, List.set_cons_succ]
          refine wpAnyG_takeD (i := 7) (d := 46) (v := ?_) rfl rfl (by kernel_rfl) (by kernel_rfl) (by kernel_rfl) (by kernel_rfl) (fun _ _ _ h => h) (Or.inl ⟨by rfl, ?_⟩) hHeld ?_
          rotate_left
          · (intro w' hSw; (try dsimp only at hSw); go_simp; (try with_reducible rfl))
          simp only [List.setIfInBounds_toArray, List.set_cons_zero, List.set_cons_succ]
          refine wpAnyG_takeD (i := 8) (d := 47) (v := ?_) rfl rfl (by kernel_rfl) (by kernel_rfl) (by kernel_rfl) (by kernel_rfl) (fun _ _ _ h => h) (Or.inl ⟨by rfl, ?_⟩) hHeld ?_
          rotate_left
          · (intro w' hSw; (try dsimp only at hSw); go_simp; (try with_reducible rfl))
          simp only [List.setIfInBounds_toArray, List.set_cons_zero, List.set_cons_succ]
          refine wpAnyG_takeD (i := 9) (d := 48) (v := ?_) rfl rfl (by kernel_rfl) (by kernel_rfl) (by kernel_rfl) (by kernel_rfl) (fun _ _ _ h => h) (Or.inl ⟨by rfl, ?_⟩) hHeld ?_
          rotate_left
          · (intro w' hSw; (try dsimp only at hSw); go_simp; (try with_reducible rfl))
          simp only [List.setIfInBounds_toArray, List.set_cons_zero, List.set_cons_succ]
          refine wpAnyG_takeD (i := 10) (d := 49) (v := ?_) rfl rfl (by kernel_rfl) (by kernel_rfl) (by kernel_rfl) (by kernel_rfl) (fun _ _ _ h => h) (Or.inl ⟨by rfl, ?_⟩) hHeld ?_
          rotate_left
          · (intro w' hSw; (try dsimp only at hSw); go_simp; (try with_reducible rfl))
          simp only [List.setIfInBounds_toArray, List.set_cons_zero, List.set_cons_succ]
          refine wpAnyG_takeD (i := 11) (d := 50) (v := ?_) rfl rfl (by kernel_rfl) (by kernel_rfl) (by kernel_rfl) (by kernel_rfl) (fun _ _ _ h => h) (Or.inl ⟨by rfl, ?_⟩) hHeld ?_
          rotate_left
          · (intro w' hSw; (try dsimp only at hSw); go_simp; (try with_reducible rfl))
          simp only [List.setIfInBounds_toArray, List.set_cons_zero, List.set_cons_succ]
          refine wpAnyG_takeD (i := 12) (d := 51) (v := ?_) rfl rfl (by kernel_rfl) (by kernel_rfl) (by kernel_rfl) (by kernel_rfl) (fun _ _ _ h => h) (Or.inl ⟨by rfl, ?_⟩) hHeld ?_
          rotate_left
          · (intro w' hSw; (try dsimp only at hSw); go_simp; (try with_reducible rfl))
          simp only [List.setIfInBounds_toArray, List.set_cons_zero, List.set_cons_succ]
          refine wpAnyG_takeD (i := 13) (d := 52) (v := ?_) rfl rfl (by kernel_rfl) (by kernel_rfl) (by kernel_rfl) (by kernel_rfl) (fun _ _ _ h => h) (Or.inl ⟨by rfl, ?_⟩) hHeld ?_
          rotate_left
          · (intro w' hSw; (try dsimp only at hSw); go_simp; (try with_reducible rfl))
          simp only [List.setIfInBounds_toArray, List.set_cons_zero, List.set_cons_succ]
          refine wpAnyG_takeD (i := 14) (d := 53) (v := ?_) rfl rfl (by kernel_rfl) (by kernel_rfl) (by kernel_rfl) (by kernel_rfl) (fun _ _ _ h => h) (Or.inl ⟨by rfl, ?_⟩) hHeld ?_
          rotate_left
          · (intro w' hSw; (try dsimp only at hSw); go_simp; (try with_reducible rfl))
          simp only [List.setIfInBounds_toArray, List.set_cons_zero, List.set_cons_succ]
          refine wpAnyG_takeD (i := 15) (d := 54) (v := ?_) rfl rfl (by kernel_rfl) (by kernel_rfl) (by kernel_rfl) (by kernel_rfl) (fun _ _ _ h => h) (Or.inl ⟨by rfl, ?_⟩) hHeld ?_
          rotate_left
          · (intro w' hSw; (try dsimp only at hSw); go_simp; (try with_reducible rfl))
          simp only [List.setIfInBounds_toArray, List.set_cons_zero, List.set_cons_succ]
          refine wpAnyG_takeD (i := 16) (d := 55) (v := ?_) rfl rfl (by kernel_rfl) (by kernel_rfl) (by kernel_rfl) (by kernel_rfl) (fun _ _ _ h => h) (Or.inl ⟨by rfl, ?_⟩) hHeld ?_
          rotate_left
          · (intro w' hSw; (try dsimp only at hSw); go_simp; (try with_reducible rfl))
          simp only [List.setIfInBounds_toArray, List.set_cons_zero, List.set_cons_succ]
          refine wpAnyG_takeD (i := 17) (d := 56) (v := ?_) rfl rfl (by kernel_rfl) (by kernel_rfl) (by kernel_rfl) (by kernel_rfl) (fun _ _ _ h => h) (Or.inl ⟨by rfl, ?_⟩) hHeld ?_
          rotate_left
          · (intro w' hSw; (try dsimp only at hSw); go_simp; (try with_reducible rfl))
          simp only [List.setIfInBounds_toArray, List.set_cons_zero, List.set_cons_succ]
          refine wpAnyG_takeD (i := 18) (d := 57) (v := ?_) rfl rfl (by kernel_rfl) (by kernel_rfl) (by kernel_rfl) (by kernel_rfl) (fun _ _ _ h => h) (Or.inl ⟨by rfl, ?_⟩) hHeld ?_
          rotate_left
          · (intro w' hSw; (try dsimp only at hSw); go_simp; (try with_reducible rfl))
          simp only [List.setIfInBounds_toArray, List.set_cons_zero, List.set_cons_succ]
          refine wpAnyG_takeD (i := 19) (d := 58) (v := ?_) rfl rfl (by kernel_rfl) (by kernel_rfl) (by kernel_rfl) (by kernel_rfl) (fun _ _ _ h => h) (Or.inl ⟨by rfl, ?_⟩) hHeld ?_
          rotate_left
          · (intro w' hSw; (try dsimp only at hSw); go_simp; (try with_reducible rfl))
          simp only [List.setIfInBounds_toArray, List.set_cons_zero, List.set_cons_succ]
          refine wpAnyG_takeD (i := 20) (d := 59) (v := ?_) rfl rfl (by kernel_rfl) (by kernel_rfl) (by kernel_rfl) (by kernel_rfl) (fun _ _ _ h => h) (Or.inl ⟨by rfl, ?_⟩) hHeld ?_
          rotate_left
          · (intro w' hSw; (try dsimp only at hSw); go_simp; (try with_reducible rfl))
          simp only [List.setIfInBounds_toArray, List.set_cons_zero, List.set_cons_succ]
          refine wpAnyG_takeD (i := 21) (d := 60) (v := ?_) rfl rfl (by kernel_rfl) (by kernel_rfl) (by kernel_rfl) (by kernel_rfl) (fun _ _ _ h => h) (Or.inl ⟨by rfl, ?_⟩) hHeld ?_
          rotate_left
          · (intro w' hSw; (try dsimp only at hSw); go_simp; (try with_reducible rfl))
          simp only [List.setIfInBounds_toArray, List.set_cons_zero, List.set_cons_succ]
          refine wpAnyG_takeD (i := 22) (d := 61) (v := ?_) rfl rfl (by kernel_rfl) (by kernel_rfl) (by kernel_rfl) (by kernel_rfl) (fun _ _ _ h => h) (Or.inl ⟨by rfl, ?_⟩) hHeld ?_
          rotate_left
          · (intro w' hSw; (try dsimp only at hSw); go_simp; (try with_reducible rfl))
          simp only [List.setIfInBounds_toArray, List.set_cons_zero, List.set_cons_succ]
          refine wpAnyG_one (i := 23) (by kernel_rfl) rfl (by rfl) (fun K hK => ?_)
          go_simp; refine (whole_any (some ⟨p.bk, 0, none⟩) p.cut z W4 (.inr ⟨p.bk, Cof p.s.cs, Jof p.s.js, rfl, HF3.out.voc.bnd, rfl⟩) (by rw [← data_len, HZS.out]; have := bytesT_le HT.out (k : Int); omega)).mono ?_; rintro e W5 ⟨rfl, hb⟩; rw [HXW.out]; have HF5 := Lib.hid (HF3.out.below hb); have h := And.intro HF5.out.voc.cellL (And.intro HF5.out.voc.cellB (below_cell hb (Nat.le_refl _) HC4.out)); rw [HN.out] at h; go_simp
          refine hK.out _ _ h (fun hHeld => ?_)
          clear hK K
          try simp only [Act.put, List.setIfInBounds_toArray, List.set_cons_zero, List.set_cons_succ]
          refine wpAnyG_takeD (i := 24) (d := 63) (v := ?_) rfl rfl (by kernel_rfl) (by kernel_rfl) (by kernel_rfl) (by kernel_rfl) (fun _ _ _ h => h) (Or.inl ⟨by rfl, ?_⟩) hHeld ?_
          rotate_left
          · (intro w' hSw; (try dsimp only at hSw); go_simp; (try with_reducible rfl))
          simp only [List.setIfInBounds_toArray, List.set_cons_zero, List.set_cons_succ]
          refine wpAnyG_takeD (i := 25) (d := 64) (v := ?_) rfl rfl (by kernel_rfl) (by kernel_rfl) (by kernel_rfl) (by kernel_rfl) (fun _ _ _ h => h) (Or.inl ⟨by rfl, ?_⟩) hHeld ?_
          rotate_left
          · (intro w' hSw; (try dsimp only at hSw); go_simp; (try with_reducible rfl))
          simp only [List.setIfInBounds_toArray, List.set_cons_zero, List.set_cons_succ]
          refine wpAnyG_last (by kernel_rfl) rfl (by rfl) (fun K hK => ?_)
          obtain ⟨⟨u0, cc⟩, zz⟩ := HF5.out.cellAt k (by rw [HN.out]; exact hlt); go_simp; have HF6 := Lib.hid (HF5.out.put x HX.out); clear cc zz; generalize W5.setCell ⟨r, k, none⟩ (.bool x) = W6 at *
          refine hK.out _ _ ?_
          clear hK K
          try simp only [Act.put, List.setIfInBounds_toArray, List.set_cons_zero, List.set_cons_succ]
          refine wpAnyG_done (by kernel_rfl) ?_ _
          have ws : IntKind.i64.wrap ((k : Int) + 1) = (k : Int) + 1 := IntWalk.i64_in _ (by have := HSM.out; omega)
          go_wp2_with fail
          go_roundg (gk - 1)
          case measure => omega
          case rel => exact ⟨k + 1, by omega, by simp, HF6.out⟩
        · have HX : Hid (aloneB p.T (Cof p.s.cs) (Jof p.s.js) (k : Int) = false) := Lib.hid (by
            unfold aloneB
            rw [← HZS.out, HEE.out]
            simp [he])
          refine wp_region_G (D := 26) (S := fun V => V.cell? ⟨p.vb, 12, none⟩ = some (.slice (some ⟨r, 0, none⟩) N N) ∧ V.cell? ⟨b, o, none⟩ = some (.int .i64 e0)) (by kernel_rfl) (by exact And.intro d12 hc) (fun hHeld => ?_)
          (replace HF3 := Lib.hid (HF3.out.drew)); (replace HX := HX); generalize W3.drew = W4 at *
          refine wpAnyG_takeD (i := 0) (d := 39) (v := ?_) rfl rfl (by kernel_rfl) (by kernel_rfl) (by kernel_rfl) (by kernel_rfl) (fun _ _ _ h => h) (Or.inl ⟨by rfl, ?_⟩) hHeld ?_
          rotate_left
          · (intro w' hSw; (try dsimp only at hSw); go_simp; (try with_reducible rfl))
          simp only [List.setIfInBounds_toArray, List.set_cons_zero, List.set_cons_succ]
          refine wpAnyG_takeD (i := 1) (d := 40) (v := ?_) rfl rfl (by kernel_rfl) (by kernel_rfl) (by kernel_rfl) (by kernel_rfl) (fun _ _ _ h => h) (Or.inl ⟨by rfl, ?_⟩) hHeld ?_
          rotate_left
          · (intro w' hSw; (try dsimp only at hSw); go_simp; (try with_reducible rfl))
          simp only [List.setIfInBounds_toArray, List.set_cons_zero, List.set_cons_succ]
          refine wpAnyG_takeD (i := 2) (d := 41) (v := ?_) rfl rfl (by kernel_rfl) (by kernel_rfl) (by kernel_rfl) (by kernel_rfl) (fun _ _ _ h => h) (Or.inl ⟨by rfl, ?_⟩) hHeld ?_
          rotate_left
          · (intro w' hSw; (try dsimp only at hSw); go_simp; (try with_reducible rfl))
          simp only [List.setIfInBounds_toArray, List.set_cons_zero, List.set_cons_succ]
          refine wpAnyG_takeD (i := 3) (d := 42) (v := ?_) rfl rfl (by kernel_rfl) (by kernel_rfl) (by kernel_rfl) (by kernel_rfl) (fun _ _ _ h => h) (Or.inl ⟨by rfl, ?_⟩) hHeld ?_
          rotate_left
          · (intro w' hSw; (try dsimp only at hSw); go_simp; (try with_reducible rfl))
          simp only [List.setIfInBounds_toArray, List.set_cons_zero, List.set_cons_succ]
          refine wpAnyG_takeD (i := 4) (d := 43) (v := ?_) rfl rfl (by kernel_rfl) (by kernel_rfl) (by kernel_rfl) (by kernel_rfl) (fun _ _ _ h => h) (Or.inl ⟨by rfl, ?_⟩) hHeld ?_
          rotate_left
          · (intro w' hSw; (try dsimp only at hSw); go_simp; (try with_reducible rfl))
          simp only [List.setIfInBounds_toArray, List.set_cons_zero, List.set_cons_succ]
          refine wpAnyG_takeD (i := 5) (d := 44) (v := ?_) rfl rfl (by kernel_rfl) (by kernel_rfl) (by kernel_rfl) (by kernel_rfl) (fun _ _ _ h => h) (Or.inl ⟨by rfl, ?_⟩) hHeld ?_
          rotate_left
          · (intro w' hSw; (try dsimp only at hSw); go_simp; (try with_reducible rfl))
          simp only [List.setIfInBounds_toArray, List.set_cons_zero, List.set_cons_succ]
          refine wpAnyG_takeD (i := 6) (d := 45) (v := ?_) rfl rfl (by kernel_rfl) (by kernel_rfl) (by kernel_rfl) (by kernel_rfl) (fun _ _ _ h => h) (Or.inl ⟨by rfl, ?_⟩) hHeld ?_
          rotate_left
          · (intro w' hSw; (try dsimp only at hSw); go_simp; (try with_reducible rfl))
          simp only [List.setIfInBounds_toArray, List.set_cons_zero, List.set_cons_succ]
          refine wpAnyG_takeD (i := 7) (d := 46) (v := ?_) rfl rfl (by kernel_rfl) (by kernel_rfl) (by kernel_rfl) (by kernel_rfl) (fun _ _ _ h => h) (Or.inl ⟨by rfl, ?_⟩) hHeld ?_
          rotate_left
          · (intro w' hSw; (try dsimp only at hSw); go_simp; (try with_reducible rfl))
          simp only [List.setIfInBounds_toArray, List.set_cons_zero, List.set_cons_succ]
          refine wpAnyG_takeD (i := 8) (d := 47) (v := ?_) rfl rfl (by kernel_rfl) (by kernel_rfl) (by kernel_rfl) (by kernel_rfl) (fun _ _ _ h => h) (Or.inl ⟨by rfl, ?_⟩) hHeld ?_
          rotate_left
          · (intro w' hSw; (try dsimp only at hSw); go_simp; (try with_reducible rfl))
          simp only [List.setIfInBounds_toArray, List.set_cons_zero, List.set_cons_succ]
          refine wpAnyG_takeD (i := 9) (d := 48) (v := ?_) rfl rfl (by kernel_rfl) (by kernel_rfl) (by kernel_rfl) (by kernel_rfl) (fun _ _ _ h => h) (Or.inl ⟨by rfl, ?_⟩) hHeld ?_
          rotate_left
          · (intro w' hSw; (try dsimp only at hSw); go_simp; (try with_reducible rfl))
          simp only [List.setIfInBounds_toArray, List.set_cons_zero, List.set_cons_succ]
          refine wpAnyG_takeD (i := 10) (d := 49) (v := ?_) rfl rfl (by kernel_rfl) (by kernel_rfl) (by kernel_rfl) (by kernel_rfl) (fun _ _ _ h => h) (Or.inl ⟨by rfl, ?_⟩) hHeld ?_
          rotate_left
          · (intro w' hSw; (try dsimp only at hSw); go_simp; (try with_reducible rfl))
          simp only [List.setIfInBounds_toArray, List.set_cons_zero, List.set_cons_succ]
          refine wpAnyG_takeD (i := 11) (d := 50) (v := ?_) rfl rfl (by kernel_rfl) (by kernel_rfl) (by kernel_rfl) (by kernel_rfl) (fun _ _ _ h => h) (Or.inl ⟨by rfl, ?_⟩) hHeld ?_
          rotate_left
          · (intro w' hSw; (try dsimp only at hSw); go_simp; (try with_reducible rfl))
          simp only [List.setIfInBounds_toArray, List.set_cons_zero, List.set_cons_succ]
          refine wpAnyG_takeD (i := 12) (d := 51) (v := ?_) rfl rfl (by kernel_rfl) (by kernel_rfl) (by kernel_rfl) (by kernel_rfl) (fun _ _ _ h => h) (Or.inl ⟨by rfl, ?_⟩) hHeld ?_
          rotate_left
          · (intro w' hSw; (try dsimp only at hSw); go_simp; (try with_reducible rfl))
          simp only [List.setIfInBounds_toArray, List.set_cons_zero, List.set_cons_succ]
          refine wpAnyG_takeD (i := 13) (d := 52) (v := ?_) rfl rfl (by kernel_rfl) (by kernel_rfl) (by kernel_rfl) (by kernel_rfl) (fun _ _ _ h => h) (Or.inl ⟨by rfl, ?_⟩) hHeld ?_
          rotate_left
          · (intro w' hSw; (try dsimp only at hSw); go_simp; (try with_reducible rfl))
          simp only [List.setIfInBounds_toArray, List.set_cons_zero, List.set_cons_succ]
          refine wpAnyG_takeD (i := 14) (d := 53) (v := ?_) rfl rfl (by kernel_rfl) (by kernel_rfl) (by kernel_rfl) (by kernel_rfl) (fun _ _ _ h => h) (Or.inl ⟨by rfl, ?_⟩) hHeld ?_
          rotate_left
          · (intro w' hSw; (try dsimp only at hSw); go_simp; (rw [show (e0 == (k : Int)) = false from by simp [he]]); (try with_reducible rfl))
          simp only [List.setIfInBounds_toArray, List.set_cons_zero, List.set_cons_succ]
          refine wpAnyG_takeD (i := 15) (d := 54) (v := ?_) rfl rfl (by kernel_rfl) (by kernel_rfl) (by kernel_rfl) (by kernel_rfl) (fun _ _ _ h => h) (Or.inl ⟨by rfl, ?_⟩) hHeld ?_
          rotate_left
          · (intro w' hSw; (try dsimp only at hSw); go_simp; (try with_reducible rfl))
          simp only [List.setIfInBounds_toArray, List.set_cons_zero, List.set_cons_succ]
          refine wpAnyG_takeD (i := 16) (d := 55) (v := ?_) rfl rfl (by kernel_rfl) (by kernel_rfl) (by kernel_rfl) (by kernel_rfl) (fun _ _ _ h => h) (Or.inl ⟨by rfl, ?_⟩) hHeld ?_
          rotate_left
          · (intro w' hSw; (try dsimp only at hSw); go_simp; (try with_reducible rfl))
          simp only [List.setIfInBounds_toArray, List.set_cons_zero, List.set_cons_succ]
          refine wpAnyG_takeD (i := 17) (d := 56) (v := undef) rfl rfl (by kernel_rfl) (by kernel_rfl) (by kernel_rfl) (by kernel_rfl) (fun _ _ _ h => h) (Or.inr ⟨by rfl, rfl⟩) hHeld ?_
          simp only [List.setIfInBounds_toArray, List.set_cons_zero, List.set_cons_succ]
          refine wpAnyG_takeD (i := 18) (d := 57) (v := undef) rfl rfl (by kernel_rfl) (by kernel_rfl) (by kernel_rfl) (by kernel_rfl) (fun _ _ _ h => h) (Or.inr ⟨by rfl, rfl⟩) hHeld ?_
          simp only [List.setIfInBounds_toArray, List.set_cons_zero, List.set_cons_succ]
          refine wpAnyG_takeD (i := 19) (d := 58) (v := undef) rfl rfl (by kernel_rfl) (by kernel_rfl) (by kernel_rfl) (by kernel_rfl) (fun _ _ _ h => h) (Or.inr ⟨by rfl, rfl⟩) hHeld ?_
          simp only [List.setIfInBounds_toArray, List.set_cons_zero, List.set_cons_succ]
          refine wpAnyG_takeD (i := 20) (d := 59) (v := undef) rfl rfl (by kernel_rfl) (by kernel_rfl) (by kernel_rfl) (by kernel_rfl) (fun _ _ _ h => h) (Or.inr ⟨by rfl, rfl⟩) hHeld ?_
          simp only [List.setIfInBounds_toArray, List.set_cons_zero, List.set_cons_succ]
          refine wpAnyG_takeD (i := 21) (d := 60) (v := undef) rfl rfl (by kernel_rfl) (by kernel_rfl) (by kernel_rfl) (by kernel_rfl) (fun _ _ _ h => h) (Or.inr ⟨by rfl, rfl⟩) hHeld ?_
          simp only [List.setIfInBounds_toArray, List.set_cons_zero, List.set_cons_succ]
          refine wpAnyG_takeD (i := 22) (d := 61) (v := undef) rfl rfl (by kernel_rfl) (by kernel_rfl) (by kernel_rfl) (by kernel_rfl) (fun _ _ _ h => h) (Or.inr ⟨by rfl, rfl⟩) hHeld ?_
          simp only [List.setIfInBounds_toArray, List.set_cons_zero, List.set_cons_succ]
          refine wpAnyG_takeD (i := 23) (d := 62) (v := undef) rfl rfl (by kernel_rfl) (by kernel_rfl) (by kernel_rfl) (by kernel_rfl) (fun _ _ _ h => h) (Or.inr ⟨by rfl, rfl⟩) hHeld ?_
          simp only [List.setIfInBounds_toArray, List.set_cons_zero, List.set_cons_succ]
          refine wpAnyG_takeD (i := 24) (d := 63) (v := ?_) rfl rfl (by kernel_rfl) (by kernel_rfl) (by kernel_rfl) (by kernel_rfl) (fun _ _ _ h => h) (Or.inl ⟨by rfl, ?_⟩) hHeld ?_
          rotate_left
          · (intro w' hSw; (try dsimp only at hSw); go_simp; (try with_reducible rfl))
          simp only [List.setIfInBounds_toArray, List.set_cons_zero, List.set_cons_succ]
          refine wpAnyG_takeD (i := 25) (d := 64) (v := ?_) rfl rfl (by kernel_rfl) (by kernel_rfl) (by kernel_rfl) (by kernel_rfl) (fun _ _ _ h => h) (Or.inl ⟨by rfl, ?_⟩) hHeld ?_
          rotate_left
          · (intro w' hSw; (try dsimp only at hSw); go_simp; (try with_reducible rfl))
          simp only [List.setIfInBounds_toArray, List.set_cons_zero, List.set_cons_succ]
          refine wpAnyG_last (by kernel_rfl) rfl (by rfl) (fun K hK => ?_)
          obtain ⟨⟨u0, cc⟩, zz⟩ := HF3.out.cellAt k (by rw [HN.out]; exact hlt); go_simp; have HF6 := Lib.hid (HF3.out.put false HX.out); clear cc zz; generalize W4.setCell ⟨r, k, none⟩ (.bool false) = W6 at *
          refine hK.out _ _ ?_
          clear hK K
          try simp only [Act.put, List.setIfInBounds_toArray, List.set_cons_zero, List.set_cons_succ]
          refine wpAnyG_done (by kernel_rfl) ?_ _
          have ws : IntKind.i64.wrap ((k : Int) + 1) = (k : Int) + 1 := IntWalk.i64_in _ (by have := HSM.out; omega)
          go_wp2_with fail
          go_roundg (gk - 1)
          case measure => omega
          case rel => exact ⟨k + 1, by omega, by simp, HF6.out⟩
      · have hE2 : (((E.length : Nat) : Int) == 1) = false := by simp; omega
        have HX : Hid (aloneB p.T (Cof p.s.cs) (Jof p.s.js) (k : Int) = false) := Lib.hid (by
            unfold aloneB
            rw [← HZS.out, HEE.out]
            have : E ≠ [(k : Int)] := fun e => hE1 (by rw [e]; rfl)
            simp [this])
        have hE3 : ¬ ((E.length : Nat) : Int) = 1 := by omega
        clear hE1
        generalize E.length = m at *
        refine wp_region_G (D := 26) (S := fun V => V.cell? ⟨p.vb, 12, none⟩ = some (.slice (some ⟨r, 0, none⟩) N N)) (by kernel_rfl) (by exact d12) (fun hHeld => ?_)
        (replace HF3 := Lib.hid (HF3.out.drew)); (replace HX := HX); generalize W3.drew = W4 at *
        refine wpAnyG_takeD (i := 0) (d := 39) (v := ?_) rfl rfl (by kernel_rfl) (by kernel_rfl) (by kernel_rfl) (by kernel_rfl) (fun _ _ _ h => h) (Or.inl ⟨by rfl, ?_⟩) hHeld ?_
        rotate_left
        · (intro w' hSw; (try dsimp only at hSw); go_simp; (try with_reducible rfl))
        simp only [List.setIfInBounds_toArray, List.set_cons_zero, List.set_cons_succ]
        refine wpAnyG_takeD (i := 1) (d := 40) (v := ?_) rfl rfl (by kernel_rfl) (by kernel_rfl) (by kernel_rfl) (by kernel_rfl) (fun _ _ _ h => h) (Or.inl ⟨by rfl, ?_⟩) hHeld ?_
        rotate_left
        · (intro w' hSw; (try dsimp only at hSw); go_simp; (try with_reducible rfl))
        simp only [List.setIfInBounds_toArray, List.set_cons_zero, List.set_cons_succ]
        refine wpAnyG_takeD (i := 2) (d := 41) (v := ?_) rfl rfl (by kernel_rfl) (by kernel_rfl) (by kernel_rfl) (by kernel_rfl) (fun _ _ _ h => h) (Or.inl ⟨by rfl, ?_⟩) hHeld ?_
        rotate_left
        · (intro w' hSw; (try dsimp only at hSw); go_simp; (try with_reducible rfl))
        simp only [List.setIfInBounds_toArray, List.set_cons_zero, List.set_cons_succ]
        refine wpAnyG_takeD (i := 3) (d := 42) (v := ?_) rfl rfl (by kernel_rfl) (by kernel_rfl) (by kernel_rfl) (by kernel_rfl) (fun _ _ _ h => h) (Or.inl ⟨by rfl, ?_⟩) hHeld ?_
        rotate_left
        · (intro w' hSw; (try dsimp only at hSw); go_simp; (try with_reducible rfl))
        simp only [List.setIfInBounds_toArray, List.set_cons_zero, List.set_cons_succ]
        refine wpAnyG_takeD (i := 4) (d := 43) (v := ?_) rfl rfl (by kernel_rfl) (by kernel_rfl) (by kernel_rfl) (by kernel_rfl) (fun _ _ _ h => h) (Or.inl ⟨by rfl, ?_⟩) hHeld ?_
        rotate_left
        · (intro w' hSw; (try dsimp only at hSw); go_simp; (try with_reducible rfl))
        simp only [List.setIfInBounds_toArray, List.set_cons_zero, List.set_cons_succ]
        refine wpAnyG_takeD (i := 5) (d := 44) (v := ?_) rfl rfl (by kernel_rfl) (by kernel_rfl) (by kernel_rfl) (by kernel_rfl) (fun _ _ _ h => h) (Or.inl ⟨by rfl, ?_⟩) hHeld ?_
        rotate_left
        · (intro w' hSw; (try dsimp only at hSw); go_simp; (try with_reducible rfl))
        simp only [List.setIfInBounds_toArray, List.set_cons_zero, List.set_cons_succ]
        refine wpAnyG_takeD (i := 6) (d := 45) (v := ?_) rfl rfl (by kernel_rfl) (by kernel_rfl) (by kernel_rfl) (by kernel_rfl) (fun _ _ _ h => h) (Or.inl ⟨by rfl, ?_⟩) hHeld ?_
        rotate_left
        · (intro w' hSw; (try dsimp only at hSw); go_simp; (try with_reducible rfl))
        simp only [List.setIfInBounds_toArray, List.set_cons_zero, List.set_cons_succ]
        refine wpAnyG_takeD (i := 7) (d := 46) (v := ?_) rfl rfl (by kernel_rfl) (by kernel_rfl) (by kernel_rfl) (by kernel_rfl) (fun _ _ _ h => h) (Or.inl ⟨by rfl, ?_⟩) hHeld ?_
        rotate_left
        · (intro w' hSw; (try dsimp only at hSw); go_simp; (try with_reducible rfl))
        simp only [List.setIfInBounds_toArray, List.set_cons_zero, List.set_cons_succ]
        refine wpAnyG_takeD (i := 8) (d := 47) (v := ?_) rfl rfl (by kernel_rfl) (by kernel_rfl) (by kernel_rfl) (by kernel_rfl) (fun _ _ _ h => h) (Or.inl ⟨by rfl, ?_⟩) hHeld ?_
        rotate_left
        · (intro w' hSw; (try dsimp only at hSw); go_simp; ((try rw [hE2])); (try with_reducible rfl))
        simp only [List.setIfInBounds_toArray, List.set_cons_zero, List.set_cons_succ]
        refine wpAnyG_takeD (i := 9) (d := 48) (v := ?_) rfl rfl (by kernel_rfl) (by kernel_rfl) (by kernel_rfl) (by kernel_rfl) (fun _ _ _ h => h) (Or.inl ⟨by rfl, ?_⟩) hHeld ?_
        rotate_left
        · (intro w' hSw; (try dsimp only at hSw); go_simp; (try with_reducible rfl))
        simp only [List.setIfInBounds_toArray, List.set_cons_zero, List.set_cons_succ]
        refine wpAnyG_takeD (i := 10) (d := 49) (v := undef) rfl rfl (by kernel_rfl) (by kernel_rfl) (by kernel_rfl) (by kernel_rfl) (fun _ _ _ h => h) (Or.inr ⟨by rfl, rfl⟩) hHeld ?_
        simp only [List.setIfInBounds_toArray, List.set_cons_zero, List.set_cons_succ]
        refine wpAnyG_takeD (i := 11) (d := 50) (v := undef) rfl rfl (by kernel_rfl) (by kernel_rfl) (by kernel_rfl) (by kernel_rfl) (fun _ _ _ h => h) (Or.inr ⟨by rfl, rfl⟩) hHeld ?_
        simp only [List.setIfInBounds_toArray, List.set_cons_zero, List.set_cons_succ]
        refine wpAnyG_takeD (i := 12) (d := 51) (v := undef) rfl rfl (by kernel_rfl) (by kernel_rfl) (by kernel_rfl) (by kernel_rfl) (fun _ _ _ h => h) (Or.inr ⟨by rfl, rfl⟩) hHeld ?_
        simp only [List.setIfInBounds_toArray, List.set_cons_zero, List.set_cons_succ]
        refine wpAnyG_takeD (i := 13) (d := 52) (v := undef) rfl rfl (by kernel_rfl) (by kernel_rfl) (by kernel_rfl) (by kernel_rfl) (fun _ _ _ h => h) (Or.inr ⟨by rfl, rfl⟩) hHeld ?_
        simp only [List.setIfInBounds_toArray, List.set_cons_zero, List.set_cons_succ]
        refine wpAnyG_takeD (i := 14) (d := 53) (v := undef) rfl rfl (by kernel_rfl) (by kernel_rfl) (by kernel_rfl) (by kernel_rfl) (fun _ _ _ h => h) (Or.inr ⟨by rfl, rfl⟩) hHeld ?_
        simp only [List.setIfInBounds_toArray, List.set_cons_zero, List.set_cons_succ]
        refine wpAnyG_takeD (i := 15) (d := 54) (v := ?_) rfl rfl (by kernel_rfl) (by kernel_rfl) (by kernel_rfl) (by kernel_rfl) (fun _ _ _ h => h) (Or.inl ⟨by rfl, ?_⟩) hHeld ?_
        rotate_left
        · (intro w' hSw; (try dsimp only at hSw); go_simp; (try with_reducible rfl))
        simp only [List.setIfInBounds_toArray, List.set_cons_zero, List.set_cons_succ]
        refine wpAnyG_takeD (i := 16) (d := 55) (v := ?_) rfl rfl (by kernel_rfl) (by kernel_rfl) (by kernel_rfl) (by kernel_rfl) (fun _ _ _ h => h) (Or.inl ⟨by rfl, ?_⟩) hHeld ?_
        rotate_left
        · (intro w' hSw; (try dsimp only at hSw); go_simp; (try with_reducible rfl))
        simp only [List.setIfInBounds_toArray, List.set_cons_zero, List.set_cons_succ]
        refine wpAnyG_takeD (i := 17) (d := 56) (v := undef) rfl rfl (by kernel_rfl) (by kernel_rfl) (by kernel_rfl) (by kernel_rfl) (fun _ _ _ h => h) (Or.inr ⟨by rfl, rfl⟩) hHeld ?_
        simp only [List.setIfInBounds_toArray, List.set_cons_zero, List.set_cons_succ]
        refine wpAnyG_takeD (i := 18) (d := 57) (v := undef) rfl rfl (by kernel_rfl) (by kernel_rfl) (by kernel_rfl) (by kernel_rfl) (fun _ _ _ h => h) (Or.inr ⟨by rfl, rfl⟩) hHeld ?_
        simp only [List.setIfInBounds_toArray, List.set_cons_zero, List.set_cons_succ]
        refine wpAnyG_takeD (i := 19) (d := 58) (v := undef) rfl rfl (by kernel_rfl) (by kernel_rfl) (by kernel_rfl) (by kernel_rfl) (fun _ _ _ h => h) (Or.inr ⟨by rfl, rfl⟩) hHeld ?_
        simp only [List.setIfInBounds_toArray, List.set_cons_zero, List.set_cons_succ]
        refine wpAnyG_takeD (i := 20) (d := 59) (v := undef) rfl rfl (by kernel_rfl) (by kernel_rfl) (by kernel_rfl) (by kernel_rfl) (fun _ _ _ h => h) (Or.inr ⟨by rfl, rfl⟩) hHeld ?_
        simp only [List.setIfInBounds_toArray, List.set_cons_zero, List.set_cons_succ]
        refine wpAnyG_takeD (i := 21) (d := 60) (v := undef) rfl rfl (by kernel_rfl) (by kernel_rfl) (by kernel_rfl) (by kernel_rfl) (fun _ _ _ h => h) (Or.inr ⟨by rfl, rfl⟩) hHeld ?_
        simp only [List.setIfInBounds_toArray, List.set_cons_zero, List.set_cons_succ]
        refine wpAnyG_takeD (i := 22) (d := 61) (v := undef) rfl rfl (by kernel_rfl) (by kernel_rfl) (by kernel_rfl) (by kernel_rfl) (fun _ _ _ h => h) (Or.inr ⟨by rfl, rfl⟩) hHeld ?_
        simp only [List.setIfInBounds_toArray, List.set_cons_zero, List.set_cons_succ]
        refine wpAnyG_takeD (i := 23) (d := 62) (v := undef) rfl rfl (by kernel_rfl) (by kernel_rfl) (by kernel_rfl) (by kernel_rfl) (fun _ _ _ h => h) (Or.inr ⟨by rfl, rfl⟩) hHeld ?_
        simp only [List.setIfInBounds_toArray, List.set_cons_zero, List.set_cons_succ]
        refine wpAnyG_takeD (i := 24) (d := 63) (v := ?_) rfl rfl (by kernel_rfl) (by kernel_rfl) (by kernel_rfl) (by kernel_rfl) (fun _ _ _ h => h) (Or.inl ⟨by rfl, ?_⟩) hHeld ?_
        rotate_left
        · (intro w' hSw; (try dsimp only at hSw); go_simp; (try with_reducible rfl))
        simp only [List.setIfInBounds_toArray, List.set_cons_zero, List.set_cons_succ]
        refine wpAnyG_takeD (i := 25) (d := 64) (v := ?_) rfl rfl (by kernel_rfl) (by kernel_rfl) (by kernel_rfl) (by kernel_rfl) (fun _ _ _ h => h) (Or.inl ⟨by rfl, ?_⟩) hHeld ?_
        rotate_left
        · (intro w' hSw; (try dsimp only at hSw); go_simp; (try with_reducible rfl))
        simp only [List.setIfInBounds_toArray, List.set_cons_zero, List.set_cons_succ]
        refine wpAnyG_last (by kernel_rfl) rfl (by rfl) (fun K hK => ?_)
        obtain ⟨⟨u0, cc⟩, zz⟩ := HF3.out.cellAt k (by rw [HN.out]; exact hlt); go_simp; have HF6 := Lib.hid (HF3.out.put false HX.out); clear cc zz; generalize W4.setCell ⟨r, k, none⟩ (.bool false) = W6 at *
        refine hK.out _ _ ?_
        clear hK K
        try simp only [Act.put, List.setIfInBounds_toArray, List.set_cons_zero, List.set_cons_succ]
        refine wpAnyG_done (by kernel_rfl) ?_ _
        have ws : IntKind.i64.wrap ((k : Int) + 1) = (k : Int) + 1 := IntWalk.i64_in _ (by have := HSM.out; omega)
        go_wp2_with fail
        go_roundg (gk - 1)
        case measure => omega
        case rel => exact ⟨k + 1, by omega, by simp, HF6.out⟩
    · have hke : k = N := by omega
      subst hke
      have hlt' : ¬ ((k : Nat) : Int) < (k : Int) := by omega
      go_wp2_with fail
      go_end0
      rw [HN.out]
      exact ⟨rfl, r, HF.out⟩
end
end Go.Proofs.YtbppaiejpgdbiaaGreat

/- Layer 10 (vocab): Alone. -/
namespace Go.Proofs.YtbppaiejpgdbiaaGreat
open Go.RowKit Go.Maps Go.WideMaps
set_option maxRecDepth 100000
set_option linter.unusedVariables false
set_option linter.unusedSimpArgs false
/-- is a token alone, by a vocabulary -/
def VocP.aln (p : VocP) (id : Int) : Bool := (fndI p.s.xs id).isSome || (hasT p.T id && aloneB p.T (Cof p.s.cs) (Jof p.s.js) id)
theorem add64_w (w : World) (b o : Nat) (n d : Int) (h : w.cell? ⟨b, o, none⟩ = some (.int .i64 n)) (hz : w.frozen? ⟨b, o, none⟩ = false) :
    Calls Tryz.prog 92 #[.pointer (some ⟨b, o, none⟩), .int .i64 d] w fun e w' => ∃ x, e = .returned (.int .i64 x) ∧ w' = w.setCell ⟨b, o, none⟩ (.int .i64 x) := by
  obtain ⟨x, hx⟩ : ∃ x, IntKind.i64.wrap (n + d) = x := ⟨_, rfl⟩
  have hadd := run_call_add (P := Tryz.prog) Tryz.func131 (by kernel_rfl) (by kernel_rfl) (by kernel_rfl) .i64 (by kernel_rfl) (y := d) (s := x) h hz (by rw [← hx]; simp [go_sem])
  clear h hz hx
  go_enter Tryz.func92, Tryz.ntmps92
  go_wp2_with fail
  go_ret
  exact ⟨x, rfl, rfl⟩
/-- what is known once a vocabulary was asked -/
def AskV (w w' : World) (base : Nat) (p : VocP) (g : Option Nat) : Prop :=
  ∃ g', VocAt w' base p g' ∧ Keep (fun x => x = p.vb) w w' ∧ (g' = g ∨ ∃ x, g' = some x ∧ w.heap.size ≤ x)
section
variable {w w' : World} {base : Nat} {p : VocP} {g : Option Nat}
theorem al_at (p : VocP) (k : Nat) (hk : k < p.T.length) : (p.al p.T.length)[k]? = some (aloneB p.T (Cof p.s.cs) (Jof p.s.js) (k : Int)) := by
  unfold VocP.al aloneL
  simp [hk]
/-- the row that find made, or had made -/
def RowV (w : World) (p : VocP) (r : Nat) : Prop := w.ownsRow r 4 1 (.slice (some ⟨r, 0, none⟩) p.T.length p.T.length) p.T.length ((p.al p.T.length).map Value.bool)
theorem RowV.keep {w w' : World} {p : VocP} {r : Nat} (h : RowV w p r) (hr : p.vb < r) (k : Keep (fun x => x = p.vb) w w') : RowV w' p r := own_keep h k (fun y hy => by simp only [Value.ownBlock, Option.some.injEq] at hy; omega)
theorem RowV.at {w : World} {p : VocP} {r : Nat} (h : RowV w p r) (k : Nat) (hk : k < p.T.length) : w.cell? ⟨r, k, none⟩ = some (.bool (aloneB p.T (Cof p.s.cs) (Jof p.s.js) (k : Int))) := by
  obtain ⟨g, cap, e, _, _, hc⟩ := own_open h (by omega)
  injection e with e _ _
  injection e with e
  injection e with e _
  subst e
  exact (hc k _ (by rw [List.getElem?_map, al_at p k hk]; rfl)).1
theorem vdo_any {V : World} {l : Value} {dn st se us : Int} (h : VocQ V base p l dn st se us) (hT : OkT p.T) (h2 : (l = .slice none 0 0 ∧ dn = 0 ∧ st = 0) ∨ ∃ r, p.vb < r ∧ l = .slice (some ⟨r, 0, none⟩) p.T.length p.T.length ∧ dn = 1 ∧ RowV V p r) :
    Calls Tryz.prog 94 #[.pointer (some ⟨p.vb, 9, none⟩), .func (.func 95) #[.pointer (some ⟨p.vb, 0, none⟩)] #[]] V fun e w' => e = .returned (.tuple #[]) ∧
      ∃ r st', VocQ w' base p (.slice (some ⟨r, 0, none⟩) p.T.length p.T.length) 1 st' se us ∧ p.vb < r ∧ RowV w' p r ∧ Keep (fun x => x = p.vb) V w' ∧ (l = .slice (some ⟨r, 0, none⟩) p.T.length p.T.length ∧ dn = 1 ∨ V.heap.size ≤ r) := by
  rcases h2 with ⟨rfl, rfl, rfl⟩ | ⟨r, hr, rfl, rfl, hrow⟩
  · have hS : VocQ (V.setCell ⟨p.vb, 10, none⟩ (.int .i32 1)) base p (.slice none 0 0) 0 1 se us := h.putS 1
    have hF := find_any hS hT
    have hk1 : Keep (fun x => x = p.vb) V (V.setCell ⟨p.vb, 10, none⟩ (.int .i32 1)) := (Keep.refl (fun x => x = p.vb) V).setCell (p := ⟨p.vb, 10, none⟩) (.inl rfl) _
    refine (do_first (R := fun w1 => ∃ r, FindIs (V.setCell ⟨p.vb, 10, none⟩ (.int .i32 1)) w1 base p r 0 1 se us p.T.length) p.vb 9 p.vb V h.cellD h.cellS (h.froz 10) (hF.mono ?_)).mono ?_
    · rintro e w1 ⟨rfl, r, hf⟩
      exact ⟨rfl, ⟨r, hf⟩, hf.voc.cellD, hf.voc.cellS, hf.voc.froz 9, hf.voc.froz 10⟩
    · rintro e w' ⟨rfl, w1, ⟨r, hf⟩, rfl⟩
      have hvr : p.vb < r := Nat.lt_of_lt_of_le hf.vlt hf.lt
      have hk2 : Keep (fun x => x = p.vb) w1 ((w1.drew.setCell ⟨p.vb, 9, none⟩ (.int .u32 1)).setCell ⟨p.vb, 10, none⟩ (.int .i32 0)) :=
        (((Keep.refl (fun x => x = p.vb) w1).drew).setCell (p := ⟨p.vb, 9, none⟩) (.inl rfl) _).setCell (p := ⟨p.vb, 10, none⟩) (.inl rfl) _
      have hrow : RowV w1 p r := hf.row
      refine ⟨rfl, r, 0, (hf.voc.drew.putD 1).putS 0, hvr, hrow.keep hvr hk2, (hk1.trans hf.keep (fun x hx => .inl hx)).trans hk2 (fun x hx => .inl hx), .inr (Nat.le_trans hk1.size hf.lt)⟩
  · refine (do_done p.vb 9 _ V h.cellD).mono ?_
    rintro e w' ⟨rfl, rfl⟩
    exact ⟨rfl, r, st, h, hr, hrow, Keep.refl _ _, .inl ⟨rfl, rfl⟩⟩
set_option maxHeartbeats 2000000 in
theorem valone_any (h : VocAt w base p g) (hT : OkT p.T) (id : Int) (hw : (Lit.int .i64 id).wf = true) (hM : p.s.xs.length ≤ 1000) :
    Calls Tryz.prog 51 #[.pointer (some ⟨p.vb, 0, none⟩), .int .i64 id] w fun e w' => e = .returned (.bool (p.aln id)) ∧ AskV w w' base p g := by
  obtain ⟨l, dn, st, se, us, h1, h2⟩ := h
  have HU := Lib.hid (add64_w w p.vb 13 us 1 h1.cellU (h1.froz 13))
  have HV : Hid (∀ x, VocQ (w.setCell ⟨p.vb, 13, none⟩ (.int .i64 x)) base p l dn st se x) := Lib.hid (fun x => h1.putU x)
  have HK : Hid (∀ x, Keep (fun x => x = p.vb) w (w.setCell ⟨p.vb, 13, none⟩ (.int .i64 x))) := Lib.hid (fun x => (Keep.refl (fun x => x = p.vb) w).setCell (p := ⟨p.vb, 13, none⟩) (.inl rfl) (.int .i64 x))
  have HW := Lib.hid hw
  have HM := Lib.hid hM
  have H2 := Lib.hid h2
  have HT := Lib.hid hT
  have HVL := Lib.hid h1.lt_size
  clear h1 h2 hw hM hT
  unfold VocP.aln
  go_enter Tryz.func51, Tryz.ntmps51
  go_upto_region 4 with (go_at_call 92; refine HU.out.mono ?_; rintro e V1 ⟨x, rfl, rfl⟩)
  clear HU
  have HV := Lib.hid (HV.out x)
  have HK := Lib.hid (HK.out x)
  generalize w.setCell ⟨p.vb, 13, none⟩ (.int .i64 x) = V at *
  have HMA := Lib.hid (mark_any HV.out.mrk id HW.out HM.out)
  have cM := HV.out.cellM
  cases hf : fndI p.s.xs id with
  | some i =>
    rw [hf] at HMA
    simp only [Option.isSome_some] at HMA
    have HFN := Lib.hid hf
    clear hf
    go_wp2_with (go_at_call 93; refine HMA.out.mono ?_; rintro e V1 ⟨rfl, rfl⟩)
    go_ret
    refine ⟨by rw [HFN.out]; simp, g, ⟨l, dn, st, se, x, HV.out, ?_⟩, HK.out, .inl rfl⟩
    rcases H2.out with h | ⟨r, h3, h4, h5, h6, h7⟩
    · exact .inl h
    · exact .inr ⟨r, h3, h4, h5, h6, own_keep h7 HK.out (fun y hy => by simp only [Value.ownBlock, Option.some.injEq] at hy; omega)⟩
  | none =>
    rw [hf] at HMA
    simp only [Option.isSome_none] at HMA
    have HFN := Lib.hid hf
    clear hf
    go_upto_region 7 with (go_at_call 93; refine HMA.out.mono ?_; rintro e V1 ⟨rfl, rfl⟩)
    clear HMA cM
    have HD := Lib.hid (vdo_any HV.out HT.out (by
      rcases H2.out with ⟨_, h3, h4, h5⟩ | ⟨r, h3, h4, h5, h6, h7⟩
      · exact .inl ⟨h3, h4, h5⟩
      · exact .inr ⟨r, h4, h5, h6, RowV.keep h7 h4 HK.out⟩))
    go_upto_region 8 with (go_at_call 94; refine HD.out.mono ?_; rintro e W ⟨rfl, r, st', hv, hr, hrow, hk, hl⟩)
    have HA : Hid (AskV w W base p g) := Lib.hid (by
      refine ⟨some r, ⟨_, 1, st', se, x, hv, .inr ⟨r, rfl, hr, rfl, rfl, hrow⟩⟩, HK.out.trans hk (fun y hy => .inl hy), ?_⟩
      rcases hl with ⟨h8, h9⟩ | h8
      · rcases H2.out with ⟨_, _, h4, _⟩ | ⟨r', h3, _, h5, _⟩
        · omega
        · left
          rw [h5] at h8
          injection h8 with h8
          injection h8 with h8
          injection h8 with h8
          rw [h3, h8]
      · exact .inr ⟨r, rfl, Nat.le_trans HK.out.size h8⟩)
    have HR := Lib.hid hrow
    have cL := hv.cellL
    clear HD HV HK hv hr hrow hk hl H2
    by_cases h0 : (0 : Int) ≤ id
    · by_cases h1 : id < (p.T.length : Int)
      · obtain ⟨k, rfl⟩ := Int.eq_ofNat_of_zero_le h0
        have hh : hasT p.T ((k : Nat) : Int) = true := hasT_iff.2 ⟨h0, h1⟩
        have cK := HR.out.at k (by omega)
        have HH := Lib.hid hh
        clear hh
        go_upto_region 9 with fail
        go_wp2_with fail
        go_ret
        exact ⟨by rw [HFN.out, HH.out]; simp, HA.out⟩
      · have hh : hasT p.T id = false := by rw [Bool.eq_false_iff]; intro h; exact h1 (hasT_iff.1 h).2
        have HH := Lib.hid hh
        clear hh
        go_wp2_with fail
        go_ret
        exact ⟨by rw [HFN.out, HH.out]; simp, HA.out⟩
    · have hh : hasT p.T id = false := by rw [Bool.eq_false_iff]; intro h; exact h0 (hasT_iff.1 h).1
      have HH := Lib.hid hh
      clear hh
      go_wp2_with fail
      go_ret
      exact ⟨by rw [HFN.out, HH.out]; simp, HA.out⟩
end
end Go.Proofs.YtbppaiejpgdbiaaGreat

/- Layer 14 (spine): a walk in memory: blocked, left, right. -/
namespace Go.Proofs.YtbppaiejpgdbiaaGreat
open Go.RowKit Go.Maps Go.WideMaps
set_option maxRecDepth 100000
set_option linter.unusedVariables false
set_option linter.unusedSimpArgs false

structure WalkIs (w : World) (base wb tbase tb : Nat) (T : List Ent) (sv : Value) (mb mp : Nat) (A B lim st : Int) : Prop where
  blk : w.heap[wb]? = some (.cells #[.int .i64 A, .int .i64 B, .pointer (some ⟨tb, 0, none⟩), .int .i64 lim, .int .i64 st] 121)
  tab : TabIs w tbase tb T sv mb mp
  tlt : ∀ x, tabF tb sv mb mp x → x < base
  le : base ≤ wb
theorem WalkIs.below {w w' : World} {C base wb tbase tb : Nat} {T : List Ent} {sv : Value} {mb mp : Nat} {A B lim st : Int} (h : WalkIs w base wb tbase tb T sv mb mp A B lim st) (hb : Below C w w') (hC : w.heap.size ≤ C) : WalkIs w' base wb tbase tb T sv mb mp A B lim st :=
  ⟨blk_below hb (Nat.lt_of_lt_of_le (blk_lt h.blk) hC) h.blk, h.tab.below hb hC, h.tlt, h.le⟩
theorem name_blk {W : World} {X : Nat} {o : Obj} (h : W.heap[X]? = some o) : ∃ nb, X = nb ∧ W.heap[nb]? = some o := ⟨X, rfl, h⟩
section
variable {w w' : World} {base wb tbase tb : Nat} {T : List Ent} {sv : Value} {mb mp : Nat} {A B lim st : Int}
set_option maxHeartbeats 4000000 in
theorem left_no (h : WalkIs w base wb tbase tb T sv mb mp A B lim st) (hn : bornT T A = false) :
    Calls Tryz.prog 139 #[.pointer (some ⟨wb, 0, none⟩)] w fun e w' => e = .returned (.bool false) ∧ Below w.heap.size w w' := by
  have h0 := blk_cell h.blk 0
  have h2 := blk_cell h.blk 2
  simp only [List.getElem?_toArray, List.getElem?_cons_zero, List.getElem?_cons_succ] at h0 h2
  have HH := Lib.hid h
  have HNB := Lib.hid hn
  clear h hn
  go_enter Tryz.func139, Tryz.ntmps139
  go_upto_region 1 with fail
  have HBB : Hid (Below w.heap.size w w.drew) := Lib.hid ⟨rfl, rfl, rfl, Nat.le_refl _, fun _ _ => rfl⟩
  have HSC : Hid (∀ V, Below w.heap.size w V → V.cell? ⟨wb, 0, none⟩ = some (.int .i64 A) ∧ V.cell? ⟨wb, 2, none⟩ = some (.pointer (some ⟨tb, 0, none⟩))) := Lib.hid (fun V hV => ⟨below_cell hV (Nat.le_refl _) h0, below_cell hV (Nat.le_refl _) h2⟩)
  obtain ⟨q1, q2, hq⟩ : ∃ q1 q2, parT T A = (q1, q2) := ⟨_, _, rfl⟩
  have HQ := Lib.hid hq
  clear h0 h2 hq
  refine wp_region_D (Ds := [15]) (S := fun V => V.cell? ⟨wb, 0, none⟩ = some (.int .i64 A) ∧ V.cell? ⟨wb, 2, none⟩ = some (.pointer (some ⟨tb, 0, none⟩))) (by kernel_rfl) (by exact HSC.out _ HBB.out) (fun hHeld => ?_)
  generalize w.drew = W0 at *
  refine wpAnyD_takeP (i := 0) (oi := { dst := some 6, op := Op.move (Operand.tmp 0), type := 116, pos := "spine.go:36", after := #[], guard := none }) (d := 6) (v := ?_) rfl rfl (by kernel_rfl) (by kernel_rfl) (by kernel_rfl) (fun _ _ _ h => h) (Or.inl ⟨by rfl, ?_⟩) ?_
  rotate_left
  · (intro w' _; go_simp; (try with_reducible rfl))
  simp only [List.setIfInBounds_toArray, List.set_cons_zero, List.set_cons_succ]
  refine wpAnyD_takeP (i := 1) (oi := { dst := some 7, op := Op.nilCheck (Operand.tmp 6), type := 0, pos := "spine.go:36", after := #[{ on := 0, ground := Ground.data }], guard := none }) (d := 7) (v := ?_) rfl rfl (by kernel_rfl) (by kernel_rfl) (by kernel_rfl) (fun _ _ _ h => h) (Or.inl ⟨by rfl, ?_⟩) ?_
  rotate_left
  · (intro w' _; go_simp; (try with_reducible rfl))
  simp only [List.setIfInBounds_toArray, List.set_cons_zero, List.set_cons_succ]
  refine wpAnyD_takeP (i := 2) (oi := { dst := some 8, op := Op.fieldAddr 121 (Operand.tmp 7) 1, type := 0, pos := "spine.go:36", after := #[{ on := 1, ground := Ground.data }], guard := none }) (d := 8) (v := ?_) rfl rfl (by kernel_rfl) (by kernel_rfl) (by kernel_rfl) (fun _ _ _ h => h) (Or.inl ⟨by rfl, ?_⟩) ?_
  rotate_left
  · (intro w' _; go_simp; (try with_reducible rfl))
  simp only [List.setIfInBounds_toArray, List.set_cons_zero, List.set_cons_succ]
  refine wpAnyD_takeP (i := 4) (oi := { dst := some 10, op := Op.move (Operand.tmp 0), type := 116, pos := "spine.go:36", after := #[], guard := none }) (d := 10) (v := ?_) rfl rfl (by kernel_rfl) (by kernel_rfl) (by kernel_rfl) (fun _ _ _ h => h) (Or.inl ⟨by rfl, ?_⟩) ?_
  rotate_left
  · (intro w' _; go_simp; (try with_reducible rfl))
  simp only [List.setIfInBounds_toArray, List.set_cons_zero, List.set_cons_succ]
  refine wpAnyD_takeP (i := 5) (oi := { dst := some 11, op := Op.nilCheck (Operand.tmp 10), type := 0, pos := "spine.go:36", after := #[{ on := 4, ground := Ground.data }], guard := none }) (d := 11) (v := ?_) rfl rfl (by kernel_rfl) (by kernel_rfl) (by kernel_rfl) (fun _ _ _ h => h) (Or.inl ⟨by rfl, ?_⟩) ?_
  rotate_left
  · (intro w' _; go_simp; (try with_reducible rfl))
  simp only [List.setIfInBounds_toArray, List.set_cons_zero, List.set_cons_succ]
  refine wpAnyD_takeP (i := 6) (oi := { dst := some 12, op := Op.fieldAddr 121 (Operand.tmp 11) 0, type := 0, pos := "spine.go:36", after := #[{ on := 5, ground := Ground.data }], guard := none }) (d := 12) (v := ?_) rfl rfl (by kernel_rfl) (by kernel_rfl) (by kernel_rfl) (fun _ _ _ h => h) (Or.inl ⟨by rfl, ?_⟩) ?_
  rotate_left
  · (intro w' _; go_simp; (try with_reducible rfl))
  simp only [List.setIfInBounds_toArray, List.set_cons_zero, List.set_cons_succ]
  refine wpAnyD_takeP (i := 7) (oi := { dst := some 13, op := Op.fieldAddr 119 (Operand.tmp 12) 0, type := 0, pos := "spine.go:36", after := #[{ on := 6, ground := Ground.data }], guard := none }) (d := 13) (v := ?_) rfl rfl (by kernel_rfl) (by kernel_rfl) (by kernel_rfl) (fun _ _ _ h => h) (Or.inl ⟨by rfl, ?_⟩) ?_
  rotate_left
  · (intro w' _; go_simp; (try with_reducible rfl))
  simp only [List.setIfInBounds_toArray, List.set_cons_zero, List.set_cons_succ]
  refine wpAnyD_takeP (i := 8) (oi := { dst := some 14, op := Op.fieldAddr 55 (Operand.tmp 13) 0, type := 0, pos := "spine.go:36", after := #[{ on := 7, ground := Ground.data }], guard := none }) (d := 14) (v := ?_) rfl rfl (by kernel_rfl) (by kernel_rfl) (by kernel_rfl) (fun _ _ _ h => h) (Or.inl ⟨by rfl, ?_⟩) ?_
  rotate_left
  · (intro w' _; go_simp; (try with_reducible rfl))
  simp only [List.setIfInBounds_toArray, List.set_cons_zero, List.set_cons_succ]
  refine wpAnyD_takeD (i := 3) (oi := { dst := some 9, op := Op.load 63 (Operand.tmp 8), type := 63, pos := "spine.go:36", after := #[{ on := 2, ground := Ground.data }], guard := none }) (d := 9) (v := ?_) rfl rfl (by kernel_rfl) (by kernel_rfl) (by kernel_rfl) (by kernel_rfl) (fun _ _ _ h => h) (Or.inl ⟨by rfl, ?_⟩) hHeld ?_
  rotate_left
  · (intro w' hSw; (try dsimp only at hSw); go_simp; (try with_reducible rfl))
  simp only [List.setIfInBounds_toArray, List.set_cons_zero, List.set_cons_succ]
  refine wpAnyD_takeD (i := 9) (oi := { dst := some 15, op := Op.load 3 (Operand.tmp 14), type := 3, pos := "spine.go:36", after := #[{ on := 8, ground := Ground.data }], guard := none }) (d := 15) (v := ?_) rfl rfl (by kernel_rfl) (by kernel_rfl) (by kernel_rfl) (by kernel_rfl) (fun _ _ _ h => h) (Or.inl ⟨by rfl, ?_⟩) hHeld ?_
  rotate_left
  · (intro w' hSw; (try dsimp only at hSw); go_simp; (try with_reducible rfl))
  simp only [List.setIfInBounds_toArray, List.set_cons_zero, List.set_cons_succ]
  refine wpAnyD_two (i := 10) (j := 14) (oi := { dst := some 16, op := Op.call { callee := Callee.value (Operand.func 57), args := #[Operand.tmp 9, Operand.tmp 15], argTypes := #[63, 3] }, type := 110, pos := "spine.go:36", after := #[{ on := 3, ground := Ground.data }, { on := 9, ground := Ground.data }], guard := none }) (oj := { dst := some 3, op := Op.alloc 55, type := 0, pos := "spine.go:36", after := #[], guard := none }) (by kernel_rfl) rfl rfl (by rfl) (by rfl) (fun K hK => ?_) (fun K hK => ?_)
  ·
    go_simp; refine (par_tab A (HH.out.tab.below HBB.out (Nat.le_refl _))).mono ?_; rintro e V1 ⟨rfl, hb⟩; rw [HNB.out, HQ.out]; unfold pairV; (try (replace HNW := Lib.hid (And.intro (blk_below hb (blk_lt HNW.out.1) HNW.out.1) HNW.out.2))); replace HBB := Lib.hid (HBB.out.trans (hb.mono HBB.out.size)); have h := HSC.out _ HBB.out; clear hb; go_simp
    refine hK.out _ _ h (fun hHeld => ?_)
    clear hK K
    try simp only [Act.put, List.setIfInBounds_toArray, List.set_cons_zero, List.set_cons_succ]
    refine wpAnyD_takeP (i := 11) (oi := { dst := some 5, op := Op.move (Operand.tmp 16), type := 110, pos := "spine.go:36", after := #[{ on := 10, ground := Ground.data }], guard := none }) (d := 5) (v := ?_) rfl rfl (by kernel_rfl) (by kernel_rfl) (by kernel_rfl) (fun _ _ _ h => h) (Or.inl ⟨by rfl, ?_⟩) ?_
    rotate_left
    · (intro w' _; go_simp; (try with_reducible rfl))
    simp only [List.setIfInBounds_toArray, List.set_cons_zero, List.set_cons_succ]
    refine wpAnyD_takeP (i := 12) (oi := { dst := some 17, op := Op.extract (Operand.tmp 5) 0, type := 55, pos := "spine.go:36", after := #[{ on := 11, ground := Ground.data }], guard := none }) (d := 17) (v := ?_) rfl rfl (by kernel_rfl) (by kernel_rfl) (by kernel_rfl) (fun _ _ _ h => h) (Or.inl ⟨by rfl, ?_⟩) ?_
    rotate_left
    · (intro w' _; go_simp; (try with_reducible rfl))
    simp only [List.setIfInBounds_toArray, List.set_cons_zero, List.set_cons_succ]
    refine wpAnyD_takeP (i := 13) (oi := { dst := some 18, op := Op.extract (Operand.tmp 5) 1, type := 4, pos := "spine.go:36", after := #[{ on := 11, ground := Ground.data }, { on := 15, ground := Ground.gcOnly Departure.lateStores }], guard := none }) (d := 18) (v := ?_) rfl rfl (by kernel_rfl) (by kernel_rfl) (by kernel_rfl) (fun _ _ _ h => h) (Or.inl ⟨by rfl, ?_⟩) ?_
    rotate_left
    · (intro w' _; go_simp; (try with_reducible rfl))
    simp only [List.setIfInBounds_toArray, List.set_cons_zero, List.set_cons_succ]
    refine wpAnyD_one (i := 14) (o := { dst := some 3, op := Op.alloc 55, type := 0, pos := "spine.go:36", after := #[], guard := none }) (by kernel_rfl) rfl (by rfl) (fun K hK => ?_)
    go_simp; have HNW := Lib.hid (And.intro (bel_new HBB.out (.cells #[.int .i64 0, .int .i64 0] 55)) HBB.out.size); have HBB := Lib.hid (bel_alloc HBB.out (.cells #[.int .i64 0, .int .i64 0] 55)); refine gen_below HBB.out rfl (fun W' hW' => ?_); rw [← hW'] at HBB HNW; clear hW'; have h := HSC.out _ HBB.out
    refine hK.out _ _ h (fun hHeld => ?_)
    clear hK K
    try simp only [Act.put, List.setIfInBounds_toArray, List.set_cons_zero, List.set_cons_succ]
    refine wpAnyD_last (D := 15) (by decide) (o := { dst := none, op := Op.store 55 (Operand.tmp 3) (Operand.tmp 17), type := 0, pos := "spine.go:36", after := #[{ on := 14, ground := Ground.data }, { on := 12, ground := Ground.data }, { on := 10, ground := Ground.chain }, { on := 0, ground := Ground.phase }, { on := 1, ground := Ground.phase }, { on := 2, ground := Ground.phase }, { on := 3, ground := Ground.phase }, { on := 4, ground := Ground.phase }, { on := 5, ground := Ground.phase }, { on := 6, ground := Ground.phase }, { on := 7, ground := Ground.phase }, { on := 8, ground := Ground.phase }, { on := 9, ground := Ground.phase }, { on := 10, ground := Ground.phase }, { on := 11, ground := Ground.phase }, { on := 12, ground := Ground.phase }, { on := 13, ground := Ground.textOnly Departure.lateStores }, { on := 14, ground := Ground.phase }], guard := none }) (by kernel_rfl) rfl (by rfl) (fun K hK => ?_)
    have d0 := blk_cell HNW.out.1 0; have d1 := blk_cell HNW.out.1 1; have z0 := blk_froz HNW.out.1 0; have z1 := blk_froz HNW.out.1 1; simp only [List.getElem?_toArray, List.getElem?_cons_zero, List.getElem?_cons_succ] at d0 d1; go_simp; have HBB := Lib.hid (bel_put HBB.out HNW.out.2 (.int .i64 q1) (.int .i64 q2)); refine gen_below HBB.out rfl (fun W' hW' => ?_); rw [← hW'] at HBB; clear hW' d0 d1 z0 z1
    refine hK.out _ _ ?_
    clear hK K
    try simp only [Act.put, List.setIfInBounds_toArray, List.set_cons_zero, List.set_cons_succ]
    refine wpAnyD_takeP (i := 16) (oi := { dst := some 4, op := Op.assign (Operand.tmp 18), type := 4, pos := "spine.go:36", after := #[{ on := 13, ground := Ground.data }, { on := 15, ground := Ground.chain }, { on := 0, ground := Ground.phase }, { on := 1, ground := Ground.phase }, { on := 2, ground := Ground.phase }, { on := 3, ground := Ground.phase }, { on := 4, ground := Ground.phase }, { on := 5, ground := Ground.phase }, { on := 6, ground := Ground.phase }, { on := 7, ground := Ground.phase }, { on := 8, ground := Ground.phase }, { on := 9, ground := Ground.phase }, { on := 10, ground := Ground.phase }, { on := 11, ground := Ground.phase }, { on := 12, ground := Ground.phase }, { on := 13, ground := Ground.phase }, { on := 14, ground := Ground.phase }, { on := 15, ground := Ground.phase }], guard := none }) (d := 4) (v := ?_) rfl rfl (by kernel_rfl) (by kernel_rfl) (by kernel_rfl) (fun _ _ _ h => h) (Or.inl ⟨by rfl, ?_⟩) ?_
    rotate_left
    · (intro w' _; go_simp; (try with_reducible rfl))
    simp only [List.setIfInBounds_toArray, List.set_cons_zero, List.set_cons_succ]
    refine wpAnyD_done (by kernel_rfl) ?_ _
    go_wp2_with fail
    go_ret
    exact ⟨rfl, HBB.out⟩
  ·
    go_simp; have HNW := Lib.hid (And.intro (bel_new HBB.out (.cells #[.int .i64 0, .int .i64 0] 55)) HBB.out.size); have HBB := Lib.hid (bel_alloc HBB.out (.cells #[.int .i64 0, .int .i64 0] 55)); refine gen_below HBB.out rfl (fun W' hW' => ?_); rw [← hW'] at HBB HNW; clear hW'; have h := HSC.out _ HBB.out
    refine hK.out _ _ h (fun hHeld => ?_)
    clear hK K
    try simp only [Act.put, List.setIfInBounds_toArray, List.set_cons_zero, List.set_cons_succ]
    refine wpAnyD_one (i := 10) (o := { dst := some 16, op := Op.call { callee := Callee.value (Operand.func 57), args := #[Operand.tmp 9, Operand.tmp 15], argTypes := #[63, 3] }, type := 110, pos := "spine.go:36", after := #[{ on := 3, ground := Ground.data }, { on := 9, ground := Ground.data }], guard := none }) (by kernel_rfl) rfl (by rfl) (fun K hK => ?_)
    go_simp; refine (par_tab A (HH.out.tab.below HBB.out (Nat.le_refl _))).mono ?_; rintro e V1 ⟨rfl, hb⟩; rw [HNB.out, HQ.out]; unfold pairV; (try (replace HNW := Lib.hid (And.intro (blk_below hb (blk_lt HNW.out.1) HNW.out.1) HNW.out.2))); replace HBB := Lib.hid (HBB.out.trans (hb.mono HBB.out.size)); have h := HSC.out _ HBB.out; clear hb; go_simp
    refine hK.out _ _ h (fun hHeld => ?_)
    clear hK K
    try simp only [Act.put, List.setIfInBounds_toArray, List.set_cons_zero, List.set_cons_succ]
    refine wpAnyD_takeP (i := 11) (oi := { dst := some 5, op := Op.move (Operand.tmp 16), type := 110, pos := "spine.go:36", after := #[{ on := 10, ground := Ground.data }], guard := none }) (d := 5) (v := ?_) rfl rfl (by kernel_rfl) (by kernel_rfl) (by kernel_rfl) (fun _ _ _ h => h) (Or.inl ⟨by rfl, ?_⟩) ?_
    rotate_left
    · (intro w' _; go_simp; (try with_reducible rfl))
    simp only [List.setIfInBounds_toArray, List.set_cons_zero, List.set_cons_succ]
    refine wpAnyD_takeP (i := 12) (oi := { dst := some 17, op := Op.extract (Operand.tmp 5) 0, type := 55, pos := "spine.go:36", after := #[{ on := 11, ground := Ground.data }], guard := none }) (d := 17) (v := ?_) rfl rfl (by kernel_rfl) (by kernel_rfl) (by kernel_rfl) (fun _ _ _ h => h) (Or.inl ⟨by rfl, ?_⟩) ?_
    rotate_left
    · (intro w' _; go_simp; (try with_reducible rfl))
    simp only [List.setIfInBounds_toArray, List.set_cons_zero, List.set_cons_succ]
    refine wpAnyD_takeP (i := 13) (oi := { dst := some 18, op := Op.extract (Operand.tmp 5) 1, type := 4, pos := "spine.go:36", after := #[{ on := 11, ground := Ground.data }, { on := 15, ground := Ground.gcOnly Departure.lateStores }], guard := none }) (d := 18) (v := ?_) rfl rfl (by kernel_rfl) (by kernel_rfl) (by kernel_rfl) (fun _ _ _ h => h) (Or.inl ⟨by rfl, ?_⟩) ?_
    rotate_left
    · (intro w' _; go_simp; (try with_reducible rfl))
    simp only [List.setIfInBounds_toArray, List.set_cons_zero, List.set_cons_succ]
    refine wpAnyD_last (D := 15) (by decide) (o := { dst := none, op := Op.store 55 (Operand.tmp 3) (Operand.tmp 17), type := 0, pos := "spine.go:36", after := #[{ on := 14, ground := Ground.data }, { on := 12, ground := Ground.data }, { on := 10, ground := Ground.chain }, { on := 0, ground := Ground.phase }, { on := 1, ground := Ground.phase }, { on := 2, ground := Ground.phase }, { on := 3, ground := Ground.phase }, { on := 4, ground := Ground.phase }, { on := 5, ground := Ground.phase }, { on := 6, ground := Ground.phase }, { on := 7, ground := Ground.phase }, { on := 8, ground := Ground.phase }, { on := 9, ground := Ground.phase }, { on := 10, ground := Ground.phase }, { on := 11, ground := Ground.phase }, { on := 12, ground := Ground.phase }, { on := 13, ground := Ground.textOnly Departure.lateStores }, { on := 14, ground := Ground.phase }], guard := none }) (by kernel_rfl) rfl (by rfl) (fun K hK => ?_)
    have d0 := blk_cell HNW.out.1 0; have d1 := blk_cell HNW.out.1 1; have z0 := blk_froz HNW.out.1 0; have z1 := blk_froz HNW.out.1 1; simp only [List.getElem?_toArray, List.getElem?_cons_zero, List.getElem?_cons_succ] at d0 d1; go_simp; have HBB := Lib.hid (bel_put HBB.out HNW.out.2 (.int .i64 q1) (.int .i64 q2)); refine gen_below HBB.out rfl (fun W' hW' => ?_); rw [← hW'] at HBB; clear hW' d0 d1 z0 z1
    refine hK.out _ _ ?_
    clear hK K
    try simp only [Act.put, List.setIfInBounds_toArray, List.set_cons_zero, List.set_cons_succ]
    refine wpAnyD_takeP (i := 16) (oi := { dst := some 4, op := Op.assign (Operand.tmp 18), type := 4, pos := "spine.go:36", after := #[{ on := 13, ground := Ground.data }, { on := 15, ground := Ground.chain }, { on := 0, ground := Ground.phase }, { on := 1, ground := Ground.phase }, { on := 2, ground := Ground.phase }, { on := 3, ground := Ground.phase }, { on := 4, ground := Ground.phase }, { on := 5, ground := Ground.phase }, { on := 6, ground := Ground.phase }, { on := 7, ground := Ground.phase }, { on := 8, ground := Ground.phase }, { on := 9, ground := Ground.phase }, { on := 10, ground := Ground.phase }, { on := 11, ground := Ground.phase }, { on := 12, ground := Ground.phase }, { on := 13, ground := Ground.phase }, { on := 14, ground := Ground.phase }, { on := 15, ground := Ground.phase }], guard := none }) (d := 4) (v := ?_) rfl rfl (by kernel_rfl) (by kernel_rfl) (by kernel_rfl) (fun _ _ _ h => h) (Or.inl ⟨by rfl, ?_⟩) ?_
    rotate_left
    · (intro w' _; go_simp; (try with_reducible rfl))
    simp only [List.setIfInBounds_toArray, List.set_cons_zero, List.set_cons_succ]
    refine wpAnyD_done (by kernel_rfl) ?_ _
    go_wp2_with fail
    go_ret
    exact ⟨rfl, HBB.out⟩
set_option maxHeartbeats 8000000 in
theorem left_yes (h : WalkIs w base wb tbase tb T sv mb mp A B lim st) (hn : bornT T A = true) (hx : 0 ≤ A ∧ A < 100000) (hst : 0 ≤ st ∧ st < 1000000000) :
    Calls Tryz.prog 139 #[.pointer (some ⟨wb, 0, none⟩)] w fun e w' => e = .returned (.bool true) ∧ WalkIs w' base wb tbase tb T sv mb mp (parT T A).2 B A (st + 1) ∧ Below base w w' := by
  obtain ⟨q1, q2, hq⟩ : ∃ q1 q2, parT T A = (q1, q2) := ⟨_, _, rfl⟩
  rw [hq]
  have HQ := Lib.hid hq
  clear hq
  have h0 := blk_cell h.blk 0
  have h2 := blk_cell h.blk 2
  simp only [List.getElem?_toArray, List.getElem?_cons_zero, List.getElem?_cons_succ] at h0 h2
  have HH := Lib.hid h
  have HNB := Lib.hid hn
  have hq9 := hx
  clear h hn hx
  go_enter Tryz.func139, Tryz.ntmps139
  go_upto_region 1 with fail
  have HBB : Hid (Below w.heap.size w w.drew) := Lib.hid ⟨rfl, rfl, rfl, Nat.le_refl _, fun _ _ => rfl⟩
  have HSC : Hid (∀ V, Below w.heap.size w V → V.cell? ⟨wb, 0, none⟩ = some (.int .i64 A) ∧ V.cell? ⟨wb, 2, none⟩ = some (.pointer (some ⟨tb, 0, none⟩))) := Lib.hid (fun V hV => ⟨below_cell hV (Nat.le_refl _) h0, below_cell hV (Nat.le_refl _) h2⟩)
  clear h0 h2
  refine wp_region_D (Ds := [15]) (S := fun V => V.cell? ⟨wb, 0, none⟩ = some (.int .i64 A) ∧ V.cell? ⟨wb, 2, none⟩ = some (.pointer (some ⟨tb, 0, none⟩))) (by kernel_rfl) (by exact HSC.out _ HBB.out) (fun hHeld => ?_)
  generalize w.drew = W0 at *
  refine wpAnyD_takeP (i := 0) (oi := { dst := some 6, op := Op.move (Operand.tmp 0), type := 116, pos := "spine.go:36", after := #[], guard := none }) (d := 6) (v := ?_) rfl rfl (by kernel_rfl) (by kernel_rfl) (by kernel_rfl) (fun _ _ _ h => h) (Or.inl ⟨by rfl, ?_⟩) ?_
  rotate_left
  · (intro w' _; go_simp; (try with_reducible rfl))
  simp only [List.setIfInBounds_toArray, List.set_cons_zero, List.set_cons_succ]
  refine wpAnyD_takeP (i := 1) (oi := { dst := some 7, op := Op.nilCheck (Operand.tmp 6), type := 0, pos := "spine.go:36", after := #[{ on := 0, ground := Ground.data }], guard := none }) (d := 7) (v := ?_) rfl rfl (by kernel_rfl) (by kernel_rfl) (by kernel_rfl) (fun _ _ _ h => h) (Or.inl ⟨by rfl, ?_⟩) ?_
  rotate_left
  · (intro w' _; go_simp; (try with_reducible rfl))
  simp only [List.setIfInBounds_toArray, List.set_cons_zero, List.set_cons_succ]
  refine wpAnyD_takeP (i := 2) (oi := { dst := some 8, op := Op.fieldAddr 121 (Operand.tmp 7) 1, type := 0, pos := "spine.go:36", after := #[{ on := 1, ground := Ground.data }], guard := none }) (d := 8) (v := ?_) rfl rfl (by kernel_rfl) (by kernel_rfl) (by kernel_rfl) (fun _ _ _ h => h) (Or.inl ⟨by rfl, ?_⟩) ?_
  rotate_left
  · (intro w' _; go_simp; (try with_reducible rfl))
  simp only [List.setIfInBounds_toArray, List.set_cons_zero, List.set_cons_succ]
  refine wpAnyD_takeP (i := 4) (oi := { dst := some 10, op := Op.move (Operand.tmp 0), type := 116, pos := "spine.go:36", after := #[], guard := none }) (d := 10) (v := ?_) rfl rfl (by kernel_rfl) (by kernel_rfl) (by kernel_rfl) (fun _ _ _ h => h) (Or.inl ⟨by rfl, ?_⟩) ?_
  rotate_left
  · (intro w' _; go_simp; (try with_reducible rfl))
  simp only [List.setIfInBounds_toArray, List.set_cons_zero, List.set_cons_succ]
  refine wpAnyD_takeP (i := 5) (oi := { dst := some 11, op := Op.nilCheck (Operand.tmp 10), type := 0, pos := "spine.go:36", after := #[{ on := 4, ground := Ground.data }], guard := none }) (d := 11) (v := ?_) rfl rfl (by kernel_rfl) (by kernel_rfl) (by kernel_rfl) (fun _ _ _ h => h) (Or.inl ⟨by rfl, ?_⟩) ?_
  rotate_left
  · (intro w' _; go_simp; (try with_reducible rfl))
  simp only [List.setIfInBounds_toArray, List.set_cons_zero, List.set_cons_succ]
  refine wpAnyD_takeP (i := 6) (oi := { dst := some 12, op := Op.fieldAddr 121 (Operand.tmp 11) 0, type := 0, pos := "spine.go:36", after := #[{ on := 5, ground := Ground.data }], guard := none }) (d := 12) (v := ?_) rfl rfl (by kernel_rfl) (by kernel_rfl) (by kernel_rfl) (fun _ _ _ h => h) (Or.inl ⟨by rfl, ?_⟩) ?_
  rotate_left
  · (intro w' _; go_simp; (try with_reducible rfl))
  simp only [List.setIfInBounds_toArray, List.set_cons_zero, List.set_cons_succ]
  refine wpAnyD_takeP (i := 7) (oi := { dst := some 13, op := Op.fieldAddr 119 (Operand.tmp 12) 0, type := 0, pos := "spine.go:36", after := #[{ on := 6, ground := Ground.data }], guard := none }) (d := 13) (v := ?_) rfl rfl (by kernel_rfl) (by kernel_rfl) (by kernel_rfl) (fun _ _ _ h => h) (Or.inl ⟨by rfl, ?_⟩) ?_
  rotate_left
  · (intro w' _; go_simp; (try with_reducible rfl))
  simp only [List.setIfInBounds_toArray, List.set_cons_zero, List.set_cons_succ]
  refine wpAnyD_takeP (i := 8) (oi := { dst := some 14, op := Op.fieldAddr 55 (Operand.tmp 13) 0, type := 0, pos := "spine.go:36", after := #[{ on := 7, ground := Ground.data }], guard := none }) (d := 14) (v := ?_) rfl rfl (by kernel_rfl) (by kernel_rfl) (by kernel_rfl) (fun _ _ _ h => h) (Or.inl ⟨by rfl, ?_⟩) ?_
  rotate_left
  · (intro w' _; go_simp; (try with_reducible rfl))
  simp only [List.setIfInBounds_toArray, List.set_cons_zero, List.set_cons_succ]
  refine wpAnyD_takeD (i := 3) (oi := { dst := some 9, op := Op.load 63 (Operand.tmp 8), type := 63, pos := "spine.go:36", after := #[{ on := 2, ground := Ground.data }], guard := none }) (d := 9) (v := ?_) rfl rfl (by kernel_rfl) (by kernel_rfl) (by kernel_rfl) (by kernel_rfl) (fun _ _ _ h => h) (Or.inl ⟨by rfl, ?_⟩) hHeld ?_
  rotate_left
  · (intro w' hSw; (try dsimp only at hSw); go_simp; (try with_reducible rfl))
  simp only [List.setIfInBounds_toArray, List.set_cons_zero, List.set_cons_succ]
  refine wpAnyD_takeD (i := 9) (oi := { dst := some 15, op := Op.load 3 (Operand.tmp 14), type := 3, pos := "spine.go:36", after := #[{ on := 8, ground := Ground.data }], guard := none }) (d := 15) (v := ?_) rfl rfl (by kernel_rfl) (by kernel_rfl) (by kernel_rfl) (by kernel_rfl) (fun _ _ _ h => h) (Or.inl ⟨by rfl, ?_⟩) hHeld ?_
  rotate_left
  · (intro w' hSw; (try dsimp only at hSw); go_simp; (try with_reducible rfl))
  simp only [List.setIfInBounds_toArray, List.set_cons_zero, List.set_cons_succ]
  refine wpAnyD_two (i := 10) (j := 14) (oi := { dst := some 16, op := Op.call { callee := Callee.value (Operand.func 57), args := #[Operand.tmp 9, Operand.tmp 15], argTypes := #[63, 3] }, type := 110, pos := "spine.go:36", after := #[{ on := 3, ground := Ground.data }, { on := 9, ground := Ground.data }], guard := none }) (oj := { dst := some 3, op := Op.alloc 55, type := 0, pos := "spine.go:36", after := #[], guard := none }) (by kernel_rfl) rfl rfl (by rfl) (by rfl) (fun K hK => ?_) (fun K hK => ?_)
  ·
    go_simp; refine (par_tab A (HH.out.tab.below HBB.out (Nat.le_refl _))).mono ?_; rintro e V1 ⟨rfl, hb⟩; rw [HNB.out, HQ.out]; unfold pairV; (try (replace HNW := Lib.hid (And.intro (blk_below hb (blk_lt HNW.out.1) HNW.out.1) HNW.out.2))); replace HBB := Lib.hid (HBB.out.trans (hb.mono HBB.out.size)); have h := HSC.out _ HBB.out; clear hb; go_simp
    refine hK.out _ _ h (fun hHeld => ?_)
    clear hK K
    try simp only [Act.put, List.setIfInBounds_toArray, List.set_cons_zero, List.set_cons_succ]
    refine wpAnyD_takeP (i := 11) (oi := { dst := some 5, op := Op.move (Operand.tmp 16), type := 110, pos := "spine.go:36", after := #[{ on := 10, ground := Ground.data }], guard := none }) (d := 5) (v := ?_) rfl rfl (by kernel_rfl) (by kernel_rfl) (by kernel_rfl) (fun _ _ _ h => h) (Or.inl ⟨by rfl, ?_⟩) ?_
    rotate_left
    · (intro w' _; go_simp; (try with_reducible rfl))
    simp only [List.setIfInBounds_toArray, List.set_cons_zero, List.set_cons_succ]
    refine wpAnyD_takeP (i := 12) (oi := { dst := some 17, op := Op.extract (Operand.tmp 5) 0, type := 55, pos := "spine.go:36", after := #[{ on := 11, ground := Ground.data }], guard := none }) (d := 17) (v := ?_) rfl rfl (by kernel_rfl) (by kernel_rfl) (by kernel_rfl) (fun _ _ _ h => h) (Or.inl ⟨by rfl, ?_⟩) ?_
    rotate_left
    · (intro w' _; go_simp; (try with_reducible rfl))
    simp only [List.setIfInBounds_toArray, List.set_cons_zero, List.set_cons_succ]
    refine wpAnyD_takeP (i := 13) (oi := { dst := some 18, op := Op.extract (Operand.tmp 5) 1, type := 4, pos := "spine.go:36", after := #[{ on := 11, ground := Ground.data }, { on := 15, ground := Ground.gcOnly Departure.lateStores }], guard := none }) (d := 18) (v := ?_) rfl rfl (by kernel_rfl) (by kernel_rfl) (by kernel_rfl) (fun _ _ _ h => h) (Or.inl ⟨by rfl, ?_⟩) ?_
    rotate_left
    · (intro w' _; go_simp; (try with_reducible rfl))
    simp only [List.setIfInBounds_toArray, List.set_cons_zero, List.set_cons_succ]
    refine wpAnyD_one (i := 14) (o := { dst := some 3, op := Op.alloc 55, type := 0, pos := "spine.go:36", after := #[], guard := none }) (by kernel_rfl) rfl (by rfl) (fun K hK => ?_)
    go_simp; have HNW := Lib.hid (And.intro (bel_new HBB.out (.cells #[.int .i64 0, .int .i64 0] 55)) HBB.out.size); have HBB := Lib.hid (bel_alloc HBB.out (.cells #[.int .i64 0, .int .i64 0] 55)); refine gen_below HBB.out rfl (fun W' hW' => ?_); rw [← hW'] at HBB HNW; clear hW'; have h := HSC.out _ HBB.out
    refine hK.out _ _ h (fun hHeld => ?_)
    clear hK K
    try simp only [Act.put, List.setIfInBounds_toArray, List.set_cons_zero, List.set_cons_succ]
    refine wpAnyD_last (D := 15) (by decide) (o := { dst := none, op := Op.store 55 (Operand.tmp 3) (Operand.tmp 17), type := 0, pos := "spine.go:36", after := #[{ on := 14, ground := Ground.data }, { on := 12, ground := Ground.data }, { on := 10, ground := Ground.chain }, { on := 0, ground := Ground.phase }, { on := 1, ground := Ground.phase }, { on := 2, ground := Ground.phase }, { on := 3, ground := Ground.phase }, { on := 4, ground := Ground.phase }, { on := 5, ground := Ground.phase }, { on := 6, ground := Ground.phase }, { on := 7, ground := Ground.phase }, { on := 8, ground := Ground.phase }, { on := 9, ground := Ground.phase }, { on := 10, ground := Ground.phase }, { on := 11, ground := Ground.phase }, { on := 12, ground := Ground.phase }, { on := 13, ground := Ground.textOnly Departure.lateStores }, { on := 14, ground := Ground.phase }], guard := none }) (by kernel_rfl) rfl (by rfl) (fun K hK => ?_)
    have d0 := blk_cell HNW.out.1 0; have d1 := blk_cell HNW.out.1 1; have z0 := blk_froz HNW.out.1 0; have z1 := blk_froz HNW.out.1 1; simp only [List.getElem?_toArray, List.getElem?_cons_zero, List.getElem?_cons_succ] at d0 d1; go_simp; have hn6 := blk_set (blk_set HNW.out.1 0 (.int .i64 q1)) 1 (.int .i64 q2); simp only [List.setIfInBounds_toArray, List.set_cons_zero, List.set_cons_succ] at hn6; have HN6 := Lib.hid hn6; have HBB := Lib.hid (bel_put HBB.out HNW.out.2 (.int .i64 q1) (.int .i64 q2)); refine gen_below HBB.out rfl (fun W9 hW9 => ?_); rw [← hW9] at HBB HN6; clear hW9 d0 d1 z0 z1 hn6
    refine hK.out _ _ ?_
    clear hK K
    try simp only [Act.put, List.setIfInBounds_toArray, List.set_cons_zero, List.set_cons_succ]
    refine wpAnyD_takeP (i := 16) (oi := { dst := some 4, op := Op.assign (Operand.tmp 18), type := 4, pos := "spine.go:36", after := #[{ on := 13, ground := Ground.data }, { on := 15, ground := Ground.chain }, { on := 0, ground := Ground.phase }, { on := 1, ground := Ground.phase }, { on := 2, ground := Ground.phase }, { on := 3, ground := Ground.phase }, { on := 4, ground := Ground.phase }, { on := 5, ground := Ground.phase }, { on := 6, ground := Ground.phase }, { on := 7, ground := Ground.phase }, { on := 8, ground := Ground.phase }, { on := 9, ground := Ground.phase }, { on := 10, ground := Ground.phase }, { on := 11, ground := Ground.phase }, { on := 12, ground := Ground.phase }, { on := 13, ground := Ground.phase }, { on := 14, ground := Ground.phase }, { on := 15, ground := Ground.phase }], guard := none }) (d := 4) (v := ?_) rfl rfl (by kernel_rfl) (by kernel_rfl) (by kernel_rfl) (fun _ _ _ h => h) (Or.inl ⟨by rfl, ?_⟩) ?_
    rotate_left
    · (intro w' _; go_simp; (try with_reducible rfl))
    simp only [List.setIfInBounds_toArray, List.set_cons_zero, List.set_cons_succ]
    refine wpAnyD_done (by kernel_rfl) ?_ _
    obtain ⟨nb, hnb, hn6⟩ := name_blk HN6.out
    (first | rw [hnb] | rw [show w.heap.size = nb from hnb])
    have hw := HH.out.below HBB.out (Nat.le_refl _)
    have HW := Lib.hid hw
    have HB1 := Lib.hid (HBB.out.mono (Nat.le_trans HH.out.le (Nat.le_of_lt (blk_lt HH.out.blk))))
    have c0 := blk_cell hw.blk 0
    have n0 := blk_cell hn6 1
    simp only [List.getElem?_toArray, List.getElem?_cons_zero, List.getElem?_cons_succ] at c0 n0
    
    have HN9 := Lib.hid hn6
    have HNE : Hid (¬ nb = wb) := Lib.hid (by have := HNW.out.2; have := blk_lt HH.out.blk; omega)
    clear hnb hn6 hw HSC HBB HN6 HNW h hHeld
    go_upto_region 3 with fail
    refine wp_region_D (Ds := [17]) (S := fun V => V.cell? ⟨wb, 0, none⟩ = some (.int .i64 A) ∧ V.cell? ⟨nb, 1, none⟩ = some (.int .i64 q2)) (by kernel_rfl) (by exact ⟨c0, n0⟩) (fun hHeld => ?_)
    (have HN3 : Hid (W9.drew.heap[nb]? = some (.cells #[.int .i64 q1, .int .i64 q2] 55)) := Lib.hid HN9.out); clear HN9; (replace HB1 := Lib.hid HB1.out.drew); (have HT := Lib.hid HW.out.tab.drew); (have HBK : Hid (W9.drew.heap[wb]? = some (.cells #[.int .i64 A, .int .i64 B, .pointer (some ⟨tb, 0, none⟩), .int .i64 lim, .int .i64 st] 121)) := Lib.hid HW.out.blk); (have HK0 : Hid (Keep (fun g => g = wb) W9.drew W9.drew) := Lib.hid (Keep.refl _ _)); clear c0 n0 HW; generalize W9.drew = W3 at *
    refine wpAnyD_takeP (i := 0) (oi := { dst := some 20, op := Op.move (Operand.tmp 0), type := 116, pos := "spine.go:38", after := #[], guard := none }) (d := 20) (v := ?_) rfl rfl (by kernel_rfl) (by kernel_rfl) (by kernel_rfl) (fun _ _ _ h => h) (Or.inl ⟨by rfl, ?_⟩) ?_
    rotate_left
    · (intro w' _; go_simp; (try with_reducible rfl))
    simp only [List.setIfInBounds_toArray, List.set_cons_zero, List.set_cons_succ]
    refine wpAnyD_takeP (i := 1) (oi := { dst := some 21, op := Op.move (Operand.tmp 0), type := 116, pos := "spine.go:38", after := #[{ on := 12, ground := Ground.gcOnly Departure.lateStores }], guard := none }) (d := 21) (v := ?_) rfl rfl (by kernel_rfl) (by kernel_rfl) (by kernel_rfl) (fun _ _ _ h => h) (Or.inl ⟨by rfl, ?_⟩) ?_
    rotate_left
    · (intro w' _; go_simp; (try with_reducible rfl))
    simp only [List.setIfInBounds_toArray, List.set_cons_zero, List.set_cons_succ]
    refine wpAnyD_takeP (i := 2) (oi := { dst := some 22, op := Op.move (Operand.tmp 0), type := 116, pos := "spine.go:38", after := #[], guard := none }) (d := 22) (v := ?_) rfl rfl (by kernel_rfl) (by kernel_rfl) (by kernel_rfl) (fun _ _ _ h => h) (Or.inl ⟨by rfl, ?_⟩) ?_
    rotate_left
    · (intro w' _; go_simp; (try with_reducible rfl))
    simp only [List.setIfInBounds_toArray, List.set_cons_zero, List.set_cons_succ]
    refine wpAnyD_takeP (i := 3) (oi := { dst := some 23, op := Op.nilCheck (Operand.tmp 22), type := 0, pos := "spine.go:38", after := #[{ on := 2, ground := Ground.data }], guard := none }) (d := 23) (v := ?_) rfl rfl (by kernel_rfl) (by kernel_rfl) (by kernel_rfl) (fun _ _ _ h => h) (Or.inl ⟨by rfl, ?_⟩) ?_
    rotate_left
    · (intro w' _; go_simp; (try with_reducible rfl))
    simp only [List.setIfInBounds_toArray, List.set_cons_zero, List.set_cons_succ]
    refine wpAnyD_takeP (i := 4) (oi := { dst := some 24, op := Op.fieldAddr 121 (Operand.tmp 23) 0, type := 0, pos := "spine.go:38", after := #[{ on := 3, ground := Ground.data }], guard := none }) (d := 24) (v := ?_) rfl rfl (by kernel_rfl) (by kernel_rfl) (by kernel_rfl) (fun _ _ _ h => h) (Or.inl ⟨by rfl, ?_⟩) ?_
    rotate_left
    · (intro w' _; go_simp; (try with_reducible rfl))
    simp only [List.setIfInBounds_toArray, List.set_cons_zero, List.set_cons_succ]
    refine wpAnyD_takeP (i := 5) (oi := { dst := some 25, op := Op.fieldAddr 119 (Operand.tmp 24) 0, type := 0, pos := "spine.go:38", after := #[{ on := 4, ground := Ground.data }], guard := none }) (d := 25) (v := ?_) rfl rfl (by kernel_rfl) (by kernel_rfl) (by kernel_rfl) (fun _ _ _ h => h) (Or.inl ⟨by rfl, ?_⟩) ?_
    rotate_left
    · (intro w' _; go_simp; (try with_reducible rfl))
    simp only [List.setIfInBounds_toArray, List.set_cons_zero, List.set_cons_succ]
    refine wpAnyD_takeP (i := 6) (oi := { dst := some 26, op := Op.fieldAddr 55 (Operand.tmp 25) 0, type := 0, pos := "spine.go:38", after := #[{ on := 5, ground := Ground.data }], guard := none }) (d := 26) (v := ?_) rfl rfl (by kernel_rfl) (by kernel_rfl) (by kernel_rfl) (fun _ _ _ h => h) (Or.inl ⟨by rfl, ?_⟩) ?_
    rotate_left
    · (intro w' _; go_simp; (try with_reducible rfl))
    simp only [List.setIfInBounds_toArray, List.set_cons_zero, List.set_cons_succ]
    refine wpAnyD_takeP (i := 8) (oi := { dst := some 28, op := Op.fieldAddr 55 (Operand.tmp 3) 1, type := 0, pos := "spine.go:38", after := #[{ on := 12, ground := Ground.gcOnly Departure.lateStores }], guard := none }) (d := 28) (v := ?_) rfl rfl (by kernel_rfl) (by kernel_rfl) (by kernel_rfl) (fun _ _ _ h => h) (Or.inl ⟨by rfl, ?_⟩) ?_
    rotate_left
    · (intro w' _; go_simp; (try with_reducible rfl))
    simp only [List.setIfInBounds_toArray, List.set_cons_zero, List.set_cons_succ]
    refine wpAnyD_takeD (i := 7) (oi := { dst := some 27, op := Op.load 3 (Operand.tmp 26), type := 3, pos := "spine.go:38", after := #[{ on := 6, ground := Ground.data }], guard := none }) (d := 27) (v := ?_) rfl rfl (by kernel_rfl) (by kernel_rfl) (by kernel_rfl) (by kernel_rfl) (fun _ _ _ h => h) (Or.inl ⟨by rfl, ?_⟩) hHeld ?_
    rotate_left
    · (intro w' hSw; (try dsimp only at hSw); go_simp; (try with_reducible rfl))
    simp only [List.setIfInBounds_toArray, List.set_cons_zero, List.set_cons_succ]
    refine wpAnyD_takeP (i := 10) (oi := { dst := some 30, op := Op.nilCheck (Operand.tmp 20), type := 0, pos := "spine.go:38", after := #[{ on := 0, ground := Ground.data }, { on := 0, ground := Ground.phase }, { on := 1, ground := Ground.textOnly Departure.lateStores }, { on := 2, ground := Ground.phase }, { on := 3, ground := Ground.phase }, { on := 4, ground := Ground.phase }, { on := 5, ground := Ground.phase }, { on := 6, ground := Ground.phase }, { on := 7, ground := Ground.phase }, { on := 8, ground := Ground.textOnly Departure.lateStores }, { on := 9, ground := Ground.textOnly Departure.lateStores }], guard := none }) (d := 30) (v := ?_) rfl rfl (by kernel_rfl) (by kernel_rfl) (by kernel_rfl) (fun _ _ _ h => h) (Or.inl ⟨by rfl, ?_⟩) ?_
    rotate_left
    · (intro w' _; go_simp; (try with_reducible rfl))
    simp only [List.setIfInBounds_toArray, List.set_cons_zero, List.set_cons_succ]
    refine wpAnyD_takeP (i := 11) (oi := { dst := some 31, op := Op.fieldAddr 121 (Operand.tmp 30) 2, type := 0, pos := "spine.go:38", after := #[{ on := 10, ground := Ground.data }, { on := 0, ground := Ground.phase }, { on := 1, ground := Ground.textOnly Departure.lateStores }, { on := 2, ground := Ground.phase }, { on := 3, ground := Ground.phase }, { on := 4, ground := Ground.phase }, { on := 5, ground := Ground.phase }, { on := 6, ground := Ground.phase }, { on := 7, ground := Ground.phase }, { on := 8, ground := Ground.textOnly Departure.lateStores }, { on := 9, ground := Ground.textOnly Departure.lateStores }], guard := none }) (d := 31) (v := ?_) rfl rfl (by kernel_rfl) (by kernel_rfl) (by kernel_rfl) (fun _ _ _ h => h) (Or.inl ⟨by rfl, ?_⟩) ?_
    rotate_left
    · (intro w' _; go_simp; (try with_reducible rfl))
    simp only [List.setIfInBounds_toArray, List.set_cons_zero, List.set_cons_succ]
    refine wpAnyD_takeD (i := 9) (oi := { dst := some 29, op := Op.load 3 (Operand.tmp 28), type := 3, pos := "spine.go:38", after := #[{ on := 8, ground := Ground.data }, { on := 12, ground := Ground.gcOnly Departure.lateStores }], guard := none }) (d := 29) (v := ?_) rfl rfl (by kernel_rfl) (by kernel_rfl) (by kernel_rfl) (by kernel_rfl) (fun _ _ _ h => h) (Or.inl ⟨by rfl, ?_⟩) hHeld ?_
    rotate_left
    · (intro w' hSw; (try dsimp only at hSw); go_simp; (try with_reducible rfl))
    simp only [List.setIfInBounds_toArray, List.set_cons_zero, List.set_cons_succ]
    refine wpAnyD_one (i := 12) (o := { dst := none, op := Op.store 3 (Operand.tmp 31) (Operand.tmp 27), type := 0, pos := "spine.go:38", after := #[{ on := 11, ground := Ground.data }, { on := 7, ground := Ground.data }, { on := 0, ground := Ground.phase }, { on := 1, ground := Ground.textOnly Departure.lateStores }, { on := 2, ground := Ground.phase }, { on := 3, ground := Ground.phase }, { on := 4, ground := Ground.phase }, { on := 5, ground := Ground.phase }, { on := 6, ground := Ground.phase }, { on := 7, ground := Ground.phase }, { on := 8, ground := Ground.textOnly Departure.lateStores }, { on := 9, ground := Ground.textOnly Departure.lateStores }], guard := none }) (by kernel_rfl) rfl (by rfl) (fun K hK => ?_)
    have z0 := blk_froz HBK.out 3; have d0 := blk_cell HBK.out 3; simp only [List.getElem?_toArray, List.getElem?_cons_zero, List.getElem?_cons_succ] at d0; go_simp; have hb4 := blk_set HBK.out 3 (.int .i64 A); simp only [List.setIfInBounds_toArray, List.set_cons_zero, List.set_cons_succ] at hb4; have HBK4 := Lib.hid hb4; have HK4 := Lib.hid (HK0.out.setCell (p := ⟨wb, 3, none⟩) (.inl rfl) (.int .i64 A)); have hs0 := blk_cell HBK4.out 0; have hs1 := blk_cell (HK4.out.blk HN3.out HNE.out) 1; simp only [List.getElem?_toArray, List.getElem?_cons_zero, List.getElem?_cons_succ] at hs0 hs1; have h := And.intro hs0 hs1; clear z0 d0 hb4 hs0 hs1; generalize W3.setCell ⟨wb, 3, none⟩ (.int .i64 A) = W4 at *
    refine hK.out _ _ h (fun hHeld => ?_)
    clear hK K
    try simp only [Act.put, List.setIfInBounds_toArray, List.set_cons_zero, List.set_cons_succ]
    refine wpAnyD_takeP (i := 13) (oi := { dst := some 32, op := Op.nilCheck (Operand.tmp 21), type := 0, pos := "spine.go:38", after := #[{ on := 1, ground := Ground.data }, { on := 0, ground := Ground.phase }, { on := 1, ground := Ground.phase }, { on := 2, ground := Ground.phase }, { on := 3, ground := Ground.phase }, { on := 4, ground := Ground.phase }, { on := 5, ground := Ground.phase }, { on := 6, ground := Ground.phase }, { on := 7, ground := Ground.phase }, { on := 8, ground := Ground.phase }, { on := 9, ground := Ground.phase }, { on := 10, ground := Ground.phase }, { on := 11, ground := Ground.phase }, { on := 12, ground := Ground.phase }], guard := none }) (d := 32) (v := ?_) rfl rfl (by kernel_rfl) (by kernel_rfl) (by kernel_rfl) (fun _ _ _ h => h) (Or.inl ⟨by rfl, ?_⟩) ?_
    rotate_left
    · (intro w' _; go_simp; (try with_reducible rfl))
    simp only [List.setIfInBounds_toArray, List.set_cons_zero, List.set_cons_succ]
    refine wpAnyD_takeP (i := 14) (oi := { dst := some 33, op := Op.fieldAddr 121 (Operand.tmp 32) 0, type := 0, pos := "spine.go:38", after := #[{ on := 13, ground := Ground.data }, { on := 0, ground := Ground.phase }, { on := 1, ground := Ground.phase }, { on := 2, ground := Ground.phase }, { on := 3, ground := Ground.phase }, { on := 4, ground := Ground.phase }, { on := 5, ground := Ground.phase }, { on := 6, ground := Ground.phase }, { on := 7, ground := Ground.phase }, { on := 8, ground := Ground.phase }, { on := 9, ground := Ground.phase }, { on := 10, ground := Ground.phase }, { on := 11, ground := Ground.phase }, { on := 12, ground := Ground.phase }], guard := none }) (d := 33) (v := ?_) rfl rfl (by kernel_rfl) (by kernel_rfl) (by kernel_rfl) (fun _ _ _ h => h) (Or.inl ⟨by rfl, ?_⟩) ?_
    rotate_left
    · (intro w' _; go_simp; (try with_reducible rfl))
    simp only [List.setIfInBounds_toArray, List.set_cons_zero, List.set_cons_succ]
    refine wpAnyD_takeP (i := 15) (oi := { dst := some 34, op := Op.fieldAddr 119 (Operand.tmp 33) 0, type := 0, pos := "spine.go:38", after := #[{ on := 14, ground := Ground.data }, { on := 0, ground := Ground.phase }, { on := 1, ground := Ground.phase }, { on := 2, ground := Ground.phase }, { on := 3, ground := Ground.phase }, { on := 4, ground := Ground.phase }, { on := 5, ground := Ground.phase }, { on := 6, ground := Ground.phase }, { on := 7, ground := Ground.phase }, { on := 8, ground := Ground.phase }, { on := 9, ground := Ground.phase }, { on := 10, ground := Ground.phase }, { on := 11, ground := Ground.phase }, { on := 12, ground := Ground.phase }], guard := none }) (d := 34) (v := ?_) rfl rfl (by kernel_rfl) (by kernel_rfl) (by kernel_rfl) (fun _ _ _ h => h) (Or.inl ⟨by rfl, ?_⟩) ?_
    rotate_left
    · (intro w' _; go_simp; (try with_reducible rfl))
    simp only [List.setIfInBounds_toArray, List.set_cons_zero, List.set_cons_succ]
    refine wpAnyD_takeP (i := 16) (oi := { dst := some 35, op := Op.fieldAddr 55 (Operand.tmp 34) 0, type := 0, pos := "spine.go:38", after := #[{ on := 15, ground := Ground.data }, { on := 0, ground := Ground.phase }, { on := 1, ground := Ground.phase }, { on := 2, ground := Ground.phase }, { on := 3, ground := Ground.phase }, { on := 4, ground := Ground.phase }, { on := 5, ground := Ground.phase }, { on := 6, ground := Ground.phase }, { on := 7, ground := Ground.phase }, { on := 8, ground := Ground.phase }, { on := 9, ground := Ground.phase }, { on := 10, ground := Ground.phase }, { on := 11, ground := Ground.phase }, { on := 12, ground := Ground.phase }], guard := none }) (d := 35) (v := ?_) rfl rfl (by kernel_rfl) (by kernel_rfl) (by kernel_rfl) (fun _ _ _ h => h) (Or.inl ⟨by rfl, ?_⟩) ?_
    rotate_left
    · (intro w' _; go_simp; (try with_reducible rfl))
    simp only [List.setIfInBounds_toArray, List.set_cons_zero, List.set_cons_succ]
    refine wpAnyD_last (D := 17) (by decide) (o := { dst := none, op := Op.store 3 (Operand.tmp 35) (Operand.tmp 29), type := 0, pos := "spine.go:38", after := #[{ on := 16, ground := Ground.data }, { on := 9, ground := Ground.data }, { on := 12, ground := Ground.chain }, { on := 0, ground := Ground.phase }, { on := 1, ground := Ground.phase }, { on := 2, ground := Ground.phase }, { on := 3, ground := Ground.phase }, { on := 4, ground := Ground.phase }, { on := 5, ground := Ground.phase }, { on := 6, ground := Ground.phase }, { on := 7, ground := Ground.phase }, { on := 8, ground := Ground.phase }, { on := 9, ground := Ground.phase }, { on := 10, ground := Ground.phase }, { on := 11, ground := Ground.phase }, { on := 12, ground := Ground.phase }], guard := none }) (by kernel_rfl) rfl (by rfl) (fun K hK => ?_)
    have z0 := blk_froz HBK4.out 0; have d0 := blk_cell HBK4.out 0; simp only [List.getElem?_toArray, List.getElem?_cons_zero, List.getElem?_cons_succ] at d0; go_simp; have hb5 := blk_set HBK4.out 0 (.int .i64 q2); simp only [List.setIfInBounds_toArray, List.set_cons_zero, List.set_cons_succ] at hb5; have HBK5 := Lib.hid hb5; have HK5 := Lib.hid (HK4.out.setCell (p := ⟨wb, 0, none⟩) (.inl rfl) (.int .i64 q2)); clear z0 d0 hb5; generalize W4.setCell ⟨wb, 0, none⟩ (.int .i64 q2) = W5 at *
    refine hK.out _ _ ?_
    clear hK K
    try simp only [Act.put, List.setIfInBounds_toArray, List.set_cons_zero, List.set_cons_succ]
    refine wpAnyD_done (by kernel_rfl) ?_ _
    have z4 := blk_froz HBK5.out 4
    have d4 := blk_cell HBK5.out 4
    simp only [List.getElem?_toArray, List.getElem?_cons_zero, List.getElem?_cons_succ] at d4
    have ws : IntKind.i64.wrap (st + 1) = st + 1 := IntWalk.i64_in _ (by omega)
    go_upto_region 5 with fail
    clear ws z4 d4
    have hb6 := blk_set HBK5.out 4 (.int .i64 (st + 1))
    simp only [List.setIfInBounds_toArray, List.set_cons_zero, List.set_cons_succ] at hb6
    have hk6 := HK5.out.setCell (p := ⟨wb, 4, none⟩) (.inl rfl) (.int .i64 (st + 1))
    have HF : Hid (WalkIs (W5.setCell ⟨wb, 4, none⟩ (.int .i64 (st + 1))) base wb tbase tb T sv mb mp q2 B A (st + 1) ∧ Below base w (W5.setCell ⟨wb, 4, none⟩ (.int .i64 (st + 1)))) := Lib.hid (by
      have hle := HH.out.le
      refine ⟨⟨hb6, HT.out.keep hk6 (fun x hx e => ?_), HH.out.tlt, hle⟩, HB1.out.trans (hk6.below ?_ (fun x hx => ?_))⟩
      · have := HH.out.tlt x hx; omega
      · exact Nat.le_trans (Nat.le_trans hle (Nat.le_of_lt (blk_lt HH.out.blk))) HB1.out.size
      · omega)
    clear hb6 hk6
    go_wp2_with fail
    go_ret
    exact ⟨rfl, HF.out.1, HF.out.2⟩
  ·
    go_simp; have HNW := Lib.hid (And.intro (bel_new HBB.out (.cells #[.int .i64 0, .int .i64 0] 55)) HBB.out.size); have HBB := Lib.hid (bel_alloc HBB.out (.cells #[.int .i64 0, .int .i64 0] 55)); refine gen_below HBB.out rfl (fun W' hW' => ?_); rw [← hW'] at HBB HNW; clear hW'; have h := HSC.out _ HBB.out
    refine hK.out _ _ h (fun hHeld => ?_)
    clear hK K
    try simp only [Act.put, List.setIfInBounds_toArray, List.set_cons_zero, List.set_cons_succ]
    refine wpAnyD_one (i := 10) (o := { dst := some 16, op := Op.call { callee := Callee.value (Operand.func 57), args := #[Operand.tmp 9, Operand.tmp 15], argTypes := #[63, 3] }, type := 110, pos := "spine.go:36", after := #[{ on := 3, ground := Ground.data }, { on := 9, ground := Ground.data }], guard := none }) (by kernel_rfl) rfl (by rfl) (fun K hK => ?_)
    go_simp; refine (par_tab A (HH.out.tab.below HBB.out (Nat.le_refl _))).mono ?_; rintro e V1 ⟨rfl, hb⟩; rw [HNB.out, HQ.out]; unfold pairV; (try (replace HNW := Lib.hid (And.intro (blk_below hb (blk_lt HNW.out.1) HNW.out.1) HNW.out.2))); replace HBB := Lib.hid (HBB.out.trans (hb.mono HBB.out.size)); have h := HSC.out _ HBB.out; clear hb; go_simp
    refine hK.out _ _ h (fun hHeld => ?_)
    clear hK K
    try simp only [Act.put, List.setIfInBounds_toArray, List.set_cons_zero, List.set_cons_succ]
    refine wpAnyD_takeP (i := 11) (oi := { dst := some 5, op := Op.move (Operand.tmp 16), type := 110, pos := "spine.go:36", after := #[{ on := 10, ground := Ground.data }], guard := none }) (d := 5) (v := ?_) rfl rfl (by kernel_rfl) (by kernel_rfl) (by kernel_rfl) (fun _ _ _ h => h) (Or.inl ⟨by rfl, ?_⟩) ?_
    rotate_left
    · (intro w' _; go_simp; (try with_reducible rfl))
    simp only [List.setIfInBounds_toArray, List.set_cons_zero, List.set_cons_succ]
    refine wpAnyD_takeP (i := 12) (oi := { dst := some 17, op := Op.extract (Operand.tmp 5) 0, type := 55, pos := "spine.go:36", after := #[{ on := 11, ground := Ground.data }], guard := none }) (d := 17) (v := ?_) rfl rfl (by kernel_rfl) (by kernel_rfl) (by kernel_rfl) (fun _ _ _ h => h) (Or.inl ⟨by rfl, ?_⟩) ?_
    rotate_left
    · (intro w' _; go_simp; (try with_reducible rfl))
    simp only [List.setIfInBounds_toArray, List.set_cons_zero, List.set_cons_succ]
    refine wpAnyD_takeP (i := 13) (oi := { dst := some 18, op := Op.extract (Operand.tmp 5) 1, type := 4, pos := "spine.go:36", after := #[{ on := 11, ground := Ground.data }, { on := 15, ground := Ground.gcOnly Departure.lateStores }], guard := none }) (d := 18) (v := ?_) rfl rfl (by kernel_rfl) (by kernel_rfl) (by kernel_rfl) (fun _ _ _ h => h) (Or.inl ⟨by rfl, ?_⟩) ?_
    rotate_left
    · (intro w' _; go_simp; (try with_reducible rfl))
    simp only [List.setIfInBounds_toArray, List.set_cons_zero, List.set_cons_succ]
    refine wpAnyD_last (D := 15) (by decide) (o := { dst := none, op := Op.store 55 (Operand.tmp 3) (Operand.tmp 17), type := 0, pos := "spine.go:36", after := #[{ on := 14, ground := Ground.data }, { on := 12, ground := Ground.data }, { on := 10, ground := Ground.chain }, { on := 0, ground := Ground.phase }, { on := 1, ground := Ground.phase }, { on := 2, ground := Ground.phase }, { on := 3, ground := Ground.phase }, { on := 4, ground := Ground.phase }, { on := 5, ground := Ground.phase }, { on := 6, ground := Ground.phase }, { on := 7, ground := Ground.phase }, { on := 8, ground := Ground.phase }, { on := 9, ground := Ground.phase }, { on := 10, ground := Ground.phase }, { on := 11, ground := Ground.phase }, { on := 12, ground := Ground.phase }, { on := 13, ground := Ground.textOnly Departure.lateStores }, { on := 14, ground := Ground.phase }], guard := none }) (by kernel_rfl) rfl (by rfl) (fun K hK => ?_)
    have d0 := blk_cell HNW.out.1 0; have d1 := blk_cell HNW.out.1 1; have z0 := blk_froz HNW.out.1 0; have z1 := blk_froz HNW.out.1 1; simp only [List.getElem?_toArray, List.getElem?_cons_zero, List.getElem?_cons_succ] at d0 d1; go_simp; have hn6 := blk_set (blk_set HNW.out.1 0 (.int .i64 q1)) 1 (.int .i64 q2); simp only [List.setIfInBounds_toArray, List.set_cons_zero, List.set_cons_succ] at hn6; have HN6 := Lib.hid hn6; have HBB := Lib.hid (bel_put HBB.out HNW.out.2 (.int .i64 q1) (.int .i64 q2)); refine gen_below HBB.out rfl (fun W9 hW9 => ?_); rw [← hW9] at HBB HN6; clear hW9 d0 d1 z0 z1 hn6
    refine hK.out _ _ ?_
    clear hK K
    try simp only [Act.put, List.setIfInBounds_toArray, List.set_cons_zero, List.set_cons_succ]
    refine wpAnyD_takeP (i := 16) (oi := { dst := some 4, op := Op.assign (Operand.tmp 18), type := 4, pos := "spine.go:36", after := #[{ on := 13, ground := Ground.data }, { on := 15, ground := Ground.chain }, { on := 0, ground := Ground.phase }, { on := 1, ground := Ground.phase }, { on := 2, ground := Ground.phase }, { on := 3, ground := Ground.phase }, { on := 4, ground := Ground.phase }, { on := 5, ground := Ground.phase }, { on := 6, ground := Ground.phase }, { on := 7, ground := Ground.phase }, { on := 8, ground := Ground.phase }, { on := 9, ground := Ground.phase }, { on := 10, ground := Ground.phase }, { on := 11, ground := Ground.phase }, { on := 12, ground := Ground.phase }, { on := 13, ground := Ground.phase }, { on := 14, ground := Ground.phase }, { on := 15, ground := Ground.phase }], guard := none }) (d := 4) (v := ?_) rfl rfl (by kernel_rfl) (by kernel_rfl) (by kernel_rfl) (fun _ _ _ h => h) (Or.inl ⟨by rfl, ?_⟩) ?_
    rotate_left
    · (intro w' _; go_simp; (try with_reducible rfl))
    simp only [List.setIfInBounds_toArray, List.set_cons_zero, List.set_cons_succ]
    refine wpAnyD_done (by kernel_rfl) ?_ _
    obtain ⟨nb, hnb, hn6⟩ := name_blk HN6.out
    (first | rw [hnb] | rw [show w.heap.size = nb from hnb])
    have hw := HH.out.below HBB.out (Nat.le_refl _)
    have HW := Lib.hid hw
    have HB1 := Lib.hid (HBB.out.mono (Nat.le_trans HH.out.le (Nat.le_of_lt (blk_lt HH.out.blk))))
    have c0 := blk_cell hw.blk 0
    have n0 := blk_cell hn6 1
    simp only [List.getElem?_toArray, List.getElem?_cons_zero, List.getElem?_cons_succ] at c0 n0
    
    have HN9 := Lib.hid hn6
    have HNE : Hid (¬ nb = wb) := Lib.hid (by have := HNW.out.2; have := blk_lt HH.out.blk; omega)
    clear hnb hn6 hw HSC HBB HN6 HNW h hHeld
    go_upto_region 3 with fail
    refine wp_region_D (Ds := [17]) (S := fun V => V.cell? ⟨wb, 0, none⟩ = some (.int .i64 A) ∧ V.cell? ⟨nb, 1, none⟩ = some (.int .i64 q2)) (by kernel_rfl) (by exact ⟨c0, n0⟩) (fun hHeld => ?_)
    (have HN3 : Hid (W9.drew.heap[nb]? = some (.cells #[.int .i64 q1, .int .i64 q2] 55)) := Lib.hid HN9.out); clear HN9; (replace HB1 := Lib.hid HB1.out.drew); (have HT := Lib.hid HW.out.tab.drew); (have HBK : Hid (W9.drew.heap[wb]? = some (.cells #[.int .i64 A, .int .i64 B, .pointer (some ⟨tb, 0, none⟩), .int .i64 lim, .int .i64 st] 121)) := Lib.hid HW.out.blk); (have HK0 : Hid (Keep (fun g => g = wb) W9.drew W9.drew) := Lib.hid (Keep.refl _ _)); clear c0 n0 HW; generalize W9.drew = W3 at *
    refine wpAnyD_takeP (i := 0) (oi := { dst := some 20, op := Op.move (Operand.tmp 0), type := 116, pos := "spine.go:38", after := #[], guard := none }) (d := 20) (v := ?_) rfl rfl (by kernel_rfl) (by kernel_rfl) (by kernel_rfl) (fun _ _ _ h => h) (Or.inl ⟨by rfl, ?_⟩) ?_
    rotate_left
    · (intro w' _; go_simp; (try with_reducible rfl))
    simp only [List.setIfInBounds_toArray, List.set_cons_zero, List.set_cons_succ]
    refine wpAnyD_takeP (i := 1) (oi := { dst := some 21, op := Op.move (Operand.tmp 0), type := 116, pos := "spine.go:38", after := #[{ on := 12, ground := Ground.gcOnly Departure.lateStores }], guard := none }) (d := 21) (v := ?_) rfl rfl (by kernel_rfl) (by kernel_rfl) (by kernel_rfl) (fun _ _ _ h => h) (Or.inl ⟨by rfl, ?_⟩) ?_
    rotate_left
    · (intro w' _; go_simp; (try with_reducible rfl))
    simp only [List.setIfInBounds_toArray, List.set_cons_zero, List.set_cons_succ]
    refine wpAnyD_takeP (i := 2) (oi := { dst := some 22, op := Op.move (Operand.tmp 0), type := 116, pos := "spine.go:38", after := #[], guard := none }) (d := 22) (v := ?_) rfl rfl (by kernel_rfl) (by kernel_rfl) (by kernel_rfl) (fun _ _ _ h => h) (Or.inl ⟨by rfl, ?_⟩) ?_
    rotate_left
    · (intro w' _; go_simp; (try with_reducible rfl))
    simp only [List.setIfInBounds_toArray, List.set_cons_zero, List.set_cons_succ]
    refine wpAnyD_takeP (i := 3) (oi := { dst := some 23, op := Op.nilCheck (Operand.tmp 22), type := 0, pos := "spine.go:38", after := #[{ on := 2, ground := Ground.data }], guard := none }) (d := 23) (v := ?_) rfl rfl (by kernel_rfl) (by kernel_rfl) (by kernel_rfl) (fun _ _ _ h => h) (Or.inl ⟨by rfl, ?_⟩) ?_
    rotate_left
    · (intro w' _; go_simp; (try with_reducible rfl))
    simp only [List.setIfInBounds_toArray, List.set_cons_zero, List.set_cons_succ]
    refine wpAnyD_takeP (i := 4) (oi := { dst := some 24, op := Op.fieldAddr 121 (Operand.tmp 23) 0, type := 0, pos := "spine.go:38", after := #[{ on := 3, ground := Ground.data }], guard := none }) (d := 24) (v := ?_) rfl rfl (by kernel_rfl) (by kernel_rfl) (by kernel_rfl) (fun _ _ _ h => h) (Or.inl ⟨by rfl, ?_⟩) ?_
    rotate_left
    · (intro w' _; go_simp; (try with_reducible rfl))
    simp only [List.setIfInBounds_toArray, List.set_cons_zero, List.set_cons_succ]
    refine wpAnyD_takeP (i := 5) (oi := { dst := some 25, op := Op.fieldAddr 119 (Operand.tmp 24) 0, type := 0, pos := "spine.go:38", after := #[{ on := 4, ground := Ground.data }], guard := none }) (d := 25) (v := ?_) rfl rfl (by kernel_rfl) (by kernel_rfl) (by kernel_rfl) (fun _ _ _ h => h) (Or.inl ⟨by rfl, ?_⟩) ?_
    rotate_left
    · (intro w' _; go_simp; (try with_reducible rfl))
    simp only [List.setIfInBounds_toArray, List.set_cons_zero, List.set_cons_succ]
    refine wpAnyD_takeP (i := 6) (oi := { dst := some 26, op := Op.fieldAddr 55 (Operand.tmp 25) 0, type := 0, pos := "spine.go:38", after := #[{ on := 5, ground := Ground.data }], guard := none }) (d := 26) (v := ?_) rfl rfl (by kernel_rfl) (by kernel_rfl) (by kernel_rfl) (fun _ _ _ h => h) (Or.inl ⟨by rfl, ?_⟩) ?_
    rotate_left
    · (intro w' _; go_simp; (try with_reducible rfl))
    simp only [List.setIfInBounds_toArray, List.set_cons_zero, List.set_cons_succ]
    refine wpAnyD_takeP (i := 8) (oi := { dst := some 28, op := Op.fieldAddr 55 (Operand.tmp 3) 1, type := 0, pos := "spine.go:38", after := #[{ on := 12, ground := Ground.gcOnly Departure.lateStores }], guard := none }) (d := 28) (v := ?_) rfl rfl (by kernel_rfl) (by kernel_rfl) (by kernel_rfl) (fun _ _ _ h => h) (Or.inl ⟨by rfl, ?_⟩) ?_
    rotate_left
    · (intro w' _; go_simp; (try with_reducible rfl))
    simp only [List.setIfInBounds_toArray, List.set_cons_zero, List.set_cons_succ]
    refine wpAnyD_takeD (i := 7) (oi := { dst := some 27, op := Op.load 3 (Operand.tmp 26), type := 3, pos := "spine.go:38", after := #[{ on := 6, ground := Ground.data }], guard := none }) (d := 27) (v := ?_) rfl rfl (by kernel_rfl) (by kernel_rfl) (by kernel_rfl) (by kernel_rfl) (fun _ _ _ h => h) (Or.inl ⟨by rfl, ?_⟩) hHeld ?_
    rotate_left
    · (intro w' hSw; (try dsimp only at hSw); go_simp; (try with_reducible rfl))
    simp only [List.setIfInBounds_toArray, List.set_cons_zero, List.set_cons_succ]
    refine wpAnyD_takeP (i := 10) (oi := { dst := some 30, op := Op.nilCheck (Operand.tmp 20), type := 0, pos := "spine.go:38", after := #[{ on := 0, ground := Ground.data }, { on := 0, ground := Ground.phase }, { on := 1, ground := Ground.textOnly Departure.lateStores }, { on := 2, ground := Ground.phase }, { on := 3, ground := Ground.phase }, { on := 4, ground := Ground.phase }, { on := 5, ground := Ground.phase }, { on := 6, ground := Ground.phase }, { on := 7, ground := Ground.phase }, { on := 8, ground := Ground.textOnly Departure.lateStores }, { on := 9, ground := Ground.textOnly Departure.lateStores }], guard := none }) (d := 30) (v := ?_) rfl rfl (by kernel_rfl) (by kernel_rfl) (by kernel_rfl) (fun _ _ _ h => h) (Or.inl ⟨by rfl, ?_⟩) ?_
    rotate_left
    · (intro w' _; go_simp; (try with_reducible rfl))
    simp only [List.setIfInBounds_toArray, List.set_cons_zero, List.set_cons_succ]
    refine wpAnyD_takeP (i := 11) (oi := { dst := some 31, op := Op.fieldAddr 121 (Operand.tmp 30) 2, type := 0, pos := "spine.go:38", after := #[{ on := 10, ground := Ground.data }, { on := 0, ground := Ground.phase }, { on := 1, ground := Ground.textOnly Departure.lateStores }, { on := 2, ground := Ground.phase }, { on := 3, ground := Ground.phase }, { on := 4, ground := Ground.phase }, { on := 5, ground := Ground.phase }, { on := 6, ground := Ground.phase }, { on := 7, ground := Ground.phase }, { on := 8, ground := Ground.textOnly Departure.lateStores }, { on := 9, ground := Ground.textOnly Departure.lateStores }], guard := none }) (d := 31) (v := ?_) rfl rfl (by kernel_rfl) (by kernel_rfl) (by kernel_rfl) (fun _ _ _ h => h) (Or.inl ⟨by rfl, ?_⟩) ?_
    rotate_left
    · (intro w' _; go_simp; (try with_reducible rfl))
    simp only [List.setIfInBounds_toArray, List.set_cons_zero, List.set_cons_succ]
    refine wpAnyD_takeD (i := 9) (oi := { dst := some 29, op := Op.load 3 (Operand.tmp 28), type := 3, pos := "spine.go:38", after := #[{ on := 8, ground := Ground.data }, { on := 12, ground := Ground.gcOnly Departure.lateStores }], guard := none }) (d := 29) (v := ?_) rfl rfl (by kernel_rfl) (by kernel_rfl) (by kernel_rfl) (by kernel_rfl) (fun _ _ _ h => h) (Or.inl ⟨by rfl, ?_⟩) hHeld ?_
    rotate_left
    · (intro w' hSw; (try dsimp only at hSw); go_simp; (try with_reducible rfl))
    simp only [List.setIfInBounds_toArray, List.set_cons_zero, List.set_cons_succ]
    refine wpAnyD_one (i := 12) (o := { dst := none, op := Op.store 3 (Operand.tmp 31) (Operand.tmp 27), type := 0, pos := "spine.go:38", after := #[{ on := 11, ground := Ground.data }, { on := 7, ground := Ground.data }, { on := 0, ground := Ground.phase }, { on := 1, ground := Ground.textOnly Departure.lateStores }, { on := 2, ground := Ground.phase }, { on := 3, ground := Ground.phase }, { on := 4, ground := Ground.phase }, { on := 5, ground := Ground.phase }, { on := 6, ground := Ground.phase }, { on := 7, ground := Ground.phase }, { on := 8, ground := Ground.textOnly Departure.lateStores }, { on := 9, ground := Ground.textOnly Departure.lateStores }], guard := none }) (by kernel_rfl) rfl (by rfl) (fun K hK => ?_)
    have z0 := blk_froz HBK.out 3; have d0 := blk_cell HBK.out 3; simp only [List.getElem?_toArray, List.getElem?_cons_zero, List.getElem?_cons_succ] at d0; go_simp; have hb4 := blk_set HBK.out 3 (.int .i64 A); simp only [List.setIfInBounds_toArray, List.set_cons_zero, List.set_cons_succ] at hb4; have HBK4 := Lib.hid hb4; have HK4 := Lib.hid (HK0.out.setCell (p := ⟨wb, 3, none⟩) (.inl rfl) (.int .i64 A)); have hs0 := blk_cell HBK4.out 0; have hs1 := blk_cell (HK4.out.blk HN3.out HNE.out) 1; simp only [List.getElem?_toArray, List.getElem?_cons_zero, List.getElem?_cons_succ] at hs0 hs1; have h := And.intro hs0 hs1; clear z0 d0 hb4 hs0 hs1; generalize W3.setCell ⟨wb, 3, none⟩ (.int .i64 A) = W4 at *
    refine hK.out _ _ h (fun hHeld => ?_)
    clear hK K
    try simp only [Act.put, List.setIfInBounds_toArray, List.set_cons_zero, List.set_cons_succ]
    refine wpAnyD_takeP (i := 13) (oi := { dst := some 32, op := Op.nilCheck (Operand.tmp 21), type := 0, pos := "spine.go:38", after := #[{ on := 1, ground := Ground.data }, { on := 0, ground := Ground.phase }, { on := 1, ground := Ground.phase }, { on := 2, ground := Ground.phase }, { on := 3, ground := Ground.phase }, { on := 4, ground := Ground.phase }, { on := 5, ground := Ground.phase }, { on := 6, ground := Ground.phase }, { on := 7, ground := Ground.phase }, { on := 8, ground := Ground.phase }, { on := 9, ground := Ground.phase }, { on := 10, ground := Ground.phase }, { on := 11, ground := Ground.phase }, { on := 12, ground := Ground.phase }], guard := none }) (d := 32) (v := ?_) rfl rfl (by kernel_rfl) (by kernel_rfl) (by kernel_rfl) (fun _ _ _ h => h) (Or.inl ⟨by rfl, ?_⟩) ?_
    rotate_left
    · (intro w' _; go_simp; (try with_reducible rfl))
    simp only [List.setIfInBounds_toArray, List.set_cons_zero, List.set_cons_succ]
    refine wpAnyD_takeP (i := 14) (oi := { dst := some 33, op := Op.fieldAddr 121 (Operand.tmp 32) 0, type := 0, pos := "spine.go:38", after := #[{ on := 13, ground := Ground.data }, { on := 0, ground := Ground.phase }, { on := 1, ground := Ground.phase }, { on := 2, ground := Ground.phase }, { on := 3, ground := Ground.phase }, { on := 4, ground := Ground.phase }, { on := 5, ground := Ground.phase }, { on := 6, ground := Ground.phase }, { on := 7, ground := Ground.phase }, { on := 8, ground := Ground.phase }, { on := 9, ground := Ground.phase }, { on := 10, ground := Ground.phase }, { on := 11, ground := Ground.phase }, { on := 12, ground := Ground.phase }], guard := none }) (d := 33) (v := ?_) rfl rfl (by kernel_rfl) (by kernel_rfl) (by kernel_rfl) (fun _ _ _ h => h) (Or.inl ⟨by rfl, ?_⟩) ?_
    rotate_left
    · (intro w' _; go_simp; (try with_reducible rfl))
    simp only [List.setIfInBounds_toArray, List.set_cons_zero, List.set_cons_succ]
    refine wpAnyD_takeP (i := 15) (oi := { dst := some 34, op := Op.fieldAddr 119 (Operand.tmp 33) 0, type := 0, pos := "spine.go:38", after := #[{ on := 14, ground := Ground.data }, { on := 0, ground := Ground.phase }, { on := 1, ground := Ground.phase }, { on := 2, ground := Ground.phase }, { on := 3, ground := Ground.phase }, { on := 4, ground := Ground.phase }, { on := 5, ground := Ground.phase }, { on := 6, ground := Ground.phase }, { on := 7, ground := Ground.phase }, { on := 8, ground := Ground.phase }, { on := 9, ground := Ground.phase }, { on := 10, ground := Ground.phase }, { on := 11, ground := Ground.phase }, { on := 12, ground := Ground.phase }], guard := none }) (d := 34) (v := ?_) rfl rfl (by kernel_rfl) (by kernel_rfl) (by kernel_rfl) (fun _ _ _ h => h) (Or.inl ⟨by rfl, ?_⟩) ?_
    rotate_left
    · (intro w' _; go_simp; (try with_reducible rfl))
    simp only [List.setIfInBounds_toArray, List.set_cons_zero, List.set_cons_succ]
    refine wpAnyD_takeP (i := 16) (oi := { dst := some 35, op := Op.fieldAddr 55 (Operand.tmp 34) 0, type := 0, pos := "spine.go:38", after := #[{ on := 15, ground := Ground.data }, { on := 0, ground := Ground.phase }, { on := 1, ground := Ground.phase }, { on := 2, ground := Ground.phase }, { on := 3, ground := Ground.phase }, { on := 4, ground := Ground.phase }, { on := 5, ground := Ground.phase }, { on := 6, ground := Ground.phase }, { on := 7, ground := Ground.phase }, { on := 8, ground := Ground.phase }, { on := 9, ground := Ground.phase }, { on := 10, ground := Ground.phase }, { on := 11, ground := Ground.phase }, { on := 12, ground := Ground.phase }], guard := none }) (d := 35) (v := ?_) rfl rfl (by kernel_rfl) (by kernel_rfl) (by kernel_rfl) (fun _ _ _ h => h) (Or.inl ⟨by rfl, ?_⟩) ?_
    rotate_left
    · (intro w' _; go_simp; (try with_reducible rfl))
    simp only [List.setIfInBounds_toArray, List.set_cons_zero, List.set_cons_succ]
    refine wpAnyD_last (D := 17) (by decide) (o := { dst := none, op := Op.store 3 (Operand.tmp 35) (Operand.tmp 29), type := 0, pos := "spine.go:38", after := #[{ on := 16, ground := Ground.data }, { on := 9, ground := Ground.data }, { on := 12, ground := Ground.chain }, { on := 0, ground := Ground.phase }, { on := 1, ground := Ground.phase }, { on := 2, ground := Ground.phase }, { on := 3, ground := Ground.phase }, { on := 4, ground := Ground.phase }, { on := 5, ground := Ground.phase }, { on := 6, ground := Ground.phase }, { on := 7, ground := Ground.phase }, { on := 8, ground := Ground.phase }, { on := 9, ground := Ground.phase }, { on := 10, ground := Ground.phase }, { on := 11, ground := Ground.phase }, { on := 12, ground := Ground.phase }], guard := none }) (by kernel_rfl) rfl (by rfl) (fun K hK => ?_)
    have z0 := blk_froz HBK4.out 0; have d0 := blk_cell HBK4.out 0; simp only [List.getElem?_toArray, List.getElem?_cons_zero, List.getElem?_cons_succ] at d0; go_simp; have hb5 := blk_set HBK4.out 0 (.int .i64 q2); simp only [List.setIfInBounds_toArray, List.set_cons_zero, List.set_cons_succ] at hb5; have HBK5 := Lib.hid hb5; have HK5 := Lib.hid (HK4.out.setCell (p := ⟨wb, 0, none⟩) (.inl rfl) (.int .i64 q2)); clear z0 d0 hb5; generalize W4.setCell ⟨wb, 0, none⟩ (.int .i64 q2) = W5 at *
    refine hK.out _ _ ?_
    clear hK K
    try simp only [Act.put, List.setIfInBounds_toArray, List.set_cons_zero, List.set_cons_succ]
    refine wpAnyD_done (by kernel_rfl) ?_ _
    have z4 := blk_froz HBK5.out 4
    have d4 := blk_cell HBK5.out 4
    simp only [List.getElem?_toArray, List.getElem?_cons_zero, List.getElem?_cons_succ] at d4
    have ws : IntKind.i64.wrap (st + 1) = st + 1 := IntWalk.i64_in _ (by omega)
    go_upto_region 5 with fail
    clear ws z4 d4
    have hb6 := blk_set HBK5.out 4 (.int .i64 (st + 1))
    simp only [List.setIfInBounds_toArray, List.set_cons_zero, List.set_cons_succ] at hb6
    have hk6 := HK5.out.setCell (p := ⟨wb, 4, none⟩) (.inl rfl) (.int .i64 (st + 1))
    have HF : Hid (WalkIs (W5.setCell ⟨wb, 4, none⟩ (.int .i64 (st + 1))) base wb tbase tb T sv mb mp q2 B A (st + 1) ∧ Below base w (W5.setCell ⟨wb, 4, none⟩ (.int .i64 (st + 1)))) := Lib.hid (by
      have hle := HH.out.le
      refine ⟨⟨hb6, HT.out.keep hk6 (fun x hx e => ?_), HH.out.tlt, hle⟩, HB1.out.trans (hk6.below ?_ (fun x hx => ?_))⟩
      · have := HH.out.tlt x hx; omega
      · exact Nat.le_trans (Nat.le_trans hle (Nat.le_of_lt (blk_lt HH.out.blk))) HB1.out.size
      · omega)
    clear hb6 hk6
    go_wp2_with fail
    go_ret
    exact ⟨rfl, HF.out.1, HF.out.2⟩
set_option maxHeartbeats 4000000 in
theorem right_no (h : WalkIs w base wb tbase tb T sv mb mp A B lim st) (hn : bornT T B = false) :
    Calls Tryz.prog 140 #[.pointer (some ⟨wb, 0, none⟩)] w fun e w' => e = .returned (.bool false) ∧ Below w.heap.size w w' := by
  have h0 := blk_cell h.blk 1
  have h2 := blk_cell h.blk 2
  simp only [List.getElem?_toArray, List.getElem?_cons_zero, List.getElem?_cons_succ] at h0 h2
  have HH := Lib.hid h
  have HNB := Lib.hid hn
  clear h hn
  go_enter Tryz.func140, Tryz.ntmps140
  go_upto_region 1 with fail
  have HBB : Hid (Below w.heap.size w w.drew) := Lib.hid ⟨rfl, rfl, rfl, Nat.le_refl _, fun _ _ => rfl⟩
  have HSC : Hid (∀ V, Below w.heap.size w V → V.cell? ⟨wb, 1, none⟩ = some (.int .i64 B) ∧ V.cell? ⟨wb, 2, none⟩ = some (.pointer (some ⟨tb, 0, none⟩))) := Lib.hid (fun V hV => ⟨below_cell hV (Nat.le_refl _) h0, below_cell hV (Nat.le_refl _) h2⟩)
  obtain ⟨q1, q2, hq⟩ : ∃ q1 q2, parT T B = (q1, q2) := ⟨_, _, rfl⟩
  have HQ := Lib.hid hq
  clear h0 h2 hq
  refine wp_region_D (Ds := [15]) (S := fun V => V.cell? ⟨wb, 1, none⟩ = some (.int .i64 B) ∧ V.cell? ⟨wb, 2, none⟩ = some (.pointer (some ⟨tb, 0, none⟩))) (by kernel_rfl) (by exact HSC.out _ HBB.out) (fun hHeld => ?_)
  generalize w.drew = W0 at *
  refine wpAnyD_takeP (i := 0) (oi := { dst := some 6, op := Op.move (Operand.tmp 0), type := 116, pos := "spine.go:46", after := #[], guard := none }) (d := 6) (v := ?_) rfl rfl (by kernel_rfl) (by kernel_rfl) (by kernel_rfl) (fun _ _ _ h => h) (Or.inl ⟨by rfl, ?_⟩) ?_
  rotate_left
  · (intro w' _; go_simp; (try with_reducible rfl))
  simp only [List.setIfInBounds_toArray, List.set_cons_zero, List.set_cons_succ]
  refine wpAnyD_takeP (i := 1) (oi := { dst := some 7, op := Op.nilCheck (Operand.tmp 6), type := 0, pos := "spine.go:46", after := #[{ on := 0, ground := Ground.data }], guard := none }) (d := 7) (v := ?_) rfl rfl (by kernel_rfl) (by kernel_rfl) (by kernel_rfl) (fun _ _ _ h => h) (Or.inl ⟨by rfl, ?_⟩) ?_
  rotate_left
  · (intro w' _; go_simp; (try with_reducible rfl))
  simp only [List.setIfInBounds_toArray, List.set_cons_zero, List.set_cons_succ]
  refine wpAnyD_takeP (i := 2) (oi := { dst := some 8, op := Op.fieldAddr 121 (Operand.tmp 7) 1, type := 0, pos := "spine.go:46", after := #[{ on := 1, ground := Ground.data }], guard := none }) (d := 8) (v := ?_) rfl rfl (by kernel_rfl) (by kernel_rfl) (by kernel_rfl) (fun _ _ _ h => h) (Or.inl ⟨by rfl, ?_⟩) ?_
  rotate_left
  · (intro w' _; go_simp; (try with_reducible rfl))
  simp only [List.setIfInBounds_toArray, List.set_cons_zero, List.set_cons_succ]
  refine wpAnyD_takeP (i := 4) (oi := { dst := some 10, op := Op.move (Operand.tmp 0), type := 116, pos := "spine.go:46", after := #[], guard := none }) (d := 10) (v := ?_) rfl rfl (by kernel_rfl) (by kernel_rfl) (by kernel_rfl) (fun _ _ _ h => h) (Or.inl ⟨by rfl, ?_⟩) ?_
  rotate_left
  · (intro w' _; go_simp; (try with_reducible rfl))
  simp only [List.setIfInBounds_toArray, List.set_cons_zero, List.set_cons_succ]
  refine wpAnyD_takeP (i := 5) (oi := { dst := some 11, op := Op.nilCheck (Operand.tmp 10), type := 0, pos := "spine.go:46", after := #[{ on := 4, ground := Ground.data }], guard := none }) (d := 11) (v := ?_) rfl rfl (by kernel_rfl) (by kernel_rfl) (by kernel_rfl) (fun _ _ _ h => h) (Or.inl ⟨by rfl, ?_⟩) ?_
  rotate_left
  · (intro w' _; go_simp; (try with_reducible rfl))
  simp only [List.setIfInBounds_toArray, List.set_cons_zero, List.set_cons_succ]
  refine wpAnyD_takeP (i := 6) (oi := { dst := some 12, op := Op.fieldAddr 121 (Operand.tmp 11) 0, type := 0, pos := "spine.go:46", after := #[{ on := 5, ground := Ground.data }], guard := none }) (d := 12) (v := ?_) rfl rfl (by kernel_rfl) (by kernel_rfl) (by kernel_rfl) (fun _ _ _ h => h) (Or.inl ⟨by rfl, ?_⟩) ?_
  rotate_left
  · (intro w' _; go_simp; (try with_reducible rfl))
  simp only [List.setIfInBounds_toArray, List.set_cons_zero, List.set_cons_succ]
  refine wpAnyD_takeP (i := 7) (oi := { dst := some 13, op := Op.fieldAddr 119 (Operand.tmp 12) 0, type := 0, pos := "spine.go:46", after := #[{ on := 6, ground := Ground.data }], guard := none }) (d := 13) (v := ?_) rfl rfl (by kernel_rfl) (by kernel_rfl) (by kernel_rfl) (fun _ _ _ h => h) (Or.inl ⟨by rfl, ?_⟩) ?_
  rotate_left
  · (intro w' _; go_simp; (try with_reducible rfl))
  simp only [List.setIfInBounds_toArray, List.set_cons_zero, List.set_cons_succ]
  refine wpAnyD_takeP (i := 8) (oi := { dst := some 14, op := Op.fieldAddr 55 (Operand.tmp 13) 1, type := 0, pos := "spine.go:46", after := #[{ on := 7, ground := Ground.data }], guard := none }) (d := 14) (v := ?_) rfl rfl (by kernel_rfl) (by kernel_rfl) (by kernel_rfl) (fun _ _ _ h => h) (Or.inl ⟨by rfl, ?_⟩) ?_
  rotate_left
  · (intro w' _; go_simp; (try with_reducible rfl))
  simp only [List.setIfInBounds_toArray, List.set_cons_zero, List.set_cons_succ]
  refine wpAnyD_takeD (i := 3) (oi := { dst := some 9, op := Op.load 63 (Operand.tmp 8), type := 63, pos := "spine.go:46", after := #[{ on := 2, ground := Ground.data }], guard := none }) (d := 9) (v := ?_) rfl rfl (by kernel_rfl) (by kernel_rfl) (by kernel_rfl) (by kernel_rfl) (fun _ _ _ h => h) (Or.inl ⟨by rfl, ?_⟩) hHeld ?_
  rotate_left
  · (intro w' hSw; (try dsimp only at hSw); go_simp; (try with_reducible rfl))
  simp only [List.setIfInBounds_toArray, List.set_cons_zero, List.set_cons_succ]
  refine wpAnyD_takeD (i := 9) (oi := { dst := some 15, op := Op.load 3 (Operand.tmp 14), type := 3, pos := "spine.go:46", after := #[{ on := 8, ground := Ground.data }], guard := none }) (d := 15) (v := ?_) rfl rfl (by kernel_rfl) (by kernel_rfl) (by kernel_rfl) (by kernel_rfl) (fun _ _ _ h => h) (Or.inl ⟨by rfl, ?_⟩) hHeld ?_
  rotate_left
  · (intro w' hSw; (try dsimp only at hSw); go_simp; (try with_reducible rfl))
  simp only [List.setIfInBounds_toArray, List.set_cons_zero, List.set_cons_succ]
  refine wpAnyD_two (i := 10) (j := 14) (oi := { dst := some 16, op := Op.call { callee := Callee.value (Operand.func 57), args := #[Operand.tmp 9, Operand.tmp 15], argTypes := #[63, 3] }, type := 110, pos := "spine.go:46", after := #[{ on := 3, ground := Ground.data }, { on := 9, ground := Ground.data }], guard := none }) (oj := { dst := some 3, op := Op.alloc 55, type := 0, pos := "spine.go:46", after := #[], guard := none }) (by kernel_rfl) rfl rfl (by rfl) (by rfl) (fun K hK => ?_) (fun K hK => ?_)
  ·
    go_simp; refine (par_tab B (HH.out.tab.below HBB.out (Nat.le_refl _))).mono ?_; rintro e V1 ⟨rfl, hb⟩; rw [HNB.out, HQ.out]; unfold pairV; (try (replace HNW := Lib.hid (And.intro (blk_below hb (blk_lt HNW.out.1) HNW.out.1) HNW.out.2))); replace HBB := Lib.hid (HBB.out.trans (hb.mono HBB.out.size)); have h := HSC.out _ HBB.out; clear hb; go_simp
    refine hK.out _ _ h (fun hHeld => ?_)
    clear hK K
    try simp only [Act.put, List.setIfInBounds_toArray, List.set_cons_zero, List.set_cons_succ]
    refine wpAnyD_takeP (i := 11) (oi := { dst := some 5, op := Op.move (Operand.tmp 16), type := 110, pos := "spine.go:46", after := #[{ on := 10, ground := Ground.data }], guard := none }) (d := 5) (v := ?_) rfl rfl (by kernel_rfl) (by kernel_rfl) (by kernel_rfl) (fun _ _ _ h => h) (Or.inl ⟨by rfl, ?_⟩) ?_
    rotate_left
    · (intro w' _; go_simp; (try with_reducible rfl))
    simp only [List.setIfInBounds_toArray, List.set_cons_zero, List.set_cons_succ]
    refine wpAnyD_takeP (i := 12) (oi := { dst := some 17, op := Op.extract (Operand.tmp 5) 0, type := 55, pos := "spine.go:46", after := #[{ on := 11, ground := Ground.data }], guard := none }) (d := 17) (v := ?_) rfl rfl (by kernel_rfl) (by kernel_rfl) (by kernel_rfl) (fun _ _ _ h => h) (Or.inl ⟨by rfl, ?_⟩) ?_
    rotate_left
    · (intro w' _; go_simp; (try with_reducible rfl))
    simp only [List.setIfInBounds_toArray, List.set_cons_zero, List.set_cons_succ]
    refine wpAnyD_takeP (i := 13) (oi := { dst := some 18, op := Op.extract (Operand.tmp 5) 1, type := 4, pos := "spine.go:46", after := #[{ on := 11, ground := Ground.data }, { on := 15, ground := Ground.gcOnly Departure.lateStores }], guard := none }) (d := 18) (v := ?_) rfl rfl (by kernel_rfl) (by kernel_rfl) (by kernel_rfl) (fun _ _ _ h => h) (Or.inl ⟨by rfl, ?_⟩) ?_
    rotate_left
    · (intro w' _; go_simp; (try with_reducible rfl))
    simp only [List.setIfInBounds_toArray, List.set_cons_zero, List.set_cons_succ]
    refine wpAnyD_one (i := 14) (o := { dst := some 3, op := Op.alloc 55, type := 0, pos := "spine.go:46", after := #[], guard := none }) (by kernel_rfl) rfl (by rfl) (fun K hK => ?_)
    go_simp; have HNW := Lib.hid (And.intro (bel_new HBB.out (.cells #[.int .i64 0, .int .i64 0] 55)) HBB.out.size); have HBB := Lib.hid (bel_alloc HBB.out (.cells #[.int .i64 0, .int .i64 0] 55)); refine gen_below HBB.out rfl (fun W' hW' => ?_); rw [← hW'] at HBB HNW; clear hW'; have h := HSC.out _ HBB.out
    refine hK.out _ _ h (fun hHeld => ?_)
    clear hK K
    try simp only [Act.put, List.setIfInBounds_toArray, List.set_cons_zero, List.set_cons_succ]
    refine wpAnyD_last (D := 15) (by decide) (o := { dst := none, op := Op.store 55 (Operand.tmp 3) (Operand.tmp 17), type := 0, pos := "spine.go:46", after := #[{ on := 14, ground := Ground.data }, { on := 12, ground := Ground.data }, { on := 10, ground := Ground.chain }, { on := 0, ground := Ground.phase }, { on := 1, ground := Ground.phase }, { on := 2, ground := Ground.phase }, { on := 3, ground := Ground.phase }, { on := 4, ground := Ground.phase }, { on := 5, ground := Ground.phase }, { on := 6, ground := Ground.phase }, { on := 7, ground := Ground.phase }, { on := 8, ground := Ground.phase }, { on := 9, ground := Ground.phase }, { on := 10, ground := Ground.phase }, { on := 11, ground := Ground.phase }, { on := 12, ground := Ground.phase }, { on := 13, ground := Ground.textOnly Departure.lateStores }, { on := 14, ground := Ground.phase }], guard := none }) (by kernel_rfl) rfl (by rfl) (fun K hK => ?_)
    have d0 := blk_cell HNW.out.1 0; have d1 := blk_cell HNW.out.1 1; have z0 := blk_froz HNW.out.1 0; have z1 := blk_froz HNW.out.1 1; simp only [List.getElem?_toArray, List.getElem?_cons_zero, List.getElem?_cons_succ] at d0 d1; go_simp; have HBB := Lib.hid (bel_put HBB.out HNW.out.2 (.int .i64 q1) (.int .i64 q2)); refine gen_below HBB.out rfl (fun W' hW' => ?_); rw [← hW'] at HBB; clear hW' d0 d1 z0 z1
    refine hK.out _ _ ?_
    clear hK K
    try simp only [Act.put, List.setIfInBounds_toArray, List.set_cons_zero, List.set_cons_succ]
    refine wpAnyD_takeP (i := 16) (oi := { dst := some 4, op := Op.assign (Operand.tmp 18), type := 4, pos := "spine.go:46", after := #[{ on := 13, ground := Ground.data }, { on := 15, ground := Ground.chain }, { on := 0, ground := Ground.phase }, { on := 1, ground := Ground.phase }, { on := 2, ground := Ground.phase }, { on := 3, ground := Ground.phase }, { on := 4, ground := Ground.phase }, { on := 5, ground := Ground.phase }, { on := 6, ground := Ground.phase }, { on := 7, ground := Ground.phase }, { on := 8, ground := Ground.phase }, { on := 9, ground := Ground.phase }, { on := 10, ground := Ground.phase }, { on := 11, ground := Ground.phase }, { on := 12, ground := Ground.phase }, { on := 13, ground := Ground.phase }, { on := 14, ground := Ground.phase }, { on := 15, ground := Ground.phase }], guard := none }) (d := 4) (v := ?_) rfl rfl (by kernel_rfl) (by kernel_rfl) (by kernel_rfl) (fun _ _ _ h => h) (Or.inl ⟨by rfl, ?_⟩) ?_
    rotate_left
    · (intro w' _; go_simp; (try with_reducible rfl))
    simp only [List.setIfInBounds_toArray, List.set_cons_zero, List.set_cons_succ]
    refine wpAnyD_done (by kernel_rfl) ?_ _
    go_wp2_with fail
    go_ret
    exact ⟨rfl, HBB.out⟩
  ·
    go_simp; have HNW := Lib.hid (And.intro (bel_new HBB.out (.cells #[.int .i64 0, .int .i64 0] 55)) HBB.out.size); have HBB := Lib.hid (bel_alloc HBB.out (.cells #[.int .i64 0, .int .i64 0] 55)); refine gen_below HBB.out rfl (fun W' hW' => ?_); rw [← hW'] at HBB HNW; clear hW'; have h := HSC.out _ HBB.out
    refine hK.out _ _ h (fun hHeld => ?_)
    clear hK K
    try simp only [Act.put, List.setIfInBounds_toArray, List.set_cons_zero, List.set_cons_succ]
    refine wpAnyD_one (i := 10) (o := { dst := some 16, op := Op.call { callee := Callee.value (Operand.func 57), args := #[Operand.tmp 9, Operand.tmp 15], argTypes := #[63, 3] }, type := 110, pos := "spine.go:46", after := #[{ on := 3, ground := Ground.data }, { on := 9, ground := Ground.data }], guard := none }) (by kernel_rfl) rfl (by rfl) (fun K hK => ?_)
    go_simp; refine (par_tab B (HH.out.tab.below HBB.out (Nat.le_refl _))).mono ?_; rintro e V1 ⟨rfl, hb⟩; rw [HNB.out, HQ.out]; unfold pairV; (try (replace HNW := Lib.hid (And.intro (blk_below hb (blk_lt HNW.out.1) HNW.out.1) HNW.out.2))); replace HBB := Lib.hid (HBB.out.trans (hb.mono HBB.out.size)); have h := HSC.out _ HBB.out; clear hb; go_simp
    refine hK.out _ _ h (fun hHeld => ?_)
    clear hK K
    try simp only [Act.put, List.setIfInBounds_toArray, List.set_cons_zero, List.set_cons_succ]
    refine wpAnyD_takeP (i := 11) (oi := { dst := some 5, op := Op.move (Operand.tmp 16), type := 110, pos := "spine.go:46", after := #[{ on := 10, ground := Ground.data }], guard := none }) (d := 5) (v := ?_) rfl rfl (by kernel_rfl) (by kernel_rfl) (by kernel_rfl) (fun _ _ _ h => h) (Or.inl ⟨by rfl, ?_⟩) ?_
    rotate_left
    · (intro w' _; go_simp; (try with_reducible rfl))
    simp only [List.setIfInBounds_toArray, List.set_cons_zero, List.set_cons_succ]
    refine wpAnyD_takeP (i := 12) (oi := { dst := some 17, op := Op.extract (Operand.tmp 5) 0, type := 55, pos := "spine.go:46", after := #[{ on := 11, ground := Ground.data }], guard := none }) (d := 17) (v := ?_) rfl rfl (by kernel_rfl) (by kernel_rfl) (by kernel_rfl) (fun _ _ _ h => h) (Or.inl ⟨by rfl, ?_⟩) ?_
    rotate_left
    · (intro w' _; go_simp; (try with_reducible rfl))
    simp only [List.setIfInBounds_toArray, List.set_cons_zero, List.set_cons_succ]
    refine wpAnyD_takeP (i := 13) (oi := { dst := some 18, op := Op.extract (Operand.tmp 5) 1, type := 4, pos := "spine.go:46", after := #[{ on := 11, ground := Ground.data }, { on := 15, ground := Ground.gcOnly Departure.lateStores }], guard := none }) (d := 18) (v := ?_) rfl rfl (by kernel_rfl) (by kernel_rfl) (by kernel_rfl) (fun _ _ _ h => h) (Or.inl ⟨by rfl, ?_⟩) ?_
    rotate_left
    · (intro w' _; go_simp; (try with_reducible rfl))
    simp only [List.setIfInBounds_toArray, List.set_cons_zero, List.set_cons_succ]
    refine wpAnyD_last (D := 15) (by decide) (o := { dst := none, op := Op.store 55 (Operand.tmp 3) (Operand.tmp 17), type := 0, pos := "spine.go:46", after := #[{ on := 14, ground := Ground.data }, { on := 12, ground := Ground.data }, { on := 10, ground := Ground.chain }, { on := 0, ground := Ground.phase }, { on := 1, ground := Ground.phase }, { on := 2, ground := Ground.phase }, { on := 3, ground := Ground.phase }, { on := 4, ground := Ground.phase }, { on := 5, ground := Ground.phase }, { on := 6, ground := Ground.phase }, { on := 7, ground := Ground.phase }, { on := 8, ground := Ground.phase }, { on := 9, ground := Ground.phase }, { on := 10, ground := Ground.phase }, { on := 11, ground := Ground.phase }, { on := 12, ground := Ground.phase }, { on := 13, ground := Ground.textOnly Departure.lateStores }, { on := 14, ground := Ground.phase }], guard := none }) (by kernel_rfl) rfl (by rfl) (fun K hK => ?_)
    have d0 := blk_cell HNW.out.1 0; have d1 := blk_cell HNW.out.1 1; have z0 := blk_froz HNW.out.1 0; have z1 := blk_froz HNW.out.1 1; simp only [List.getElem?_toArray, List.getElem?_cons_zero, List.getElem?_cons_succ] at d0 d1; go_simp; have HBB := Lib.hid (bel_put HBB.out HNW.out.2 (.int .i64 q1) (.int .i64 q2)); refine gen_below HBB.out rfl (fun W' hW' => ?_); rw [← hW'] at HBB; clear hW' d0 d1 z0 z1
    refine hK.out _ _ ?_
    clear hK K
    try simp only [Act.put, List.setIfInBounds_toArray, List.set_cons_zero, List.set_cons_succ]
    refine wpAnyD_takeP (i := 16) (oi := { dst := some 4, op := Op.assign (Operand.tmp 18), type := 4, pos := "spine.go:46", after := #[{ on := 13, ground := Ground.data }, { on := 15, ground := Ground.chain }, { on := 0, ground := Ground.phase }, { on := 1, ground := Ground.phase }, { on := 2, ground := Ground.phase }, { on := 3, ground := Ground.phase }, { on := 4, ground := Ground.phase }, { on := 5, ground := Ground.phase }, { on := 6, ground := Ground.phase }, { on := 7, ground := Ground.phase }, { on := 8, ground := Ground.phase }, { on := 9, ground := Ground.phase }, { on := 10, ground := Ground.phase }, { on := 11, ground := Ground.phase }, { on := 12, ground := Ground.phase }, { on := 13, ground := Ground.phase }, { on := 14, ground := Ground.phase }, { on := 15, ground := Ground.phase }], guard := none }) (d := 4) (v := ?_) rfl rfl (by kernel_rfl) (by kernel_rfl) (by kernel_rfl) (fun _ _ _ h => h) (Or.inl ⟨by rfl, ?_⟩) ?_
    rotate_left
    · (intro w' _; go_simp; (try with_reducible rfl))
    simp only [List.setIfInBounds_toArray, List.set_cons_zero, List.set_cons_succ]
    refine wpAnyD_done (by kernel_rfl) ?_ _
    go_wp2_with fail
    go_ret
    exact ⟨rfl, HBB.out⟩
set_option maxHeartbeats 8000000 in
theorem right_yes (h : WalkIs w base wb tbase tb T sv mb mp A B lim st) (hn : bornT T B = true) (hx : 0 ≤ B ∧ B < 100000) (hst : 0 ≤ st ∧ st < 1000000000) :
    Calls Tryz.prog 140 #[.pointer (some ⟨wb, 0, none⟩)] w fun e w' => e = .returned (.bool true) ∧ WalkIs w' base wb tbase tb T sv mb mp A (parT T B).1 (B + 1) (st + 1) ∧ Below base w w' := by
  obtain ⟨q1, q2, hq⟩ : ∃ q1 q2, parT T B = (q1, q2) := ⟨_, _, rfl⟩
  rw [hq]
  have HQ := Lib.hid hq
  clear hq
  have h0 := blk_cell h.blk 1
  have h2 := blk_cell h.blk 2
  simp only [List.getElem?_toArray, List.getElem?_cons_zero, List.getElem?_cons_succ] at h0 h2
  have HH := Lib.hid h
  have HNB := Lib.hid hn
  have hq9 := hx
  clear h hn hx
  go_enter Tryz.func140, Tryz.ntmps140
  go_upto_region 1 with fail
  have HBB : Hid (Below w.heap.size w w.drew) := Lib.hid ⟨rfl, rfl, rfl, Nat.le_refl _, fun _ _ => rfl⟩
  have HSC : Hid (∀ V, Below w.heap.size w V → V.cell? ⟨wb, 1, none⟩ = some (.int .i64 B) ∧ V.cell? ⟨wb, 2, none⟩ = some (.pointer (some ⟨tb, 0, none⟩))) := Lib.hid (fun V hV => ⟨below_cell hV (Nat.le_refl _) h0, below_cell hV (Nat.le_refl _) h2⟩)
  clear h0 h2
  refine wp_region_D (Ds := [15]) (S := fun V => V.cell? ⟨wb, 1, none⟩ = some (.int .i64 B) ∧ V.cell? ⟨wb, 2, none⟩ = some (.pointer (some ⟨tb, 0, none⟩))) (by kernel_rfl) (by exact HSC.out _ HBB.out) (fun hHeld => ?_)
  generalize w.drew = W0 at *
  refine wpAnyD_takeP (i := 0) (oi := { dst := some 6, op := Op.move (Operand.tmp 0), type := 116, pos := "spine.go:46", after := #[], guard := none }) (d := 6) (v := ?_) rfl rfl (by kernel_rfl) (by kernel_rfl) (by kernel_rfl) (fun _ _ _ h => h) (Or.inl ⟨by rfl, ?_⟩) ?_
  rotate_left
  · (intro w' _; go_simp; (try with_reducible rfl))
  simp only [List.setIfInBounds_toArray, List.set_cons_zero, List.set_cons_succ]
  refine wpAnyD_takeP (i := 1) (oi := { dst := some 7, op := Op.nilCheck (Operand.tmp 6), type := 0, pos := "spine.go:46", after := #[{ on := 0, ground := Ground.data }], guard := none }) (d := 7) (v := ?_) rfl rfl (by kernel_rfl) (by kernel_rfl) (by kernel_rfl) (fun _ _ _ h => h) (Or.inl ⟨by rfl, ?_⟩) ?_
  rotate_left
  · (intro w' _; go_simp; (try with_reducible rfl))
  simp only [List.setIfInBounds_toArray, List.set_cons_zero, List.set_cons_succ]
  refine wpAnyD_takeP (i := 2) (oi := { dst := some 8, op := Op.fieldAddr 121 (Operand.tmp 7) 1, type := 0, pos := "spine.go:46", after := #[{ on := 1, ground := Ground.data }], guard := none }) (d := 8) (v := ?_) rfl rfl (by kernel_rfl) (by kernel_rfl) (by kernel_rfl) (fun _ _ _ h => h) (Or.inl ⟨by rfl, ?_⟩) ?_
  rotate_left
  · (intro w' _; go_simp; (try with_reducible rfl))
  simp only [List.setIfInBounds_toArray, List.set_cons_zero, List.set_cons_succ]
  refine wpAnyD_takeP (i := 4) (oi := { dst := some 10, op := Op.move (Operand.tmp 0), type := 116, pos := "spine.go:46", after := #[], guard := none }) (d := 10) (v := ?_) rfl rfl (by kernel_rfl) (by kernel_rfl) (by kernel_rfl) (fun _ _ _ h => h) (Or.inl ⟨by rfl, ?_⟩) ?_
  rotate_left
  · (intro w' _; go_simp; (try with_reducible rfl))
  simp only [List.setIfInBounds_toArray, List.set_cons_zero, List.set_cons_succ]
  refine wpAnyD_takeP (i := 5) (oi := { dst := some 11, op := Op.nilCheck (Operand.tmp 10), type := 0, pos := "spine.go:46", after := #[{ on := 4, ground := Ground.data }], guard := none }) (d := 11) (v := ?_) rfl rfl (by kernel_rfl) (by kernel_rfl) (by kernel_rfl) (fun _ _ _ h => h) (Or.inl ⟨by rfl, ?_⟩) ?_
  rotate_left
  · (intro w' _; go_simp; (try with_reducible rfl))
  simp only [List.setIfInBounds_toArray, List.set_cons_zero, List.set_cons_succ]
  refine wpAnyD_takeP (i := 6) (oi := { dst := some 12, op := Op.fieldAddr 121 (Operand.tmp 11) 0, type := 0, pos := "spine.go:46", after := #[{ on := 5, ground := Ground.data }], guard := none }) (d := 12) (v := ?_) rfl rfl (by kernel_rfl) (by kernel_rfl) (by kernel_rfl) (fun _ _ _ h => h) (Or.inl ⟨by rfl, ?_⟩) ?_
  rotate_left
  · (intro w' _; go_simp; (try with_reducible rfl))
  simp only [List.setIfInBounds_toArray, List.set_cons_zero, List.set_cons_succ]
  refine wpAnyD_takeP (i := 7) (oi := { dst := some 13, op := Op.fieldAddr 119 (Operand.tmp 12) 0, type := 0, pos := "spine.go:46", after := #[{ on := 6, ground := Ground.data }], guard := none }) (d := 13) (v := ?_) rfl rfl (by kernel_rfl) (by kernel_rfl) (by kernel_rfl) (fun _ _ _ h => h) (Or.inl ⟨by rfl, ?_⟩) ?_
  rotate_left
  · (intro w' _; go_simp; (try with_reducible rfl))
  simp only [List.setIfInBounds_toArray, List.set_cons_zero, List.set_cons_succ]
  refine wpAnyD_takeP (i := 8) (oi := { dst := some 14, op := Op.fieldAddr 55 (Operand.tmp 13) 1, type := 0, pos := "spine.go:46", after := #[{ on := 7, ground := Ground.data }], guard := none }) (d := 14) (v := ?_) rfl rfl (by kernel_rfl) (by kernel_rfl) (by kernel_rfl) (fun _ _ _ h => h) (Or.inl ⟨by rfl, ?_⟩) ?_
  rotate_left
  · (intro w' _; go_simp; (try with_reducible rfl))
  simp only [List.setIfInBounds_toArray, List.set_cons_zero, List.set_cons_succ]
  refine wpAnyD_takeD (i := 3) (oi := { dst := some 9, op := Op.load 63 (Operand.tmp 8), type := 63, pos := "spine.go:46", after := #[{ on := 2, ground := Ground.data }], guard := none }) (d := 9) (v := ?_) rfl rfl (by kernel_rfl) (by kernel_rfl) (by kernel_rfl) (by kernel_rfl) (fun _ _ _ h => h) (Or.inl ⟨by rfl, ?_⟩) hHeld ?_
  rotate_left
  · (intro w' hSw; (try dsimp only at hSw); go_simp; (try with_reducible rfl))
  simp only [List.setIfInBounds_toArray, List.set_cons_zero, List.set_cons_succ]
  refine wpAnyD_takeD (i := 9) (oi := { dst := some 15, op := Op.load 3 (Operand.tmp 14), type := 3, pos := "spine.go:46", after := #[{ on := 8, ground := Ground.data }], guard := none }) (d := 15) (v := ?_) rfl rfl (by kernel_rfl) (by kernel_rfl) (by kernel_rfl) (by kernel_rfl) (fun _ _ _ h => h) (Or.inl ⟨by rfl, ?_⟩) hHeld ?_
  rotate_left
  · (intro w' hSw; (try dsimp only at hSw); go_simp; (try with_reducible rfl))
  simp only [List.setIfInBounds_toArray, List.set_cons_zero, List.set_cons_succ]
  refine wpAnyD_two (i := 10) (j := 14) (oi := { dst := some 16, op := Op.call { callee := Callee.value (Operand.func 57), args := #[Operand.tmp 9, Operand.tmp 15], argTypes := #[63, 3] }, type := 110, pos := "spine.go:46", after := #[{ on := 3, ground := Ground.data }, { on := 9, ground := Ground.data }], guard := none }) (oj := { dst := some 3, op := Op.alloc 55, type := 0, pos := "spine.go:46", after := #[], guard := none }) (by kernel_rfl) rfl rfl (by rfl) (by rfl) (fun K hK => ?_) (fun K hK => ?_)
  ·
    go_simp; refine (par_tab B (HH.out.tab.below HBB.out (Nat.le_refl _))).mono ?_; rintro e V1 ⟨rfl, hb⟩; rw [HNB.out, HQ.out]; unfold pairV; (try (replace HNW := Lib.hid (And.intro (blk_below hb (blk_lt HNW.out.1) HNW.out.1) HNW.out.2))); replace HBB := Lib.hid (HBB.out.trans (hb.mono HBB.out.size)); have h := HSC.out _ HBB.out; clear hb; go_simp
    refine hK.out _ _ h (fun hHeld => ?_)
    clear hK K
    try simp only [Act.put, List.setIfInBounds_toArray, List.set_cons_zero, List.set_cons_succ]
    refine wpAnyD_takeP (i := 11) (oi := { dst := some 5, op := Op.move (Operand.tmp 16), type := 110, pos := "spine.go:46", after := #[{ on := 10, ground := Ground.data }], guard := none }) (d := 5) (v := ?_) rfl rfl (by kernel_rfl) (by kernel_rfl) (by kernel_rfl) (fun _ _ _ h => h) (Or.inl ⟨by rfl, ?_⟩) ?_
    rotate_left
    · (intro w' _; go_simp; (try with_reducible rfl))
    simp only [List.setIfInBounds_toArray, List.set_cons_zero, List.set_cons_succ]
    refine wpAnyD_takeP (i := 12) (oi := { dst := some 17, op := Op.extract (Operand.tmp 5) 0, type := 55, pos := "spine.go:46", after := #[{ on := 11, ground := Ground.data }], guard := none }) (d := 17) (v := ?_) rfl rfl (by kernel_rfl) (by kernel_rfl) (by kernel_rfl) (fun _ _ _ h => h) (Or.inl ⟨by rfl, ?_⟩) ?_
    rotate_left
    · (intro w' _; go_simp; (try with_reducible rfl))
    simp only [List.setIfInBounds_toArray, List.set_cons_zero, List.set_cons_succ]
    refine wpAnyD_takeP (i := 13) (oi := { dst := some 18, op := Op.extract (Operand.tmp 5) 1, type := 4, pos := "spine.go:46", after := #[{ on := 11, ground := Ground.data }, { on := 15, ground := Ground.gcOnly Departure.lateStores }], guard := none }) (d := 18) (v := ?_) rfl rfl (by kernel_rfl) (by kernel_rfl) (by kernel_rfl) (fun _ _ _ h => h) (Or.inl ⟨by rfl, ?_⟩) ?_
    rotate_left
    · (intro w' _; go_simp; (try with_reducible rfl))
    simp only [List.setIfInBounds_toArray, List.set_cons_zero, List.set_cons_succ]
    refine wpAnyD_one (i := 14) (o := { dst := some 3, op := Op.alloc 55, type := 0, pos := "spine.go:46", after := #[], guard := none }) (by kernel_rfl) rfl (by rfl) (fun K hK => ?_)
    go_simp; have HNW := Lib.hid (And.intro (bel_new HBB.out (.cells #[.int .i64 0, .int .i64 0] 55)) HBB.out.size); have HBB := Lib.hid (bel_alloc HBB.out (.cells #[.int .i64 0, .int .i64 0] 55)); refine gen_below HBB.out rfl (fun W' hW' => ?_); rw [← hW'] at HBB HNW; clear hW'; have h := HSC.out _ HBB.out
    refine hK.out _ _ h (fun hHeld => ?_)
    clear hK K
    try simp only [Act.put, List.setIfInBounds_toArray, List.set_cons_zero, List.set_cons_succ]
    refine wpAnyD_last (D := 15) (by decide) (o := { dst := none, op := Op.store 55 (Operand.tmp 3) (Operand.tmp 17), type := 0, pos := "spine.go:46", after := #[{ on := 14, ground := Ground.data }, { on := 12, ground := Ground.data }, { on := 10, ground := Ground.chain }, { on := 0, ground := Ground.phase }, { on := 1, ground := Ground.phase }, { on := 2, ground := Ground.phase }, { on := 3, ground := Ground.phase }, { on := 4, ground := Ground.phase }, { on := 5, ground := Ground.phase }, { on := 6, ground := Ground.phase }, { on := 7, ground := Ground.phase }, { on := 8, ground := Ground.phase }, { on := 9, ground := Ground.phase }, { on := 10, ground := Ground.phase }, { on := 11, ground := Ground.phase }, { on := 12, ground := Ground.phase }, { on := 13, ground := Ground.textOnly Departure.lateStores }, { on := 14, ground := Ground.phase }], guard := none }) (by kernel_rfl) rfl (by rfl) (fun K hK => ?_)
    have d0 := blk_cell HNW.out.1 0; have d1 := blk_cell HNW.out.1 1; have z0 := blk_froz HNW.out.1 0; have z1 := blk_froz HNW.out.1 1; simp only [List.getElem?_toArray, List.getElem?_cons_zero, List.getElem?_cons_succ] at d0 d1; go_simp; have hn6 := blk_set (blk_set HNW.out.1 0 (.int .i64 q1)) 1 (.int .i64 q2); simp only [List.setIfInBounds_toArray, List.set_cons_zero, List.set_cons_succ] at hn6; have HN6 := Lib.hid hn6; have HBB := Lib.hid (bel_put HBB.out HNW.out.2 (.int .i64 q1) (.int .i64 q2)); refine gen_below HBB.out rfl (fun W9 hW9 => ?_); rw [← hW9] at HBB HN6; clear hW9 d0 d1 z0 z1 hn6
    refine hK.out _ _ ?_
    clear hK K
    try simp only [Act.put, List.setIfInBounds_toArray, List.set_cons_zero, List.set_cons_succ]
    refine wpAnyD_takeP (i := 16) (oi := { dst := some 4, op := Op.assign (Operand.tmp 18), type := 4, pos := "spine.go:46", after := #[{ on := 13, ground := Ground.data }, { on := 15, ground := Ground.chain }, { on := 0, ground := Ground.phase }, { on := 1, ground := Ground.phase }, { on := 2, ground := Ground.phase }, { on := 3, ground := Ground.phase }, { on := 4, ground := Ground.phase }, { on := 5, ground := Ground.phase }, { on := 6, ground := Ground.phase }, { on := 7, ground := Ground.phase }, { on := 8, ground := Ground.phase }, { on := 9, ground := Ground.phase }, { on := 10, ground := Ground.phase }, { on := 11, ground := Ground.phase }, { on := 12, ground := Ground.phase }, { on := 13, ground := Ground.phase }, { on := 14, ground := Ground.phase }, { on := 15, ground := Ground.phase }], guard := none }) (d := 4) (v := ?_) rfl rfl (by kernel_rfl) (by kernel_rfl) (by kernel_rfl) (fun _ _ _ h => h) (Or.inl ⟨by rfl, ?_⟩) ?_
    rotate_left
    · (intro w' _; go_simp; (try with_reducible rfl))
    simp only [List.setIfInBounds_toArray, List.set_cons_zero, List.set_cons_succ]
    refine wpAnyD_done (by kernel_rfl) ?_ _
    obtain ⟨nb, hnb, hn6⟩ := name_blk HN6.out
    (first | rw [hnb] | rw [show w.heap.size = nb from hnb])
    have hw := HH.out.below HBB.out (Nat.le_refl _)
    have HW := Lib.hid hw
    have HB1 := Lib.hid (HBB.out.mono (Nat.le_trans HH.out.le (Nat.le_of_lt (blk_lt HH.out.blk))))
    have c0 := blk_cell hw.blk 1
    have n0 := blk_cell hn6 0
    simp only [List.getElem?_toArray, List.getElem?_cons_zero, List.getElem?_cons_succ] at c0 n0
    have wl : IntKind.i64.wrap (B + 1) = B + 1 := IntWalk.i64_in _ (by have := hq9; omega)
    have HN9 := Lib.hid hn6
    have HNE : Hid (¬ nb = wb) := Lib.hid (by have := HNW.out.2; have := blk_lt HH.out.blk; omega)
    clear hnb hn6 hw HSC HBB HN6 HNW h hHeld
    go_upto_region 3 with fail
    refine wp_region_D (Ds := [18]) (S := fun V => V.cell? ⟨wb, 1, none⟩ = some (.int .i64 B) ∧ V.cell? ⟨nb, 0, none⟩ = some (.int .i64 q1)) (by kernel_rfl) (by exact ⟨c0, n0⟩) (fun hHeld => ?_)
    (have HN3 : Hid (W9.drew.heap[nb]? = some (.cells #[.int .i64 q1, .int .i64 q2] 55)) := Lib.hid HN9.out); clear HN9; (replace HB1 := Lib.hid HB1.out.drew); (have HT := Lib.hid HW.out.tab.drew); (have HBK : Hid (W9.drew.heap[wb]? = some (.cells #[.int .i64 A, .int .i64 B, .pointer (some ⟨tb, 0, none⟩), .int .i64 lim, .int .i64 st] 121)) := Lib.hid HW.out.blk); (have HK0 : Hid (Keep (fun g => g = wb) W9.drew W9.drew) := Lib.hid (Keep.refl _ _)); clear c0 n0 HW; generalize W9.drew = W3 at *
    refine wpAnyD_takeP (i := 0) (oi := { dst := some 20, op := Op.move (Operand.tmp 0), type := 116, pos := "spine.go:48", after := #[], guard := none }) (d := 20) (v := ?_) rfl rfl (by kernel_rfl) (by kernel_rfl) (by kernel_rfl) (fun _ _ _ h => h) (Or.inl ⟨by rfl, ?_⟩) ?_
    rotate_left
    · (intro w' _; go_simp; (try with_reducible rfl))
    simp only [List.setIfInBounds_toArray, List.set_cons_zero, List.set_cons_succ]
    refine wpAnyD_takeP (i := 1) (oi := { dst := some 21, op := Op.move (Operand.tmp 0), type := 116, pos := "spine.go:48", after := #[{ on := 13, ground := Ground.gcOnly Departure.lateStores }], guard := none }) (d := 21) (v := ?_) rfl rfl (by kernel_rfl) (by kernel_rfl) (by kernel_rfl) (fun _ _ _ h => h) (Or.inl ⟨by rfl, ?_⟩) ?_
    rotate_left
    · (intro w' _; go_simp; (try with_reducible rfl))
    simp only [List.setIfInBounds_toArray, List.set_cons_zero, List.set_cons_succ]
    refine wpAnyD_takeP (i := 2) (oi := { dst := some 22, op := Op.move (Operand.tmp 0), type := 116, pos := "spine.go:48", after := #[], guard := none }) (d := 22) (v := ?_) rfl rfl (by kernel_rfl) (by kernel_rfl) (by kernel_rfl) (fun _ _ _ h => h) (Or.inl ⟨by rfl, ?_⟩) ?_
    rotate_left
    · (intro w' _; go_simp; (try with_reducible rfl))
    simp only [List.setIfInBounds_toArray, List.set_cons_zero, List.set_cons_succ]
    refine wpAnyD_takeP (i := 3) (oi := { dst := some 23, op := Op.nilCheck (Operand.tmp 22), type := 0, pos := "spine.go:48", after := #[{ on := 2, ground := Ground.data }], guard := none }) (d := 23) (v := ?_) rfl rfl (by kernel_rfl) (by kernel_rfl) (by kernel_rfl) (fun _ _ _ h => h) (Or.inl ⟨by rfl, ?_⟩) ?_
    rotate_left
    · (intro w' _; go_simp; (try with_reducible rfl))
    simp only [List.setIfInBounds_toArray, List.set_cons_zero, List.set_cons_succ]
    refine wpAnyD_takeP (i := 4) (oi := { dst := some 24, op := Op.fieldAddr 121 (Operand.tmp 23) 0, type := 0, pos := "spine.go:48", after := #[{ on := 3, ground := Ground.data }], guard := none }) (d := 24) (v := ?_) rfl rfl (by kernel_rfl) (by kernel_rfl) (by kernel_rfl) (fun _ _ _ h => h) (Or.inl ⟨by rfl, ?_⟩) ?_
    rotate_left
    · (intro w' _; go_simp; (try with_reducible rfl))
    simp only [List.setIfInBounds_toArray, List.set_cons_zero, List.set_cons_succ]
    refine wpAnyD_takeP (i := 5) (oi := { dst := some 25, op := Op.fieldAddr 119 (Operand.tmp 24) 0, type := 0, pos := "spine.go:48", after := #[{ on := 4, ground := Ground.data }], guard := none }) (d := 25) (v := ?_) rfl rfl (by kernel_rfl) (by kernel_rfl) (by kernel_rfl) (fun _ _ _ h => h) (Or.inl ⟨by rfl, ?_⟩) ?_
    rotate_left
    · (intro w' _; go_simp; (try with_reducible rfl))
    simp only [List.setIfInBounds_toArray, List.set_cons_zero, List.set_cons_succ]
    refine wpAnyD_takeP (i := 6) (oi := { dst := some 26, op := Op.fieldAddr 55 (Operand.tmp 25) 1, type := 0, pos := "spine.go:48", after := #[{ on := 5, ground := Ground.data }], guard := none }) (d := 26) (v := ?_) rfl rfl (by kernel_rfl) (by kernel_rfl) (by kernel_rfl) (fun _ _ _ h => h) (Or.inl ⟨by rfl, ?_⟩) ?_
    rotate_left
    · (intro w' _; go_simp; (try with_reducible rfl))
    simp only [List.setIfInBounds_toArray, List.set_cons_zero, List.set_cons_succ]
    refine wpAnyD_takeP (i := 9) (oi := { dst := some 29, op := Op.fieldAddr 55 (Operand.tmp 3) 0, type := 0, pos := "spine.go:48", after := #[{ on := 13, ground := Ground.gcOnly Departure.lateStores }], guard := none }) (d := 29) (v := ?_) rfl rfl (by kernel_rfl) (by kernel_rfl) (by kernel_rfl) (fun _ _ _ h => h) (Or.inl ⟨by rfl, ?_⟩) ?_
    rotate_left
    · (intro w' _; go_simp; (try with_reducible rfl))
    simp only [List.setIfInBounds_toArray, List.set_cons_zero, List.set_cons_succ]
    refine wpAnyD_takeD (i := 7) (oi := { dst := some 27, op := Op.load 3 (Operand.tmp 26), type := 3, pos := "spine.go:48", after := #[{ on := 6, ground := Ground.data }], guard := none }) (d := 27) (v := ?_) rfl rfl (by kernel_rfl) (by kernel_rfl) (by kernel_rfl) (by kernel_rfl) (fun _ _ _ h => h) (Or.inl ⟨by rfl, ?_⟩) hHeld ?_
    rotate_left
    · (intro w' hSw; (try dsimp only at hSw); go_simp; (try with_reducible rfl))
    simp only [List.setIfInBounds_toArray, List.set_cons_zero, List.set_cons_succ]
    refine wpAnyD_takeP (i := 8) (oi := { dst := some 28, op := Op.binOp BinOp.add 3 (Operand.tmp 27) (Operand.const (Value.int IntKind.i64 1)) 3, type := 3, pos := "spine.go:48", after := #[{ on := 7, ground := Ground.data }], guard := none }) (d := 28) (v := ?_) rfl rfl (by kernel_rfl) (by kernel_rfl) (by kernel_rfl) (fun _ _ _ h => h) (Or.inl ⟨by rfl, ?_⟩) ?_
    rotate_left
    · (intro w' _; go_simp; (try with_reducible rfl))
    simp only [List.setIfInBounds_toArray, List.set_cons_zero, List.set_cons_succ]
    refine wpAnyD_takeP (i := 11) (oi := { dst := some 31, op := Op.nilCheck (Operand.tmp 20), type := 0, pos := "spine.go:48", after := #[{ on := 0, ground := Ground.data }, { on := 0, ground := Ground.phase }, { on := 1, ground := Ground.textOnly Departure.lateStores }, { on := 2, ground := Ground.phase }, { on := 3, ground := Ground.phase }, { on := 4, ground := Ground.phase }, { on := 5, ground := Ground.phase }, { on := 6, ground := Ground.phase }, { on := 7, ground := Ground.phase }, { on := 8, ground := Ground.phase }, { on := 9, ground := Ground.textOnly Departure.lateStores }, { on := 10, ground := Ground.textOnly Departure.lateStores }], guard := none }) (d := 31) (v := ?_) rfl rfl (by kernel_rfl) (by kernel_rfl) (by kernel_rfl) (fun _ _ _ h => h) (Or.inl ⟨by rfl, ?_⟩) ?_
    rotate_left
    · (intro w' _; go_simp; (try with_reducible rfl))
    simp only [List.setIfInBounds_toArray, List.set_cons_zero, List.set_cons_succ]
    refine wpAnyD_takeP (i := 12) (oi := { dst := some 32, op := Op.fieldAddr 121 (Operand.tmp 31) 2, type := 0, pos := "spine.go:48", after := #[{ on := 11, ground := Ground.data }, { on := 0, ground := Ground.phase }, { on := 1, ground := Ground.textOnly Departure.lateStores }, { on := 2, ground := Ground.phase }, { on := 3, ground := Ground.phase }, { on := 4, ground := Ground.phase }, { on := 5, ground := Ground.phase }, { on := 6, ground := Ground.phase }, { on := 7, ground := Ground.phase }, { on := 8, ground := Ground.phase }, { on := 9, ground := Ground.textOnly Departure.lateStores }, { on := 10, ground := Ground.textOnly Departure.lateStores }], guard := none }) (d := 32) (v := ?_) rfl rfl (by kernel_rfl) (by kernel_rfl) (by kernel_rfl) (fun _ _ _ h => h) (Or.inl ⟨by rfl, ?_⟩) ?_
    rotate_left
    · (intro w' _; go_simp; (try with_reducible rfl))
    simp only [List.setIfInBounds_toArray, List.set_cons_zero, List.set_cons_succ]
    refine wpAnyD_takeD (i := 10) (oi := { dst := some 30, op := Op.load 3 (Operand.tmp 29), type := 3, pos := "spine.go:48", after := #[{ on := 9, ground := Ground.data }, { on := 13, ground := Ground.gcOnly Departure.lateStores }], guard := none }) (d := 30) (v := ?_) rfl rfl (by kernel_rfl) (by kernel_rfl) (by kernel_rfl) (by kernel_rfl) (fun _ _ _ h => h) (Or.inl ⟨by rfl, ?_⟩) hHeld ?_
    rotate_left
    · (intro w' hSw; (try dsimp only at hSw); go_simp; (try with_reducible rfl))
    simp only [List.setIfInBounds_toArray, List.set_cons_zero, List.set_cons_succ]
    refine wpAnyD_one (i := 13) (o := { dst := none, op := Op.store 3 (Operand.tmp 32) (Operand.tmp 28), type := 0, pos := "spine.go:48", after := #[{ on := 12, ground := Ground.data }, { on := 8, ground := Ground.data }, { on := 0, ground := Ground.phase }, { on := 1, ground := Ground.textOnly Departure.lateStores }, { on := 2, ground := Ground.phase }, { on := 3, ground := Ground.phase }, { on := 4, ground := Ground.phase }, { on := 5, ground := Ground.phase }, { on := 6, ground := Ground.phase }, { on := 7, ground := Ground.phase }, { on := 8, ground := Ground.phase }, { on := 9, ground := Ground.textOnly Departure.lateStores }, { on := 10, ground := Ground.textOnly Departure.lateStores }], guard := none }) (by kernel_rfl) rfl (by rfl) (fun K hK => ?_)
    have z0 := blk_froz HBK.out 3; have d0 := blk_cell HBK.out 3; simp only [List.getElem?_toArray, List.getElem?_cons_zero, List.getElem?_cons_succ] at d0; go_simp; have hb4 := blk_set HBK.out 3 (.int .i64 (B + 1)); simp only [List.setIfInBounds_toArray, List.set_cons_zero, List.set_cons_succ] at hb4; have HBK4 := Lib.hid hb4; have HK4 := Lib.hid (HK0.out.setCell (p := ⟨wb, 3, none⟩) (.inl rfl) (.int .i64 (B + 1))); have hs0 := blk_cell HBK4.out 1; have hs1 := blk_cell (HK4.out.blk HN3.out HNE.out) 0; simp only [List.getElem?_toArray, List.getElem?_cons_zero, List.getElem?_cons_succ] at hs0 hs1; have h := And.intro hs0 hs1; clear z0 d0 hb4 hs0 hs1; generalize W3.setCell ⟨wb, 3, none⟩ (.int .i64 (B + 1)) = W4 at *
    refine hK.out _ _ h (fun hHeld => ?_)
    clear hK K
    try simp only [Act.put, List.setIfInBounds_toArray, List.set_cons_zero, List.set_cons_succ]
    refine wpAnyD_takeP (i := 14) (oi := { dst := some 33, op := Op.nilCheck (Operand.tmp 21), type := 0, pos := "spine.go:48", after := #[{ on := 1, ground := Ground.data }, { on := 0, ground := Ground.phase }, { on := 1, ground := Ground.phase }, { on := 2, ground := Ground.phase }, { on := 3, ground := Ground.phase }, { on := 4, ground := Ground.phase }, { on := 5, ground := Ground.phase }, { on := 6, ground := Ground.phase }, { on := 7, ground := Ground.phase }, { on := 8, ground := Ground.phase }, { on := 9, ground := Ground.phase }, { on := 10, ground := Ground.phase }, { on := 11, ground := Ground.phase }, { on := 12, ground := Ground.phase }, { on := 13, ground := Ground.phase }], guard := none }) (d := 33) (v := ?_) rfl rfl (by kernel_rfl) (by kernel_rfl) (by kernel_rfl) (fun _ _ _ h => h) (Or.inl ⟨by rfl, ?_⟩) ?_
    rotate_left
    · (intro w' _; go_simp; (try with_reducible rfl))
    simp only [List.setIfInBounds_toArray, List.set_cons_zero, List.set_cons_succ]
    refine wpAnyD_takeP (i := 15) (oi := { dst := some 34, op := Op.fieldAddr 121 (Operand.tmp 33) 0, type := 0, pos := "spine.go:48", after := #[{ on := 14, ground := Ground.data }, { on := 0, ground := Ground.phase }, { on := 1, ground := Ground.phase }, { on := 2, ground := Ground.phase }, { on := 3, ground := Ground.phase }, { on := 4, ground := Ground.phase }, { on := 5, ground := Ground.phase }, { on := 6, ground := Ground.phase }, { on := 7, ground := Ground.phase }, { on := 8, ground := Ground.phase }, { on := 9, ground := Ground.phase }, { on := 10, ground := Ground.phase }, { on := 11, ground := Ground.phase }, { on := 12, ground := Ground.phase }, { on := 13, ground := Ground.phase }], guard := none }) (d := 34) (v := ?_) rfl rfl (by kernel_rfl) (by kernel_rfl) (by kernel_rfl) (fun _ _ _ h => h) (Or.inl ⟨by rfl, ?_⟩) ?_
    rotate_left
    · (intro w' _; go_simp; (try with_reducible rfl))
    simp only [List.setIfInBounds_toArray, List.set_cons_zero, List.set_cons_succ]
    refine wpAnyD_takeP (i := 16) (oi := { dst := some 35, op := Op.fieldAddr 119 (Operand.tmp 34) 0, type := 0, pos := "spine.go:48", after := #[{ on := 15, ground := Ground.data }, { on := 0, ground := Ground.phase }, { on := 1, ground := Ground.phase }, { on := 2, ground := Ground.phase }, { on := 3, ground := Ground.phase }, { on := 4, ground := Ground.phase }, { on := 5, ground := Ground.phase }, { on := 6, ground := Ground.phase }, { on := 7, ground := Ground.phase }, { on := 8, ground := Ground.phase }, { on := 9, ground := Ground.phase }, { on := 10, ground := Ground.phase }, { on := 11, ground := Ground.phase }, { on := 12, ground := Ground.phase }, { on := 13, ground := Ground.phase }], guard := none }) (d := 35) (v := ?_) rfl rfl (by kernel_rfl) (by kernel_rfl) (by kernel_rfl) (fun _ _ _ h => h) (Or.inl ⟨by rfl, ?_⟩) ?_
    rotate_left
    · (intro w' _; go_simp; (try with_reducible rfl))
    simp only [List.setIfInBounds_toArray, List.set_cons_zero, List.set_cons_succ]
    refine wpAnyD_takeP (i := 17) (oi := { dst := some 36, op := Op.fieldAddr 55 (Operand.tmp 35) 1, type := 0, pos := "spine.go:48", after := #[{ on := 16, ground := Ground.data }, { on := 0, ground := Ground.phase }, { on := 1, ground := Ground.phase }, { on := 2, ground := Ground.phase }, { on := 3, ground := Ground.phase }, { on := 4, ground := Ground.phase }, { on := 5, ground := Ground.phase }, { on := 6, ground := Ground.phase }, { on := 7, ground := Ground.phase }, { on := 8, ground := Ground.phase }, { on := 9, ground := Ground.phase }, { on := 10, ground := Ground.phase }, { on := 11, ground := Ground.phase }, { on := 12, ground := Ground.phase }, { on := 13, ground := Ground.phase }], guard := none }) (d := 36) (v := ?_) rfl rfl (by kernel_rfl) (by kernel_rfl) (by kernel_rfl) (fun _ _ _ h => h) (Or.inl ⟨by rfl, ?_⟩) ?_
    rotate_left
    · (intro w' _; go_simp; (try with_reducible rfl))
    simp only [List.setIfInBounds_toArray, List.set_cons_zero, List.set_cons_succ]
    refine wpAnyD_last (D := 18) (by decide) (o := { dst := none, op := Op.store 3 (Operand.tmp 36) (Operand.tmp 30), type := 0, pos := "spine.go:48", after := #[{ on := 17, ground := Ground.data }, { on := 10, ground := Ground.data }, { on := 13, ground := Ground.chain }, { on := 0, ground := Ground.phase }, { on := 1, ground := Ground.phase }, { on := 2, ground := Ground.phase }, { on := 3, ground := Ground.phase }, { on := 4, ground := Ground.phase }, { on := 5, ground := Ground.phase }, { on := 6, ground := Ground.phase }, { on := 7, ground := Ground.phase }, { on := 8, ground := Ground.phase }, { on := 9, ground := Ground.phase }, { on := 10, ground := Ground.phase }, { on := 11, ground := Ground.phase }, { on := 12, ground := Ground.phase }, { on := 13, ground := Ground.phase }], guard := none }) (by kernel_rfl) rfl (by rfl) (fun K hK => ?_)
    have z0 := blk_froz HBK4.out 1; have d0 := blk_cell HBK4.out 1; simp only [List.getElem?_toArray, List.getElem?_cons_zero, List.getElem?_cons_succ] at d0; go_simp; have hb5 := blk_set HBK4.out 1 (.int .i64 q1); simp only [List.setIfInBounds_toArray, List.set_cons_zero, List.set_cons_succ] at hb5; have HBK5 := Lib.hid hb5; have HK5 := Lib.hid (HK4.out.setCell (p := ⟨wb, 1, none⟩) (.inl rfl) (.int .i64 q1)); clear z0 d0 hb5; generalize W4.setCell ⟨wb, 1, none⟩ (.int .i64 q1) = W5 at *
    refine hK.out _ _ ?_
    clear hK K
    try simp only [Act.put, List.setIfInBounds_toArray, List.set_cons_zero, List.set_cons_succ]
    refine wpAnyD_done (by kernel_rfl) ?_ _
    have z4 := blk_froz HBK5.out 4
    have d4 := blk_cell HBK5.out 4
    simp only [List.getElem?_toArray, List.getElem?_cons_zero, List.getElem?_cons_succ] at d4
    have ws : IntKind.i64.wrap (st + 1) = st + 1 := IntWalk.i64_in _ (by omega)
    go_upto_region 5 with fail
    clear ws z4 d4
    have hb6 := blk_set HBK5.out 4 (.int .i64 (st + 1))
    simp only [List.setIfInBounds_toArray, List.set_cons_zero, List.set_cons_succ] at hb6
    have hk6 := HK5.out.setCell (p := ⟨wb, 4, none⟩) (.inl rfl) (.int .i64 (st + 1))
    have HF : Hid (WalkIs (W5.setCell ⟨wb, 4, none⟩ (.int .i64 (st + 1))) base wb tbase tb T sv mb mp A q1 (B + 1) (st + 1) ∧ Below base w (W5.setCell ⟨wb, 4, none⟩ (.int .i64 (st + 1)))) := Lib.hid (by
      have hle := HH.out.le
      refine ⟨⟨hb6, HT.out.keep hk6 (fun x hx e => ?_), HH.out.tlt, hle⟩, HB1.out.trans (hk6.below ?_ (fun x hx => ?_))⟩
      · have := HH.out.tlt x hx; omega
      · exact Nat.le_trans (Nat.le_trans hle (Nat.le_of_lt (blk_lt HH.out.blk))) HB1.out.size
      · omega)
    clear hb6 hk6
    go_wp2_with fail
    go_ret
    exact ⟨rfl, HF.out.1, HF.out.2⟩
  ·
    go_simp; have HNW := Lib.hid (And.intro (bel_new HBB.out (.cells #[.int .i64 0, .int .i64 0] 55)) HBB.out.size); have HBB := Lib.hid (bel_alloc HBB.out (.cells #[.int .i64 0, .int .i64 0] 55)); refine gen_below HBB.out rfl (fun W' hW' => ?_); rw [← hW'] at HBB HNW; clear hW'; have h := HSC.out _ HBB.out
    refine hK.out _ _ h (fun hHeld => ?_)
    clear hK K
    try simp only [Act.put, List.setIfInBounds_toArray, List.set_cons_zero, List.set_cons_succ]
    refine wpAnyD_one (i := 10) (o := { dst := some 16, op := Op.call { callee := Callee.value (Operand.func 57), args := #[Operand.tmp 9, Operand.tmp 15], argTypes := #[63, 3] }, type := 110, pos := "spine.go:46", after := #[{ on := 3, ground := Ground.data }, { on := 9, ground := Ground.data }], guard := none }) (by kernel_rfl) rfl (by rfl) (fun K hK => ?_)
    go_simp; refine (par_tab B (HH.out.tab.below HBB.out (Nat.le_refl _))).mono ?_; rintro e V1 ⟨rfl, hb⟩; rw [HNB.out, HQ.out]; unfold pairV; (try (replace HNW := Lib.hid (And.intro (blk_below hb (blk_lt HNW.out.1) HNW.out.1) HNW.out.2))); replace HBB := Lib.hid (HBB.out.trans (hb.mono HBB.out.size)); have h := HSC.out _ HBB.out; clear hb; go_simp
    refine hK.out _ _ h (fun hHeld => ?_)
    clear hK K
    try simp only [Act.put, List.setIfInBounds_toArray, List.set_cons_zero, List.set_cons_succ]
    refine wpAnyD_takeP (i := 11) (oi := { dst := some 5, op := Op.move (Operand.tmp 16), type := 110, pos := "spine.go:46", after := #[{ on := 10, ground := Ground.data }], guard := none }) (d := 5) (v := ?_) rfl rfl (by kernel_rfl) (by kernel_rfl) (by kernel_rfl) (fun _ _ _ h => h) (Or.inl ⟨by rfl, ?_⟩) ?_
    rotate_left
    · (intro w' _; go_simp; (try with_reducible rfl))
    simp only [List.setIfInBounds_toArray, List.set_cons_zero, List.set_cons_succ]
    refine wpAnyD_takeP (i := 12) (oi := { dst := some 17, op := Op.extract (Operand.tmp 5) 0, type := 55, pos := "spine.go:46", after := #[{ on := 11, ground := Ground.data }], guard := none }) (d := 17) (v := ?_) rfl rfl (by kernel_rfl) (by kernel_rfl) (by kernel_rfl) (fun _ _ _ h => h) (Or.inl ⟨by rfl, ?_⟩) ?_
    rotate_left
    · (intro w' _; go_simp; (try with_reducible rfl))
    simp only [List.setIfInBounds_toArray, List.set_cons_zero, List.set_cons_succ]
    refine wpAnyD_takeP (i := 13) (oi := { dst := some 18, op := Op.extract (Operand.tmp 5) 1, type := 4, pos := "spine.go:46", after := #[{ on := 11, ground := Ground.data }, { on := 15, ground := Ground.gcOnly Departure.lateStores }], guard := none }) (d := 18) (v := ?_) rfl rfl (by kernel_rfl) (by kernel_rfl) (by kernel_rfl) (fun _ _ _ h => h) (Or.inl ⟨by rfl, ?_⟩) ?_
    rotate_left
    · (intro w' _; go_simp; (try with_reducible rfl))
    simp only [List.setIfInBounds_toArray, List.set_cons_zero, List.set_cons_succ]
    refine wpAnyD_last (D := 15) (by decide) (o := { dst := none, op := Op.store 55 (Operand.tmp 3) (Operand.tmp 17), type := 0, pos := "spine.go:46", after := #[{ on := 14, ground := Ground.data }, { on := 12, ground := Ground.data }, { on := 10, ground := Ground.chain }, { on := 0, ground := Ground.phase }, { on := 1, ground := Ground.phase }, { on := 2, ground := Ground.phase }, { on := 3, ground := Ground.phase }, { on := 4, ground := Ground.phase }, { on := 5, ground := Ground.phase }, { on := 6, ground := Ground.phase }, { on := 7, ground := Ground.phase }, { on := 8, ground := Ground.phase }, { on := 9, ground := Ground.phase }, { on := 10, ground := Ground.phase }, { on := 11, ground := Ground.phase }, { on := 12, ground := Ground.phase }, { on := 13, ground := Ground.textOnly Departure.lateStores }, { on := 14, ground := Ground.phase }], guard := none }) (by kernel_rfl) rfl (by rfl) (fun K hK => ?_)
    have d0 := blk_cell HNW.out.1 0; have d1 := blk_cell HNW.out.1 1; have z0 := blk_froz HNW.out.1 0; have z1 := blk_froz HNW.out.1 1; simp only [List.getElem?_toArray, List.getElem?_cons_zero, List.getElem?_cons_succ] at d0 d1; go_simp; have hn6 := blk_set (blk_set HNW.out.1 0 (.int .i64 q1)) 1 (.int .i64 q2); simp only [List.setIfInBounds_toArray, List.set_cons_zero, List.set_cons_succ] at hn6; have HN6 := Lib.hid hn6; have HBB := Lib.hid (bel_put HBB.out HNW.out.2 (.int .i64 q1) (.int .i64 q2)); refine gen_below HBB.out rfl (fun W9 hW9 => ?_); rw [← hW9] at HBB HN6; clear hW9 d0 d1 z0 z1 hn6
    refine hK.out _ _ ?_
    clear hK K
    try simp only [Act.put, List.setIfInBounds_toArray, List.set_cons_zero, List.set_cons_succ]
    refine wpAnyD_takeP (i := 16) (oi := { dst := some 4, op := Op.assign (Operand.tmp 18), type := 4, pos := "spine.go:46", after := #[{ on := 13, ground := Ground.data }, { on := 15, ground := Ground.chain }, { on := 0, ground := Ground.phase }, { on := 1, ground := Ground.phase }, { on := 2, ground := Ground.phase }, { on := 3, ground := Ground.phase }, { on := 4, ground := Ground.phase }, { on := 5, ground := Ground.phase }, { on := 6, ground := Ground.phase }, { on := 7, ground := Ground.phase }, { on := 8, ground := Ground.phase }, { on := 9, ground := Ground.phase }, { on := 10, ground := Ground.phase }, { on := 11, ground := Ground.phase }, { on := 12, ground := Ground.phase }, { on := 13, ground := Ground.phase }, { on := 14, ground := Ground.phase }, { on := 15, ground := Ground.phase }], guard := none }) (d := 4) (v := ?_) rfl rfl (by kernel_rfl) (by kernel_rfl) (by kernel_rfl) (fun _ _ _ h => h) (Or.inl ⟨by rfl, ?_⟩) ?_
    rotate_left
    · (intro w' _; go_simp; (try with_reducible rfl))
    simp only [List.setIfInBounds_toArray, List.set_cons_zero, List.set_cons_succ]
    refine wpAnyD_done (by kernel_rfl) ?_ _
    obtain ⟨nb, hnb, hn6⟩ := name_blk HN6.out
    (first | rw [hnb] | rw [show w.heap.size = nb from hnb])
    have hw := HH.out.below HBB.out (Nat.le_refl _)
    have HW := Lib.hid hw
    have HB1 := Lib.hid (HBB.out.mono (Nat.le_trans HH.out.le (Nat.le_of_lt (blk_lt HH.out.blk))))
    have c0 := blk_cell hw.blk 1
    have n0 := blk_cell hn6 0
    simp only [List.getElem?_toArray, List.getElem?_cons_zero, List.getElem?_cons_succ] at c0 n0
    have wl : IntKind.i64.wrap (B + 1) = B + 1 := IntWalk.i64_in _ (by have := hq9; omega)
    have HN9 := Lib.hid hn6
    have HNE : Hid (¬ nb = wb) := Lib.hid (by have := HNW.out.2; have := blk_lt HH.out.blk; omega)
    clear hnb hn6 hw HSC HBB HN6 HNW h hHeld
    go_upto_region 3 with fail
    refine wp_region_D (Ds := [18]) (S := fun V => V.cell? ⟨wb, 1, none⟩ = some (.int .i64 B) ∧ V.cell? ⟨nb, 0, none⟩ = some (.int .i64 q1)) (by kernel_rfl) (by exact ⟨c0, n0⟩) (fun hHeld => ?_)
    (have HN3 : Hid (W9.drew.heap[nb]? = some (.cells #[.int .i64 q1, .int .i64 q2] 55)) := Lib.hid HN9.out); clear HN9; (replace HB1 := Lib.hid HB1.out.drew); (have HT := Lib.hid HW.out.tab.drew); (have HBK : Hid (W9.drew.heap[wb]? = some (.cells #[.int .i64 A, .int .i64 B, .pointer (some ⟨tb, 0, none⟩), .int .i64 lim, .int .i64 st] 121)) := Lib.hid HW.out.blk); (have HK0 : Hid (Keep (fun g => g = wb) W9.drew W9.drew) := Lib.hid (Keep.refl _ _)); clear c0 n0 HW; generalize W9.drew = W3 at *
    refine wpAnyD_takeP (i := 0) (oi := { dst := some 20, op := Op.move (Operand.tmp 0), type := 116, pos := "spine.go:48", after := #[], guard := none }) (d := 20) (v := ?_) rfl rfl (by kernel_rfl) (by kernel_rfl) (by kernel_rfl) (fun _ _ _ h => h) (Or.inl ⟨by rfl, ?_⟩) ?_
    rotate_left
    · (intro w' _; go_simp; (try with_reducible rfl))
    simp only [List.setIfInBounds_toArray, List.set_cons_zero, List.set_cons_succ]
    refine wpAnyD_takeP (i := 1) (oi := { dst := some 21, op := Op.move (Operand.tmp 0), type := 116, pos := "spine.go:48", after := #[{ on := 13, ground := Ground.gcOnly Departure.lateStores }], guard := none }) (d := 21) (v := ?_) rfl rfl (by kernel_rfl) (by kernel_rfl) (by kernel_rfl) (fun _ _ _ h => h) (Or.inl ⟨by rfl, ?_⟩) ?_
    rotate_left
    · (intro w' _; go_simp; (try with_reducible rfl))
    simp only [List.setIfInBounds_toArray, List.set_cons_zero, List.set_cons_succ]
    refine wpAnyD_takeP (i := 2) (oi := { dst := some 22, op := Op.move (Operand.tmp 0), type := 116, pos := "spine.go:48", after := #[], guard := none }) (d := 22) (v := ?_) rfl rfl (by kernel_rfl) (by kernel_rfl) (by kernel_rfl) (fun _ _ _ h => h) (Or.inl ⟨by rfl, ?_⟩) ?_
    rotate_left
    · (intro w' _; go_simp; (try with_reducible rfl))
    simp only [List.setIfInBounds_toArray, List.set_cons_zero, List.set_cons_succ]
    refine wpAnyD_takeP (i := 3) (oi := { dst := some 23, op := Op.nilCheck (Operand.tmp 22), type := 0, pos := "spine.go:48", after := #[{ on := 2, ground := Ground.data }], guard := none }) (d := 23) (v := ?_) rfl rfl (by kernel_rfl) (by kernel_rfl) (by kernel_rfl) (fun _ _ _ h => h) (Or.inl ⟨by rfl, ?_⟩) ?_
    rotate_left
    · (intro w' _; go_simp; (try with_reducible rfl))
    simp only [List.setIfInBounds_toArray, List.set_cons_zero, List.set_cons_succ]
    refine wpAnyD_takeP (i := 4) (oi := { dst := some 24, op := Op.fieldAddr 121 (Operand.tmp 23) 0, type := 0, pos := "spine.go:48", after := #[{ on := 3, ground := Ground.data }], guard := none }) (d := 24) (v := ?_) rfl rfl (by kernel_rfl) (by kernel_rfl) (by kernel_rfl) (fun _ _ _ h => h) (Or.inl ⟨by rfl, ?_⟩) ?_
    rotate_left
    · (intro w' _; go_simp; (try with_reducible rfl))
    simp only [List.setIfInBounds_toArray, List.set_cons_zero, List.set_cons_succ]
    refine wpAnyD_takeP (i := 5) (oi := { dst := some 25, op := Op.fieldAddr 119 (Operand.tmp 24) 0, type := 0, pos := "spine.go:48", after := #[{ on := 4, ground := Ground.data }], guard := none }) (d := 25) (v := ?_) rfl rfl (by kernel_rfl) (by kernel_rfl) (by kernel_rfl) (fun _ _ _ h => h) (Or.inl ⟨by rfl, ?_⟩) ?_
    rotate_left
    · (intro w' _; go_simp; (try with_reducible rfl))
    simp only [List.setIfInBounds_toArray, List.set_cons_zero, List.set_cons_succ]
    refine wpAnyD_takeP (i := 6) (oi := { dst := some 26, op := Op.fieldAddr 55 (Operand.tmp 25) 1, type := 0, pos := "spine.go:48", after := #[{ on := 5, ground := Ground.data }], guard := none }) (d := 26) (v := ?_) rfl rfl (by kernel_rfl) (by kernel_rfl) (by kernel_rfl) (fun _ _ _ h => h) (Or.inl ⟨by rfl, ?_⟩) ?_
    rotate_left
    · (intro w' _; go_simp; (try with_reducible rfl))
    simp only [List.setIfInBounds_toArray, List.set_cons_zero, List.set_cons_succ]
    refine wpAnyD_takeP (i := 9) (oi := { dst := some 29, op := Op.fieldAddr 55 (Operand.tmp 3) 0, type := 0, pos := "spine.go:48", after := #[{ on := 13, ground := Ground.gcOnly Departure.lateStores }], guard := none }) (d := 29) (v := ?_) rfl rfl (by kernel_rfl) (by kernel_rfl) (by kernel_rfl) (fun _ _ _ h => h) (Or.inl ⟨by rfl, ?_⟩) ?_
    rotate_left
    · (intro w' _; go_simp; (try with_reducible rfl))
    simp only [List.setIfInBounds_toArray, List.set_cons_zero, List.set_cons_succ]
    refine wpAnyD_takeD (i := 7) (oi := { dst := some 27, op := Op.load 3 (Operand.tmp 26), type := 3, pos := "spine.go:48", after := #[{ on := 6, ground := Ground.data }], guard := none }) (d := 27) (v := ?_) rfl rfl (by kernel_rfl) (by kernel_rfl) (by kernel_rfl) (by kernel_rfl) (fun _ _ _ h => h) (Or.inl ⟨by rfl, ?_⟩) hHeld ?_
    rotate_left
    · (intro w' hSw; (try dsimp only at hSw); go_simp; (try with_reducible rfl))
    simp only [List.setIfInBounds_toArray, List.set_cons_zero, List.set_cons_succ]
    refine wpAnyD_takeP (i := 8) (oi := { dst := some 28, op := Op.binOp BinOp.add 3 (Operand.tmp 27) (Operand.const (Value.int IntKind.i64 1)) 3, type := 3, pos := "spine.go:48", after := #[{ on := 7, ground := Ground.data }], guard := none }) (d := 28) (v := ?_) rfl rfl (by kernel_rfl) (by kernel_rfl) (by kernel_rfl) (fun _ _ _ h => h) (Or.inl ⟨by rfl, ?_⟩) ?_
    rotate_left
    · (intro w' _; go_simp; (try with_reducible rfl))
    simp only [List.setIfInBounds_toArray, List.set_cons_zero, List.set_cons_succ]
    refine wpAnyD_takeP (i := 11) (oi := { dst := some 31, op := Op.nilCheck (Operand.tmp 20), type := 0, pos := "spine.go:48", after := #[{ on := 0, ground := Ground.data }, { on := 0, ground := Ground.phase }, { on := 1, ground := Ground.textOnly Departure.lateStores }, { on := 2, ground := Ground.phase }, { on := 3, ground := Ground.phase }, { on := 4, ground := Ground.phase }, { on := 5, ground := Ground.phase }, { on := 6, ground := Ground.phase }, { on := 7, ground := Ground.phase }, { on := 8, ground := Ground.phase }, { on := 9, ground := Ground.textOnly Departure.lateStores }, { on := 10, ground := Ground.textOnly Departure.lateStores }], guard := none }) (d := 31) (v := ?_) rfl rfl (by kernel_rfl) (by kernel_rfl) (by kernel_rfl) (fun _ _ _ h => h) (Or.inl ⟨by rfl, ?_⟩) ?_
    rotate_left
    · (intro w' _; go_simp; (try with_reducible rfl))
    simp only [List.setIfInBounds_toArray, List.set_cons_zero, List.set_cons_succ]
    refine wpAnyD_takeP (i := 12) (oi := { dst := some 32, op := Op.fieldAddr 121 (Operand.tmp 31) 2, type := 0, pos := "spine.go:48", after := #[{ on := 11, ground := Ground.data }, { on := 0, ground := Ground.phase }, { on := 1, ground := Ground.textOnly Departure.lateStores }, { on := 2, ground := Ground.phase }, { on := 3, ground := Ground.phase }, { on := 4, ground := Ground.phase }, { on := 5, ground := Ground.phase }, { on := 6, ground := Ground.phase }, { on := 7, ground := Ground.phase }, { on := 8, ground := Ground.phase }, { on := 9, ground := Ground.textOnly Departure.lateStores }, { on := 10, ground := Ground.textOnly Departure.lateStores }], guard := none }) (d := 32) (v := ?_) rfl rfl (by kernel_rfl) (by kernel_rfl) (by kernel_rfl) (fun _ _ _ h => h) (Or.inl ⟨by rfl, ?_⟩) ?_
    rotate_left
    · (intro w' _; go_simp; (try with_reducible rfl))
    simp only [List.setIfInBounds_toArray, List.set_cons_zero, List.set_cons_succ]
    refine wpAnyD_takeD (i := 10) (oi := { dst := some 30, op := Op.load 3 (Operand.tmp 29), type := 3, pos := "spine.go:48", after := #[{ on := 9, ground := Ground.data }, { on := 13, ground := Ground.gcOnly Departure.lateStores }], guard := none }) (d := 30) (v := ?_) rfl rfl (by kernel_rfl) (by kernel_rfl) (by kernel_rfl) (by kernel_rfl) (fun _ _ _ h => h) (Or.inl ⟨by rfl, ?_⟩) hHeld ?_
    rotate_left
    · (intro w' hSw; (try dsimp only at hSw); go_simp; (try with_reducible rfl))
    simp only [List.setIfInBounds_toArray, List.set_cons_zero, List.set_cons_succ]
    refine wpAnyD_one (i := 13) (o := { dst := none, op := Op.store 3 (Operand.tmp 32) (Operand.tmp 28), type := 0, pos := "spine.go:48", after := #[{ on := 12, ground := Ground.data }, { on := 8, ground := Ground.data }, { on := 0, ground := Ground.phase }, { on := 1, ground := Ground.textOnly Departure.lateStores }, { on := 2, ground := Ground.phase }, { on := 3, ground := Ground.phase }, { on := 4, ground := Ground.phase }, { on := 5, ground := Ground.phase }, { on := 6, ground := Ground.phase }, { on := 7, ground := Ground.phase }, { on := 8, ground := Ground.phase }, { on := 9, ground := Ground.textOnly Departure.lateStores }, { on := 10, ground := Ground.textOnly Departure.lateStores }], guard := none }) (by kernel_rfl) rfl (by rfl) (fun K hK => ?_)
    have z0 := blk_froz HBK.out 3; have d0 := blk_cell HBK.out 3; simp only [List.getElem?_toArray, List.getElem?_cons_zero, List.getElem?_cons_succ] at d0; go_simp; have hb4 := blk_set HBK.out 3 (.int .i64 (B + 1)); simp only [List.setIfInBounds_toArray, List.set_cons_zero, List.set_cons_succ] at hb4; have HBK4 := Lib.hid hb4; have HK4 := Lib.hid (HK0.out.setCell (p := ⟨wb, 3, none⟩) (.inl rfl) (.int .i64 (B + 1))); have hs0 := blk_cell HBK4.out 1; have hs1 := blk_cell (HK4.out.blk HN3.out HNE.out) 0; simp only [List.getElem?_toArray, List.getElem?_cons_zero, List.getElem?_cons_succ] at hs0 hs1; have h := And.intro hs0 hs1; clear z0 d0 hb4 hs0 hs1; generalize W3.setCell ⟨wb, 3, none⟩ (.int .i64 (B + 1)) = W4 at *
    refine hK.out _ _ h (fun hHeld => ?_)
    clear hK K
    try simp only [Act.put, List.setIfInBounds_toArray, List.set_cons_zero, List.set_cons_succ]
    refine wpAnyD_takeP (i := 14) (oi := { dst := some 33, op := Op.nilCheck (Operand.tmp 21), type := 0, pos := "spine.go:48", after := #[{ on := 1, ground := Ground.data }, { on := 0, ground := Ground.phase }, { on := 1, ground := Ground.phase }, { on := 2, ground := Ground.phase }, { on := 3, ground := Ground.phase }, { on := 4, ground := Ground.phase }, { on := 5, ground := Ground.phase }, { on := 6, ground := Ground.phase }, { on := 7, ground := Ground.phase }, { on := 8, ground := Ground.phase }, { on := 9, ground := Ground.phase }, { on := 10, ground := Ground.phase }, { on := 11, ground := Ground.phase }, { on := 12, ground := Ground.phase }, { on := 13, ground := Ground.phase }], guard := none }) (d := 33) (v := ?_) rfl rfl (by kernel_rfl) (by kernel_rfl) (by kernel_rfl) (fun _ _ _ h => h) (Or.inl ⟨by rfl, ?_⟩) ?_
    rotate_left
    · (intro w' _; go_simp; (try with_reducible rfl))
    simp only [List.setIfInBounds_toArray, List.set_cons_zero, List.set_cons_succ]
    refine wpAnyD_takeP (i := 15) (oi := { dst := some 34, op := Op.fieldAddr 121 (Operand.tmp 33) 0, type := 0, pos := "spine.go:48", after := #[{ on := 14, ground := Ground.data }, { on := 0, ground := Ground.phase }, { on := 1, ground := Ground.phase }, { on := 2, ground := Ground.phase }, { on := 3, ground := Ground.phase }, { on := 4, ground := Ground.phase }, { on := 5, ground := Ground.phase }, { on := 6, ground := Ground.phase }, { on := 7, ground := Ground.phase }, { on := 8, ground := Ground.phase }, { on := 9, ground := Ground.phase }, { on := 10, ground := Ground.phase }, { on := 11, ground := Ground.phase }, { on := 12, ground := Ground.phase }, { on := 13, ground := Ground.phase }], guard := none }) (d := 34) (v := ?_) rfl rfl (by kernel_rfl) (by kernel_rfl) (by kernel_rfl) (fun _ _ _ h => h) (Or.inl ⟨by rfl, ?_⟩) ?_
    rotate_left
    · (intro w' _; go_simp; (try with_reducible rfl))
    simp only [List.setIfInBounds_toArray, List.set_cons_zero, List.set_cons_succ]
    refine wpAnyD_takeP (i := 16) (oi := { dst := some 35, op := Op.fieldAddr 119 (Operand.tmp 34) 0, type := 0, pos := "spine.go:48", after := #[{ on := 15, ground := Ground.data }, { on := 0, ground := Ground.phase }, { on := 1, ground := Ground.phase }, { on := 2, ground := Ground.phase }, { on := 3, ground := Ground.phase }, { on := 4, ground := Ground.phase }, { on := 5, ground := Ground.phase }, { on := 6, ground := Ground.phase }, { on := 7, ground := Ground.phase }, { on := 8, ground := Ground.phase }, { on := 9, ground := Ground.phase }, { on := 10, ground := Ground.phase }, { on := 11, ground := Ground.phase }, { on := 12, ground := Ground.phase }, { on := 13, ground := Ground.phase }], guard := none }) (d := 35) (v := ?_) rfl rfl (by kernel_rfl) (by kernel_rfl) (by kernel_rfl) (fun _ _ _ h => h) (Or.inl ⟨by rfl, ?_⟩) ?_
    rotate_left
    · (intro w' _; go_simp; (try with_reducible rfl))
    simp only [List.setIfInBounds_toArray, List.set_cons_zero, List.set_cons_succ]
    refine wpAnyD_takeP (i := 17) (oi := { dst := some 36, op := Op.fieldAddr 55 (Operand.tmp 35) 1, type := 0, pos := "spine.go:48", after := #[{ on := 16, ground := Ground.data }, { on := 0, ground := Ground.phase }, { on := 1, ground := Ground.phase }, { on := 2, ground := Ground.phase }, { on := 3, ground := Ground.phase }, { on := 4, ground := Ground.phase }, { on := 5, ground := Ground.phase }, { on := 6, ground := Ground.phase }, { on := 7, ground := Ground.phase }, { on := 8, ground := Ground.phase }, { on := 9, ground := Ground.phase }, { on := 10, ground := Ground.phase }, { on := 11, ground := Ground.phase }, { on := 12, ground := Ground.phase }, { on := 13, ground := Ground.phase }], guard := none }) (d := 36) (v := ?_) rfl rfl (by kernel_rfl) (by kernel_rfl) (by kernel_rfl) (fun _ _ _ h => h) (Or.inl ⟨by rfl, ?_⟩) ?_
    rotate_left
    · (intro w' _; go_simp; (try with_reducible rfl))
    simp only [List.setIfInBounds_toArray, List.set_cons_zero, List.set_cons_succ]
    refine wpAnyD_last (D := 18) (by decide) (o := { dst := none, op := Op.store 3 (Operand.tmp 36) (Operand.tmp 30), type := 0, pos := "spine.go:48", after := #[{ on := 17, ground := Ground.data }, { on := 10, ground := Ground.data }, { on := 13, ground := Ground.chain }, { on := 0, ground := Ground.phase }, { on := 1, ground := Ground.phase }, { on := 2, ground := Ground.phase }, { on := 3, ground := Ground.phase }, { on := 4, ground := Ground.phase }, { on := 5, ground := Ground.phase }, { on := 6, ground := Ground.phase }, { on := 7, ground := Ground.phase }, { on := 8, ground := Ground.phase }, { on := 9, ground := Ground.phase }, { on := 10, ground := Ground.phase }, { on := 11, ground := Ground.phase }, { on := 12, ground := Ground.phase }, { on := 13, ground := Ground.phase }], guard := none }) (by kernel_rfl) rfl (by rfl) (fun K hK => ?_)
    have z0 := blk_froz HBK4.out 1; have d0 := blk_cell HBK4.out 1; simp only [List.getElem?_toArray, List.getElem?_cons_zero, List.getElem?_cons_succ] at d0; go_simp; have hb5 := blk_set HBK4.out 1 (.int .i64 q1); simp only [List.setIfInBounds_toArray, List.set_cons_zero, List.set_cons_succ] at hb5; have HBK5 := Lib.hid hb5; have HK5 := Lib.hid (HK4.out.setCell (p := ⟨wb, 1, none⟩) (.inl rfl) (.int .i64 q1)); clear z0 d0 hb5; generalize W4.setCell ⟨wb, 1, none⟩ (.int .i64 q1) = W5 at *
    refine hK.out _ _ ?_
    clear hK K
    try simp only [Act.put, List.setIfInBounds_toArray, List.set_cons_zero, List.set_cons_succ]
    refine wpAnyD_done (by kernel_rfl) ?_ _
    have z4 := blk_froz HBK5.out 4
    have d4 := blk_cell HBK5.out 4
    simp only [List.getElem?_toArray, List.getElem?_cons_zero, List.getElem?_cons_succ] at d4
    have ws : IntKind.i64.wrap (st + 1) = st + 1 := IntWalk.i64_in _ (by omega)
    go_upto_region 5 with fail
    clear ws z4 d4
    have hb6 := blk_set HBK5.out 4 (.int .i64 (st + 1))
    simp only [List.setIfInBounds_toArray, List.set_cons_zero, List.set_cons_succ] at hb6
    have hk6 := HK5.out.setCell (p := ⟨wb, 4, none⟩) (.inl rfl) (.int .i64 (st + 1))
    have HF : Hid (WalkIs (W5.setCell ⟨wb, 4, none⟩ (.int .i64 (st + 1))) base wb tbase tb T sv mb mp A q1 (B + 1) (st + 1) ∧ Below base w (W5.setCell ⟨wb, 4, none⟩ (.int .i64 (st + 1)))) := Lib.hid (by
      have hle := HH.out.le
      refine ⟨⟨hb6, HT.out.keep hk6 (fun x hx e => ?_), HH.out.tlt, hle⟩, HB1.out.trans (hk6.below ?_ (fun x hx => ?_))⟩
      · have := HH.out.tlt x hx; omega
      · exact Nat.le_trans (Nat.le_trans hle (Nat.le_of_lt (blk_lt HH.out.blk))) HB1.out.size
      · omega)
    clear hb6 hk6
    go_wp2_with fail
    go_ret
    exact ⟨rfl, HF.out.1, HF.out.2⟩
end
end Go.Proofs.YtbppaiejpgdbiaaGreat

/- Layer 14 (spine): a walk in memory: blocked, apart. -/
namespace Go.Proofs.YtbppaiejpgdbiaaGreat
open Go.RowKit Go.Maps Go.WideMaps
set_option maxRecDepth 100000
set_option linter.unusedVariables false
set_option linter.unusedSimpArgs false
section
variable {w w' : World} {base wb tbase tb : Nat} {T : List Ent} {sv : Value} {mb mp : Nat} {A B lim st : Int}
set_option maxHeartbeats 4000000 in
theorem blocked_any (h : WalkIs w base wb tbase tb T sv mb mp A B lim st) (ha : 0 ≤ A ∧ A < 100000) (hb : 0 ≤ B ∧ B < 100000) :
    Calls Tryz.prog 103 #[.pointer (some ⟨wb, 0, none⟩)] w fun e w' => e = .returned (.bool (pairB T lim A B).isSome) ∧ Below w.heap.size w w' := by
  have h0 := blk_cell h.blk 0
  have h1 := blk_cell h.blk 1
  have h2 := blk_cell h.blk 2
  have h3 := blk_cell h.blk 3
  simp only [List.getElem?_toArray, List.getElem?_cons_zero, List.getElem?_cons_succ] at h0 h1 h2 h3
  obtain ⟨r, b, hrb, hres⟩ : ∃ (r : Nat) (b : Bool), ((pairT T (A, B)).getD 0 = r ∧ (pairT T (A, B)).isSome = b) ∧ (pairB T lim A B).isSome = (b && decide ((r : Int) < lim)) := by
    refine ⟨_, _, ⟨rfl, rfl⟩, ?_⟩
    unfold pairB
    cases hp : pairT T (A, B) with
    | none => simp
    | some i => simp only [Option.bind_some, Option.getD_some, Option.isSome_some, Bool.true_and]; split <;> simp [*]
  rw [hres]
  have HRB := Lib.hid hrb
  have HT := Lib.hid h.tab.drew
  have HB0 : Hid (Below w.heap.size w w.drew) := Lib.hid ⟨rfl, rfl, rfl, Nat.le_refl _, fun _ _ => rfl⟩
  have WA := Lib.hid (wf_i64 (c := A) (by omega) (by omega))
  have WB := Lib.hid (wf_i64 (c := B) (by omega) (by omega))
  clear h ha hb hrb hres
  go_enter Tryz.func103, Tryz.ntmps103
  go_upto_region 1 with fail
  refine wp_region_held_drew (S := fun V => V.cell? ⟨wb, 0, none⟩ = some (.int .i64 A) ∧ V.cell? ⟨wb, 1, none⟩ = some (.int .i64 B) ∧ V.cell? ⟨wb, 2, none⟩ = some (.pointer (some ⟨tb, 0, none⟩)) ∧ V.cell? ⟨wb, 3, none⟩ = some (.int .i64 lim)) (by kernel_rfl) (by exact ⟨h0, h1, h2, h3⟩) (fun hHeld => ?_)
  refine wpAnyH_takeD (i := 0) (oi := { dst := some 6, op := Op.move (Operand.tmp 0), type := 116, pos := "spine.go:30", after := #[], guard := none }) (d := 6) (v := ?_) rfl rfl (by kernel_rfl) (by kernel_rfl) (by kernel_rfl) (fun _ _ _ h => h) (Or.inl ⟨by rfl, ?_⟩) hHeld ?_
  rotate_left
  · (intro w' hSw; (try dsimp only at hSw); go_simp; (try with_reducible rfl))
  simp only [List.setIfInBounds_toArray, List.set_cons_zero, List.set_cons_succ]
  refine wpAnyH_takeD (i := 1) (oi := { dst := some 7, op := Op.nilCheck (Operand.tmp 6), type := 0, pos := "spine.go:30", after := #[{ on := 0, ground := Ground.data }], guard := none }) (d := 7) (v := ?_) rfl rfl (by kernel_rfl) (by kernel_rfl) (by kernel_rfl) (fun _ _ _ h => h) (Or.inl ⟨by rfl, ?_⟩) hHeld ?_
  rotate_left
  · (intro w' hSw; (try dsimp only at hSw); go_simp; (try with_reducible rfl))
  simp only [List.setIfInBounds_toArray, List.set_cons_zero, List.set_cons_succ]
  refine wpAnyH_takeD (i := 2) (oi := { dst := some 8, op := Op.fieldAddr 121 (Operand.tmp 7) 1, type := 0, pos := "spine.go:30", after := #[{ on := 1, ground := Ground.data }], guard := none }) (d := 8) (v := ?_) rfl rfl (by kernel_rfl) (by kernel_rfl) (by kernel_rfl) (fun _ _ _ h => h) (Or.inl ⟨by rfl, ?_⟩) hHeld ?_
  rotate_left
  · (intro w' hSw; (try dsimp only at hSw); go_simp; (try with_reducible rfl))
  simp only [List.setIfInBounds_toArray, List.set_cons_zero, List.set_cons_succ]
  refine wpAnyH_takeD (i := 3) (oi := { dst := some 9, op := Op.load 63 (Operand.tmp 8), type := 63, pos := "spine.go:30", after := #[{ on := 2, ground := Ground.data }], guard := none }) (d := 9) (v := ?_) rfl rfl (by kernel_rfl) (by kernel_rfl) (by kernel_rfl) (fun _ _ _ h => h) (Or.inl ⟨by rfl, ?_⟩) hHeld ?_
  rotate_left
  · (intro w' hSw; (try dsimp only at hSw); go_simp; (try with_reducible rfl))
  simp only [List.setIfInBounds_toArray, List.set_cons_zero, List.set_cons_succ]
  refine wpAnyH_takeD (i := 4) (oi := { dst := some 10, op := Op.move (Operand.tmp 0), type := 116, pos := "spine.go:30", after := #[], guard := none }) (d := 10) (v := ?_) rfl rfl (by kernel_rfl) (by kernel_rfl) (by kernel_rfl) (fun _ _ _ h => h) (Or.inl ⟨by rfl, ?_⟩) hHeld ?_
  rotate_left
  · (intro w' hSw; (try dsimp only at hSw); go_simp; (try with_reducible rfl))
  simp only [List.setIfInBounds_toArray, List.set_cons_zero, List.set_cons_succ]
  refine wpAnyH_takeD (i := 5) (oi := { dst := some 11, op := Op.nilCheck (Operand.tmp 10), type := 0, pos := "spine.go:30", after := #[{ on := 4, ground := Ground.data }], guard := none }) (d := 11) (v := ?_) rfl rfl (by kernel_rfl) (by kernel_rfl) (by kernel_rfl) (fun _ _ _ h => h) (Or.inl ⟨by rfl, ?_⟩) hHeld ?_
  rotate_left
  · (intro w' hSw; (try dsimp only at hSw); go_simp; (try with_reducible rfl))
  simp only [List.setIfInBounds_toArray, List.set_cons_zero, List.set_cons_succ]
  refine wpAnyH_takeD (i := 6) (oi := { dst := some 12, op := Op.fieldAddr 121 (Operand.tmp 11) 0, type := 0, pos := "spine.go:30", after := #[{ on := 5, ground := Ground.data }], guard := none }) (d := 12) (v := ?_) rfl rfl (by kernel_rfl) (by kernel_rfl) (by kernel_rfl) (fun _ _ _ h => h) (Or.inl ⟨by rfl, ?_⟩) hHeld ?_
  rotate_left
  · (intro w' hSw; (try dsimp only at hSw); go_simp; (try with_reducible rfl))
  simp only [List.setIfInBounds_toArray, List.set_cons_zero, List.set_cons_succ]
  refine wpAnyH_takeD (i := 7) (oi := { dst := some 13, op := Op.fieldAddr 119 (Operand.tmp 12) 0, type := 0, pos := "spine.go:30", after := #[{ on := 6, ground := Ground.data }], guard := none }) (d := 13) (v := ?_) rfl rfl (by kernel_rfl) (by kernel_rfl) (by kernel_rfl) (fun _ _ _ h => h) (Or.inl ⟨by rfl, ?_⟩) hHeld ?_
  rotate_left
  · (intro w' hSw; (try dsimp only at hSw); go_simp; (try with_reducible rfl))
  simp only [List.setIfInBounds_toArray, List.set_cons_zero, List.set_cons_succ]
  refine wpAnyH_takeD (i := 8) (oi := { dst := some 14, op := Op.fieldAddr 55 (Operand.tmp 13) 0, type := 0, pos := "spine.go:30", after := #[{ on := 7, ground := Ground.data }], guard := none }) (d := 14) (v := ?_) rfl rfl (by kernel_rfl) (by kernel_rfl) (by kernel_rfl) (fun _ _ _ h => h) (Or.inl ⟨by rfl, ?_⟩) hHeld ?_
  rotate_left
  · (intro w' hSw; (try dsimp only at hSw); go_simp; (try with_reducible rfl))
  simp only [List.setIfInBounds_toArray, List.set_cons_zero, List.set_cons_succ]
  refine wpAnyH_takeD (i := 9) (oi := { dst := some 15, op := Op.load 3 (Operand.tmp 14), type := 3, pos := "spine.go:30", after := #[{ on := 8, ground := Ground.data }], guard := none }) (d := 15) (v := ?_) rfl rfl (by kernel_rfl) (by kernel_rfl) (by kernel_rfl) (fun _ _ _ h => h) (Or.inl ⟨by rfl, ?_⟩) hHeld ?_
  rotate_left
  · (intro w' hSw; (try dsimp only at hSw); go_simp; (try with_reducible rfl))
  simp only [List.setIfInBounds_toArray, List.set_cons_zero, List.set_cons_succ]
  refine wpAnyH_takeD (i := 10) (oi := { dst := some 16, op := Op.move (Operand.tmp 0), type := 116, pos := "spine.go:30", after := #[], guard := none }) (d := 16) (v := ?_) rfl rfl (by kernel_rfl) (by kernel_rfl) (by kernel_rfl) (fun _ _ _ h => h) (Or.inl ⟨by rfl, ?_⟩) hHeld ?_
  rotate_left
  · (intro w' hSw; (try dsimp only at hSw); go_simp; (try with_reducible rfl))
  simp only [List.setIfInBounds_toArray, List.set_cons_zero, List.set_cons_succ]
  refine wpAnyH_takeD (i := 11) (oi := { dst := some 17, op := Op.nilCheck (Operand.tmp 16), type := 0, pos := "spine.go:30", after := #[{ on := 10, ground := Ground.data }], guard := none }) (d := 17) (v := ?_) rfl rfl (by kernel_rfl) (by kernel_rfl) (by kernel_rfl) (fun _ _ _ h => h) (Or.inl ⟨by rfl, ?_⟩) hHeld ?_
  rotate_left
  · (intro w' hSw; (try dsimp only at hSw); go_simp; (try with_reducible rfl))
  simp only [List.setIfInBounds_toArray, List.set_cons_zero, List.set_cons_succ]
  refine wpAnyH_takeD (i := 12) (oi := { dst := some 18, op := Op.fieldAddr 121 (Operand.tmp 17) 0, type := 0, pos := "spine.go:30", after := #[{ on := 11, ground := Ground.data }], guard := none }) (d := 18) (v := ?_) rfl rfl (by kernel_rfl) (by kernel_rfl) (by kernel_rfl) (fun _ _ _ h => h) (Or.inl ⟨by rfl, ?_⟩) hHeld ?_
  rotate_left
  · (intro w' hSw; (try dsimp only at hSw); go_simp; (try with_reducible rfl))
  simp only [List.setIfInBounds_toArray, List.set_cons_zero, List.set_cons_succ]
  refine wpAnyH_takeD (i := 13) (oi := { dst := some 19, op := Op.fieldAddr 119 (Operand.tmp 18) 0, type := 0, pos := "spine.go:30", after := #[{ on := 12, ground := Ground.data }], guard := none }) (d := 19) (v := ?_) rfl rfl (by kernel_rfl) (by kernel_rfl) (by kernel_rfl) (fun _ _ _ h => h) (Or.inl ⟨by rfl, ?_⟩) hHeld ?_
  rotate_left
  · (intro w' hSw; (try dsimp only at hSw); go_simp; (try with_reducible rfl))
  simp only [List.setIfInBounds_toArray, List.set_cons_zero, List.set_cons_succ]
  refine wpAnyH_takeD (i := 14) (oi := { dst := some 20, op := Op.fieldAddr 55 (Operand.tmp 19) 1, type := 0, pos := "spine.go:30", after := #[{ on := 13, ground := Ground.data }], guard := none }) (d := 20) (v := ?_) rfl rfl (by kernel_rfl) (by kernel_rfl) (by kernel_rfl) (fun _ _ _ h => h) (Or.inl ⟨by rfl, ?_⟩) hHeld ?_
  rotate_left
  · (intro w' hSw; (try dsimp only at hSw); go_simp; (try with_reducible rfl))
  simp only [List.setIfInBounds_toArray, List.set_cons_zero, List.set_cons_succ]
  refine wpAnyH_takeD (i := 15) (oi := { dst := some 21, op := Op.load 3 (Operand.tmp 20), type := 3, pos := "spine.go:30", after := #[{ on := 14, ground := Ground.data }], guard := none }) (d := 21) (v := ?_) rfl rfl (by kernel_rfl) (by kernel_rfl) (by kernel_rfl) (fun _ _ _ h => h) (Or.inl ⟨by rfl, ?_⟩) hHeld ?_
  rotate_left
  · (intro w' hSw; (try dsimp only at hSw); go_simp; (try with_reducible rfl))
  simp only [List.setIfInBounds_toArray, List.set_cons_zero, List.set_cons_succ]
  refine wpAnyH_ready (rs := [16]) (by kernel_rfl) (by simp) ?_
  refine AllReadyH.cons (o := { dst := some 22, op := Op.call { callee := Callee.value (Operand.func 138), args := #[Operand.tmp 9, Operand.tmp 15, Operand.tmp 21], argTypes := #[63, 3, 3] }, type := 69, pos := "spine.go:30", after := #[{ on := 3, ground := Ground.data }, { on := 9, ground := Ground.data }, { on := 15, ground := Ground.data }], guard := none }) rfl (fun K hK => ?_) AllReadyH.nil
  (try go_simp)
  refine (pair_tab A B WA.out WB.out HT.out).mono ?_; rintro e V1 ⟨rfl, rfl⟩; rw [HRB.out.1, HRB.out.2]; have h := hHeld; go_simp
  go_wp2_with fail
  refine hK.out _ _ h (fun hHeld => ?_)
  clear hK K
  try simp only [Act.put, List.setIfInBounds_toArray, List.set_cons_zero, List.set_cons_succ]
  refine wpAnyH_takeD (i := 17) (oi := { dst := some 5, op := Op.move (Operand.tmp 22), type := 69, pos := "spine.go:30", after := #[{ on := 16, ground := Ground.data }], guard := none }) (d := 5) (v := ?_) rfl rfl (by kernel_rfl) (by kernel_rfl) (by kernel_rfl) (fun _ _ _ h => h) (Or.inl ⟨by rfl, ?_⟩) hHeld ?_
  rotate_left
  · (intro w' hSw; (try dsimp only at hSw); go_simp; (try with_reducible rfl))
  simp only [List.setIfInBounds_toArray, List.set_cons_zero, List.set_cons_succ]
  refine wpAnyH_takeD (i := 18) (oi := { dst := some 23, op := Op.extract (Operand.tmp 5) 0, type := 3, pos := "spine.go:30", after := #[{ on := 17, ground := Ground.data }], guard := none }) (d := 23) (v := ?_) rfl rfl (by kernel_rfl) (by kernel_rfl) (by kernel_rfl) (fun _ _ _ h => h) (Or.inl ⟨by rfl, ?_⟩) hHeld ?_
  rotate_left
  · (intro w' hSw; (try dsimp only at hSw); go_simp; (try with_reducible rfl))
  simp only [List.setIfInBounds_toArray, List.set_cons_zero, List.set_cons_succ]
  refine wpAnyH_takeD (i := 19) (oi := { dst := some 24, op := Op.extract (Operand.tmp 5) 1, type := 4, pos := "spine.go:30", after := #[{ on := 17, ground := Ground.data }, { on := 20, ground := Ground.gcOnly Departure.lateStores }], guard := none }) (d := 24) (v := ?_) rfl rfl (by kernel_rfl) (by kernel_rfl) (by kernel_rfl) (fun _ _ _ h => h) (Or.inl ⟨by rfl, ?_⟩) hHeld ?_
  rotate_left
  · (intro w' hSw; (try dsimp only at hSw); go_simp; (try with_reducible rfl))
  simp only [List.setIfInBounds_toArray, List.set_cons_zero, List.set_cons_succ]
  refine wpAnyH_takeD (i := 20) (oi := { dst := some 3, op := Op.assign (Operand.tmp 23), type := 3, pos := "spine.go:30", after := #[{ on := 18, ground := Ground.data }, { on := 16, ground := Ground.chain }, { on := 0, ground := Ground.phase }, { on := 1, ground := Ground.phase }, { on := 2, ground := Ground.phase }, { on := 3, ground := Ground.phase }, { on := 4, ground := Ground.phase }, { on := 5, ground := Ground.phase }, { on := 6, ground := Ground.phase }, { on := 7, ground := Ground.phase }, { on := 8, ground := Ground.phase }, { on := 9, ground := Ground.phase }, { on := 10, ground := Ground.phase }, { on := 11, ground := Ground.phase }, { on := 12, ground := Ground.phase }, { on := 13, ground := Ground.phase }, { on := 14, ground := Ground.phase }, { on := 15, ground := Ground.phase }, { on := 16, ground := Ground.phase }, { on := 17, ground := Ground.phase }, { on := 18, ground := Ground.phase }, { on := 19, ground := Ground.textOnly Departure.lateStores }], guard := none }) (d := 3) (v := ?_) rfl rfl (by kernel_rfl) (by kernel_rfl) (by kernel_rfl) (fun _ _ _ h => h) (Or.inl ⟨by rfl, ?_⟩) hHeld ?_
  rotate_left
  · (intro w' hSw; (try dsimp only at hSw); go_simp; (try with_reducible rfl))
  simp only [List.setIfInBounds_toArray, List.set_cons_zero, List.set_cons_succ]
  refine wpAnyH_takeD (i := 21) (oi := { dst := some 4, op := Op.assign (Operand.tmp 24), type := 4, pos := "spine.go:30", after := #[{ on := 19, ground := Ground.data }, { on := 20, ground := Ground.chain }, { on := 0, ground := Ground.phase }, { on := 1, ground := Ground.phase }, { on := 2, ground := Ground.phase }, { on := 3, ground := Ground.phase }, { on := 4, ground := Ground.phase }, { on := 5, ground := Ground.phase }, { on := 6, ground := Ground.phase }, { on := 7, ground := Ground.phase }, { on := 8, ground := Ground.phase }, { on := 9, ground := Ground.phase }, { on := 10, ground := Ground.phase }, { on := 11, ground := Ground.phase }, { on := 12, ground := Ground.phase }, { on := 13, ground := Ground.phase }, { on := 14, ground := Ground.phase }, { on := 15, ground := Ground.phase }, { on := 16, ground := Ground.phase }, { on := 17, ground := Ground.phase }, { on := 18, ground := Ground.phase }, { on := 19, ground := Ground.phase }, { on := 20, ground := Ground.phase }], guard := none }) (d := 4) (v := ?_) rfl rfl (by kernel_rfl) (by kernel_rfl) (by kernel_rfl) (fun _ _ _ h => h) (Or.inl ⟨by rfl, ?_⟩) hHeld ?_
  rotate_left
  · (intro w' hSw; (try dsimp only at hSw); go_simp; (try with_reducible rfl))
  simp only [List.setIfInBounds_toArray, List.set_cons_zero, List.set_cons_succ]
  refine wpAnyH_done (by kernel_rfl) ?_ _
  rcases b with _ | _
  · go_wp2_with fail
    go_ret
    exact ⟨rfl, HB0.out⟩
  · go_wp2_with fail
    go_ret
    exact ⟨rfl, HB0.out⟩
set_option maxHeartbeats 4000000 in
theorem apart_l (h : WalkIs w base wb tbase tb T sv mb mp A B lim st) (hc : B < A) (hA : bornT T A = true) (hx : 0 ≤ A ∧ A < 100000) (hst : 0 ≤ st ∧ st < 1000000000) :
    Calls Tryz.prog 104 #[.pointer (some ⟨wb, 0, none⟩)] w fun e w' => e = .returned (.bool true) ∧ WalkIs w' base wb tbase tb T sv mb mp (parT T A).2 B A (st + 1) ∧ Below base w w' := by
  have h0 := blk_cell h.blk 0
  have h1 := blk_cell h.blk 1
  simp only [List.getElem?_toArray, List.getElem?_cons_zero, List.getElem?_cons_succ] at h0 h1
  have HB0 : Hid (Below w.heap.size w w.drew) := Lib.hid ⟨rfl, rfl, rfl, Nat.le_refl _, fun _ _ => rfl⟩
  have HD := Lib.hid (h.below HB0.out (Nat.le_refl _))
  have HE := Lib.hid (Nat.le_trans h.le (Nat.le_of_lt (blk_lt h.blk)))
  have HNA := Lib.hid hA
  
  have hc' := hc
  clear h hA 
  go_enter Tryz.func104, Tryz.ntmps104
  go_upto_region 1 with fail
  refine wp_region_held_drew (S := fun V => V.cell? ⟨wb, 0, none⟩ = some (.int .i64 A) ∧ V.cell? ⟨wb, 1, none⟩ = some (.int .i64 B)) (by kernel_rfl) (by exact ⟨h0, h1⟩) (fun hHeld => ?_)
  refine wpAnyH_takeD (i := 0) (oi := { dst := some 3, op := Op.move (Operand.tmp 0), type := 116, pos := "spine.go:56", after := #[], guard := none }) (d := 3) (v := ?_) rfl rfl (by kernel_rfl) (by kernel_rfl) (by kernel_rfl) (fun _ _ _ h => h) (Or.inl ⟨by rfl, ?_⟩) hHeld ?_
  rotate_left
  · (intro w' hSw; (try dsimp only at hSw); go_simp; (try with_reducible rfl))
  simp only [List.setIfInBounds_toArray, List.set_cons_zero, List.set_cons_succ]
  refine wpAnyH_takeD (i := 1) (oi := { dst := some 4, op := Op.nilCheck (Operand.tmp 3), type := 0, pos := "spine.go:56", after := #[{ on := 0, ground := Ground.data }], guard := none }) (d := 4) (v := ?_) rfl rfl (by kernel_rfl) (by kernel_rfl) (by kernel_rfl) (fun _ _ _ h => h) (Or.inl ⟨by rfl, ?_⟩) hHeld ?_
  rotate_left
  · (intro w' hSw; (try dsimp only at hSw); go_simp; (try with_reducible rfl))
  simp only [List.setIfInBounds_toArray, List.set_cons_zero, List.set_cons_succ]
  refine wpAnyH_takeD (i := 2) (oi := { dst := some 5, op := Op.fieldAddr 121 (Operand.tmp 4) 0, type := 0, pos := "spine.go:56", after := #[{ on := 1, ground := Ground.data }], guard := none }) (d := 5) (v := ?_) rfl rfl (by kernel_rfl) (by kernel_rfl) (by kernel_rfl) (fun _ _ _ h => h) (Or.inl ⟨by rfl, ?_⟩) hHeld ?_
  rotate_left
  · (intro w' hSw; (try dsimp only at hSw); go_simp; (try with_reducible rfl))
  simp only [List.setIfInBounds_toArray, List.set_cons_zero, List.set_cons_succ]
  refine wpAnyH_takeD (i := 3) (oi := { dst := some 6, op := Op.fieldAddr 119 (Operand.tmp 5) 0, type := 0, pos := "spine.go:56", after := #[{ on := 2, ground := Ground.data }], guard := none }) (d := 6) (v := ?_) rfl rfl (by kernel_rfl) (by kernel_rfl) (by kernel_rfl) (fun _ _ _ h => h) (Or.inl ⟨by rfl, ?_⟩) hHeld ?_
  rotate_left
  · (intro w' hSw; (try dsimp only at hSw); go_simp; (try with_reducible rfl))
  simp only [List.setIfInBounds_toArray, List.set_cons_zero, List.set_cons_succ]
  refine wpAnyH_takeD (i := 4) (oi := { dst := some 7, op := Op.fieldAddr 55 (Operand.tmp 6) 0, type := 0, pos := "spine.go:56", after := #[{ on := 3, ground := Ground.data }], guard := none }) (d := 7) (v := ?_) rfl rfl (by kernel_rfl) (by kernel_rfl) (by kernel_rfl) (fun _ _ _ h => h) (Or.inl ⟨by rfl, ?_⟩) hHeld ?_
  rotate_left
  · (intro w' hSw; (try dsimp only at hSw); go_simp; (try with_reducible rfl))
  simp only [List.setIfInBounds_toArray, List.set_cons_zero, List.set_cons_succ]
  refine wpAnyH_takeD (i := 5) (oi := { dst := some 8, op := Op.load 3 (Operand.tmp 7), type := 3, pos := "spine.go:56", after := #[{ on := 4, ground := Ground.data }], guard := none }) (d := 8) (v := ?_) rfl rfl (by kernel_rfl) (by kernel_rfl) (by kernel_rfl) (fun _ _ _ h => h) (Or.inl ⟨by rfl, ?_⟩) hHeld ?_
  rotate_left
  · (intro w' hSw; (try dsimp only at hSw); go_simp; (try with_reducible rfl))
  simp only [List.setIfInBounds_toArray, List.set_cons_zero, List.set_cons_succ]
  refine wpAnyH_takeD (i := 6) (oi := { dst := some 9, op := Op.move (Operand.tmp 0), type := 116, pos := "spine.go:56", after := #[], guard := none }) (d := 9) (v := ?_) rfl rfl (by kernel_rfl) (by kernel_rfl) (by kernel_rfl) (fun _ _ _ h => h) (Or.inl ⟨by rfl, ?_⟩) hHeld ?_
  rotate_left
  · (intro w' hSw; (try dsimp only at hSw); go_simp; (try with_reducible rfl))
  simp only [List.setIfInBounds_toArray, List.set_cons_zero, List.set_cons_succ]
  refine wpAnyH_takeD (i := 7) (oi := { dst := some 10, op := Op.nilCheck (Operand.tmp 9), type := 0, pos := "spine.go:56", after := #[{ on := 6, ground := Ground.data }], guard := none }) (d := 10) (v := ?_) rfl rfl (by kernel_rfl) (by kernel_rfl) (by kernel_rfl) (fun _ _ _ h => h) (Or.inl ⟨by rfl, ?_⟩) hHeld ?_
  rotate_left
  · (intro w' hSw; (try dsimp only at hSw); go_simp; (try with_reducible rfl))
  simp only [List.setIfInBounds_toArray, List.set_cons_zero, List.set_cons_succ]
  refine wpAnyH_takeD (i := 8) (oi := { dst := some 11, op := Op.fieldAddr 121 (Operand.tmp 10) 0, type := 0, pos := "spine.go:56", after := #[{ on := 7, ground := Ground.data }], guard := none }) (d := 11) (v := ?_) rfl rfl (by kernel_rfl) (by kernel_rfl) (by kernel_rfl) (fun _ _ _ h => h) (Or.inl ⟨by rfl, ?_⟩) hHeld ?_
  rotate_left
  · (intro w' hSw; (try dsimp only at hSw); go_simp; (try with_reducible rfl))
  simp only [List.setIfInBounds_toArray, List.set_cons_zero, List.set_cons_succ]
  refine wpAnyH_takeD (i := 9) (oi := { dst := some 12, op := Op.fieldAddr 119 (Operand.tmp 11) 0, type := 0, pos := "spine.go:56", after := #[{ on := 8, ground := Ground.data }], guard := none }) (d := 12) (v := ?_) rfl rfl (by kernel_rfl) (by kernel_rfl) (by kernel_rfl) (fun _ _ _ h => h) (Or.inl ⟨by rfl, ?_⟩) hHeld ?_
  rotate_left
  · (intro w' hSw; (try dsimp only at hSw); go_simp; (try with_reducible rfl))
  simp only [List.setIfInBounds_toArray, List.set_cons_zero, List.set_cons_succ]
  refine wpAnyH_takeD (i := 10) (oi := { dst := some 13, op := Op.fieldAddr 55 (Operand.tmp 12) 1, type := 0, pos := "spine.go:56", after := #[{ on := 9, ground := Ground.data }], guard := none }) (d := 13) (v := ?_) rfl rfl (by kernel_rfl) (by kernel_rfl) (by kernel_rfl) (fun _ _ _ h => h) (Or.inl ⟨by rfl, ?_⟩) hHeld ?_
  rotate_left
  · (intro w' hSw; (try dsimp only at hSw); go_simp; (try with_reducible rfl))
  simp only [List.setIfInBounds_toArray, List.set_cons_zero, List.set_cons_succ]
  refine wpAnyH_takeD (i := 11) (oi := { dst := some 14, op := Op.load 3 (Operand.tmp 13), type := 3, pos := "spine.go:56", after := #[{ on := 10, ground := Ground.data }], guard := none }) (d := 14) (v := ?_) rfl rfl (by kernel_rfl) (by kernel_rfl) (by kernel_rfl) (fun _ _ _ h => h) (Or.inl ⟨by rfl, ?_⟩) hHeld ?_
  rotate_left
  · (intro w' hSw; (try dsimp only at hSw); go_simp; (try with_reducible rfl))
  simp only [List.setIfInBounds_toArray, List.set_cons_zero, List.set_cons_succ]
  refine wpAnyH_takeD (i := 12) (oi := { dst := some 15, op := Op.binOp BinOp.gtr 3 (Operand.tmp 8) (Operand.tmp 14) 3, type := 4, pos := "spine.go:56", after := #[{ on := 5, ground := Ground.data }, { on := 11, ground := Ground.data }], guard := none }) (d := 15) (v := ?_) rfl rfl (by kernel_rfl) (by kernel_rfl) (by kernel_rfl) (fun _ _ _ h => h) (Or.inl ⟨by rfl, ?_⟩) hHeld ?_
  rotate_left
  · (intro w' hSw; (try dsimp only at hSw); go_simp; (try with_reducible rfl))
  simp only [List.setIfInBounds_toArray, List.set_cons_zero, List.set_cons_succ]
  refine wpAnyH_done (by kernel_rfl) ?_ _
  clear hHeld h0 h1
  generalize w.drew = W0 at *
  go_wp2_with ((refine (left_yes HD.out HNA.out hx hst).mono ?_); (rintro e V1 ⟨rfl, hw, hb⟩); (have HW := Lib.hid hw); (have HB1 := Lib.hid ((HB0.out.mono HE.out).trans hb)); (clear hw hb))
  go_ret
  exact ⟨rfl, HW.out, HB1.out⟩
set_option maxHeartbeats 4000000 in
theorem apart_r (h : WalkIs w base wb tbase tb T sv mb mp A B lim st) (hc : A ≤ B) (hB : bornT T B = true) (hx : 0 ≤ B ∧ B < 100000) (hst : 0 ≤ st ∧ st < 1000000000) :
    Calls Tryz.prog 104 #[.pointer (some ⟨wb, 0, none⟩)] w fun e w' => e = .returned (.bool true) ∧ WalkIs w' base wb tbase tb T sv mb mp A (parT T B).1 (B + 1) (st + 1) ∧ Below base w w' := by
  have h0 := blk_cell h.blk 0
  have h1 := blk_cell h.blk 1
  simp only [List.getElem?_toArray, List.getElem?_cons_zero, List.getElem?_cons_succ] at h0 h1
  have HB0 : Hid (Below w.heap.size w w.drew) := Lib.hid ⟨rfl, rfl, rfl, Nat.le_refl _, fun _ _ => rfl⟩
  have HD := Lib.hid (h.below HB0.out (Nat.le_refl _))
  have HE := Lib.hid (Nat.le_trans h.le (Nat.le_of_lt (blk_lt h.blk)))
  
  have HNB := Lib.hid hB
  have hc' := hc
  clear h  hB
  go_enter Tryz.func104, Tryz.ntmps104
  go_upto_region 1 with fail
  refine wp_region_held_drew (S := fun V => V.cell? ⟨wb, 0, none⟩ = some (.int .i64 A) ∧ V.cell? ⟨wb, 1, none⟩ = some (.int .i64 B)) (by kernel_rfl) (by exact ⟨h0, h1⟩) (fun hHeld => ?_)
  refine wpAnyH_takeD (i := 0) (oi := { dst := some 3, op := Op.move (Operand.tmp 0), type := 116, pos := "spine.go:56", after := #[], guard := none }) (d := 3) (v := ?_) rfl rfl (by kernel_rfl) (by kernel_rfl) (by kernel_rfl) (fun _ _ _ h => h) (Or.inl ⟨by rfl, ?_⟩) hHeld ?_
  rotate_left
  · (intro w' hSw; (try dsimp only at hSw); go_simp; (try with_reducible rfl))
  simp only [List.setIfInBounds_toArray, List.set_cons_zero, List.set_cons_succ]
  refine wpAnyH_takeD (i := 1) (oi := { dst := some 4, op := Op.nilCheck (Operand.tmp 3), type := 0, pos := "spine.go:56", after := #[{ on := 0, ground := Ground.data }], guard := none }) (d := 4) (v := ?_) rfl rfl (by kernel_rfl) (by kernel_rfl) (by kernel_rfl) (fun _ _ _ h => h) (Or.inl ⟨by rfl, ?_⟩) hHeld ?_
  rotate_left
  · (intro w' hSw; (try dsimp only at hSw); go_simp; (try with_reducible rfl))
  simp only [List.setIfInBounds_toArray, List.set_cons_zero, List.set_cons_succ]
  refine wpAnyH_takeD (i := 2) (oi := { dst := some 5, op := Op.fieldAddr 121 (Operand.tmp 4) 0, type := 0, pos := "spine.go:56", after := #[{ on := 1, ground := Ground.data }], guard := none }) (d := 5) (v := ?_) rfl rfl (by kernel_rfl) (by kernel_rfl) (by kernel_rfl) (fun _ _ _ h => h) (Or.inl ⟨by rfl, ?_⟩) hHeld ?_
  rotate_left
  · (intro w' hSw; (try dsimp only at hSw); go_simp; (try with_reducible rfl))
  simp only [List.setIfInBounds_toArray, List.set_cons_zero, List.set_cons_succ]
  refine wpAnyH_takeD (i := 3) (oi := { dst := some 6, op := Op.fieldAddr 119 (Operand.tmp 5) 0, type := 0, pos := "spine.go:56", after := #[{ on := 2, ground := Ground.data }], guard := none }) (d := 6) (v := ?_) rfl rfl (by kernel_rfl) (by kernel_rfl) (by kernel_rfl) (fun _ _ _ h => h) (Or.inl ⟨by rfl, ?_⟩) hHeld ?_
  rotate_left
  · (intro w' hSw; (try dsimp only at hSw); go_simp; (try with_reducible rfl))
  simp only [List.setIfInBounds_toArray, List.set_cons_zero, List.set_cons_succ]
  refine wpAnyH_takeD (i := 4) (oi := { dst := some 7, op := Op.fieldAddr 55 (Operand.tmp 6) 0, type := 0, pos := "spine.go:56", after := #[{ on := 3, ground := Ground.data }], guard := none }) (d := 7) (v := ?_) rfl rfl (by kernel_rfl) (by kernel_rfl) (by kernel_rfl) (fun _ _ _ h => h) (Or.inl ⟨by rfl, ?_⟩) hHeld ?_
  rotate_left
  · (intro w' hSw; (try dsimp only at hSw); go_simp; (try with_reducible rfl))
  simp only [List.setIfInBounds_toArray, List.set_cons_zero, List.set_cons_succ]
  refine wpAnyH_takeD (i := 5) (oi := { dst := some 8, op := Op.load 3 (Operand.tmp 7), type := 3, pos := "spine.go:56", after := #[{ on := 4, ground := Ground.data }], guard := none }) (d := 8) (v := ?_) rfl rfl (by kernel_rfl) (by kernel_rfl) (by kernel_rfl) (fun _ _ _ h => h) (Or.inl ⟨by rfl, ?_⟩) hHeld ?_
  rotate_left
  · (intro w' hSw; (try dsimp only at hSw); go_simp; (try with_reducible rfl))
  simp only [List.setIfInBounds_toArray, List.set_cons_zero, List.set_cons_succ]
  refine wpAnyH_takeD (i := 6) (oi := { dst := some 9, op := Op.move (Operand.tmp 0), type := 116, pos := "spine.go:56", after := #[], guard := none }) (d := 9) (v := ?_) rfl rfl (by kernel_rfl) (by kernel_rfl) (by kernel_rfl) (fun _ _ _ h => h) (Or.inl ⟨by rfl, ?_⟩) hHeld ?_
  rotate_left
  · (intro w' hSw; (try dsimp only at hSw); go_simp; (try with_reducible rfl))
  simp only [List.setIfInBounds_toArray, List.set_cons_zero, List.set_cons_succ]
  refine wpAnyH_takeD (i := 7) (oi := { dst := some 10, op := Op.nilCheck (Operand.tmp 9), type := 0, pos := "spine.go:56", after := #[{ on := 6, ground := Ground.data }], guard := none }) (d := 10) (v := ?_) rfl rfl (by kernel_rfl) (by kernel_rfl) (by kernel_rfl) (fun _ _ _ h => h) (Or.inl ⟨by rfl, ?_⟩) hHeld ?_
  rotate_left
  · (intro w' hSw; (try dsimp only at hSw); go_simp; (try with_reducible rfl))
  simp only [List.setIfInBounds_toArray, List.set_cons_zero, List.set_cons_succ]
  refine wpAnyH_takeD (i := 8) (oi := { dst := some 11, op := Op.fieldAddr 121 (Operand.tmp 10) 0, type := 0, pos := "spine.go:56", after := #[{ on := 7, ground := Ground.data }], guard := none }) (d := 11) (v := ?_) rfl rfl (by kernel_rfl) (by kernel_rfl) (by kernel_rfl) (fun _ _ _ h => h) (Or.inl ⟨by rfl, ?_⟩) hHeld ?_
  rotate_left
  · (intro w' hSw; (try dsimp only at hSw); go_simp; (try with_reducible rfl))
  simp only [List.setIfInBounds_toArray, List.set_cons_zero, List.set_cons_succ]
  refine wpAnyH_takeD (i := 9) (oi := { dst := some 12, op := Op.fieldAddr 119 (Operand.tmp 11) 0, type := 0, pos := "spine.go:56", after := #[{ on := 8, ground := Ground.data }], guard := none }) (d := 12) (v := ?_) rfl rfl (by kernel_rfl) (by kernel_rfl) (by kernel_rfl) (fun _ _ _ h => h) (Or.inl ⟨by rfl, ?_⟩) hHeld ?_
  rotate_left
  · (intro w' hSw; (try dsimp only at hSw); go_simp; (try with_reducible rfl))
  simp only [List.setIfInBounds_toArray, List.set_cons_zero, List.set_cons_succ]
  refine wpAnyH_takeD (i := 10) (oi := { dst := some 13, op := Op.fieldAddr 55 (Operand.tmp 12) 1, type := 0, pos := "spine.go:56", after := #[{ on := 9, ground := Ground.data }], guard := none }) (d := 13) (v := ?_) rfl rfl (by kernel_rfl) (by kernel_rfl) (by kernel_rfl) (fun _ _ _ h => h) (Or.inl ⟨by rfl, ?_⟩) hHeld ?_
  rotate_left
  · (intro w' hSw; (try dsimp only at hSw); go_simp; (try with_reducible rfl))
  simp only [List.setIfInBounds_toArray, List.set_cons_zero, List.set_cons_succ]
  refine wpAnyH_takeD (i := 11) (oi := { dst := some 14, op := Op.load 3 (Operand.tmp 13), type := 3, pos := "spine.go:56", after := #[{ on := 10, ground := Ground.data }], guard := none }) (d := 14) (v := ?_) rfl rfl (by kernel_rfl) (by kernel_rfl) (by kernel_rfl) (fun _ _ _ h => h) (Or.inl ⟨by rfl, ?_⟩) hHeld ?_
  rotate_left
  · (intro w' hSw; (try dsimp only at hSw); go_simp; (try with_reducible rfl))
  simp only [List.setIfInBounds_toArray, List.set_cons_zero, List.set_cons_succ]
  refine wpAnyH_takeD (i := 12) (oi := { dst := some 15, op := Op.binOp BinOp.gtr 3 (Operand.tmp 8) (Operand.tmp 14) 3, type := 4, pos := "spine.go:56", after := #[{ on := 5, ground := Ground.data }, { on := 11, ground := Ground.data }], guard := none }) (d := 15) (v := ?_) rfl rfl (by kernel_rfl) (by kernel_rfl) (by kernel_rfl) (fun _ _ _ h => h) (Or.inl ⟨by rfl, ?_⟩) hHeld ?_
  rotate_left
  · (intro w' hSw; (try dsimp only at hSw); go_simp; (try with_reducible rfl))
  simp only [List.setIfInBounds_toArray, List.set_cons_zero, List.set_cons_succ]
  refine wpAnyH_done (by kernel_rfl) ?_ _
  clear hHeld h0 h1
  generalize w.drew = W0 at *
  go_wp2_with ((refine (right_yes HD.out HNB.out hx hst).mono ?_); (rintro e V1 ⟨rfl, hw, hb⟩); (have HW := Lib.hid hw); (have HB1 := Lib.hid ((HB0.out.mono HE.out).trans hb)); (clear hw hb))
  go_ret
  exact ⟨rfl, HW.out, HB1.out⟩
set_option maxHeartbeats 4000000 in
theorem apart_n1 (h : WalkIs w base wb tbase tb T sv mb mp A B lim st) (hc : B < A) (hA : bornT T A = false) (hB : bornT T B = false) :
    Calls Tryz.prog 104 #[.pointer (some ⟨wb, 0, none⟩)] w fun e w' => e = .returned (.bool false) ∧ Below w.heap.size w w' := by
  have h0 := blk_cell h.blk 0
  have h1 := blk_cell h.blk 1
  simp only [List.getElem?_toArray, List.getElem?_cons_zero, List.getElem?_cons_succ] at h0 h1
  have HB0 : Hid (Below w.heap.size w w.drew) := Lib.hid ⟨rfl, rfl, rfl, Nat.le_refl _, fun _ _ => rfl⟩
  have HD := Lib.hid (h.below HB0.out (Nat.le_refl _))
  have HE := Lib.hid (Nat.le_trans h.le (Nat.le_of_lt (blk_lt h.blk)))
  have HNA := Lib.hid hA
  have HNB := Lib.hid hB
  have hc' := hc
  clear h hA hB
  go_enter Tryz.func104, Tryz.ntmps104
  go_upto_region 1 with fail
  refine wp_region_held_drew (S := fun V => V.cell? ⟨wb, 0, none⟩ = some (.int .i64 A) ∧ V.cell? ⟨wb, 1, none⟩ = some (.int .i64 B)) (by kernel_rfl) (by exact ⟨h0, h1⟩) (fun hHeld => ?_)
  refine wpAnyH_takeD (i := 0) (oi := { dst := some 3, op := Op.move (Operand.tmp 0), type := 116, pos := "spine.go:56", after := #[], guard := none }) (d := 3) (v := ?_) rfl rfl (by kernel_rfl) (by kernel_rfl) (by kernel_rfl) (fun _ _ _ h => h) (Or.inl ⟨by rfl, ?_⟩) hHeld ?_
  rotate_left
  · (intro w' hSw; (try dsimp only at hSw); go_simp; (try with_reducible rfl))
  simp only [List.setIfInBounds_toArray, List.set_cons_zero, List.set_cons_succ]
  refine wpAnyH_takeD (i := 1) (oi := { dst := some 4, op := Op.nilCheck (Operand.tmp 3), type := 0, pos := "spine.go:56", after := #[{ on := 0, ground := Ground.data }], guard := none }) (d := 4) (v := ?_) rfl rfl (by kernel_rfl) (by kernel_rfl) (by kernel_rfl) (fun _ _ _ h => h) (Or.inl ⟨by rfl, ?_⟩) hHeld ?_
  rotate_left
  · (intro w' hSw; (try dsimp only at hSw); go_simp; (try with_reducible rfl))
  simp only [List.setIfInBounds_toArray, List.set_cons_zero, List.set_cons_succ]
  refine wpAnyH_takeD (i := 2) (oi := { dst := some 5, op := Op.fieldAddr 121 (Operand.tmp 4) 0, type := 0, pos := "spine.go:56", after := #[{ on := 1, ground := Ground.data }], guard := none }) (d := 5) (v := ?_) rfl rfl (by kernel_rfl) (by kernel_rfl) (by kernel_rfl) (fun _ _ _ h => h) (Or.inl ⟨by rfl, ?_⟩) hHeld ?_
  rotate_left
  · (intro w' hSw; (try dsimp only at hSw); go_simp; (try with_reducible rfl))
  simp only [List.setIfInBounds_toArray, List.set_cons_zero, List.set_cons_succ]
  refine wpAnyH_takeD (i := 3) (oi := { dst := some 6, op := Op.fieldAddr 119 (Operand.tmp 5) 0, type := 0, pos := "spine.go:56", after := #[{ on := 2, ground := Ground.data }], guard := none }) (d := 6) (v := ?_) rfl rfl (by kernel_rfl) (by kernel_rfl) (by kernel_rfl) (fun _ _ _ h => h) (Or.inl ⟨by rfl, ?_⟩) hHeld ?_
  rotate_left
  · (intro w' hSw; (try dsimp only at hSw); go_simp; (try with_reducible rfl))
  simp only [List.setIfInBounds_toArray, List.set_cons_zero, List.set_cons_succ]
  refine wpAnyH_takeD (i := 4) (oi := { dst := some 7, op := Op.fieldAddr 55 (Operand.tmp 6) 0, type := 0, pos := "spine.go:56", after := #[{ on := 3, ground := Ground.data }], guard := none }) (d := 7) (v := ?_) rfl rfl (by kernel_rfl) (by kernel_rfl) (by kernel_rfl) (fun _ _ _ h => h) (Or.inl ⟨by rfl, ?_⟩) hHeld ?_
  rotate_left
  · (intro w' hSw; (try dsimp only at hSw); go_simp; (try with_reducible rfl))
  simp only [List.setIfInBounds_toArray, List.set_cons_zero, List.set_cons_succ]
  refine wpAnyH_takeD (i := 5) (oi := { dst := some 8, op := Op.load 3 (Operand.tmp 7), type := 3, pos := "spine.go:56", after := #[{ on := 4, ground := Ground.data }], guard := none }) (d := 8) (v := ?_) rfl rfl (by kernel_rfl) (by kernel_rfl) (by kernel_rfl) (fun _ _ _ h => h) (Or.inl ⟨by rfl, ?_⟩) hHeld ?_
  rotate_left
  · (intro w' hSw; (try dsimp only at hSw); go_simp; (try with_reducible rfl))
  simp only [List.setIfInBounds_toArray, List.set_cons_zero, List.set_cons_succ]
  refine wpAnyH_takeD (i := 6) (oi := { dst := some 9, op := Op.move (Operand.tmp 0), type := 116, pos := "spine.go:56", after := #[], guard := none }) (d := 9) (v := ?_) rfl rfl (by kernel_rfl) (by kernel_rfl) (by kernel_rfl) (fun _ _ _ h => h) (Or.inl ⟨by rfl, ?_⟩) hHeld ?_
  rotate_left
  · (intro w' hSw; (try dsimp only at hSw); go_simp; (try with_reducible rfl))
  simp only [List.setIfInBounds_toArray, List.set_cons_zero, List.set_cons_succ]
  refine wpAnyH_takeD (i := 7) (oi := { dst := some 10, op := Op.nilCheck (Operand.tmp 9), type := 0, pos := "spine.go:56", after := #[{ on := 6, ground := Ground.data }], guard := none }) (d := 10) (v := ?_) rfl rfl (by kernel_rfl) (by kernel_rfl) (by kernel_rfl) (fun _ _ _ h => h) (Or.inl ⟨by rfl, ?_⟩) hHeld ?_
  rotate_left
  · (intro w' hSw; (try dsimp only at hSw); go_simp; (try with_reducible rfl))
  simp only [List.setIfInBounds_toArray, List.set_cons_zero, List.set_cons_succ]
  refine wpAnyH_takeD (i := 8) (oi := { dst := some 11, op := Op.fieldAddr 121 (Operand.tmp 10) 0, type := 0, pos := "spine.go:56", after := #[{ on := 7, ground := Ground.data }], guard := none }) (d := 11) (v := ?_) rfl rfl (by kernel_rfl) (by kernel_rfl) (by kernel_rfl) (fun _ _ _ h => h) (Or.inl ⟨by rfl, ?_⟩) hHeld ?_
  rotate_left
  · (intro w' hSw; (try dsimp only at hSw); go_simp; (try with_reducible rfl))
  simp only [List.setIfInBounds_toArray, List.set_cons_zero, List.set_cons_succ]
  refine wpAnyH_takeD (i := 9) (oi := { dst := some 12, op := Op.fieldAddr 119 (Operand.tmp 11) 0, type := 0, pos := "spine.go:56", after := #[{ on := 8, ground := Ground.data }], guard := none }) (d := 12) (v := ?_) rfl rfl (by kernel_rfl) (by kernel_rfl) (by kernel_rfl) (fun _ _ _ h => h) (Or.inl ⟨by rfl, ?_⟩) hHeld ?_
  rotate_left
  · (intro w' hSw; (try dsimp only at hSw); go_simp; (try with_reducible rfl))
  simp only [List.setIfInBounds_toArray, List.set_cons_zero, List.set_cons_succ]
  refine wpAnyH_takeD (i := 10) (oi := { dst := some 13, op := Op.fieldAddr 55 (Operand.tmp 12) 1, type := 0, pos := "spine.go:56", after := #[{ on := 9, ground := Ground.data }], guard := none }) (d := 13) (v := ?_) rfl rfl (by kernel_rfl) (by kernel_rfl) (by kernel_rfl) (fun _ _ _ h => h) (Or.inl ⟨by rfl, ?_⟩) hHeld ?_
  rotate_left
  · (intro w' hSw; (try dsimp only at hSw); go_simp; (try with_reducible rfl))
  simp only [List.setIfInBounds_toArray, List.set_cons_zero, List.set_cons_succ]
  refine wpAnyH_takeD (i := 11) (oi := { dst := some 14, op := Op.load 3 (Operand.tmp 13), type := 3, pos := "spine.go:56", after := #[{ on := 10, ground := Ground.data }], guard := none }) (d := 14) (v := ?_) rfl rfl (by kernel_rfl) (by kernel_rfl) (by kernel_rfl) (fun _ _ _ h => h) (Or.inl ⟨by rfl, ?_⟩) hHeld ?_
  rotate_left
  · (intro w' hSw; (try dsimp only at hSw); go_simp; (try with_reducible rfl))
  simp only [List.setIfInBounds_toArray, List.set_cons_zero, List.set_cons_succ]
  refine wpAnyH_takeD (i := 12) (oi := { dst := some 15, op := Op.binOp BinOp.gtr 3 (Operand.tmp 8) (Operand.tmp 14) 3, type := 4, pos := "spine.go:56", after := #[{ on := 5, ground := Ground.data }, { on := 11, ground := Ground.data }], guard := none }) (d := 15) (v := ?_) rfl rfl (by kernel_rfl) (by kernel_rfl) (by kernel_rfl) (fun _ _ _ h => h) (Or.inl ⟨by rfl, ?_⟩) hHeld ?_
  rotate_left
  · (intro w' hSw; (try dsimp only at hSw); go_simp; (try with_reducible rfl))
  simp only [List.setIfInBounds_toArray, List.set_cons_zero, List.set_cons_succ]
  refine wpAnyH_done (by kernel_rfl) ?_ _
  clear hHeld h0 h1
  generalize w.drew = W0 at *
  go_wp2_with (first | ((refine (left_no HD.out HNA.out).mono ?_); (rintro e V1 ⟨rfl, hb⟩); (have HB1 := Lib.hid (HB0.out.trans (hb.mono HB0.out.size))); (have HD1 := Lib.hid (HD.out.below hb (Nat.le_refl _))); (clear hb)) | ((refine (right_no HD1.out HNB.out).mono ?_); (rintro e V2 ⟨rfl, hb⟩); (have HB2 := Lib.hid (HB1.out.trans (hb.mono HB1.out.size))); (clear hb)))
  go_ret
  exact ⟨rfl, HB2.out⟩
set_option maxHeartbeats 4000000 in
theorem apart_n2 (h : WalkIs w base wb tbase tb T sv mb mp A B lim st) (hc : A ≤ B) (hA : bornT T A = false) (hB : bornT T B = false) :
    Calls Tryz.prog 104 #[.pointer (some ⟨wb, 0, none⟩)] w fun e w' => e = .returned (.bool false) ∧ Below w.heap.size w w' := by
  have h0 := blk_cell h.blk 0
  have h1 := blk_cell h.blk 1
  simp only [List.getElem?_toArray, List.getElem?_cons_zero, List.getElem?_cons_succ] at h0 h1
  have HB0 : Hid (Below w.heap.size w w.drew) := Lib.hid ⟨rfl, rfl, rfl, Nat.le_refl _, fun _ _ => rfl⟩
  have HD := Lib.hid (h.below HB0.out (Nat.le_refl _))
  have HE := Lib.hid (Nat.le_trans h.le (Nat.le_of_lt (blk_lt h.blk)))
  have HNA := Lib.hid hA
  have HNB := Lib.hid hB
  have hc' := hc
  clear h hA hB
  go_enter Tryz.func104, Tryz.ntmps104
  go_upto_region 1 with fail
  refine wp_region_held_drew (S := fun V => V.cell? ⟨wb, 0, none⟩ = some (.int .i64 A) ∧ V.cell? ⟨wb, 1, none⟩ = some (.int .i64 B)) (by kernel_rfl) (by exact ⟨h0, h1⟩) (fun hHeld => ?_)
  refine wpAnyH_takeD (i := 0) (oi := { dst := some 3, op := Op.move (Operand.tmp 0), type := 116, pos := "spine.go:56", after := #[], guard := none }) (d := 3) (v := ?_) rfl rfl (by kernel_rfl) (by kernel_rfl) (by kernel_rfl) (fun _ _ _ h => h) (Or.inl ⟨by rfl, ?_⟩) hHeld ?_
  rotate_left
  · (intro w' hSw; (try dsimp only at hSw); go_simp; (try with_reducible rfl))
  simp only [List.setIfInBounds_toArray, List.set_cons_zero, List.set_cons_succ]
  refine wpAnyH_takeD (i := 1) (oi := { dst := some 4, op := Op.nilCheck (Operand.tmp 3), type := 0, pos := "spine.go:56", after := #[{ on := 0, ground := Ground.data }], guard := none }) (d := 4) (v := ?_) rfl rfl (by kernel_rfl) (by kernel_rfl) (by kernel_rfl) (fun _ _ _ h => h) (Or.inl ⟨by rfl, ?_⟩) hHeld ?_
  rotate_left
  · (intro w' hSw; (try dsimp only at hSw); go_simp; (try with_reducible rfl))
  simp only [List.setIfInBounds_toArray, List.set_cons_zero, List.set_cons_succ]
  refine wpAnyH_takeD (i := 2) (oi := { dst := some 5, op := Op.fieldAddr 121 (Operand.tmp 4) 0, type := 0, pos := "spine.go:56", after := #[{ on := 1, ground := Ground.data }], guard := none }) (d := 5) (v := ?_) rfl rfl (by kernel_rfl) (by kernel_rfl) (by kernel_rfl) (fun _ _ _ h => h) (Or.inl ⟨by rfl, ?_⟩) hHeld ?_
  rotate_left
  · (intro w' hSw; (try dsimp only at hSw); go_simp; (try with_reducible rfl))
  simp only [List.setIfInBounds_toArray, List.set_cons_zero, List.set_cons_succ]
  refine wpAnyH_takeD (i := 3) (oi := { dst := some 6, op := Op.fieldAddr 119 (Operand.tmp 5) 0, type := 0, pos := "spine.go:56", after := #[{ on := 2, ground := Ground.data }], guard := none }) (d := 6) (v := ?_) rfl rfl (by kernel_rfl) (by kernel_rfl) (by kernel_rfl) (fun _ _ _ h => h) (Or.inl ⟨by rfl, ?_⟩) hHeld ?_
  rotate_left
  · (intro w' hSw; (try dsimp only at hSw); go_simp; (try with_reducible rfl))
  simp only [List.setIfInBounds_toArray, List.set_cons_zero, List.set_cons_succ]
  refine wpAnyH_takeD (i := 4) (oi := { dst := some 7, op := Op.fieldAddr 55 (Operand.tmp 6) 0, type := 0, pos := "spine.go:56", after := #[{ on := 3, ground := Ground.data }], guard := none }) (d := 7) (v := ?_) rfl rfl (by kernel_rfl) (by kernel_rfl) (by kernel_rfl) (fun _ _ _ h => h) (Or.inl ⟨by rfl, ?_⟩) hHeld ?_
  rotate_left
  · (intro w' hSw; (try dsimp only at hSw); go_simp; (try with_reducible rfl))
  simp only [List.setIfInBounds_toArray, List.set_cons_zero, List.set_cons_succ]
  refine wpAnyH_takeD (i := 5) (oi := { dst := some 8, op := Op.load 3 (Operand.tmp 7), type := 3, pos := "spine.go:56", after := #[{ on := 4, ground := Ground.data }], guard := none }) (d := 8) (v := ?_) rfl rfl (by kernel_rfl) (by kernel_rfl) (by kernel_rfl) (fun _ _ _ h => h) (Or.inl ⟨by rfl, ?_⟩) hHeld ?_
  rotate_left
  · (intro w' hSw; (try dsimp only at hSw); go_simp; (try with_reducible rfl))
  simp only [List.setIfInBounds_toArray, List.set_cons_zero, List.set_cons_succ]
  refine wpAnyH_takeD (i := 6) (oi := { dst := some 9, op := Op.move (Operand.tmp 0), type := 116, pos := "spine.go:56", after := #[], guard := none }) (d := 9) (v := ?_) rfl rfl (by kernel_rfl) (by kernel_rfl) (by kernel_rfl) (fun _ _ _ h => h) (Or.inl ⟨by rfl, ?_⟩) hHeld ?_
  rotate_left
  · (intro w' hSw; (try dsimp only at hSw); go_simp; (try with_reducible rfl))
  simp only [List.setIfInBounds_toArray, List.set_cons_zero, List.set_cons_succ]
  refine wpAnyH_takeD (i := 7) (oi := { dst := some 10, op := Op.nilCheck (Operand.tmp 9), type := 0, pos := "spine.go:56", after := #[{ on := 6, ground := Ground.data }], guard := none }) (d := 10) (v := ?_) rfl rfl (by kernel_rfl) (by kernel_rfl) (by kernel_rfl) (fun _ _ _ h => h) (Or.inl ⟨by rfl, ?_⟩) hHeld ?_
  rotate_left
  · (intro w' hSw; (try dsimp only at hSw); go_simp; (try with_reducible rfl))
  simp only [List.setIfInBounds_toArray, List.set_cons_zero, List.set_cons_succ]
  refine wpAnyH_takeD (i := 8) (oi := { dst := some 11, op := Op.fieldAddr 121 (Operand.tmp 10) 0, type := 0, pos := "spine.go:56", after := #[{ on := 7, ground := Ground.data }], guard := none }) (d := 11) (v := ?_) rfl rfl (by kernel_rfl) (by kernel_rfl) (by kernel_rfl) (fun _ _ _ h => h) (Or.inl ⟨by rfl, ?_⟩) hHeld ?_
  rotate_left
  · (intro w' hSw; (try dsimp only at hSw); go_simp; (try with_reducible rfl))
  simp only [List.setIfInBounds_toArray, List.set_cons_zero, List.set_cons_succ]
  refine wpAnyH_takeD (i := 9) (oi := { dst := some 12, op := Op.fieldAddr 119 (Operand.tmp 11) 0, type := 0, pos := "spine.go:56", after := #[{ on := 8, ground := Ground.data }], guard := none }) (d := 12) (v := ?_) rfl rfl (by kernel_rfl) (by kernel_rfl) (by kernel_rfl) (fun _ _ _ h => h) (Or.inl ⟨by rfl, ?_⟩) hHeld ?_
  rotate_left
  · (intro w' hSw; (try dsimp only at hSw); go_simp; (try with_reducible rfl))
  simp only [List.setIfInBounds_toArray, List.set_cons_zero, List.set_cons_succ]
  refine wpAnyH_takeD (i := 10) (oi := { dst := some 13, op := Op.fieldAddr 55 (Operand.tmp 12) 1, type := 0, pos := "spine.go:56", after := #[{ on := 9, ground := Ground.data }], guard := none }) (d := 13) (v := ?_) rfl rfl (by kernel_rfl) (by kernel_rfl) (by kernel_rfl) (fun _ _ _ h => h) (Or.inl ⟨by rfl, ?_⟩) hHeld ?_
  rotate_left
  · (intro w' hSw; (try dsimp only at hSw); go_simp; (try with_reducible rfl))
  simp only [List.setIfInBounds_toArray, List.set_cons_zero, List.set_cons_succ]
  refine wpAnyH_takeD (i := 11) (oi := { dst := some 14, op := Op.load 3 (Operand.tmp 13), type := 3, pos := "spine.go:56", after := #[{ on := 10, ground := Ground.data }], guard := none }) (d := 14) (v := ?_) rfl rfl (by kernel_rfl) (by kernel_rfl) (by kernel_rfl) (fun _ _ _ h => h) (Or.inl ⟨by rfl, ?_⟩) hHeld ?_
  rotate_left
  · (intro w' hSw; (try dsimp only at hSw); go_simp; (try with_reducible rfl))
  simp only [List.setIfInBounds_toArray, List.set_cons_zero, List.set_cons_succ]
  refine wpAnyH_takeD (i := 12) (oi := { dst := some 15, op := Op.binOp BinOp.gtr 3 (Operand.tmp 8) (Operand.tmp 14) 3, type := 4, pos := "spine.go:56", after := #[{ on := 5, ground := Ground.data }, { on := 11, ground := Ground.data }], guard := none }) (d := 15) (v := ?_) rfl rfl (by kernel_rfl) (by kernel_rfl) (by kernel_rfl) (fun _ _ _ h => h) (Or.inl ⟨by rfl, ?_⟩) hHeld ?_
  rotate_left
  · (intro w' hSw; (try dsimp only at hSw); go_simp; (try with_reducible rfl))
  simp only [List.setIfInBounds_toArray, List.set_cons_zero, List.set_cons_succ]
  refine wpAnyH_done (by kernel_rfl) ?_ _
  clear hHeld h0 h1
  generalize w.drew = W0 at *
  go_wp2_with (first | ((refine (right_no HD.out HNB.out).mono ?_); (rintro e V1 ⟨rfl, hb⟩); (have HB1 := Lib.hid (HB0.out.trans (hb.mono HB0.out.size))); (have HD1 := Lib.hid (HD.out.below hb (Nat.le_refl _))); (clear hb)) | ((refine (left_no HD1.out HNA.out).mono ?_); (rintro e V2 ⟨rfl, hb⟩); (have HB2 := Lib.hid (HB1.out.trans (hb.mono HB1.out.size))); (clear hb)))
  go_ret
  exact ⟨rfl, HB2.out⟩
theorem apart_yes (h : WalkIs w base wb tbase tb T sv mb mp A B lim st) (hT : OkT T) (hl : T.length ≤ 100000) (ha : hasT T A = true) (hb : hasT T B = true) (hst : 0 ≤ st ∧ st < 1000000000) (hn : ¬ (A < 256 ∧ B < 256)) :
    Calls Tryz.prog 104 #[.pointer (some ⟨wb, 0, none⟩)] w fun e w' => e = .returned (.bool true) ∧ WalkIs w' base wb tbase tb T sv mb mp (nxtW T A B).1 (nxtW T A B).2.1 (nxtW T A B).2.2 (st + 1) ∧ Below base w w' := by
  have a1 := hasT_iff.1 ha
  have b1 := hasT_iff.1 hb
  unfold nxtW
  by_cases hc : B < A
  · rw [if_pos (Or.inr hc)]
    exact apart_l h hc (by rw [born_iff hT ha]; simp; omega) (by omega) hst
  · have h2 : 256 ≤ B := by omega
    rw [if_neg (by omega)]
    exact apart_r h (by omega) (by rw [born_iff hT hb]; simp; omega) (by omega) hst
theorem apart_no (h : WalkIs w base wb tbase tb T sv mb mp A B lim st) (hT : OkT T) (ha : hasT T A = true) (hb : hasT T B = true) (hn : A < 256 ∧ B < 256) :
    Calls Tryz.prog 104 #[.pointer (some ⟨wb, 0, none⟩)] w fun e w' => e = .returned (.bool false) ∧ Below w.heap.size w w' := by
  have e1 : bornT T A = false := by rw [born_iff hT ha]; simp; omega
  have e2 : bornT T B = false := by rw [born_iff hT hb]; simp; omega
  by_cases hc : B < A
  · exact apart_n1 h hc e1 e2
  · exact apart_n2 h (by omega) e1 e2
end
end Go.Proofs.YtbppaiejpgdbiaaGreat

/- Layer 14 (spine): a walk in memory: free, has, begin, Walk, Steps. -/
namespace Go.Proofs.YtbppaiejpgdbiaaGreat
open Go.RowKit Go.Maps Go.WideMaps
set_option maxRecDepth 100000
set_option linter.unusedVariables false
set_option linter.unusedSimpArgs false

theorem TabIs.lt_size {w : World} {tbase tb : Nat} {T : List Ent} {sv : Value} {mb mp : Nat} (h : TabIs w tbase tb T sv mb mp) : ∀ x, tabF tb sv mb mp x → x < w.heap.size := by
  intro x hx
  rcases hx with rfl | e | rfl | rfl
  · exact blk_lt h.blk
  · exact hw.own_lt h.row x e
  · exact h.bys.lt
  · exact h.prs.lt

structure FreeIs (w W : World) (base wb tbase tb : Nat) (T : List Ent) (sv : Value) (mb mp : Nat) (A B lim st A' B' lim' st' : Int) : Prop where
  wk : WalkIs W base wb tbase tb T sv mb mp A' B' lim' st'
  ha : hasT T A' = true
  hb : hasT T B' = true
  ok : (wlkT T A B lim).1 = (wlkT T A' B' lim').1
  cnt : st + ((wlkT T A B lim).2 : Int) = st' + ((wlkT T A' B' lim').2 : Int)
  s0 : 0 ≤ st'
  s1 : st' + A' + B' < 1000000000
  bl : Below base w W
section
variable {w W V : World} {base wb tbase tb : Nat} {T : List Ent} {sv : Value} {mb mp : Nat} {A B lim st A' B' lim' st' : Int}
theorem FreeIs.below (h : FreeIs w W base wb tbase tb T sv mb mp A B lim st A' B' lim' st') (hb : Below W.heap.size W V) : FreeIs w V base wb tbase tb T sv mb mp A B lim st A' B' lim' st' :=
  ⟨h.wk.below hb (Nat.le_refl _), h.ha, h.hb, h.ok, h.cnt, h.s0, h.s1, h.bl.trans (hb.mono (Nat.le_trans h.wk.le (Nat.le_of_lt (blk_lt h.wk.blk))))⟩
theorem FreeIs.next (h : FreeIs w W base wb tbase tb T sv mb mp A B lim st A' B' lim' st') (hT : OkT T) (hp : (pairB T lim' A' B').isSome = false) (hn : ¬ (A' < 256 ∧ B' < 256))
    (hw : WalkIs V base wb tbase tb T sv mb mp (nxtW T A' B').1 (nxtW T A' B').2.1 (nxtW T A' B').2.2 (st' + 1)) (hb : Below base W V) :
    FreeIs w V base wb tbase tb T sv mb mp A B lim st (nxtW T A' B').1 (nxtW T A' B').2.1 (nxtW T A' B').2.2 (st' + 1) := by
  obtain ⟨q1, q2, q3⟩ := nxt_has hT h.ha h.hb hn
  have e := wlk_next hT h.ha h.hb hp hn
  have h0 := h.s0
  have h1 := h.s1
  have p1 := hasT_iff.1 q1
  have p2 := hasT_iff.1 q2
  have p3 := hasT_iff.1 h.ha
  have p4 := hasT_iff.1 h.hb
  refine ⟨hw, q1, q2, ?_, ?_, by omega, by omega, h.bl.trans hb⟩
  · rw [h.ok, e]
  · rw [h.cnt, e]; simp only; omega
set_option maxHeartbeats 4000000 in
theorem free_any (h : WalkIs w base wb tbase tb T sv mb mp A B lim st) (hT : OkT T) (hl : T.length ≤ 100000) (ha : hasT T A = true) (hb : hasT T B = true) (hst : 0 ≤ st ∧ st < 100000000) :
    Calls Tryz.prog 64 #[.pointer (some ⟨wb, 0, none⟩)] w fun e w' => e = .returned (.bool (wlkT T A B lim).1) ∧ (∃ A' B' lim', WalkIs w' base wb tbase tb T sv mb mp A' B' lim' (st + ((wlkT T A B lim).2 : Int))) ∧ Below base w w' := by
  have i1 := hasT_iff.1 ha
  have i2 := hasT_iff.1 hb
  have HF : Hid (FreeIs w w base wb tbase tb T sv mb mp A B lim st A B lim st) := Lib.hid ⟨h, ha, hb, rfl, rfl, hst.1, by omega, Below.refl _ _⟩
  have HT := Lib.hid hT
  have HL := Lib.hid hl
  clear h hT hl ha hb hst i1 i2
  go_enter Tryz.func64, Tryz.ntmps64
  go_wp2_with fail
  go_loopg [] (A.toNat + B.toNat) (fun n W => ∃ A' B' lim' st', A'.toNat + B'.toNat ≤ n ∧ FreeIs w W base wb tbase tb T sv mb mp A B lim st A' B' lim' st')
  case atStart => exact ⟨A, B, lim, st, Nat.le_refl _, HF.out⟩
  case round =>
    obtain ⟨A', B', lim', st', hle, hF⟩ := hrel
    clear HF
    rename World => W
    have i1 := hasT_iff.1 hF.ha
    have i2 := hasT_iff.1 hF.hb
    have hl := HL.out
    have HBK := Lib.hid (blocked_any hF.wk (by omega) (by omega))
    have HF := Lib.hid hF
    have HLE := Lib.hid hle
    obtain ⟨bb, hbb⟩ : ∃ bb, (pairB T lim' A' B').isSome = bb := ⟨_, rfl⟩
    rw [hbb] at HBK
    have HBB := Lib.hid hbb
    clear hF hle hbb hl
    by_cases h2 : A' < 256 ∧ B' < 256
    · have H2 := Lib.hid h2
      clear i1 i2 h2
      rcases bb with _ | _
      · go_wp2_with (first | ((refine HBK.out.mono ?_); (rintro e V1 ⟨rfl, hb⟩); (have HF1 := Lib.hid (HF.out.below hb)); (clear hb)) | ((refine (apart_no HF1.out.wk HT.out HF1.out.ha HF1.out.hb H2.out).mono ?_); (rintro e V2 ⟨rfl, hb⟩); (have HF2 := Lib.hid (HF1.out.below hb)); (clear hb)))
        go_ret
        have e := wlk_bytes HBB.out H2.out
        have c := HF.out.cnt
        rw [HF.out.ok, c, e]
        exact ⟨rfl, ⟨_, _, _, by simpa using HF2.out.wk⟩, HF2.out.bl⟩
      · go_wp2_with ((refine HBK.out.mono ?_); (rintro e V1 ⟨rfl, hb⟩); (have HF1 := Lib.hid (HF.out.below hb)); (clear hb))
        go_ret
        have e := wlk_blocked HBB.out
        have c := HF.out.cnt
        rw [HF.out.ok, c, e]
        exact ⟨rfl, ⟨_, _, _, by simpa using HF1.out.wk⟩, HF1.out.bl⟩
    · have H2 := Lib.hid h2
      have s0 := HF.out.s0
      have s1 := HF.out.s1
      have hst : 0 ≤ st' ∧ st' < 1000000000 := ⟨s0, by omega⟩
      clear i1 i2 h2 s0 s1
      rcases bb with _ | _
      · go_wp2_with (first | ((refine HBK.out.mono ?_); (rintro e V1 ⟨rfl, hb⟩); (have HF1 := Lib.hid (HF.out.below hb)); (clear hb)) | ((refine (apart_yes HF1.out.wk HT.out HL.out HF1.out.ha HF1.out.hb hst H2.out).mono ?_); (rintro e V2 ⟨rfl, hw, hb⟩); (have HF2 := Lib.hid (HF1.out.next HT.out HBB.out H2.out hw hb)); (clear hw hb)))
        have q := (nxt_has HT.out HF.out.ha HF.out.hb H2.out).2.2
        have hle := HLE.out
        go_roundg ((nxtW T A' B').1.toNat + (nxtW T A' B').2.1.toNat)
        · exact ⟨_, _, _, _, Nat.le_refl _, HF2.out⟩
        · omega
      · go_wp2_with ((refine HBK.out.mono ?_); (rintro e V1 ⟨rfl, hb⟩); (have HF1 := Lib.hid (HF.out.below hb)); (clear hb))
        go_ret
        have e := wlk_blocked HBB.out
        have c := HF.out.cnt
        rw [HF.out.ok, c, e]
        exact ⟨rfl, ⟨_, _, _, by simpa using HF1.out.wk⟩, HF1.out.bl⟩
variable {a b : Int}
theorem shas_any (h : TabIs w tbase tb T sv mb mp) (hl : T.length ≤ 100000) :
    Calls Tryz.prog 58 #[.pointer (some ⟨tb, 0, none⟩), .int .i64 a, .int .i64 b] w fun e w' => e = .returned (.bool (hasT T a && hasT T b)) ∧ w' = w := by
  have HT := Lib.hid h
  have hr : (hasT T a && hasT T b) = (decide (0 ≤ a) && decide (a < (T.length : Int)) && decide (0 ≤ b) && decide (b < (T.length : Int))) := by simp only [hasT, Bool.and_assoc]
  rw [hr]
  clear h hr hl
  by_cases p1 : 0 ≤ a
  · by_cases p2 : a < (T.length : Int)
    · by_cases p3 : 0 ≤ b
      · go_enter Tryz.func58, Tryz.ntmps58
        go_wp2_with ((refine (len_tab HT.out).mono ?_); (rintro e V1 ⟨rfl, rfl⟩))
        go_ret
        exact ⟨by simp [p1, p2, p3], rfl⟩
      · go_enter Tryz.func58, Tryz.ntmps58
        go_wp2_with ((refine (len_tab HT.out).mono ?_); (rintro e V1 ⟨rfl, rfl⟩))
        go_ret
        exact ⟨by rw [decide_eq_false (p := 0 ≤ b) (by omega)]; simp, rfl⟩
    · go_enter Tryz.func58, Tryz.ntmps58
      go_wp2_with ((refine (len_tab HT.out).mono ?_); (rintro e V1 ⟨rfl, rfl⟩))
      go_ret
      exact ⟨by rw [decide_eq_false (p := a < (T.length : Int)) (by omega)]; simp, rfl⟩
  · go_enter Tryz.func58, Tryz.ntmps58
    go_wp2_with fail
    go_ret
    exact ⟨by rw [decide_eq_false (p := 0 ≤ a) (by omega)]; simp, rfl⟩
theorem sbegin_any (h : TabIs w tbase tb T sv mb mp) :
    Calls Tryz.prog 63 #[.pointer (some ⟨tb, 0, none⟩), .int .i64 a, .int .i64 b, .int .i64 lim] w fun e w' => (∃ nb, e = .returned (.pointer (some ⟨nb, 0, none⟩)) ∧ WalkIs w' w.heap.size nb tbase tb T sv mb mp a b lim 0) ∧ Below w.heap.size w w' := by
  have HT := Lib.hid h
  clear h
  go_enter Tryz.func63, Tryz.ntmps63
  go_wp2_with fail
  go_ret
  have hb := (Below.refl w.heap.size w).alloc (Nat.le_refl _) (.cells #[.int .i64 a, .int .i64 b, .pointer (some ⟨tb, 0, none⟩), .int .i64 lim, .int .i64 0] 121)
  exact ⟨⟨_, rfl, ⟨blk_new _ _, HT.out.below hb (Nat.le_refl _), HT.out.lt_size, Nat.le_refl _⟩⟩, hb⟩
end
end Go.Proofs.YtbppaiejpgdbiaaGreat

/- Layer 14 (spine): Walk, Steps, Alone. -/
namespace Go.Proofs.YtbppaiejpgdbiaaGreat
open Go.RowKit Go.Maps Go.WideMaps
set_option maxRecDepth 100000
set_option linter.unusedVariables false
set_option linter.unusedSimpArgs false
section
variable {w W V : World} {tbase tb : Nat} {T : List Ent} {sv : Value} {mb mp : Nat} {a b lim : Int}
set_option maxHeartbeats 4000000 in
theorem swalk_any (h : TabIs w tbase tb T sv mb mp) (hT : OkT T) (hl : T.length ≤ 100000) :
    Calls Tryz.prog 33 #[.pointer (some ⟨tb, 0, none⟩), .int .i64 a, .int .i64 b, .int .i64 lim] w fun e w' => e = .returned (.bool (hasT T a && hasT T b && (wlkT T a b lim).1)) ∧ Below w.heap.size w w' := by
  have HT := Lib.hid h
  have HS := Lib.hid (shas_any (a := a) (b := b) h hl)
  have HBG := Lib.hid (sbegin_any (a := a) (b := b) (lim := lim) h)
  obtain ⟨k, hk⟩ : ∃ k, (hasT T a && hasT T b) = k := ⟨_, rfl⟩
  rw [hk] at HS ⊢
  cases k with
  | false =>
    clear h hl hk
    go_enter Tryz.func33, Tryz.ntmps33
    go_wp2_with ((refine HS.out.mono ?_); (rintro e V1 ⟨rfl, rfl⟩))
    go_ret
    exact ⟨rfl, Below.refl _ _⟩
  | true =>
    rw [Bool.and_eq_true] at hk
    have HK := Lib.hid hk
    have HOK := Lib.hid hT
    have HL := Lib.hid hl
    clear h hl hk hT
    go_enter Tryz.func33, Tryz.ntmps33
    go_wp2_with (first | ((refine HS.out.mono ?_); (rintro e V1 ⟨rfl, rfl⟩)) | ((refine HBG.out.mono ?_); (rintro e V2 ⟨⟨nb, rfl, hw⟩, hb⟩); (have HW := Lib.hid hw); (have HB := Lib.hid hb); (clear hw hb)) | ((refine (free_any HW.out HOK.out HL.out HK.out.1 HK.out.2 (by decide)).mono ?_); (rintro e V3 ⟨rfl, hw, hb⟩); (have HB2 := Lib.hid (HB.out.trans hb)); (clear hw hb)))
    go_ret
    exact ⟨rfl, HB2.out⟩
set_option maxHeartbeats 4000000 in
theorem ssteps_any (h : TabIs w tbase tb T sv mb mp) (hT : OkT T) (hl : T.length ≤ 100000) :
    Calls Tryz.prog 34 #[.pointer (some ⟨tb, 0, none⟩), .int .i64 a, .int .i64 b] w fun e w' => e = .returned (.int .i64 (if (hasT T a && hasT T b) = true then (wlkT T a b T.length).2 else 0 : Nat)) ∧ Below w.heap.size w w' := by
  have HT := Lib.hid h
  have HS := Lib.hid (shas_any (a := a) (b := b) h hl)
  have HBG := Lib.hid (sbegin_any (a := a) (b := b) (lim := 9223372036854775807) h)
  rw [wlk_all (lim := T.length) (lim' := 9223372036854775807) (Int.le_refl _) (by omega)]
  obtain ⟨k, hk⟩ : ∃ k, (hasT T a && hasT T b) = k := ⟨_, rfl⟩
  rw [hk] at HS ⊢
  cases k with
  | false =>
    rw [if_neg (by decide)]
    clear h hl hk
    go_enter Tryz.func34, Tryz.ntmps34
    go_wp2_with ((refine HS.out.mono ?_); (rintro e V1 ⟨rfl, rfl⟩))
    go_ret
    exact ⟨rfl, Below.refl _ _⟩
  | true =>
    rw [if_pos rfl]
    rw [Bool.and_eq_true] at hk
    have HK := Lib.hid hk
    have HOK := Lib.hid hT
    have HL := Lib.hid hl
    clear h hl hk hT
    go_enter Tryz.func34, Tryz.ntmps34
    go_wp2_with (first | ((refine HS.out.mono ?_); (rintro e V1 ⟨rfl, rfl⟩)) | ((refine HBG.out.mono ?_); (rintro e V2 ⟨⟨nb, rfl, hw⟩, hb⟩); (have HW := Lib.hid hw); (have HB := Lib.hid hb); (clear hw hb)) | ((refine (free_any HW.out HOK.out HL.out HK.out.1 HK.out.2 (by decide)).mono ?_); (rintro e V3 ⟨rfl, ⟨A', B', lim', hw⟩, hb⟩); (have HB2 := Lib.hid (HB.out.trans hb)); (have h4 := blk_cell hw.blk 4); (simp only [List.getElem?_toArray, List.getElem?_cons_zero, List.getElem?_cons_succ] at h4); (clear hw hb)))
    go_ret
    exact ⟨by simp, HB2.out⟩
end
end Go.Proofs.YtbppaiejpgdbiaaGreat

/- Layer 14 (spine): Alone. -/
namespace Go.Proofs.YtbppaiejpgdbiaaGreat
open Go.RowKit Go.Maps Go.WideMaps
set_option maxRecDepth 100000
set_option linter.unusedVariables false
set_option linter.unusedSimpArgs false
/-- is a token made of its bytes, as the walk tells -/
def alT (T : List Ent) : Nat → Int → Bool
  | 0, id => hasT T id
  | f + 1, id => if bornT T id = true then alT T f (parT T id).1 && alT T f (parT T id).2 && (wlkT T (parT T id).1 (parT T id).2 id).1 else hasT T id






set_option maxHeartbeats 300000 in
theorem salone_walk {T : List Ent} {tbase tb : Nat} {sv : Value} {mb mp : Nat} {R1 R2 R3 : Bool}
    (w : World) (id q1 q2 : Int) (h : TabIs w tbase tb T sv mb mp) (hb : bornT T id = true) (hq : parT T id = (q1, q2))
    (i1 : ∀ (w : World), TabIs w tbase tb T sv mb mp → Calls Tryz.prog 22 #[.pointer (some ⟨tb, 0, none⟩), .int .i64 q1] w fun e w' => e = .returned (.bool R1) ∧ Below w.heap.size w w')
    (i2 : ∀ (w : World), TabIs w tbase tb T sv mb mp → Calls Tryz.prog 22 #[.pointer (some ⟨tb, 0, none⟩), .int .i64 q2] w fun e w' => e = .returned (.bool R2) ∧ Below w.heap.size w w')
    (i3 : ∀ (w : World), TabIs w tbase tb T sv mb mp → Calls Tryz.prog 33 #[.pointer (some ⟨tb, 0, none⟩), .int .i64 q1, .int .i64 q2, .int .i64 id] w fun e w' => e = .returned (.bool R3) ∧ Below w.heap.size w w') :
    Calls Tryz.prog 22 #[.pointer (some ⟨tb, 0, none⟩), .int .i64 id] w fun e w' => e = .returned (.bool (R1 && R2 && R3)) ∧ Below w.heap.size w w' := by
  have HP := Lib.hid (par_tab id h)
  rw [hb, hq] at HP
  have HT := Lib.hid h
  have I1 := Lib.hid i1
  have I2 := Lib.hid i2
  have I3 := Lib.hid i3
  clear h hb hq i1 i2 i3
  rcases R1 with _ | _
  · go_enter Tryz.func22, Tryz.ntmps22
    go_wp2_with (first | (go_at_call 57; (refine HP.out.mono ?_); (rintro e V1 ⟨rfl, hb⟩); (unfold pairV); (have HB1 := Lib.hid hb); (have HT1 := Lib.hid (HT.out.below (hb.trans (((Below.refl V1.heap.size V1).alloc (Nat.le_refl _) (.cells #[.int .i64 q1, .int .i64 q2] 55)).mono hb.size)) (Nat.le_refl _))); (have HO1 := Lib.hid (blk_new V1 (.cells #[.int .i64 q1, .int .i64 q2] 55))); (have HB2 := Lib.hid (hb.trans (((Below.refl V1.heap.size V1).alloc (Nat.le_refl _) (.cells #[.int .i64 q1, .int .i64 q2] 55)).mono hb.size))); (clear hb)) | (go_at_call 22; (generalize hX : V1.alloc (.cells #[.int .i64 q1, .int .i64 q2] 55) = X at *); (clear hX); (refine (I1.out X HT1.out).mono ?_); (rintro e W1 ⟨rfl, hb⟩); (have HB3 := Lib.hid (HB2.out.trans (hb.mono HB2.out.size))); (have HT2 := Lib.hid (HT1.out.below hb (Nat.le_refl _))); (have HO2 := Lib.hid (blk_below hb (blk_lt HO1.out) HO1.out)); (have d0 := blk_cell HO2.out 0); (have d1 := blk_cell HO2.out 1); (simp only [List.getElem?_toArray, List.getElem?_cons_zero, List.getElem?_cons_succ] at d0 d1); (clear hb)))
    go_ret
    exact ⟨rfl, HB3.out⟩
  · rcases R2 with _ | _
    · go_enter Tryz.func22, Tryz.ntmps22
      go_wp2_with (first | (go_at_call 57; (refine HP.out.mono ?_); (rintro e V1 ⟨rfl, hb⟩); (unfold pairV); (have HB1 := Lib.hid hb); (have HT1 := Lib.hid (HT.out.below (hb.trans (((Below.refl V1.heap.size V1).alloc (Nat.le_refl _) (.cells #[.int .i64 q1, .int .i64 q2] 55)).mono hb.size)) (Nat.le_refl _))); (have HO1 := Lib.hid (blk_new V1 (.cells #[.int .i64 q1, .int .i64 q2] 55))); (have HB2 := Lib.hid (hb.trans (((Below.refl V1.heap.size V1).alloc (Nat.le_refl _) (.cells #[.int .i64 q1, .int .i64 q2] 55)).mono hb.size))); (clear hb)) | (go_at_call 22; (generalize hX : V1.alloc (.cells #[.int .i64 q1, .int .i64 q2] 55) = X at *); (clear hX); (refine (I1.out X HT1.out).mono ?_); (rintro e W1 ⟨rfl, hb⟩); (have HB3 := Lib.hid (HB2.out.trans (hb.mono HB2.out.size))); (have HT2 := Lib.hid (HT1.out.below hb (Nat.le_refl _))); (have HO2 := Lib.hid (blk_below hb (blk_lt HO1.out) HO1.out)); (have d0 := blk_cell HO2.out 0); (have d1 := blk_cell HO2.out 1); (simp only [List.getElem?_toArray, List.getElem?_cons_zero, List.getElem?_cons_succ] at d0 d1); (clear hb)) | (go_at_call 22; (refine (I2.out W1 HT2.out).mono ?_); (rintro e W2 ⟨rfl, hb⟩); (have HB4 := Lib.hid (HB3.out.trans (hb.mono HB3.out.size))); (have HT3 := Lib.hid (HT2.out.below hb (Nat.le_refl _))); (have HO3 := Lib.hid (blk_below hb (blk_lt HO2.out) HO2.out)); (have d0 := blk_cell HO3.out 0); (have d1 := blk_cell HO3.out 1); (simp only [List.getElem?_toArray, List.getElem?_cons_zero, List.getElem?_cons_succ] at d0 d1); (clear hb)))
      go_ret
      exact ⟨rfl, HB4.out⟩
    · go_enter Tryz.func22, Tryz.ntmps22
      go_wp2_with (first | (go_at_call 57; (refine HP.out.mono ?_); (rintro e V1 ⟨rfl, hb⟩); (unfold pairV); (have HB1 := Lib.hid hb); (have HT1 := Lib.hid (HT.out.below (hb.trans (((Below.refl V1.heap.size V1).alloc (Nat.le_refl _) (.cells #[.int .i64 q1, .int .i64 q2] 55)).mono hb.size)) (Nat.le_refl _))); (have HO1 := Lib.hid (blk_new V1 (.cells #[.int .i64 q1, .int .i64 q2] 55))); (have HB2 := Lib.hid (hb.trans (((Below.refl V1.heap.size V1).alloc (Nat.le_refl _) (.cells #[.int .i64 q1, .int .i64 q2] 55)).mono hb.size))); (clear hb)) | (go_at_call 22; (generalize hX : V1.alloc (.cells #[.int .i64 q1, .int .i64 q2] 55) = X at *); (clear hX); (refine (I1.out X HT1.out).mono ?_); (rintro e W1 ⟨rfl, hb⟩); (have HB3 := Lib.hid (HB2.out.trans (hb.mono HB2.out.size))); (have HT2 := Lib.hid (HT1.out.below hb (Nat.le_refl _))); (have HO2 := Lib.hid (blk_below hb (blk_lt HO1.out) HO1.out)); (have d0 := blk_cell HO2.out 0); (have d1 := blk_cell HO2.out 1); (simp only [List.getElem?_toArray, List.getElem?_cons_zero, List.getElem?_cons_succ] at d0 d1); (clear hb)) | (go_at_call 22; (refine (I2.out W1 HT2.out).mono ?_); (rintro e W2 ⟨rfl, hb⟩); (have HB4 := Lib.hid (HB3.out.trans (hb.mono HB3.out.size))); (have HT3 := Lib.hid (HT2.out.below hb (Nat.le_refl _))); (have HO3 := Lib.hid (blk_below hb (blk_lt HO2.out) HO2.out)); (have d0 := blk_cell HO3.out 0); (have d1 := blk_cell HO3.out 1); (simp only [List.getElem?_toArray, List.getElem?_cons_zero, List.getElem?_cons_succ] at d0 d1); (clear hb)) | (go_at_call 33; (refine (I3.out W2 HT3.out).mono ?_); (rintro e W3 ⟨rfl, hb⟩); (have HB5 := Lib.hid (HB4.out.trans (hb.mono HB4.out.size))); (clear hb)))
      go_ret
      exact ⟨rfl, HB5.out⟩
theorem salone_base {T : List Ent} {tbase tb : Nat} {sv : Value} {mb mp : Nat} (w : World) (id : Int) (h : TabIs w tbase tb T sv mb mp) (hl : T.length ≤ 100000) (hb : bornT T id = false) :
    Calls Tryz.prog 22 #[.pointer (some ⟨tb, 0, none⟩), .int .i64 id] w fun e w' => e = .returned (.bool (hasT T id)) ∧ Below w.heap.size w w' := by
  have HP := Lib.hid (par_tab id h)
  obtain ⟨q1, q2, hq⟩ : ∃ q1 q2, parT T id = (q1, q2) := ⟨_, _, rfl⟩
  rw [hb, hq] at HP
  have HH := Lib.hid (fun (V : World) (hV : TabIs V tbase tb T sv mb mp) => shas_any (a := id) (b := id) hV hl)
  rw [Bool.and_self] at HH
  have HT := Lib.hid h
  clear h hb hq hl
  go_enter Tryz.func22, Tryz.ntmps22
  go_wp2_with (first | (go_at_call 57; (refine HP.out.mono ?_); (rintro e V1 ⟨rfl, hb⟩); (unfold pairV); (have HB2 := Lib.hid (hb.trans (((Below.refl V1.heap.size V1).alloc (Nat.le_refl _) (.cells #[.int .i64 q1, .int .i64 q2] 55)).mono hb.size))); (have HT1 := Lib.hid (HT.out.below HB2.out (Nat.le_refl _))); (clear hb)) | (go_at_call 58; (refine (HH.out _ HT1.out).mono ?_); (rintro e V2 ⟨rfl, rfl⟩)))
  go_ret
  exact ⟨rfl, HB2.out⟩
theorem born_le {T : List Ent} (hT : OkT T) {id : Int} (h : bornT T id = true) : hasT T id = true ∧ 256 ≤ id := by
  have h0 : hasT T id = true := by
    unfold bornT at h
    rw [Bool.and_eq_true] at h
    exact h.1
  rw [born_iff hT h0] at h
  exact ⟨h0, by simpa using h⟩
theorem salone_any {T : List Ent} {tbase tb : Nat} {sv : Value} {mb mp : Nat} (hT : OkT T) (hl : T.length ≤ 100000) : ∀ (n : Nat) (w : World) (id : Int), id.toNat < n → TabIs w tbase tb T sv mb mp →
    Calls Tryz.prog 22 #[.pointer (some ⟨tb, 0, none⟩), .int .i64 id] w fun e w' => e = .returned (.bool (alT T n id)) ∧ Below w.heap.size w w'
  | 0, _, _, hn, _ => absurd hn (Nat.not_lt_zero _)
  | n + 1, w, id, hn, h => by
    rw [alT]
    by_cases hb : bornT T id = true
    · rw [if_pos hb]
      obtain ⟨h0, h2⟩ := born_le hT hb
      obtain ⟨p1, p2, p3, p4⟩ := par_has hT h0 h2
      have b1 := hasT_iff.1 p1
      have b2 := hasT_iff.1 p2
      have n1 : (parT T id).1.toNat < n := by omega
      have n2 : (parT T id).2.toNat < n := by omega
      refine salone_walk w id (parT T id).1 (parT T id).2 h hb rfl (fun V hV => salone_any hT hl n V (parT T id).1 n1 hV) (fun V hV => salone_any hT hl n V (parT T id).2 n2 hV) (fun V hV => ?_)
      have := swalk_any (a := (parT T id).1) (b := (parT T id).2) (lim := id) hV hT hl
      rw [p1, p2] at this
      exact this
    · rw [if_neg hb]
      exact salone_base w id h hl (by simpa using hb)
end Go.Proofs.YtbppaiejpgdbiaaGreat

/- Layer 14 (spine): is a token a special one. -/
namespace Go.Proofs.YtbppaiejpgdbiaaGreat
open Go.RowKit Go.Maps Go.WideMaps
set_option maxRecDepth 100000
set_option linter.unusedVariables false
set_option linter.unusedSimpArgs false
section
variable {w : World} {base vb : Nat} {s : SpecP} {T : List Ent} {A1 A2 A3 A4 A5 : Option Addr} {c1 c2 c3 c4 c5 tbase tb bk kbase mk : Nat} {sv : Value} {mb mp : Nat} {sv2 : Value} {mi mt : Nat} {l : Value} {dn st se us : Int}
theorem special_any (h : VocIs w base vb s T A1 A2 A3 A4 A5 c1 c2 c3 c4 c5 tbase tb bk kbase mk sv mb mp sv2 mi mt l dn st se us) (id : Int) (hw : (Lit.int .i64 id).wf = true) (hM : s.xs.length ≤ 1000) :
    Calls Tryz.prog 96 #[.pointer (some ⟨vb, 0, none⟩), .int .i64 id] w fun e w' => e = .returned (.bool (fndI s.xs id).isSome) ∧ w' = w := by
  have h1 := Lib.hid (vmarks_any h)
  have h2 := Lib.hid (mark_any h.mrk id hw hM)
  clear h hw hM
  go_enter Tryz.func96, Tryz.ntmps96
  go_wp2_with (first | (go_at_call 68; (refine h1.out.mono ?_); (rintro e V1 ⟨rfl, rfl⟩)) | (go_at_call 93; (refine h2.out.mono ?_); (rintro e V1 ⟨rfl, rfl⟩)))
  all_goals (go_ret; exact ⟨rfl, rfl⟩)
end
end Go.Proofs.YtbppaiejpgdbiaaGreat

/- Layer 14 (spine): beside, Valid. -/
namespace Go.Proofs.YtbppaiejpgdbiaaGreat
open Go.RowKit Go.Maps Go.WideMaps
set_option maxRecDepth 100000
set_option linter.unusedVariables false
set_option linter.unusedSimpArgs false
/-- may two stand side by side that are ordinary tokens -/
def VocP.besO (p : VocP) (a b : Int) : Bool := betB p.cut (bytesT p.T a) (bytesT p.T b) || (hasT p.T a && hasT p.T b && (wlkT p.T a b 9223372036854775807).1)
/-- may two stand side by side -/
def VocP.bes (p : VocP) (a b : Int) : Bool := (fndI p.s.xs a).isSome || (fndI p.s.xs b).isSome || p.besO a b
section
variable {w w' : World} {base : Nat} {p : VocP} {g : Option Nat} {l : Value} {dn st se us : Int}
set_option maxHeartbeats 2000000 in
theorem beside_q (h : VocQ w base p l dn st se us) (hT : OkT p.T) (a b : Int) (ha : (Lit.int .i64 a).wf = true) (hb : (Lit.int .i64 b).wf = true) (hM : p.s.xs.length ≤ 1000) :
    Calls Tryz.prog 52 #[.pointer (some ⟨p.vb, 0, none⟩), .int .i64 a, .int .i64 b] w fun e w' => e = .returned (.bool (p.bes a b)) ∧ Below w.heap.size w w' := by
  have HS : Hid (∀ x, (x = a ∨ x = b) → Calls Tryz.prog 96 #[.pointer (some ⟨p.vb, 0, none⟩), .int .i64 x] w fun e w' => e = .returned (.bool (fndI p.s.xs x).isSome) ∧ w' = w) := Lib.hid (by
    rintro x (rfl | rfl)
    · exact special_any h _ ha hM
    · exact special_any h _ hb hM)
  have HTB := Lib.hid (vtable_any h)
  have HBO := Lib.hid (vbounds_any h)
  have HB : Hid (∀ x, Calls Tryz.prog 97 #[.pointer (some ⟨p.tb, 0, none⟩), .int .i64 x] w fun e w' => e = .returned (.tuple #[.string (bs (bytesT p.T x)), .bool (hasT p.T x)]) ∧ w' = w) := Lib.hid (fun x => bytes_tab x h.tab)
  have HBT := Lib.hid (between_any (some ⟨p.bk, 0, none⟩) p.cut (bs (bytesT p.T a)) (bs (bytesT p.T b)) w (.inr ⟨p.bk, Cof p.s.cs, Jof p.s.js, rfl, h.bnd, rfl⟩) (by rw [bs_size]; have := bytesT_le hT a; omega))
  have HT : Hid (∀ m, VocQ (w.drewN m) base p l dn st se us) := Lib.hid (fun m => h.below (B := w.heap.size) (below_drewN (Below.refl _ _) m) (Nat.le_refl _))
  have HW := Lib.hid (fun m => swalk_any (a := a) (b := b) (lim := 9223372036854775807) (h.tab.drewN m) hT (by have := hT.small; omega))
  have ebs : ∀ l : List UInt8, (bs l).data.toList = l := fun l => rfl
  rw [ebs, ebs] at HBT
  unfold VocP.bes VocP.besO
  obtain ⟨q1, h1⟩ : ∃ q, (fndI p.s.xs a).isSome = q := ⟨_, rfl⟩
  obtain ⟨q2, h2⟩ : ∃ q, (fndI p.s.xs b).isSome = q := ⟨_, rfl⟩
  have HQ1 := Lib.hid h1
  have HQ2 := Lib.hid h2
  rw [h1, h2]
  generalize betB p.cut (bytesT p.T a) (bytesT p.T b) = q3 at *
  generalize (hasT p.T a && hasT p.T b && (wlkT p.T a b 9223372036854775807).1) = q4 at *
  clear h hT ha hb hM h1 h2 ebs
  cases q1 with
  | true =>
    go_enter Tryz.func52, Tryz.ntmps52
    go_wp2_with (go_at_call 96; refine (HS.out _ (.inl rfl)).mono ?_; rintro e W1 ⟨he, rfl⟩; rw [HQ1.out] at he; subst he)
    go_ret
    exact ⟨by simp, Below.refl _ _⟩
  | false =>
    cases q2 with
    | true =>
      go_enter Tryz.func52, Tryz.ntmps52
      go_wp2_with (go_at_call 96; refine (HS.out _ (by first | exact .inl rfl | exact .inr rfl)).mono ?_; rintro e W1 ⟨he, rfl⟩; (first | rw [HQ1.out] at he | rw [HQ2.out] at he); subst he)
      go_ret
      exact ⟨by simp, Below.refl _ _⟩
    | false =>
      have arm : True := trivial
      cases q3 with
      | true =>
        go_enter Tryz.func52, Tryz.ntmps52
        go_wp2_with (first
          | (go_at_call 96; refine (HS.out _ (by first | exact .inl rfl | exact .inr rfl)).mono ?_; rintro e W1 ⟨he, rfl⟩; (first | rw [HQ1.out] at he | rw [HQ2.out] at he); subst he)
          | (go_at_call 65; refine HTB.out.mono ?_; rintro e W1 ⟨rfl, rfl⟩)
          | (go_at_call 98; refine HBO.out.mono ?_; rintro e W1 ⟨rfl, rfl⟩)
          | (go_at_call 97; refine (HB.out _).mono ?_; rintro e W1 ⟨rfl, rfl⟩)
          | (go_at_call 99; refine HBT.out.mono ?_; rintro e W1 ⟨rfl, m, rfl⟩))
        go_ret
        exact ⟨by simp, below_drewN (Below.refl _ _) _⟩
      | false =>
        go_enter Tryz.func52, Tryz.ntmps52
        go_wp2_with (first
          | (go_at_call 96; refine (HS.out _ (by first | exact .inl rfl | exact .inr rfl)).mono ?_; rintro e W1 ⟨he, rfl⟩; (first | rw [HQ1.out] at he | rw [HQ2.out] at he); subst he)
          | (go_at_call 65; first | (refine HTB.out.mono ?_; rintro e W1 ⟨rfl, rfl⟩) | (refine (vtable_any (HT.out _)).mono ?_; rintro e W1 ⟨rfl, rfl⟩))
          | (go_at_call 98; refine HBO.out.mono ?_; rintro e W1 ⟨rfl, rfl⟩)
          | (go_at_call 97; refine (HB.out _).mono ?_; rintro e W1 ⟨rfl, rfl⟩)
          | (go_at_call 99; refine HBT.out.mono ?_; rintro e W1 ⟨rfl, m, rfl⟩)
          | (go_at_call 33; refine (HW.out _).mono ?_; rintro e W2 ⟨rfl, hb⟩; have HBW := Lib.hid hb; clear hb))
        go_ret
        exact ⟨by simp, (below_drewN (Below.refl _ _) _).trans HBW.out⟩
end
end Go.Proofs.YtbppaiejpgdbiaaGreat

