/- Texts of several layers, one behind the other: HeapW4, Cell, HeapW5, HeapW6, Chain2, Chain3, Ref0, Ref1, Ref3, Ref4, Ref5, Grow0, Grow1, Grow2, Chain4, Chain5, Chain6, Chain7, Chain8. -/
import Derived.Test.YtbppaiejpgdbiaaGreatZW1
import Derived.WalkKit
import Derived.KernelRfl
import Derived.Lib.Hide
import Derived.Deep.QuietTactic
import Derived.BigQuiet
import Derived.OwnWalk
import Derived.Lib.Strings
import Derived.Deep.DeepCutAuto
import Derived.Deep.RegionHeld3
import Derived.StillTailTactics
import Derived.Test.YtbppaiejpgdbiaaGreatProg
import Derived.Deep.Slices
import Derived.Deep.Fields
import Derived.ChangeSame
import Derived.SliceStrings
import Derived.OpenShut
import Derived.Maps.OwnSet
import Derived.Maps.OwnOps
import Derived.DeepKeys4
import Derived.WideKeyEntry
import Derived.Maps.AppendAt
import Derived.Laws.ResultCell
import Derived.Laws.IdiomStrings
import Derived.Laws.AppendOwnNone
import Derived.Lib.AppendStr
import Derived.Laws.LoneSync
import Derived.Tactics
import Derived.Tactics2
import Derived.Defers
import Derived.Laws.Pointers
import Derived.RegionTactic
import Derived.RegionCalls
import Derived.ChangeAlike
import Derived.Test.YtbppaiejpgdbiaaGreatRows
import Derived.ProofKit
import Derived.ShutString
import Derived.ChangeOld
import Derived.Below
import Derived.Lib.SmallJoins
set_option maxRecDepth 100000
set_option linter.unusedVariables false
set_option linter.unusedSimpArgs false
namespace Go.Proofs.YtbppaiejpgdbiaaGreat.hw
open Go.RowKit Go.Maps Go.WideMaps
theorem index_0 (x y : Int) (w : World) : (Instr.index 283 (.agg #[.int .i64 x, .int .i64 y]) (.int .i64 0)).run Tryz.prog w = .ok (.int .i64 x) w := by kernel_rfl
theorem index_1 (x y : Int) (w : World) : (Instr.index 283 (.agg #[.int .i64 x, .int .i64 y]) (.int .i64 1)).run Tryz.prog w = .ok (.int .i64 y) w := by kernel_rfl
set_option maxHeartbeats 8000000 in
theorem down_any {w : World} {base hb : Nat} {l : List (Th Wt)} {turn : Int} {A : Option Addr} {c : Nat} (h : HeapWs w base hb l turn A c) (hlen : l.length < 1000000000000000000) :
    Calls Tryz.prog 193 #[.pointer (some ⟨hb, 0, none⟩), .int .i64 0] w fun e w' => e = .returned (.tuple #[]) ∧ HeapWs w' base hb (downT l 0) turn A c ∧ Keep (fun g => A = some ⟨g, 0, none⟩) w w' := by
  have HH := Lib.hid h
  clear h
  go_enter Tryz.func193, Tryz.ntmps193
  go_wp2_with fail
  go_loopg [1] (l.length + 1) (fun n j W => ∃ (k : Nat) (m : List (Th Wt)), m.length + 1 ≤ k + n ∧ j = .int .i64 (k : Int) ∧ (k < m.length ∨ (k = 0 ∧ m.length = 0)) ∧ m.length = l.length ∧ downT m k = downT l 0 ∧ HeapWs W base hb m turn A c ∧ Keep (fun g => A = some ⟨g, 0, none⟩) w W)
  case atStart => exact ⟨0, l, by omega, rfl, by omega, rfl, rfl, HH.out, Keep.refl _ _⟩
  case round =>
    obtain ⟨k, m, hkn, rfl, hk, hml, hup, hW, hkeep⟩ := hrel
    rename World => W
    have HW := Lib.hid hW
    have HKP := Lib.hid hkeep
    have HUP := Lib.hid hup
    have HML := Lib.hid hml
    have hmlen : m.length < 1000000000000000000 := by omega
    clear hW hkeep hup HH hml
    have w1 : IntKind.i64.wrap (2 * (k : Int)) = 2 * (k : Int) := IntWalk.i64_in _ (by omega)
    have w2 : IntKind.i64.wrap (2 * (k : Int) + 1) = 2 * (k : Int) + 1 := IntWalk.i64_in _ (by omega)
    have w3 : IntKind.i64.wrap (2 * (k : Int) + 2) = 2 * (k : Int) + 2 := IntWalk.i64_in _ (by omega)
    go_wp2_with fail
    have HGO : Hid (∃ go, go = gk) := Lib.hid ⟨gk, rfl⟩
    obtain ⟨go, hgo⟩ := HGO.out
    have HGO := Lib.hid hgo
    clear hgo
    go_loopg [4, 15] 2 (fun n u i V => ∃ (j s : Nat), j + n = 2 ∧ i = .int .i64 (j : Int) ∧ u = .int .i64 (s : Int) ∧ (s < m.length ∨ (s = 0 ∧ m.length = 0)) ∧ (j = 0 → s = k) ∧ (j = 1 → s = lstT m k k (2 * k + 1)) ∧ (j = 2 → s = leastT m k) ∧ HeapWs V base hb m turn A c ∧ Keep (fun g => A = some ⟨g, 0, none⟩) w V)
    case atStart => exact ⟨0, k, rfl, rfl, rfl, by omega, fun _ => rfl, fun h => by omega, fun h => by omega, HW.out, HKP.out⟩
    case round =>
      obtain ⟨j, s, hj, rfl, rfl, hs, hc0N, hc1N, hc2N, hW2, hk2⟩ := hrel
      have HC0 := Lib.hid hc0N
      have HC1 := Lib.hid hc1N
      have HC2 := Lib.hid hc2N
      clear HW HKP hc0N hc1N hc2N
      rename World => W2
      have HW2 := Lib.hid hW2
      have HKP2 := Lib.hid hk2
      clear hW2 hk2
      rcases (by omega : j = 0 ∨ j = 1 ∨ j = 2) with rfl | rfl | rfl
      · have HCJ := Lib.hid (HC0.out rfl)
        obtain ⟨d, hd⟩ : ∃ d, 2 * k + 1 = d := ⟨_, rfl⟩
        have w5 : 2 * (k : Int) + 1 = (d : Int) := by omega
        have hix := fun x y => index_0 x y W2
        have HBB : Hid (Below W2.heap.size W2 W2.drew) := Lib.hid ⟨rfl, rfl, rfl, Nat.le_refl _, fun _ _ => rfl⟩
        have hc0 := blk_cell HW2.out.blk 0
        simp only [List.getElem?_toArray, List.getElem?_cons_zero, List.getElem?_cons_succ] at hc0
        go_upto_region 4 with fail
        clear hix
        (try rw [w5])
        by_cases hdm : d < m.length
        · have hs' : s < m.length := by omega
          have HE := Lib.hid (show lstT m k s d = if ltB m[d] m[s] = true then d else s from by unfold lstT; rw [dif_pos ⟨hdm, hs'⟩])
          obtain ⟨g, rfl, a0, a1, a2, a3, a4, a5⟩ := HW2.out.at d hdm
          obtain ⟨g', e, b0, b1, b2, b3, b4, b5⟩ := HW2.out.at s hs'
          injection e with e
          injection e with e
          subst e
          generalize hx : m[d] = x at *
          generalize hy : m[s] = y at *
          clear hx hy
          obtain ⟨xr, xp, xt, ⟨xx, xy, xz⟩⟩ := x
          obtain ⟨yr, yp, yt, ⟨yx, yy, yz⟩⟩ := y
          simp only at a0 a1 a2 a3 a4 a5 b0 b1 b2 b3 b4 b5
          have p0 : (0 : Int) ≤ (d : Int) := by omega
          have p1 : (d : Int) < (m.length : Int) := by omega
          have p2 : (0 : Int) ≤ (s : Int) := by omega
          have p3 : (s : Int) < (m.length : Int) := by omega
          have HSC : Hid (∀ V, Below W2.heap.size W2 V → V.cell? ⟨hb, 0, none⟩ = some (.slice (some ⟨g, 0, none⟩) m.length c) ∧ V.cell? ⟨g, d * 6, none⟩ = some (.int .i64 xr) ∧ V.cell? ⟨g, d * 6 + 1, none⟩ = some (.int .i64 xp) ∧ V.cell? ⟨g, d * 6 + 2, none⟩ = some (.int .i64 xt) ∧ V.cell? ⟨g, s * 6, none⟩ = some (.int .i64 yr) ∧ V.cell? ⟨g, s * 6 + 1, none⟩ = some (.int .i64 yp) ∧ V.cell? ⟨g, s * 6 + 2, none⟩ = some (.int .i64 yt)) := Lib.hid (fun V hV => ⟨below_cell hV (Nat.le_refl _) hc0, below_cell hV (Nat.le_refl _) a0, below_cell hV (Nat.le_refl _) a1, below_cell hV (Nat.le_refl _) a2, below_cell hV (Nat.le_refl _) b0, below_cell hV (Nat.le_refl _) b1, below_cell hV (Nat.le_refl _) b2⟩)
          have HLE := Lib.hid (fun V => less_any (⟨xr, xp, xt, ⟨xx, xy, xz⟩⟩ : Th Wt) ⟨yr, yp, yt, ⟨yx, yy, yz⟩⟩ V)
          obtain ⟨B, hB⟩ : ∃ B, ltB (⟨xr, xp, xt, ⟨xx, xy, xz⟩⟩ : Th Wt) ⟨yr, yp, yt, ⟨yx, yy, yz⟩⟩ = B := ⟨_, rfl⟩
          rw [hB] at HLE HE
          unfold keyV at HLE
          simp only at HLE
          have HD := Lib.hid hd
          have HDM := Lib.hid hdm
          clear hB hd w5 hdm a3 b3
          refine wp_region_D (Ds := []) (S := fun V => V.cell? ⟨hb, 0, none⟩ = some (.slice (some ⟨g, 0, none⟩) m.length c) ∧ V.cell? ⟨g, d * 6, none⟩ = some (.int .i64 xr) ∧ V.cell? ⟨g, d * 6 + 1, none⟩ = some (.int .i64 xp) ∧ V.cell? ⟨g, d * 6 + 2, none⟩ = some (.int .i64 xt) ∧ V.cell? ⟨g, s * 6, none⟩ = some (.int .i64 yr) ∧ V.cell? ⟨g, s * 6 + 1, none⟩ = some (.int .i64 yp) ∧ V.cell? ⟨g, s * 6 + 2, none⟩ = some (.int .i64 yt)) (by kernel_rfl) (by exact HSC.out _ HBB.out) (fun hHeld => ?_)
          refine tkP 0 18 ?_ rfl (.inl ⟨by rfl, ?_⟩) ?_; rotate_left; focus (intro w' _; go_simp; (try with_reducible rfl))
          try simp only [sIB, sC0, sCS]
          refine tkP 1 19 ?_ rfl (.inl ⟨by rfl, ?_⟩) ?_; rotate_left; focus (intro w' _; go_simp; (try with_reducible rfl))
          try simp only [sIB, sC0, sCS]
          refine tkP 2 20 ?_ rfl (.inl ⟨by rfl, ?_⟩) ?_; rotate_left; focus (intro w' _; go_simp; (try with_reducible rfl))
          try simp only [sIB, sC0, sCS]
          refine tkP 3 21 ?_ rfl (.inl ⟨by rfl, ?_⟩) ?_; rotate_left; focus (intro w' _; go_simp; (try with_reducible rfl))
          try simp only [sIB, sC0, sCS]
          refine tkD 4 22 ?_ rfl hHeld (.inl ⟨by rfl, ?_⟩) ?_; rotate_left; focus (intro w' hSw; (try dsimp only at hSw); go_simp; (try with_reducible rfl))
          try simp only [sIB, sC0, sCS]
          refine tkD 5 23 ?_ rfl hHeld (.inl ⟨by rfl, ?_⟩) ?_; rotate_left; focus (intro w' hSw; (try dsimp only at hSw); go_simp; (try with_reducible rfl))
          try simp only [sIB, sC0, sCS]
          refine tkP 6 24 ?_ rfl (.inl ⟨by rfl, ?_⟩) ?_; rotate_left; focus (intro w' _; go_simp; (try with_reducible rfl))
          try simp only [sIB, sC0, sCS]
          refine tkP 7 25 ?_ rfl (.inl ⟨by rfl, ?_⟩) ?_; rotate_left; focus (intro w' _; go_simp; (try with_reducible rfl))
          try simp only [sIB, sC0, sCS]
          refine tkP 8 26 ?_ rfl (.inl ⟨by rfl, ?_⟩) ?_; rotate_left; focus (intro w' _; go_simp; (try with_reducible rfl))
          try simp only [sIB, sC0, sCS]
          refine tkP 9 27 ?_ rfl (.inl ⟨by rfl, ?_⟩) ?_; rotate_left; focus (intro w' _; go_simp; (try with_reducible rfl))
          try simp only [sIB, sC0, sCS]
          refine tkP 10 28 ?_ rfl (.inl ⟨by rfl, ?_⟩) ?_; rotate_left; focus (intro w' _; go_simp; (try with_reducible rfl))
          try simp only [sIB, sC0, sCS]
          refine tkP 12 30 ?_ rfl (.inl ⟨by rfl, ?_⟩) ?_; rotate_left; focus (intro w' _; go_simp; (try with_reducible rfl))
          try simp only [sIB, sC0, sCS]
          refine tkP 16 34 ?_ rfl (.inl ⟨by rfl, ?_⟩) ?_; rotate_left; focus (intro w' _; go_simp; (try with_reducible rfl))
          try simp only [sIB, sC0, sCS]
          refine tkP 17 35 ?_ rfl (.inl ⟨by rfl, ?_⟩) ?_; rotate_left; focus (intro w' _; go_simp; (try with_reducible rfl))
          try simp only [sIB, sC0, sCS]
          refine tkP 18 36 ?_ rfl (.inl ⟨by rfl, ?_⟩) ?_; rotate_left; focus (intro w' _; go_simp; (try with_reducible rfl))
          try simp only [sIB, sC0, sCS]
          refine tkP 20 38 ?_ rfl (.inl ⟨by rfl, ?_⟩) ?_; rotate_left; focus (intro w' _; go_simp; (try with_reducible rfl))
          try simp only [sIB, sC0, sCS]
          refine tkD 11 29 ?_ rfl hHeld (.inl ⟨by rfl, ?_⟩) ?_; rotate_left; focus (intro w' hSw; (try dsimp only at hSw); go_simp; (try with_reducible rfl))
          try simp only [sIB, sC0, sCS]
          refine tkP 13 31 ?_ rfl (.inl ⟨by rfl, ?_⟩) ?_; rotate_left; focus (intro w' _; go_simp; (try with_reducible rfl))
          try simp only [sIB, sC0, sCS]
          refine tkP 14 32 ?_ rfl (.inl ⟨by rfl, ?_⟩) ?_; rotate_left; focus (intro w' _; go_simp; (try with_reducible rfl))
          try simp only [sIB, sC0, sCS]
          refine tkD 15 33 ?_ rfl hHeld (.inl ⟨by rfl, ?_⟩) ?_; rotate_left; focus (intro w' hSw; (try dsimp only at hSw); go_simp; (try with_reducible rfl))
          try simp only [sIB, sC0, sCS]
          refine tkD 19 37 ?_ rfl hHeld (.inl ⟨by rfl, ?_⟩) ?_; rotate_left; focus (intro w' hSw; (try dsimp only at hSw); go_simp; (try with_reducible rfl))
          try simp only [sIB, sC0, sCS]
          refine tkP 21 39 ?_ rfl (.inl ⟨by rfl, ?_⟩) ?_; rotate_left; focus (intro w' _; go_simp; (try with_reducible rfl))
          try simp only [sIB, sC0, sCS]
          refine tkP 22 40 ?_ rfl (.inl ⟨by rfl, ?_⟩) ?_; rotate_left; focus (intro w' _; go_simp; (try with_reducible rfl))
          try simp only [sIB, sC0, sCS]
          refine tkD 23 41 ?_ rfl hHeld (.inl ⟨by rfl, ?_⟩) ?_; rotate_left; focus (intro w' hSw; (try dsimp only at hSw); go_simp; (try with_reducible rfl))
          try simp only [sIB, sC0, sCS]
          refine wpAnyD_one (i := 24) (by kernel_rfl) rfl (by rfl) (fun K hK => ?_)
          go_simp; refine (HLE.out _).mono ?_; rintro e w' ⟨rfl, hb'⟩; have HBB := Lib.hid (HBB.out.trans (hb'.mono HBB.out.size)); have h := HSC.out _ HBB.out; clear hb'; go_simp
          refine hK.out _ _ h (fun hHeld => ?_)
          clear hK K
          try simp only [Act.put, sIB, sC0, sCS]
          refine tkP 25 43 ?_ rfl (.inl ⟨by rfl, ?_⟩) ?_; rotate_left; focus (intro w' _; go_simp; (try with_reducible rfl))
          try simp only [sIB, sC0, sCS]
          refine wpAnyD_done (by kernel_rfl) ?_ _
          have HW3 := Lib.hid (HW2.out.below HBB.out (Nat.le_refl _))
          have HKP3 := Lib.hid (HKP2.out.trans (Keep.of_below (F := fun g' => (some ⟨g, 0, none⟩ : Option Addr) = some ⟨g', 0, none⟩) HBB.out) (fun x hx => .inl (by simpa using hx)))
          clear hHeld a0 a1 a2 b0 b1 b2 hc0 HSC HLE HW2 HKP2 HBB
          cases B with
          | false =>
            simp only [Bool.false_eq_true, if_false] at HE
            go_wp2_with fail
            have w9 : (d : Int) = 2 * (k : Int) + 1 := by have := HD.out; omega
            (try rw [w9])
            clear w9
            go_roundg (gk - 1)
            case measure => omega
            case rel => exact ⟨1, s, by omega, by first | rfl | simp, by first | rfl | (have := HD.out; exact congrArg (Value.int .i64) (by omega)), .inl hs', fun h => by omega, fun _ => HE.out.symm.trans (by rw [HCJ.out, HD.out]), fun h => by omega, HW3.out, by first | exact HKP3.out | exact HKP3.out.mono (fun x hx => by simpa using hx)⟩
          | true =>
            simp only [if_true] at HE
            go_wp2_with fail
            have w9 : (d : Int) = 2 * (k : Int) + 1 := by have := HD.out; omega
            (try rw [w9])
            clear w9
            go_roundg (gk - 1)
            case measure => omega
            case rel => exact ⟨1, d, by omega, by first | rfl | simp, by first | rfl | (have := HD.out; exact congrArg (Value.int .i64) (by omega)), .inl HDM.out, fun h => by omega, fun _ => HE.out.symm.trans (by rw [HCJ.out, HD.out]), fun h => by omega, HW3.out, by first | exact HKP3.out | exact HKP3.out.mono (fun x hx => by simpa using hx)⟩
        · have hdm' : ¬ (d : Int) < (m.length : Int) := by omega
          have HE := Lib.hid (show lstT m k s d = s from by unfold lstT; rw [dif_neg (fun h => hdm h.1)])
          have HD := Lib.hid hd
          clear hdm hd w5
          refine wp_region_D (Ds := []) (S := fun V => V.cell? ⟨hb, 0, none⟩ = some (.slice A m.length c)) (by kernel_rfl) (by exact hc0) (fun hHeld => ?_)
          refine tkP 0 18 ?_ rfl (.inl ⟨by rfl, ?_⟩) ?_; rotate_left; focus (intro w' _; go_simp; (try with_reducible rfl))
          try simp only [sIB, sC0, sCS]
          refine tkP 1 19 ?_ rfl (.inl ⟨by rfl, ?_⟩) ?_; rotate_left; focus (intro w' _; go_simp; (try with_reducible rfl))
          try simp only [sIB, sC0, sCS]
          refine tkP 2 20 ?_ rfl (.inl ⟨by rfl, ?_⟩) ?_; rotate_left; focus (intro w' _; go_simp; (try with_reducible rfl))
          try simp only [sIB, sC0, sCS]
          refine tkP 3 21 ?_ rfl (.inl ⟨by rfl, ?_⟩) ?_; rotate_left; focus (intro w' _; go_simp; (try with_reducible rfl))
          try simp only [sIB, sC0, sCS]
          refine tkD 4 22 ?_ rfl hHeld (.inl ⟨by rfl, ?_⟩) ?_; rotate_left; focus (intro w' hSw; (try dsimp only at hSw); go_simp; (try with_reducible rfl))
          try simp only [sIB, sC0, sCS]
          refine tkD 5 23 ?_ rfl hHeld (.inl ⟨by rfl, ?_⟩) ?_; rotate_left; focus (intro w' hSw; (try dsimp only at hSw); go_simp; (try with_reducible rfl))
          try simp only [sIB, sC0, sCS]
          refine tkP 6 24 ?_ rfl (.inl ⟨by rfl, ?_⟩) ?_; rotate_left; focus (intro w' _; go_simp; (try with_reducible rfl))
          try simp only [sIB, sC0, sCS]
          refine tkP 7 25 ?_ rfl (.inl ⟨by rfl, ?_⟩) ?_; rotate_left; focus (intro w' _; go_simp; (try with_reducible rfl))
          try simp only [sIB, sC0, sCS]
          refine tkD 8 26 undef rfl hHeld (.inr ⟨by rfl, rfl⟩) ?_; try simp only [sIB, sC0, sCS]
          refine tkD 9 27 undef rfl hHeld (.inr ⟨by rfl, rfl⟩) ?_; try simp only [sIB, sC0, sCS]
          refine tkD 10 28 undef rfl hHeld (.inr ⟨by rfl, rfl⟩) ?_; try simp only [sIB, sC0, sCS]
          refine tkD 11 29 undef rfl hHeld (.inr ⟨by rfl, rfl⟩) ?_; try simp only [sIB, sC0, sCS]
          refine tkD 12 30 undef rfl hHeld (.inr ⟨by rfl, rfl⟩) ?_; try simp only [sIB, sC0, sCS]
          refine tkD 13 31 undef rfl hHeld (.inr ⟨by rfl, rfl⟩) ?_; try simp only [sIB, sC0, sCS]
          refine tkD 14 32 undef rfl hHeld (.inr ⟨by rfl, rfl⟩) ?_; try simp only [sIB, sC0, sCS]
          refine tkD 15 33 undef rfl hHeld (.inr ⟨by rfl, rfl⟩) ?_; try simp only [sIB, sC0, sCS]
          refine tkD 16 34 undef rfl hHeld (.inr ⟨by rfl, rfl⟩) ?_; try simp only [sIB, sC0, sCS]
          refine tkD 17 35 undef rfl hHeld (.inr ⟨by rfl, rfl⟩) ?_; try simp only [sIB, sC0, sCS]
          refine tkD 18 36 undef rfl hHeld (.inr ⟨by rfl, rfl⟩) ?_; try simp only [sIB, sC0, sCS]
          refine tkD 19 37 undef rfl hHeld (.inr ⟨by rfl, rfl⟩) ?_; try simp only [sIB, sC0, sCS]
          refine tkD 20 38 undef rfl hHeld (.inr ⟨by rfl, rfl⟩) ?_; try simp only [sIB, sC0, sCS]
          refine tkD 21 39 undef rfl hHeld (.inr ⟨by rfl, rfl⟩) ?_; try simp only [sIB, sC0, sCS]
          refine tkD 22 40 undef rfl hHeld (.inr ⟨by rfl, rfl⟩) ?_; try simp only [sIB, sC0, sCS]
          refine tkD 23 41 undef rfl hHeld (.inr ⟨by rfl, rfl⟩) ?_; try simp only [sIB, sC0, sCS]
          refine tkD 24 42 undef rfl hHeld (.inr ⟨by rfl, rfl⟩) ?_; try simp only [sIB, sC0, sCS]
          refine tkP 25 43 ?_ rfl (.inl ⟨by rfl, ?_⟩) ?_; rotate_left; focus (intro w' _; go_simp; (try with_reducible rfl))
          try simp only [sIB, sC0, sCS]
          refine wpAnyD_done (by kernel_rfl) ?_ _
          have HW3 := Lib.hid (HW2.out.below HBB.out (Nat.le_refl _))
          have HKP3 := Lib.hid (HKP2.out.trans (Keep.of_below (F := fun g' => A = some ⟨g', 0, none⟩) HBB.out) (fun x hx => .inl (by simpa using hx)))
          clear hHeld hc0 HW2 HKP2 HBB
          go_wp2_with fail
          have w9 : (d : Int) = 2 * (k : Int) + 1 := by have := HD.out; omega
          (try rw [w9])
          clear w9
          go_roundg (gk - 1)
          case measure => omega
          case rel => exact ⟨1, s, by omega, by first | rfl | simp, by first | rfl | (have := HD.out; exact congrArg (Value.int .i64) (by omega)), hs, fun h => by omega, fun _ => HE.out.symm.trans (by rw [HCJ.out, HD.out]), fun h => by omega, HW3.out, by first | exact HKP3.out | exact HKP3.out.mono (fun x hx => by simpa using hx)⟩
      · have HCJ := Lib.hid (HC1.out rfl)
        obtain ⟨d, hd⟩ : ∃ d, 2 * k + 2 = d := ⟨_, rfl⟩
        have w5 : 2 * (k : Int) + 2 = (d : Int) := by omega
        have hix := fun x y => index_1 x y W2
        have HBB : Hid (Below W2.heap.size W2 W2.drew) := Lib.hid ⟨rfl, rfl, rfl, Nat.le_refl _, fun _ _ => rfl⟩
        have hc0 := blk_cell HW2.out.blk 0
        simp only [List.getElem?_toArray, List.getElem?_cons_zero, List.getElem?_cons_succ] at hc0
        go_upto_region 4 with fail
        clear hix
        (try rw [w5])
        by_cases hdm : d < m.length
        · have hs' : s < m.length := by omega
          have HE := Lib.hid (show lstT m k s d = if ltB m[d] m[s] = true then d else s from by unfold lstT; rw [dif_pos ⟨hdm, hs'⟩])
          obtain ⟨g, rfl, a0, a1, a2, a3, a4, a5⟩ := HW2.out.at d hdm
          obtain ⟨g', e, b0, b1, b2, b3, b4, b5⟩ := HW2.out.at s hs'
          injection e with e
          injection e with e
          subst e
          generalize hx : m[d] = x at *
          generalize hy : m[s] = y at *
          clear hx hy
          obtain ⟨xr, xp, xt, ⟨xx, xy, xz⟩⟩ := x
          obtain ⟨yr, yp, yt, ⟨yx, yy, yz⟩⟩ := y
          simp only at a0 a1 a2 a3 a4 a5 b0 b1 b2 b3 b4 b5
          have p0 : (0 : Int) ≤ (d : Int) := by omega
          have p1 : (d : Int) < (m.length : Int) := by omega
          have p2 : (0 : Int) ≤ (s : Int) := by omega
          have p3 : (s : Int) < (m.length : Int) := by omega
          have HSC : Hid (∀ V, Below W2.heap.size W2 V → V.cell? ⟨hb, 0, none⟩ = some (.slice (some ⟨g, 0, none⟩) m.length c) ∧ V.cell? ⟨g, d * 6, none⟩ = some (.int .i64 xr) ∧ V.cell? ⟨g, d * 6 + 1, none⟩ = some (.int .i64 xp) ∧ V.cell? ⟨g, d * 6 + 2, none⟩ = some (.int .i64 xt) ∧ V.cell? ⟨g, s * 6, none⟩ = some (.int .i64 yr) ∧ V.cell? ⟨g, s * 6 + 1, none⟩ = some (.int .i64 yp) ∧ V.cell? ⟨g, s * 6 + 2, none⟩ = some (.int .i64 yt)) := Lib.hid (fun V hV => ⟨below_cell hV (Nat.le_refl _) hc0, below_cell hV (Nat.le_refl _) a0, below_cell hV (Nat.le_refl _) a1, below_cell hV (Nat.le_refl _) a2, below_cell hV (Nat.le_refl _) b0, below_cell hV (Nat.le_refl _) b1, below_cell hV (Nat.le_refl _) b2⟩)
          have HLE := Lib.hid (fun V => less_any (⟨xr, xp, xt, ⟨xx, xy, xz⟩⟩ : Th Wt) ⟨yr, yp, yt, ⟨yx, yy, yz⟩⟩ V)
          obtain ⟨B, hB⟩ : ∃ B, ltB (⟨xr, xp, xt, ⟨xx, xy, xz⟩⟩ : Th Wt) ⟨yr, yp, yt, ⟨yx, yy, yz⟩⟩ = B := ⟨_, rfl⟩
          rw [hB] at HLE HE
          unfold keyV at HLE
          simp only at HLE
          have HD := Lib.hid hd
          have HDM := Lib.hid hdm
          clear hB hd w5 hdm a3 b3
          refine wp_region_D (Ds := []) (S := fun V => V.cell? ⟨hb, 0, none⟩ = some (.slice (some ⟨g, 0, none⟩) m.length c) ∧ V.cell? ⟨g, d * 6, none⟩ = some (.int .i64 xr) ∧ V.cell? ⟨g, d * 6 + 1, none⟩ = some (.int .i64 xp) ∧ V.cell? ⟨g, d * 6 + 2, none⟩ = some (.int .i64 xt) ∧ V.cell? ⟨g, s * 6, none⟩ = some (.int .i64 yr) ∧ V.cell? ⟨g, s * 6 + 1, none⟩ = some (.int .i64 yp) ∧ V.cell? ⟨g, s * 6 + 2, none⟩ = some (.int .i64 yt)) (by kernel_rfl) (by exact HSC.out _ HBB.out) (fun hHeld => ?_)
          refine tkP 0 18 ?_ rfl (.inl ⟨by rfl, ?_⟩) ?_; rotate_left; focus (intro w' _; go_simp; (try with_reducible rfl))
          try simp only [sIB, sC0, sCS]
          refine tkP 1 19 ?_ rfl (.inl ⟨by rfl, ?_⟩) ?_; rotate_left; focus (intro w' _; go_simp; (try with_reducible rfl))
          try simp only [sIB, sC0, sCS]
          refine tkP 2 20 ?_ rfl (.inl ⟨by rfl, ?_⟩) ?_; rotate_left; focus (intro w' _; go_simp; (try with_reducible rfl))
          try simp only [sIB, sC0, sCS]
          refine tkP 3 21 ?_ rfl (.inl ⟨by rfl, ?_⟩) ?_; rotate_left; focus (intro w' _; go_simp; (try with_reducible rfl))
          try simp only [sIB, sC0, sCS]
          refine tkD 4 22 ?_ rfl hHeld (.inl ⟨by rfl, ?_⟩) ?_; rotate_left; focus (intro w' hSw; (try dsimp only at hSw); go_simp; (try with_reducible rfl))
          try simp only [sIB, sC0, sCS]
          refine tkD 5 23 ?_ rfl hHeld (.inl ⟨by rfl, ?_⟩) ?_; rotate_left; focus (intro w' hSw; (try dsimp only at hSw); go_simp; (try with_reducible rfl))
          try simp only [sIB, sC0, sCS]
          refine tkP 6 24 ?_ rfl (.inl ⟨by rfl, ?_⟩) ?_; rotate_left; focus (intro w' _; go_simp; (try with_reducible rfl))
          try simp only [sIB, sC0, sCS]
          refine tkP 7 25 ?_ rfl (.inl ⟨by rfl, ?_⟩) ?_; rotate_left; focus (intro w' _; go_simp; (try with_reducible rfl))
          try simp only [sIB, sC0, sCS]
          refine tkP 8 26 ?_ rfl (.inl ⟨by rfl, ?_⟩) ?_; rotate_left; focus (intro w' _; go_simp; (try with_reducible rfl))
          try simp only [sIB, sC0, sCS]
          refine tkP 9 27 ?_ rfl (.inl ⟨by rfl, ?_⟩) ?_; rotate_left; focus (intro w' _; go_simp; (try with_reducible rfl))
          try simp only [sIB, sC0, sCS]
          refine tkP 10 28 ?_ rfl (.inl ⟨by rfl, ?_⟩) ?_; rotate_left; focus (intro w' _; go_simp; (try with_reducible rfl))
          try simp only [sIB, sC0, sCS]
          refine tkP 12 30 ?_ rfl (.inl ⟨by rfl, ?_⟩) ?_; rotate_left; focus (intro w' _; go_simp; (try with_reducible rfl))
          try simp only [sIB, sC0, sCS]
          refine tkP 16 34 ?_ rfl (.inl ⟨by rfl, ?_⟩) ?_; rotate_left; focus (intro w' _; go_simp; (try with_reducible rfl))
          try simp only [sIB, sC0, sCS]
          refine tkP 17 35 ?_ rfl (.inl ⟨by rfl, ?_⟩) ?_; rotate_left; focus (intro w' _; go_simp; (try with_reducible rfl))
          try simp only [sIB, sC0, sCS]
          refine tkP 18 36 ?_ rfl (.inl ⟨by rfl, ?_⟩) ?_; rotate_left; focus (intro w' _; go_simp; (try with_reducible rfl))
          try simp only [sIB, sC0, sCS]
          refine tkP 20 38 ?_ rfl (.inl ⟨by rfl, ?_⟩) ?_; rotate_left; focus (intro w' _; go_simp; (try with_reducible rfl))
          try simp only [sIB, sC0, sCS]
          refine tkD 11 29 ?_ rfl hHeld (.inl ⟨by rfl, ?_⟩) ?_; rotate_left; focus (intro w' hSw; (try dsimp only at hSw); go_simp; (try with_reducible rfl))
          try simp only [sIB, sC0, sCS]
          refine tkP 13 31 ?_ rfl (.inl ⟨by rfl, ?_⟩) ?_; rotate_left; focus (intro w' _; go_simp; (try with_reducible rfl))
          try simp only [sIB, sC0, sCS]
          refine tkP 14 32 ?_ rfl (.inl ⟨by rfl, ?_⟩) ?_; rotate_left; focus (intro w' _; go_simp; (try with_reducible rfl))
          try simp only [sIB, sC0, sCS]
          refine tkD 15 33 ?_ rfl hHeld (.inl ⟨by rfl, ?_⟩) ?_; rotate_left; focus (intro w' hSw; (try dsimp only at hSw); go_simp; (try with_reducible rfl))
          try simp only [sIB, sC0, sCS]
          refine tkD 19 37 ?_ rfl hHeld (.inl ⟨by rfl, ?_⟩) ?_; rotate_left; focus (intro w' hSw; (try dsimp only at hSw); go_simp; (try with_reducible rfl))
          try simp only [sIB, sC0, sCS]
          refine tkP 21 39 ?_ rfl (.inl ⟨by rfl, ?_⟩) ?_; rotate_left; focus (intro w' _; go_simp; (try with_reducible rfl))
          try simp only [sIB, sC0, sCS]
          refine tkP 22 40 ?_ rfl (.inl ⟨by rfl, ?_⟩) ?_; rotate_left; focus (intro w' _; go_simp; (try with_reducible rfl))
          try simp only [sIB, sC0, sCS]
          refine tkD 23 41 ?_ rfl hHeld (.inl ⟨by rfl, ?_⟩) ?_; rotate_left; focus (intro w' hSw; (try dsimp only at hSw); go_simp; (try with_reducible rfl))
          try simp only [sIB, sC0, sCS]
          refine wpAnyD_one (i := 24) (by kernel_rfl) rfl (by rfl) (fun K hK => ?_)
          go_simp; refine (HLE.out _).mono ?_; rintro e w' ⟨rfl, hb'⟩; have HBB := Lib.hid (HBB.out.trans (hb'.mono HBB.out.size)); have h := HSC.out _ HBB.out; clear hb'; go_simp
          refine hK.out _ _ h (fun hHeld => ?_)
          clear hK K
          try simp only [Act.put, sIB, sC0, sCS]
          refine tkP 25 43 ?_ rfl (.inl ⟨by rfl, ?_⟩) ?_; rotate_left; focus (intro w' _; go_simp; (try with_reducible rfl))
          try simp only [sIB, sC0, sCS]
          refine wpAnyD_done (by kernel_rfl) ?_ _
          have HW3 := Lib.hid (HW2.out.below HBB.out (Nat.le_refl _))
          have HKP3 := Lib.hid (HKP2.out.trans (Keep.of_below (F := fun g' => (some ⟨g, 0, none⟩ : Option Addr) = some ⟨g', 0, none⟩) HBB.out) (fun x hx => .inl (by simpa using hx)))
          clear hHeld a0 a1 a2 b0 b1 b2 hc0 HSC HLE HW2 HKP2 HBB
          cases B with
          | false =>
            simp only [Bool.false_eq_true, if_false] at HE
            go_wp2_with fail
            have w9 : (d : Int) = 2 * (k : Int) + 2 := by have := HD.out; omega
            (try rw [w9])
            clear w9
            go_roundg (gk - 1)
            case measure => omega
            case rel => exact ⟨2, s, by omega, by first | rfl | simp, by first | rfl | (have := HD.out; exact congrArg (Value.int .i64) (by omega)), .inl hs', fun h => by omega, fun h => by omega, fun _ => HE.out.symm.trans (by rw [HCJ.out, ← HD.out]; rfl), HW3.out, by first | exact HKP3.out | exact HKP3.out.mono (fun x hx => by simpa using hx)⟩
          | true =>
            simp only [if_true] at HE
            go_wp2_with fail
            have w9 : (d : Int) = 2 * (k : Int) + 2 := by have := HD.out; omega
            (try rw [w9])
            clear w9
            go_roundg (gk - 1)
            case measure => omega
            case rel => exact ⟨2, d, by omega, by first | rfl | simp, by first | rfl | (have := HD.out; exact congrArg (Value.int .i64) (by omega)), .inl HDM.out, fun h => by omega, fun h => by omega, fun _ => HE.out.symm.trans (by rw [HCJ.out, ← HD.out]; rfl), HW3.out, by first | exact HKP3.out | exact HKP3.out.mono (fun x hx => by simpa using hx)⟩
        · have hdm' : ¬ (d : Int) < (m.length : Int) := by omega
          have HE := Lib.hid (show lstT m k s d = s from by unfold lstT; rw [dif_neg (fun h => hdm h.1)])
          have HD := Lib.hid hd
          clear hdm hd w5
          refine wp_region_D (Ds := []) (S := fun V => V.cell? ⟨hb, 0, none⟩ = some (.slice A m.length c)) (by kernel_rfl) (by exact hc0) (fun hHeld => ?_)
          refine tkP 0 18 ?_ rfl (.inl ⟨by rfl, ?_⟩) ?_; rotate_left; focus (intro w' _; go_simp; (try with_reducible rfl))
          try simp only [sIB, sC0, sCS]
          refine tkP 1 19 ?_ rfl (.inl ⟨by rfl, ?_⟩) ?_; rotate_left; focus (intro w' _; go_simp; (try with_reducible rfl))
          try simp only [sIB, sC0, sCS]
          refine tkP 2 20 ?_ rfl (.inl ⟨by rfl, ?_⟩) ?_; rotate_left; focus (intro w' _; go_simp; (try with_reducible rfl))
          try simp only [sIB, sC0, sCS]
          refine tkP 3 21 ?_ rfl (.inl ⟨by rfl, ?_⟩) ?_; rotate_left; focus (intro w' _; go_simp; (try with_reducible rfl))
          try simp only [sIB, sC0, sCS]
          refine tkD 4 22 ?_ rfl hHeld (.inl ⟨by rfl, ?_⟩) ?_; rotate_left; focus (intro w' hSw; (try dsimp only at hSw); go_simp; (try with_reducible rfl))
          try simp only [sIB, sC0, sCS]
          refine tkD 5 23 ?_ rfl hHeld (.inl ⟨by rfl, ?_⟩) ?_; rotate_left; focus (intro w' hSw; (try dsimp only at hSw); go_simp; (try with_reducible rfl))
          try simp only [sIB, sC0, sCS]
          refine tkP 6 24 ?_ rfl (.inl ⟨by rfl, ?_⟩) ?_; rotate_left; focus (intro w' _; go_simp; (try with_reducible rfl))
          try simp only [sIB, sC0, sCS]
          refine tkP 7 25 ?_ rfl (.inl ⟨by rfl, ?_⟩) ?_; rotate_left; focus (intro w' _; go_simp; (try with_reducible rfl))
          try simp only [sIB, sC0, sCS]
          refine tkD 8 26 undef rfl hHeld (.inr ⟨by rfl, rfl⟩) ?_; try simp only [sIB, sC0, sCS]
          refine tkD 9 27 undef rfl hHeld (.inr ⟨by rfl, rfl⟩) ?_; try simp only [sIB, sC0, sCS]
          refine tkD 10 28 undef rfl hHeld (.inr ⟨by rfl, rfl⟩) ?_; try simp only [sIB, sC0, sCS]
          refine tkD 11 29 undef rfl hHeld (.inr ⟨by rfl, rfl⟩) ?_; try simp only [sIB, sC0, sCS]
          refine tkD 12 30 undef rfl hHeld (.inr ⟨by rfl, rfl⟩) ?_; try simp only [sIB, sC0, sCS]
          refine tkD 13 31 undef rfl hHeld (.inr ⟨by rfl, rfl⟩) ?_; try simp only [sIB, sC0, sCS]
          refine tkD 14 32 undef rfl hHeld (.inr ⟨by rfl, rfl⟩) ?_; try simp only [sIB, sC0, sCS]
          refine tkD 15 33 undef rfl hHeld (.inr ⟨by rfl, rfl⟩) ?_; try simp only [sIB, sC0, sCS]
          refine tkD 16 34 undef rfl hHeld (.inr ⟨by rfl, rfl⟩) ?_; try simp only [sIB, sC0, sCS]
          refine tkD 17 35 undef rfl hHeld (.inr ⟨by rfl, rfl⟩) ?_; try simp only [sIB, sC0, sCS]
          refine tkD 18 36 undef rfl hHeld (.inr ⟨by rfl, rfl⟩) ?_; try simp only [sIB, sC0, sCS]
          refine tkD 19 37 undef rfl hHeld (.inr ⟨by rfl, rfl⟩) ?_; try simp only [sIB, sC0, sCS]
          refine tkD 20 38 undef rfl hHeld (.inr ⟨by rfl, rfl⟩) ?_; try simp only [sIB, sC0, sCS]
          refine tkD 21 39 undef rfl hHeld (.inr ⟨by rfl, rfl⟩) ?_; try simp only [sIB, sC0, sCS]
          refine tkD 22 40 undef rfl hHeld (.inr ⟨by rfl, rfl⟩) ?_; try simp only [sIB, sC0, sCS]
          refine tkD 23 41 undef rfl hHeld (.inr ⟨by rfl, rfl⟩) ?_; try simp only [sIB, sC0, sCS]
          refine tkD 24 42 undef rfl hHeld (.inr ⟨by rfl, rfl⟩) ?_; try simp only [sIB, sC0, sCS]
          refine tkP 25 43 ?_ rfl (.inl ⟨by rfl, ?_⟩) ?_; rotate_left; focus (intro w' _; go_simp; (try with_reducible rfl))
          try simp only [sIB, sC0, sCS]
          refine wpAnyD_done (by kernel_rfl) ?_ _
          have HW3 := Lib.hid (HW2.out.below HBB.out (Nat.le_refl _))
          have HKP3 := Lib.hid (HKP2.out.trans (Keep.of_below (F := fun g' => A = some ⟨g', 0, none⟩) HBB.out) (fun x hx => .inl (by simpa using hx)))
          clear hHeld hc0 HW2 HKP2 HBB
          go_wp2_with fail
          have w9 : (d : Int) = 2 * (k : Int) + 2 := by have := HD.out; omega
          (try rw [w9])
          clear w9
          go_roundg (gk - 1)
          case measure => omega
          case rel => exact ⟨2, s, by omega, by first | rfl | simp, by first | rfl | (have := HD.out; exact congrArg (Value.int .i64) (by omega)), hs, fun h => by omega, fun h => by omega, fun _ => HE.out.symm.trans (by rw [HCJ.out, ← HD.out]; rfl), HW3.out, by first | exact HKP3.out | exact HKP3.out.mono (fun x hx => by simpa using hx)⟩
      · have HS2 := Lib.hid (HC2.out rfl)
        by_cases hsk : s = k
        · subst hsk
          go_wp2_with fail
          (try simp only [Exit.inBlock, Exit.then])
          refine bodyPost_ret (results_none rfl _ _ _) rfl ?_
          refine ⟨rfl, ?_, HKP2.out⟩
          rw [← HUP.out, downT, dif_pos HS2.out.symm]
          exact HW2.out
        · have HNE := Lib.hid hsk
          have hsk' : ¬ (s : Int) = (k : Int) := by omega
          have hsm : s < m.length := by
            rcases hs with h | ⟨h1, h2⟩
            · exact h
            · omega
          have hkm : k < m.length := by omega
          clear hsk
          go_wp2_with fail
          refine (swap_any HW2.out k s hkm hsm hmlen).mono ?_
          rintro e w4 ⟨rfl, h4, hk4⟩
          have H4 := Lib.hid h4
          have HK4 := Lib.hid (HKP2.out.trans hk4 (fun x hx => .inl hx))
          clear h4 hk4
          have hgt : k < s := by
            have := least_or m k
            rw [← HS2.out] at this
            have := HNE.out
            omega
          go_wp2_with fail
          go_roundg (go - 1)
          case measure => have := HGO.out; omega
          case rel => exact ⟨s, _, by have := HGO.out; rw [swap_len]; omega, rfl, .inl (by rw [swap_len]; exact hsm), by rw [swap_len]; exact HML.out, by rw [← HUP.out]; conv => { rhs; rw [downT] }; rw [dif_neg (fun h => HNE.out (HS2.out.trans h)), ← HS2.out], H4.out, HK4.out⟩
end Go.Proofs.YtbppaiejpgdbiaaGreat.hw
namespace Go.Proofs.YtbppaiejpgdbiaaGreat
open Go.RowKit Go.Maps Go.WideMaps
theorem app_at {P : Program} {w : World} {ops : Array Oper} {rest : List Oper} {o : Oper} {a : Act} {Q : Exit → Act → World → Prop} (base : Nat) (t e : TypeId) (z : Value) (size bytes : Nat) (news : List Value) (c g : Nat) (s x : Operand)
    (hgd : o.guard = none) (ho : o.op = .call { callee := .builtin .append, args := #[s, x], argTypes := #[t, t] })
    (ht : P.underlying t = some (.slice e)) (hinfo : (P.info? e).map (fun i => (i.zero, i.size, i.bytes)) = some (some z, size, bytes)) (hzs : z.cells.size = size) (hsz : 0 < size)
    (v : Value) (n : Nat) (xs : List Value) (hs : a.eval s = v) (hx : a.eval x = .slice (some ⟨g, 0, none⟩) 1 c) (hl : news.length = size) (h1 : ∀ u ∈ news, u.oneCell' = true)
    (hblk : w.heap[g]? = some (.cells news.toArray e))
    (hown : w.ownsRow base e size v n xs) (hbytes : (n + 1) * bytes ≤ 140737488355328) (h63 : n < 9000000000000000000) (hbase : base ≤ w.heap.size)
    (h : ∀ v' w', w'.ownsRow base e size v' (n + 1) (xs ++ news) → w.grownBy w' v.ownBlock → (v'.ownBlock = v.ownBlock ∨ ∃ g, v'.ownBlock = some g ∧ w.heap.size ≤ g) → wpList P ops Q rest (a.put o.dst v') w') : wpList P ops Q (o :: rest) a w := by
  refine wpList_plain hgd fun K hK => ?_
  exact wp_app_at base t e z size bytes news c g s x ho ht hinfo hzs hsz v n xs hs hx hl h1 hblk hown hbytes h63 hbase (fun v' w' r1 r2 r3 => hK _ _ (h v' w' r1 r2 r3))
theorem app_new {P : Program} {w : World} {ops : Array Oper} {rest : List Oper} {o : Oper} {a : Act} {Q : Exit → Act → World → Prop} (base : Nat) (t e : TypeId) (z : Value) (size bytes : Nat) (news : List Value) (c : Nat) (s x : Operand)
    (hgd : o.guard = none) (ho : o.op = .call { callee := .builtin .append, args := #[s, x], argTypes := #[t, t] })
    (ht : P.underlying t = some (.slice e)) (hinfo : (P.info? e).map (fun i => (i.zero, i.size, i.bytes)) = some (some z, size, bytes)) (hzs : z.cells.size = size) (hsz : 0 < size)
    (v : Value) (n : Nat) (xs : List Value) (hs : a.eval s = v) (hx : a.eval x = .slice (some ⟨w.heap.size, 0, none⟩) 1 c) (hl : news.length = size) (h1 : ∀ u ∈ news, u.oneCell' = true)
    (hown : w.ownsRow base e size v n xs) (hbytes : (n + 1) * bytes ≤ 140737488355328) (h63 : n < 9000000000000000000) (hbase : base ≤ w.heap.size)
    (h : ∀ v' w', w'.ownsRow base e size v' (n + 1) (xs ++ news) → w.grownBy w' v.ownBlock → (v'.ownBlock = v.ownBlock ∨ ∃ g, v'.ownBlock = some g ∧ w.heap.size ≤ g) → wpList P ops Q rest (a.put o.dst v') w') : wpList P ops Q (o :: rest) a (w.alloc (.cells news.toArray e)) := by
  refine wpList_plain hgd fun K hK => ?_
  exact wp_app_one base t e z size bytes news c s x ho ht hinfo hzs hsz v n xs hs _ rfl hx hl h1 hown hbytes h63 hbase (fun v' w' r1 r2 r3 => hK _ _ (h v' w' r1 r2 r3))
theorem wp_app_list {P : Program} {w : World} {o : Oper} {a : Act} {K : Act → World → Prop} {Q : Exit → Act → World → Prop} (base : Nat) (t e : TypeId) (z : Value) (size bytes : Nat) (news : List Value) (c m : Nat) (ad : Addr) (s x : Operand)
    (ho : o.op = .call { callee := .builtin .append, args := #[s, x], argTypes := #[t, t] })
    (ht : P.underlying t = some (.slice e)) (hinfo : (P.info? e).map (fun i => (i.zero, i.size, i.bytes)) = some (some z, size, bytes)) (hzs : z.cells.size = size) (hsz : 0 < size)
    (v : Value) (n : Nat) (xs : List Value) (hs : a.eval s = v) (hx : a.eval x = .slice (some ad) m c) (hl : news.length = m * size) (hnews : ∀ j u, news[j]? = some u → w.cell? (ad.add j) = some u) (h1 : ∀ u ∈ news, u.oneCell' = true)
    (hown : w.ownsRow base e size v n xs) (hbytes : (n + m) * bytes ≤ 140737488355328) (h63 : n + m ≤ 9000000000000000000) (hbase : base ≤ w.heap.size)
    (h : ∀ v' w', w'.ownsRow base e size v' (n + m) (xs ++ news) → w.grownBy w' v.ownBlock → (v'.ownBlock = v.ownBlock ∨ ∃ g, v'.ownBlock = some g ∧ w.heap.size ≤ g) → K (a.put o.dst v') w') : Oper.wp P o a w K Q := by
  obtain ⟨i, hi, hz0, hz1, hz2⟩ := info_parts hinfo
  obtain ⟨v', w', hr, h2, h3, _, h5⟩ := run_append_own_at (P := P) w base t o.type e i z size bytes ht hi hz0 hz1 hz2 hzs hsz v n xs hown ad m c news hl hnews h1 (by unfold maxLen; omega) hbytes hbase
  unfold Oper.wp execOp
  simp only [ho, resolve, invoke, builtin, Sem.run_bind, Sem.run_pure, Result.andThen_ok, List.map_toArray, List.map_cons, List.map_nil, hs, hx, hr]
  refine h v' w' h2 h3 ?_
  rcases h5 with h5 | h5
  · exact .inl h5
  · exact .inr ⟨_, h5, Nat.le_refl _⟩
theorem results_cell1 {fn : Func} {p : Tmp} {ty : TypeId} (h : fn.results = #[.cell p ty]) (tmps : Array Value) (P : Program) (w : World) :
    (results fn tmps).run P w = ((asAddr (tmps.getD p undef)).run P w).andThen fun a w₁ => (loadVar ty a).run P w₁ := by
  simp only [results, h]
  simp [Sem.run_bind, Result.andThen]
theorem ret_cell1 {P : Program} {fn : Func} {R : Ending → World → Prop} {tmps : Array Value} {w : World} {r : Nat} {p : Tmp} {ty : TypeId} {v : Value}
    (h : fn.results = #[.cell p ty]) (hp : tmps.getD p undef = .pointer (some ⟨r, 0, none⟩))
    (hl : (loadVar ty ⟨r, 0, none⟩).run P w = .ok v w) (hR : R (.returned v) w) : bodyPost P fn R .ret ⟨tmps, []⟩ w := by
  refine bodyPost_ret (v := v) ?_ rfl hR
  rw [results_cell1 h, hp]
  simp [asAddr, hl, Result.andThen]
theorem app_copy {P : Program} {w : World} {ops : Array Oper} {rest : List Oper} {o : Oper} {a : Act} {Q : Exit → Act → World → Prop} (base base0 : Nat) (t e : TypeId) (z : Value) (size bytes : Nat) (s x : Operand)
    (hgd : o.guard = none) (ho : o.op = .call { callee := .builtin .append, args := #[s, x], argTypes := #[t, t] })
    (ht : P.underlying t = some (.slice e)) (hinfo : (P.info? e).map (fun i => (i.zero, i.size, i.bytes)) = some (some z, size, bytes)) (hzs : z.cells.size = size) (hsz : 0 < size)
    (v : Value) (n : Nat) (xs : List Value) (hs : a.eval s = .slice none 0 0) (hx : a.eval x = v) (h1 : ∀ u ∈ xs, u.oneCell' = true) (h0 : n = 0 → v = .slice none 0 0)
    (hown : w.ownsRow base0 e size v n xs) (hbytes : n * bytes ≤ 140737488355328) (h63 : n < 9000000000000000000) (hbase : base ≤ w.heap.size)
    (h : ∀ v' w', w'.ownsRow base e size v' n xs → Below w.heap.size w w' → (n = 0 → v' = .slice none 0 0) → wpList P ops Q rest (a.put o.dst v') w') : wpList P ops Q (o :: rest) a w := by
  obtain ⟨i, hi, hz0, hz1, hz2⟩ := info_parts hinfo
  by_cases hn : n = 0
  · subst hn
    have hv := h0 rfl
    subst hv
    have hx0 : xs = [] := by
      have := hown.1
      exact List.eq_nil_of_length_eq_zero (by simpa using this)
    subst hx0
    exact wpList_append_own_none hgd s x t ho base e i size ht hi (.slice none 0 0) 0 [] hs (own_nil _ _ _ _) hx (h _ _ (own_nil _ _ _ _) (Below.refl _ _) (fun _ => rfl))
  · obtain ⟨g, cap, rfl, hg, hlt, hc⟩ := own_open hown (by omega)
    refine wpList_append_own_at w hgd s x t ho base e i z size bytes ht hi hz0 hz1 hz2 hzs hsz (.slice none 0 0) 0 [] hs (own_nil _ _ _ _) ⟨g, 0, none⟩ n cap xs hx hown.1 ?_ h1 (by unfold maxLen; omega) (by rw [Nat.zero_add]; exact hbytes) hbase ?_
    · intro j u hu
      rw [add_plain, Nat.zero_add]
      exact (hc j u hu).1
    · intro v' w' r1 r2 _ _
      rw [Nat.zero_add, List.nil_append] at r1
      exact h v' w' r1 ⟨r2.os, r2.tape, r2.output, r2.size, fun k hk => r2.block k hk (by simp [Value.ownBlock])⟩ (fun e => absurd e hn)
end Go.Proofs.YtbppaiejpgdbiaaGreat
namespace Go.Proofs.YtbppaiejpgdbiaaGreat.hw
open Go.RowKit Go.Maps Go.WideMaps
theorem results_cell_tmp3 {fn : Func} {p u v x : Tmp} {ty : TypeId} (h : fn.results = #[.cell p ty, .tmp u, .tmp v, .tmp x]) (tmps : Array Value) (P : Program) (w : World) :
    (results fn tmps).run P w = ((asAddr (tmps.getD p undef)).run P w).andThen fun a w₁ => ((loadVar ty a).run P w₁).andThen fun y w₂ => .ok (.tuple #[y, tmps.getD u undef, tmps.getD v undef, tmps.getD x undef]) w₂ := by
  simp only [results, h]
  simp [Sem.run_bind, Result.andThen]
theorem ret_cell_tmp3 {P : Program} {fn : Func} {R : Ending → World → Prop} {tmps : Array Value} {w : World} {r : Nat} {p u u2 u3 : Tmp} {ty : TypeId} {v x y z : Value}
    (h : fn.results = #[.cell p ty, .tmp u, .tmp u2, .tmp u3]) (hp : tmps.getD p undef = .pointer (some ⟨r, 0, none⟩)) (hu : tmps.getD u undef = x) (hu2 : tmps.getD u2 undef = y) (hu3 : tmps.getD u3 undef = z)
    (hl : (loadVar ty ⟨r, 0, none⟩).run P w = .ok v w) (hR : R (.returned (.tuple #[v, x, y, z])) w) : bodyPost P fn R .ret ⟨tmps, []⟩ w := by
  refine bodyPost_ret (v := .tuple #[v, x, y, z]) ?_ rfl hR
  rw [results_cell_tmp3 h, hp, hu, hu2, hu3]
  simp [asAddr, hl, Result.andThen]
theorem load_wt {w : World} {r : Nat} {x y z : Int} (n0 : w.cell? ⟨r, 0, none⟩ = some (.int .i64 x)) (n1 : w.cell? ⟨r, 1, none⟩ = some (.int .i64 y)) (n2 : w.cell? ⟨r, 2, none⟩ = some (.int .i64 z)) : (loadVar 261 ⟨r, 0, none⟩).run Tryz.prog w = .ok (.agg #[.int .i64 x, .int .i64 y, .int .i64 z]) w := by
  simp [go_sem, n0, n1, n2]
def wtV (x : Wt) : Value := .agg #[.int .i64 x.i, .int .i64 x.a, .int .i64 x.b]
theorem new_any (w : World) : Calls Tryz.prog 178 #[] w fun e w' => e = .returned (.pointer (some ⟨w.heap.size, 0, none⟩)) ∧ HeapWs w' w.heap.size w.heap.size [] 0 none 0 ∧ Below w.heap.size w w' := by
  have hb := (Below.refl w.heap.size w).alloc (Nat.le_refl _) (.cells #[.slice none 0 0, .int .i64 0] 277)
  have HS := Lib.hid (show HeapWs (w.alloc (.cells #[.slice none 0 0, .int .i64 0] 277)) w.heap.size w.heap.size [] 0 none 0 from ⟨blk_new w _, by simpa using own_nil _ _ _ _, Nat.le_refl _⟩)
  have HB := Lib.hid hb
  clear hb
  go_enter Tryz.func178, Tryz.ntmps178
  go_wp2_with fail
  go_ret
  exact ⟨rfl, HS.out, HB.out⟩
section
variable {w : World} {base hb : Nat} {l : List (Th Wt)} {turn : Int} {A : Option Addr} {c : Nat}
theorem len_h (h : HeapWs w base hb l turn A c) : Calls Tryz.prog 195 #[.pointer (some ⟨hb, 0, none⟩)] w fun e w' => e = .returned (.int .i64 (l.length : Nat)) ∧ w' = w := by
  have h0 := blk_cell h.blk 0
  simp only [List.getElem?_toArray, List.getElem?_cons_zero, List.getElem?_cons_succ] at h0
  clear h
  go_enter Tryz.func195, Tryz.ntmps195
  go_wp2_with fail
  go_ret
  exact ⟨rfl, rfl⟩
theorem peek_none (h : HeapWs w base hb [] turn A c) : Calls Tryz.prog 191 #[.pointer (some ⟨hb, 0, none⟩)] w fun e w' => e = .returned (.tuple #[wtV ⟨0, 0, 0⟩, .int .i64 0, .int .i64 0, .bool false]) ∧ Below w.heap.size w w' := by
  have HB1 := Lib.hid ((Below.refl w.heap.size w).alloc (Nat.le_refl _) (.cells #[.int .i64 0, .int .i64 0, .int .i64 0] 261))
  have hn := blk_new w (.cells #[.int .i64 0, .int .i64 0, .int .i64 0] 261)
  have HLEN := Lib.hid (len_h (h.below HB1.out (Nat.le_refl _)))
  have hn2 := blk_new (w.alloc (.cells #[.int .i64 0, .int .i64 0, .int .i64 0] 261)) (.cells #[.int .i64 0, .int .i64 0, .int .i64 0] 261)
  have HB2 := Lib.hid (HB1.out.alloc (by simp) (.cells #[.int .i64 0, .int .i64 0, .int .i64 0] 261))
  have HM : Hid (∀ i v, (#[.int .i64 0, .int .i64 0, .int .i64 0] : Array Value)[i]? = some v → ((w.alloc (.cells #[.int .i64 0, .int .i64 0, .int .i64 0] 261)).alloc (.cells #[.int .i64 0, .int .i64 0, .int .i64 0] 261)).cell? ⟨w.heap.size, i, none⟩ = some v) := Lib.hid (fun i v e => by rw [blk_cell (blk_below ((Below.refl _ (w.alloc (.cells #[.int .i64 0, .int .i64 0, .int .i64 0] 261))).alloc (Nat.le_refl _) (.cells #[.int .i64 0, .int .i64 0, .int .i64 0] 261)) (by simp) hn) i]; exact e)
  clear h
  go_enter Tryz.func191, Tryz.ntmps191
  go_wp2_with fail
  refine HLEN.out.mono ?_
  rintro e w' ⟨rfl, rfl⟩
  clear HLEN
  go_wp2_with fail
  refine ret_cell_tmp3 rfl rfl rfl rfl rfl (load_wt (HM.out 0 _ rfl) (HM.out 1 _ rfl) (HM.out 2 _ rfl)) ⟨rfl, HB2.out⟩
set_option maxHeartbeats 4000000 in
theorem peek_h (h : HeapWs w base hb l turn A c) (hl : 0 < l.length) : Calls Tryz.prog 191 #[.pointer (some ⟨hb, 0, none⟩)] w fun e w' => e = .returned (.tuple #[wtV l[0].x, .int .i64 l[0].r, .int .i64 l[0].p, .bool true]) ∧ Below w.heap.size w w' := by
  have HB1 := Lib.hid ((Below.refl w.heap.size w).alloc (Nat.le_refl _) (.cells #[.int .i64 0, .int .i64 0, .int .i64 0] 261))
  have hn := blk_new w (.cells #[.int .i64 0, .int .i64 0, .int .i64 0] 261)
  have h' := h.below HB1.out (Nat.le_refl _)
  obtain ⟨g, rfl, a0, a1, a2, a3, a4, a5⟩ := h'.at 0 hl
  have HLEN := Lib.hid (len_h h')
  have h0 := blk_cell h'.blk 0
  simp only [List.getElem?_toArray, List.getElem?_cons_zero, List.getElem?_cons_succ] at h0
  generalize l[0] = x at *
  obtain ⟨xr, xp, xt, ⟨xx, xy, xz⟩⟩ := x
  simp only [Nat.zero_mul, Nat.zero_add] at a0 a1 a2 a3 a4 a5
  have hs1 : (w.alloc (.cells #[.int .i64 0, .int .i64 0, .int .i64 0] 261)).heap.size = w.heap.size + 1 := by simp
  generalize hW1 : w.alloc (.cells #[.int .i64 0, .int .i64 0, .int .i64 0] 261) = W1 at *
  have HB2 := Lib.hid (HB1.out.alloc (by rw [hs1]; exact Nat.le_succ _) (.cells #[.int .i64 xr, .int .i64 xp, .int .i64 xt, .int .i64 xx, .int .i64 xy, .int .i64 xz] 282))
  have HR := Lib.hid (blk_below ((Below.refl W1.heap.size W1).alloc (Nat.le_refl _) (.cells #[.int .i64 xr, .int .i64 xp, .int .i64 xt, .int .i64 xx, .int .i64 xy, .int .i64 xz] 282)) (by rw [hs1]; exact Nat.lt_succ_self _) hn)
  have hn2 := blk_new W1 (.cells #[.int .i64 xr, .int .i64 xp, .int .i64 xt, .int .i64 xx, .int .i64 xy, .int .i64 xz] 282)
  have n0 := blk_cell hn2 0
  have n1 := blk_cell hn2 1
  have n3 := blk_cell hn2 3
  have n4 := blk_cell hn2 4
  have n5 := blk_cell hn2 5
  simp only [List.getElem?_toArray, List.getElem?_cons_zero, List.getElem?_cons_succ] at n0 n1 n3 n4 n5
  have hl' : ¬ (l.length : Int) = 0 := by omega
  have hl2 : (0 : Int) < (l.length : Int) := by omega
  have HS1 := Lib.hid hs1
  replace hW1 := Lib.hid hW1
  have HN := Lib.hid hn2
  clear h h' hn hn2 hs1
  go_enter Tryz.func191, Tryz.ntmps191
  go_wp2_with fail
  rw [hW1.out]
  refine HLEN.out.mono ?_
  rintro e W1 ⟨rfl, rfl⟩
  clear HLEN
  go_upto_region 5 with fail
  replace HB2 := Lib.hid HB2.out.drew
  refine wp_region_D (Ds := []) (S := fun V => V.cell? ⟨W1.heap.size, 0, none⟩ = some (.int .i64 xr) ∧ V.cell? ⟨W1.heap.size, 1, none⟩ = some (.int .i64 xp) ∧ V.cell? ⟨W1.heap.size, 3, none⟩ = some (.int .i64 xx) ∧ V.cell? ⟨W1.heap.size, 4, none⟩ = some (.int .i64 xy) ∧ V.cell? ⟨W1.heap.size, 5, none⟩ = some (.int .i64 xz)) (by kernel_rfl) (by exact ⟨n0, n1, n3, n4, n5⟩) (fun hHeld => ?_)
  (have HND : Hid ((W1.alloc (.cells #[.int .i64 xr, .int .i64 xp, .int .i64 xt, .int .i64 xx, .int .i64 xy, .int .i64 xz] 282)).drew.heap[W1.heap.size]? = some (.cells #[.int .i64 xr, .int .i64 xp, .int .i64 xt, .int .i64 xx, .int .i64 xy, .int .i64 xz] 282)) := Lib.hid HN.out); (have HRD : Hid ((W1.alloc (.cells #[.int .i64 xr, .int .i64 xp, .int .i64 xt, .int .i64 xx, .int .i64 xy, .int .i64 xz] 282)).drew.heap[w.heap.size]? = some (.cells #[.int .i64 0, .int .i64 0, .int .i64 0] 261)) := Lib.hid HR.out); generalize (W1.alloc (.cells #[.int .i64 xr, .int .i64 xp, .int .i64 xt, .int .i64 xx, .int .i64 xy, .int .i64 xz] 282)).drew = W2 at *
  refine tkP 0 18 ?_ rfl (.inl ⟨by rfl, ?_⟩) ?_; rotate_left; focus (intro w' _; go_simp; (try with_reducible rfl))
  try simp only [sIB, sC0, sCS]
  refine tkP 2 20 ?_ rfl (.inl ⟨by rfl, ?_⟩) ?_; rotate_left; focus (intro w' _; go_simp; (try with_reducible rfl))
  try simp only [sIB, sC0, sCS]
  refine tkP 3 21 ?_ rfl (.inl ⟨by rfl, ?_⟩) ?_; rotate_left; focus (intro w' _; go_simp; (try with_reducible rfl))
  try simp only [sIB, sC0, sCS]
  refine tkP 5 23 ?_ rfl (.inl ⟨by rfl, ?_⟩) ?_; rotate_left; focus (intro w' _; go_simp; (try with_reducible rfl))
  try simp only [sIB, sC0, sCS]
  refine tkP 6 24 ?_ rfl (.inl ⟨by rfl, ?_⟩) ?_; rotate_left; focus (intro w' _; go_simp; (try with_reducible rfl))
  try simp only [sIB, sC0, sCS]
  refine tkD 1 19 ?_ rfl hHeld (.inl ⟨by rfl, ?_⟩) ?_; rotate_left; focus (intro w' hSw; (try dsimp only at hSw); go_simp; (try with_reducible rfl))
  try simp only [sIB, sC0, sCS]
  refine tkD 4 22 ?_ rfl hHeld (.inl ⟨by rfl, ?_⟩) ?_; rotate_left; focus (intro w' hSw; (try dsimp only at hSw); go_simp; (try with_reducible rfl))
  try simp only [sIB, sC0, sCS]
  refine tkD 7 25 ?_ rfl hHeld (.inl ⟨by rfl, ?_⟩) ?_; rotate_left; focus (intro w' hSw; (try dsimp only at hSw); go_simp; (try with_reducible rfl))
  try simp only [sIB, sC0, sCS]
  refine wpAnyD_one (i := 8) (by kernel_rfl) rfl (by rfl) (fun K hK => ?_)
  have z0 := blk_froz HRD.out 0; have z1 := blk_froz HRD.out 1; have z2 := blk_froz HRD.out 2; have c0 := blk_cell HRD.out 0; have c1 := blk_cell HRD.out 1; have c2 := blk_cell HRD.out 2; simp only [List.getElem?_toArray, List.getElem?_cons_zero, List.getElem?_cons_succ] at c0 c1 c2; go_simp; clear z0 z1 z2 c0 c1 c2; have HK : Hid (Keep (fun x => x = w.heap.size) W2 (((W2.setCell ⟨w.heap.size, 0, none⟩ (.int .i64 xx)).setCell ⟨w.heap.size, 1, none⟩ (.int .i64 xy)).setCell ⟨w.heap.size, 2, none⟩ (.int .i64 xz))) := Lib.hid ((((Keep.refl (fun x => x = w.heap.size) W2).setCell (p := ⟨w.heap.size, 0, none⟩) (.inl rfl) _).setCell (p := ⟨w.heap.size, 1, none⟩) (.inl rfl) _).setCell (p := ⟨w.heap.size, 2, none⟩) (.inl rfl) _); have HB3 : Hid (Below w.heap.size w (((W2.setCell ⟨w.heap.size, 0, none⟩ (.int .i64 xx)).setCell ⟨w.heap.size, 1, none⟩ (.int .i64 xy)).setCell ⟨w.heap.size, 2, none⟩ (.int .i64 xz))) := Lib.hid (((HB2.out.setCell (p := ⟨w.heap.size, 0, none⟩) (Nat.le_refl _) _).setCell (p := ⟨w.heap.size, 1, none⟩) (Nat.le_refl _) _).setCell (p := ⟨w.heap.size, 2, none⟩) (Nat.le_refl _) _); have HR3 : Hid ((((W2.setCell ⟨w.heap.size, 0, none⟩ (.int .i64 xx)).setCell ⟨w.heap.size, 1, none⟩ (.int .i64 xy)).setCell ⟨w.heap.size, 2, none⟩ (.int .i64 xz)).heap[w.heap.size]? = some (.cells #[.int .i64 xx, .int .i64 xy, .int .i64 xz] 261)) := Lib.hid (by simpa using blk_set (blk_set (blk_set HRD.out 0 (.int .i64 xx)) 1 (.int .i64 xy)) 2 (.int .i64 xz)); have HN3 := Lib.hid (HK.out.blk HND.out (by have := HS1.out; omega)); refine gen_set6 rfl (fun W' hW' => ?_); rw [← hW'] at HB3 HR3 HN3; clear hW' HK; have h : W'.cell? ⟨W1.heap.size, 0, none⟩ = some (.int .i64 xr) ∧ W'.cell? ⟨W1.heap.size, 1, none⟩ = some (.int .i64 xp) ∧ W'.cell? ⟨W1.heap.size, 3, none⟩ = some (.int .i64 xx) ∧ W'.cell? ⟨W1.heap.size, 4, none⟩ = some (.int .i64 xy) ∧ W'.cell? ⟨W1.heap.size, 5, none⟩ = some (.int .i64 xz) := ⟨blk_cell HN3.out 0, blk_cell HN3.out 1, blk_cell HN3.out 3, blk_cell HN3.out 4, blk_cell HN3.out 5⟩
  refine hK.out _ _ h (fun hHeld => ?_)
  clear hK K
  try simp only [Act.put, sIB, sC0, sCS]
  refine tkP 9 3 ?_ rfl (.inl ⟨by rfl, ?_⟩) ?_; rotate_left; focus (intro w' _; go_simp; (try with_reducible rfl))
  try simp only [sIB, sC0, sCS]
  refine tkP 10 4 ?_ rfl (.inl ⟨by rfl, ?_⟩) ?_; rotate_left; focus (intro w' _; go_simp; (try with_reducible rfl))
  try simp only [sIB, sC0, sCS]
  refine tkP 11 5 ?_ rfl (.inl ⟨by rfl, ?_⟩) ?_; rotate_left; focus (intro w' _; go_simp; (try with_reducible rfl))
  try simp only [sIB, sC0, sCS]
  refine wpAnyD_done (by kernel_rfl) ?_ _
  go_wp2_with fail
  refine ret_cell_tmp3 rfl rfl rfl rfl rfl (load_wt (blk_cell HR3.out 0) (blk_cell HR3.out 1) (blk_cell HR3.out 2)) ⟨rfl, ?_⟩
  exact HB3.out
end
end Go.Proofs.YtbppaiejpgdbiaaGreat.hw
namespace Go.Proofs.YtbppaiejpgdbiaaGreat.hw
open Go.RowKit Go.Maps Go.WideMaps
def heapF (hb : Nat) (A : Option Addr) (g : Nat) : Prop := g = hb ∨ A = some ⟨g, 0, none⟩
def NewRow (w : World) (A A' : Option Addr) : Prop := A' = A ∨ ∃ g, A' = some ⟨g, 0, none⟩ ∧ w.heap.size ≤ g
theorem own_addr {w : World} {base n c : Nat} {e : TypeId} {size : Nat} {A : Option Addr} {xs : List Value} (h : w.ownsRow base e size (.slice A n c) n xs) : ∀ g, (Value.slice A n c).ownBlock = some g → A = some ⟨g, 0, none⟩ := by
  intro g hg
  rcases h.2 with ⟨e1, _⟩ | ⟨g', cap, cur, e1, _⟩
  · injection e1 with e1; subst e1; simp [Value.ownBlock] at hg
  · injection e1 with e1; subst e1; simp [Value.ownBlock] at hg; subst hg; rfl
theorem addr_own {A : Option Addr} {n c g : Nat} (h : A = some ⟨g, 0, none⟩) : (Value.slice A n c).ownBlock = some g := by subst h; rfl
theorem HeapWs.base {w : World} {base hb : Nat} {l : List (Th Wt)} {turn : Int} {A : Option Addr} {c : Nat} (h : HeapWs w base hb l turn A c) : ∀ g, heapF hb A g → base ≤ g := by
  intro g hg
  rcases hg with rfl | hg
  · exact h.le
  · exact own_base h.row g (addr_own hg)
theorem HeapWs.keep {w w' : World} {base hb : Nat} {l : List (Th Wt)} {turn : Int} {A : Option Addr} {c : Nat} {F : Nat → Prop} (h : HeapWs w base hb l turn A c) (k : Keep F w w') (hF : ∀ g, heapF hb A g → ¬ F g) : HeapWs w' base hb l turn A c :=
  ⟨k.blk h.blk (hF _ (.inl rfl)), own_keep h.row k (fun g hg => hF g (.inr (own_addr h.row g hg))), h.le⟩
theorem own_lt {w : World} {base n : Nat} {e : TypeId} {size : Nat} {v : Value} {xs : List Value} (h : w.ownsRow base e size v n xs) : ∀ g, v.ownBlock = some g → g < w.heap.size := by
  intro g hg
  rcases h.2 with ⟨rfl, _⟩ | ⟨g', cap, cur, rfl, _, hg', _⟩
  · simp [Value.ownBlock] at hg
  · simp only [Value.ownBlock, Option.some.injEq] at hg
    subst hg
    exact blk_lt hg'
set_option maxHeartbeats 4000000 in
theorem push_any {w : World} {base hb : Nat} {l : List (Th Wt)} {turn : Int} {A : Option Addr} {c : Nat} (h : HeapWs w base hb l turn A c) (r p : Int) (x : Wt) (hlen : l.length < 1000000000) (ht0 : 0 ≤ turn) (ht1 : turn < 1000000000000000000) (hbase : base ≤ w.heap.size) :
    Calls Tryz.prog 190 #[.pointer (some ⟨hb, 0, none⟩), .int .i64 r, .int .i64 p, wtV x] w fun e w' => e = .returned (.tuple #[]) ∧ (∃ A' c', HeapWs w' base hb (pushT l ⟨r, p, turn, x⟩) (turn + 1) A' c' ∧ NewRow w A A') ∧ Keep (heapF hb A) w w' := by
  obtain ⟨xi, xa, xb⟩ := x
  have hbw := (Below.refl w.heap.size w).alloc (Nat.le_refl _) (.cells #[.int .i64 xi, .int .i64 xa, .int .i64 xb] 261)
  have hh := h.below hbw (Nat.le_refl _)
  have h0 := blk_cell hh.blk 0
  have h1 := blk_cell hh.blk 1
  have hn := blk_new w (.cells #[.int .i64 xi, .int .i64 xa, .int .i64 xb] 261)
  have n0 := blk_cell hn 0
  have n1 := blk_cell hn 1
  have n2 := blk_cell hn 2
  simp only [List.getElem?_toArray, List.getElem?_cons_zero, List.getElem?_cons_succ] at h0 h1 n0 n1 n2
  have HH := Lib.hid hh
  have HBW := Lib.hid hbw
  have HNB : Hid ((w.alloc (.cells #[.int .i64 xi, .int .i64 xa, .int .i64 xb] 261)).drew.heap[w.heap.size]? = some (.cells #[.int .i64 xi, .int .i64 xa, .int .i64 xb] 261)) := Lib.hid hn
  have HX := Lib.hid (own_lt h.row)
  have HBASE := Lib.hid hbase
  clear hh hbw hn
  have wt : IntKind.i64.wrap (turn + 1) = turn + 1 := IntWalk.i64_in _ (by omega)
  clear h hbase
  unfold wtV
  go_enter Tryz.func190, Tryz.ntmps190
  go_wp2_with fail
  have HD := Lib.hid (show HeapWs (w.alloc (.cells #[.int .i64 xi, .int .i64 xa, .int .i64 xb] 261)).drew base hb l turn A c from HH.out.drew)
  have HK : Hid (Keep (heapF hb A) w (w.alloc (.cells #[.int .i64 xi, .int .i64 xa, .int .i64 xb] 261)).drew) := Lib.hid ((Keep.of_below HBW.out).drew)
  refine wp_region_D (Ds := [18]) (S := fun V => V.cell? ⟨hb, 0, none⟩ = some (.slice A l.length c) ∧ V.cell? ⟨hb, 1, none⟩ = some (.int .i64 turn) ∧ V.cell? ⟨w.heap.size, 0, none⟩ = some (.int .i64 xi) ∧ V.cell? ⟨w.heap.size, 1, none⟩ = some (.int .i64 xa) ∧ V.cell? ⟨w.heap.size, 2, none⟩ = some (.int .i64 xb)) (by kernel_rfl) (by exact ⟨h0, h1, n0, n1, n2⟩) (fun hHeld => ?_)
  generalize (w.alloc (.cells #[.int .i64 xi, .int .i64 xa, .int .i64 xb] 261)).drew = W0 at *
  refine tkP 0 10 ?_ rfl (.inl ⟨by rfl, ?_⟩) ?_; rotate_left; focus (intro w' _; go_simp; (try with_reducible rfl))
  try simp only [sIB, sC0, sCS]
  refine tkP 1 11 ?_ rfl (.inl ⟨by rfl, ?_⟩) ?_; rotate_left; focus (intro w' _; go_simp; (try with_reducible rfl))
  try simp only [sIB, sC0, sCS]
  refine tkP 2 12 ?_ rfl (.inl ⟨by rfl, ?_⟩) ?_; rotate_left; focus (intro w' _; go_simp; (try with_reducible rfl))
  try simp only [sIB, sC0, sCS]
  refine tkP 3 13 ?_ rfl (.inl ⟨by rfl, ?_⟩) ?_; rotate_left; focus (intro w' _; go_simp; (try with_reducible rfl))
  try simp only [sIB, sC0, sCS]
  refine tkP 5 15 ?_ rfl (.inl ⟨by rfl, ?_⟩) ?_; rotate_left; focus (intro w' _; go_simp; (try with_reducible rfl))
  try simp only [sIB, sC0, sCS]
  refine tkP 6 16 ?_ rfl (.inl ⟨by rfl, ?_⟩) ?_; rotate_left; focus (intro w' _; go_simp; (try with_reducible rfl))
  try simp only [sIB, sC0, sCS]
  refine tkP 7 17 ?_ rfl (.inl ⟨by rfl, ?_⟩) ?_; rotate_left; focus (intro w' _; go_simp; (try with_reducible rfl))
  try simp only [sIB, sC0, sCS]
  refine tkP 8 18 ?_ rfl (.inl ⟨by rfl, ?_⟩) ?_; rotate_left; focus (intro w' _; go_simp; (try with_reducible rfl))
  try simp only [sIB, sC0, sCS]
  refine tkP 9 19 ?_ rfl (.inl ⟨by rfl, ?_⟩) ?_; rotate_left; focus (intro w' _; go_simp; (try with_reducible rfl))
  try simp only [sIB, sC0, sCS]
  refine tkD 4 14 ?_ rfl hHeld (.inl ⟨by rfl, ?_⟩) ?_; rotate_left; focus (intro w' hSw; (try dsimp only at hSw); go_simp; (try with_reducible rfl))
  try simp only [sIB, sC0, sCS]
  refine tkD 10 20 ?_ rfl hHeld (.inl ⟨by rfl, ?_⟩) ?_; rotate_left; focus (intro w' hSw; (try dsimp only at hSw); go_simp; (try with_reducible rfl))
  try simp only [sIB, sC0, sCS]
  refine tkP 11 21 ?_ rfl (.inl ⟨by rfl, ?_⟩) ?_; rotate_left; focus (intro w' _; go_simp; (try with_reducible rfl))
  try simp only [sIB, sC0, sCS]
  refine tkD 12 22 ?_ rfl hHeld (.inl ⟨by rfl, ?_⟩) ?_; rotate_left; focus (intro w' hSw; (try dsimp only at hSw); go_simp; (try with_reducible rfl))
  try simp only [sIB, sC0, sCS]
  refine tkP 13 23 ?_ rfl (.inl ⟨by rfl, ?_⟩) ?_; rotate_left; focus (intro w' _; go_simp; (try with_reducible rfl))
  try simp only [sIB, sC0, sCS]
  refine wpAnyD_one (i := 14) (by kernel_rfl) rfl (by rfl) (fun K hK => ?_)
  go_simp; have hbl := (Below.refl W0.heap.size W0).alloc (Nat.le_refl _) (.cells #[.int .i64 r, .int .i64 p, .int .i64 turn, .int .i64 xi, .int .i64 xa, .int .i64 xb] 282); have h := And.intro (below_cell hbl (Nat.le_refl _) hHeld.1) (And.intro (below_cell hbl (Nat.le_refl _) hHeld.2.1) (And.intro (below_cell hbl (Nat.le_refl _) hHeld.2.2.1) (And.intro (below_cell hbl (Nat.le_refl _) hHeld.2.2.2.1) (below_cell hbl (Nat.le_refl _) hHeld.2.2.2.2)))); clear hbl
  refine hK.out _ _ h (fun hHeld => ?_)
  clear hK K
  try simp only [Act.put, sIB, sC0, sCS]
  refine wpAnyD_one (i := 15) (by kernel_rfl) rfl (by rfl) (fun K hK => ?_)
  refine wp_app_one base 275 282 (.agg #[.int .i64 0, .int .i64 0, .int .i64 0, .int .i64 0, .int .i64 0, .int .i64 0]) 6 48 [_, _, _, _, _, _] 1 _ _ rfl Tryz.underlying275 info_th rfl (by decide) _ _ _ rfl _ rfl rfl rfl (by intro u hu; simp at hu; rcases hu with rfl | rfl | rfl | rfl | rfl | rfl <;> rfl) HD.out.row (by omega) (by omega) (Nat.le_trans HBASE.out HK.out.size) ?_; intro v' w1 hown1 hg1 hnew; obtain ⟨A1, cA1, rfl⟩ := own_slice hown1; have hk1 : Keep (heapF hb A) W0 w1 := Keep.of_grown hg1 (fun g hg => .inr (own_addr HD.out.row g hg)); have b1 := (Keep.of_grown (F := fun g => (Value.slice A l.length c).ownBlock = some g) hg1 (fun g hg => hg)).blk HD.out.blk (row_ne HD.out.row HD.out.blk (by decide)); have b5 := (Keep.of_grown (F := fun g => (Value.slice A l.length c).ownBlock = some g) hg1 (fun g hg => hg)).blk HNB.out (fun e => Nat.lt_irrefl _ (HX.out _ e)); have h := And.intro (blk_cell b1 0) (And.intro (blk_cell b1 1) (And.intro (blk_cell b5 0) (And.intro (blk_cell b5 1) (blk_cell b5 2)))); clear b5
  refine hK.out _ _ h (fun hHeld => ?_)
  clear hK K
  try simp only [Act.put, sIB, sC0, sCS]
  refine tkP 16 26 ?_ rfl (.inl ⟨by rfl, ?_⟩) ?_; rotate_left; focus (intro w' _; go_simp; (try with_reducible rfl))
  try simp only [sIB, sC0, sCS]
  refine tkP 17 27 ?_ rfl (.inl ⟨by rfl, ?_⟩) ?_; rotate_left; focus (intro w' _; go_simp; (try with_reducible rfl))
  try simp only [sIB, sC0, sCS]
  refine wpAnyD_last (D := 18) (by decide) (by kernel_rfl) rfl (by rfl) (fun K hK => ?_)
  have z0 := blk_froz b1 0; have c0 := hHeld.1; go_simp
  refine hK.out _ _ ?_
  clear hK K
  try simp only [Act.put, sIB, sC0, sCS]
  refine wpAnyD_done (by kernel_rfl) ?_ _
  have b2 := blk_set b1 0 (.slice A1 (l.length + 1) cA1)
  simp only [List.setIfInBounds_toArray, List.set_cons_zero] at b2
  have HNR : Hid (NewRow w A A1) := Lib.hid (by
    obtain ⟨g, cap, e1, _, _, _⟩ := own_open hown1 (by omega)
    injection e1 with e1
    subst e1
    rcases hnew with e | ⟨g', e, hg⟩
    · exact .inl (own_addr HD.out.row g e.symm).symm
    · have e : some g = some g' := e
      injection e with e
      subst e
      exact .inr ⟨g, rfl, Nat.le_trans HK.out.size hg⟩)
  have hne : ∀ g, (Value.slice A1 (l.length + 1) cA1).ownBlock = some g → ¬ g = hb := fun g hg e => row_ne hown1 b1 (by decide) (by rw [hg, e])
  have K3 : ∀ (W : World) (i : Nat) (u : Value), Keep (fun g => g = hb) W (W.setCell ⟨hb, i, none⟩ u) := fun W i u => Keep.setCell (F := fun g => g = hb) (p := ⟨hb, i, none⟩) (Keep.refl _ _) (Or.inl rfl) _
  have hrow2 := own_keep (own_keep hown1 (K3 _ 0 (.slice A1 (l.length + 1) cA1)) hne) (K3 _ 1 (.int .i64 (turn + 1))) hne
  have b3 := blk_set b2 1 (.int .i64 (turn + 1))
  simp only [List.setIfInBounds_toArray, List.set_cons_zero, List.set_cons_succ] at b3
  have e0 := blk_cell b2 0
  have e1 := blk_cell b2 1
  have f1 := blk_froz b2 1
  have e3 := blk_cell b3 0
  simp only [List.getElem?_toArray, List.getElem?_cons_zero, List.getElem?_cons_succ] at e0 e1 e3
  have HK2 := Lib.hid ((HK.out.trans hk1 (fun g hg => .inl hg)).setCell (p := ⟨hb, 0, none⟩) (.inl (.inl rfl)) (.slice A1 (l.length + 1) cA1) |>.setCell (p := ⟨hb, 1, none⟩) (.inl (.inl rfl)) (.int .i64 (turn + 1)))
  have HN : Hid (HeapWs ((w1.setCell ⟨hb, 0, none⟩ (.slice A1 (l.length + 1) cA1)).setCell ⟨hb, 1, none⟩ (.int .i64 (turn + 1))) base hb (l ++ [⟨r, p, turn, ⟨xi, xa, xb⟩⟩]) (turn + 1) A1 cA1) := Lib.hid (by
    refine ⟨?_, ?_, HD.out.le⟩
    · rw [List.length_append]; exact b3
    · rw [List.length_append, List.flatMap_append]; simpa [encTh] using hrow2)
  clear hHeld h c0 z0 b1 b2 b3 hown1 hg1 hnew hk1 hne K3 hrow2
  generalize w1.setCell ⟨hb, 0, none⟩ (.slice A1 (l.length + 1) cA1) = W2 at *
  go_upto_region 4 with fail
  generalize W2.setCell ⟨hb, 1, none⟩ (.int .i64 (turn + 1)) = W3 at *
  have wl : IntKind.i64.wrap ((l.length : Int) + 1 - 1) = (l.length : Int) := by rw [IntWalk.i64_in _ (by omega)]; omega
  go_wp2_with fail
  refine (up_any HN.out l.length (by simp) (by simp; omega)).mono ?_
  rintro e w4 ⟨rfl, h4, hk4⟩
  have H4 := Lib.hid h4
  have HK4 := Lib.hid (HK2.out.trans hk4 (fun g hg => by
    rcases HNR.out with e | ⟨g', e, hg'⟩
    · exact .inl (.inr (by rw [← e]; exact hg))
    · rw [e] at hg
      injection hg with hg
      injection hg with hg
      subst hg
      exact .inr hg'))
  clear h4 hk4
  go_wp2_with fail
  go_end0
  exact ⟨rfl, ⟨_, _, H4.out, HNR.out⟩, HK4.out⟩
theorem own_take {w : World} {base n m c : Nat} {e : TypeId} {size : Nat} {A : Option Addr} {xs : List Value} (h : w.ownsRow base e size (.slice A n c) n xs) (hm : m ≤ n) (h0 : 0 < n) : w.ownsRow base e size (.slice A m c) m (xs.take (m * size)) := by
  obtain ⟨hl, h⟩ := h
  rcases h with ⟨_, h2⟩ | ⟨g, cap, cur, e1, hb, hg, hc1, hc2, hc3, ht⟩
  · omega
  · injection e1 with e1 e2 e3
    subst e1; subst e3
    refine ⟨?_, .inr ⟨g, c, cur, rfl, hb, hg, by omega, hc2, hc3, ?_⟩⟩
    · rw [List.length_take, hl]
      exact Nat.min_eq_left (Nat.mul_le_mul_right _ hm)
    · rw [← ht, List.take_take, Nat.min_eq_left (Nat.mul_le_mul_right _ hm)]
theorem take_flat (l : List (Th Wt)) : ∀ m, (l.take m).flatMap encTh = (l.flatMap encTh).take (m * 6) := by
  induction l with
  | nil => intro m; simp
  | cons a l ih =>
    intro m
    cases m with
    | zero => simp
    | succ m =>
      rw [List.take_succ_cons, List.flatMap_cons, List.flatMap_cons, ih, List.take_append, List.take_of_length_le (l := encTh a) (by rw [encTh_len]; omega), encTh_len]
      have : (m + 1) * 6 - 6 = m * 6 := by omega
      rw [this]
theorem own_cap {w : World} {base n c : Nat} {e : TypeId} {size : Nat} {A : Option Addr} {xs : List Value} (h : w.ownsRow base e size (.slice A n c) n xs) : n ≤ c := by
  rcases h.2 with ⟨e1, e2⟩ | ⟨g, cap, cur, e1, hb, hg, hc1, _⟩
  · injection e1 with _ _ e3; omega
  · injection e1 with _ _ e3; omega
theorem put_wt {V : World} {g : Nat} {a b c : Value} (h : V.heap[g]? = some (.cells #[a, b, c] 261)) (x y z : Int) :
    (((V.setCell ⟨g, 0, none⟩ (.int .i64 x)).setCell ⟨g, 1, none⟩ (.int .i64 y)).setCell ⟨g, 2, none⟩ (.int .i64 z)).heap[g]? = some (.cells #[.int .i64 x, .int .i64 y, .int .i64 z] 261) := by
  simpa using blk_set (blk_set (blk_set h 0 (.int .i64 x)) 1 (.int .i64 y)) 2 (.int .i64 z)
theorem pop_none {w : World} {base hb : Nat} {turn : Int} {A : Option Addr} {c : Nat} (h : HeapWs w base hb [] turn A c) : Calls Tryz.prog 180 #[.pointer (some ⟨hb, 0, none⟩)] w fun e w' => e = .returned (.tuple #[wtV ⟨0, 0, 0⟩, .int .i64 0, .int .i64 0, .bool false]) ∧ Below w.heap.size w w' := by
  have HBW := Lib.hid ((Below.refl w.heap.size w).alloc (Nat.le_refl _) (.cells #[.int .i64 0, .int .i64 0, .int .i64 0] 261))
  have hh := h.below HBW.out (Nat.le_refl _)
  have HP := Lib.hid (by simpa only [wtV] using peek_none hh)
  have hs1 : (w.alloc (.cells #[.int .i64 0, .int .i64 0, .int .i64 0] 261)).heap.size = w.heap.size + 1 := by simp
  have HN := Lib.hid (blk_new w (.cells #[.int .i64 0, .int .i64 0, .int .i64 0] 261))
  generalize hW1 : w.alloc (.cells #[.int .i64 0, .int .i64 0, .int .i64 0] 261) = W1 at *
  have HS1 := Lib.hid hs1
  replace hW1 := Lib.hid hW1
  clear h hs1 hh
  go_enter Tryz.func180, Tryz.ntmps180
  go_wp2_with fail
  rw [hW1.out]
  refine HP.out.mono ?_
  rintro e w2 ⟨rfl, hb2⟩
  have HB2 := Lib.hid (HBW.out.trans (hb2.mono (by rw [HS1.out]; exact Nat.le_succ _)))
  have HN2 := Lib.hid (blk_below hb2 (by rw [HS1.out]; exact Nat.lt_succ_self _) HN.out)
  have hz2 := hb2.size
  clear hb2 HP
  go_upto_region 7 with fail
  replace HB2 := Lib.hid (HB2.out.alloc HB2.out.size (.cells #[.int .i64 0, .int .i64 0, .int .i64 0] 261))
  replace HN2 := Lib.hid (blk_alloc HN2.out (.cells #[.int .i64 0, .int .i64 0, .int .i64 0] 261))
  have n0 := blk_cell (blk_new w2 (.cells #[.int .i64 0, .int .i64 0, .int .i64 0] 261)) 0
  have n1 := blk_cell (blk_new w2 (.cells #[.int .i64 0, .int .i64 0, .int .i64 0] 261)) 1
  have n2 := blk_cell (blk_new w2 (.cells #[.int .i64 0, .int .i64 0, .int .i64 0] 261)) 2
  have HG := Lib.hid (Nat.le_trans (by rw [HS1.out]; exact Nat.lt_succ_self _) hz2)
  generalize w2.alloc (.cells #[.int .i64 0, .int .i64 0, .int .i64 0] 261) = W3 at *
  have z0 := blk_froz HN2.out 0
  have z1 := blk_froz HN2.out 1
  have z2 := blk_froz HN2.out 2
  have c0 := blk_cell HN2.out 0
  have c1 := blk_cell HN2.out 1
  have c2 := blk_cell HN2.out 2
  simp only [List.getElem?_toArray, List.getElem?_cons_zero, List.getElem?_cons_succ] at n0 n1 n2 c0 c1 c2
  go_wp2_with fail
  refine ret_cell_tmp3 rfl rfl rfl rfl rfl (load_wt (blk_cell (put_wt HN2.out 0 0 0) 0) (blk_cell (put_wt HN2.out 0 0 0) 1) (blk_cell (put_wt HN2.out 0 0 0) 2)) ⟨rfl, ?_⟩
  exact ((HB2.out.setCell (p := ⟨_, 0, none⟩) (Nat.le_refl _) _).setCell (p := ⟨_, 1, none⟩) (Nat.le_refl _) _).setCell (p := ⟨_, 2, none⟩) (Nat.le_refl _) _
set_option maxHeartbeats 4000000 in
theorem pop_h {w : World} {base hb : Nat} {l : List (Th Wt)} {turn : Int} {A : Option Addr} {c : Nat} (h : HeapWs w base hb l turn A c) (hl : 0 < l.length) (hlen : l.length < 1000000000) :
    Calls Tryz.prog 180 #[.pointer (some ⟨hb, 0, none⟩)] w fun e w' => e = .returned (.tuple #[wtV l[0].x, .int .i64 l[0].r, .int .i64 l[0].p, .bool true]) ∧ HeapWs w' base hb (popT l) turn A c ∧ Keep (heapF hb A) w w' := by
  have HX := Lib.hid (own_lt h.row)
  have HHB := Lib.hid (blk_lt h.blk)
  have HBW := Lib.hid ((Below.refl w.heap.size w).alloc (Nat.le_refl _) (.cells #[.int .i64 0, .int .i64 0, .int .i64 0] 261))
  have hh := h.below HBW.out (Nat.le_refl _)
  have HP := Lib.hid (by simpa only [wtV] using peek_h hh hl)
  have HH := Lib.hid hh
  have hs1 : (w.alloc (.cells #[.int .i64 0, .int .i64 0, .int .i64 0] 261)).heap.size = w.heap.size + 1 := by simp
  have HN := Lib.hid (blk_new w (.cells #[.int .i64 0, .int .i64 0, .int .i64 0] 261))
  generalize hW1 : w.alloc (.cells #[.int .i64 0, .int .i64 0, .int .i64 0] 261) = W1 at *
  have HS1 := Lib.hid hs1
  replace hW1 := Lib.hid hW1
  clear hs1
  unfold wtV
  generalize l[0].x = x0 at *
  obtain ⟨xi, xa, xb⟩ := x0
  simp only at HP
  generalize l[0].r = r0 at *
  generalize l[0].p = p0 at *
  clear h hh
  go_enter Tryz.func180, Tryz.ntmps180
  go_wp2_with fail
  rw [hW1.out]
  refine HP.out.mono ?_
  rintro e w2 ⟨rfl, hb2⟩
  have HZ2 := Lib.hid (Nat.lt_of_lt_of_le (by rw [HS1.out]; exact Nat.lt_succ_self _) hb2.size)
  replace HBW := Lib.hid ((HBW.out.trans (hb2.mono (by rw [HS1.out]; exact Nat.le_succ _))).alloc (Nat.le_of_lt HZ2.out) (.cells #[.int .i64 xi, .int .i64 xa, .int .i64 xb] 261))
  replace HH := Lib.hid ((HH.out.below hb2 (Nat.le_refl _)).below ((Below.refl w2.heap.size w2).alloc (Nat.le_refl _) (.cells #[.int .i64 xi, .int .i64 xa, .int .i64 xb] 261)) (Nat.le_refl _))
  replace HN := Lib.hid (blk_alloc (blk_below hb2 (by rw [HS1.out]; exact Nat.lt_succ_self _) HN.out) (.cells #[.int .i64 xi, .int .i64 xa, .int .i64 xb] 261))
  have HN6 := Lib.hid (blk_new w2 (.cells #[.int .i64 xi, .int .i64 xa, .int .i64 xb] 261))
  have h0 := blk_cell HH.out.blk 0
  simp only [List.getElem?_toArray, List.getElem?_cons_zero, List.getElem?_cons_succ] at h0
  have wl : IntKind.i64.wrap ((l.length : Int) - 1) = ((l.length - 1 : Nat) : Int) := by rw [IntWalk.i64_in _ (by omega)]; omega
  clear hb2 HP
  go_upto_region 3 with fail
  generalize w2.alloc (.cells #[.int .i64 xi, .int .i64 xa, .int .i64 xb] 261) = W3 at *
  have HK1 : Hid (Keep (heapF hb A) w W3) := Lib.hid (Keep.of_below HBW.out)
  have HA2 : Hid (∀ g, A = some ⟨g, 0, none⟩ → g < w.heap.size) := Lib.hid (fun g hg => HX.out g (addr_own hg))
  go_wp2_with fail
  have hsw := swap_any HH.out 0 (l.length - 1) hl (by omega) (by omega)
  rw [show ((0 : Nat) : Int) = 0 from rfl] at hsw
  refine hsw.mono ?_
  rintro e w4 ⟨rfl, h2, hk2⟩
  have HK2 := Lib.hid (HK1.out.trans hk2 (fun g hg => .inl (.inr hg)))
  replace HN := Lib.hid (hk2.blk HN.out (fun e => Nat.lt_irrefl _ (HA2.out _ e)))
  replace HN6 := Lib.hid (hk2.blk HN6.out (fun e => Nat.lt_asymm (HA2.out _ e) HZ2.out))
  obtain ⟨g, rfl, _⟩ := HH.out.at 0 hl
  have H2 := Lib.hid h2
  have e0 := blk_cell h2.blk 0
  have f0 := blk_froz h2.blk 0
  simp only [List.getElem?_toArray, List.getElem?_cons_zero, List.getElem?_cons_succ] at e0
  rw [swap_len] at e0
  have hcap := own_cap HH.out.row
  obtain ⟨q, hq⟩ : ∃ q, l.length - 1 = q := ⟨_, rfl⟩
  have HQ := Lib.hid hq
  rw [hq] at h2 H2 ⊢
  have q0 : (0 : Int) ≤ (q : Int) := by omega
  have q1 : (q : Int) ≤ (c : Int) := by omega
  have q2 : q ≤ c := by omega
  have hlq : l.length = q + 1 := by omega
  have b3 := blk_set h2.blk 0 (.slice (some ⟨g, 0, none⟩) q c)
  simp only [List.setIfInBounds_toArray, List.set_cons_zero] at b3
  have K3 : Keep (fun x => x = hb) w4 (w4.setCell ⟨hb, 0, none⟩ (.slice (some ⟨g, 0, none⟩) q c)) := Keep.setCell (F := fun x => x = hb) (p := ⟨hb, 0, none⟩) (Keep.refl _ _) (Or.inl rfl) _
  have hne : ∀ x, (Value.slice (some ⟨g, 0, none⟩) (swapT l 0 q).length c).ownBlock = some x → ¬ x = hb := fun x hx e => row_ne h2.row h2.blk (by decide) (by rw [hx, e])
  have hrow := own_take (own_keep h2.row K3 hne) (m := q) (by rw [swap_len]; omega) (by rw [swap_len]; omega)
  rw [← take_flat] at hrow
  have htl : ((swapT l 0 q).take q).length = q := by rw [List.length_take, swap_len]; omega
  have HNN : Hid (HeapWs (w4.setCell ⟨hb, 0, none⟩ (.slice (some ⟨g, 0, none⟩) q c)) base hb ((swapT l 0 q).take q) turn (some ⟨g, 0, none⟩) c) := Lib.hid ⟨by rw [htl]; exact b3, by rw [htl]; exact hrow, h2.le⟩
  have HK3 := Lib.hid (HK2.out.setCell (p := ⟨hb, 0, none⟩) (.inl (.inl rfl)) (.slice (some ⟨g, 0, none⟩) q c))
  replace HN := Lib.hid (K3.blk HN.out (fun e => Nat.lt_irrefl _ (e ▸ HHB.out)))
  replace HN6 := Lib.hid (K3.blk HN6.out (fun e => Nat.lt_asymm (e ▸ HHB.out) HZ2.out))
  have HPOP := Lib.hid (show downT ((swapT l 0 q).take q) 0 = popT l from by unfold popT; rw [HQ.out])
  have HTL := Lib.hid htl
  clear h2 hk2 h0 wl hq hsw b3 K3 hne hrow htl hlq
  go_upto_region 6 with fail
  generalize w4.setCell ⟨hb, 0, none⟩ (.slice (some ⟨g, 0, none⟩) q c) = w5 at *
  go_wp2_with fail
  refine (down_any HNN.out (by rw [HTL.out]; have := HQ.out; omega)).mono ?_
  rintro e w6 ⟨rfl, h4, hk4⟩
  rw [HPOP.out] at h4
  have H4 := Lib.hid h4
  have HK4 := Lib.hid (HK3.out.trans hk4 (fun x hx => .inl (.inr hx)))
  replace HN := Lib.hid (hk4.blk HN.out (fun e => Nat.lt_irrefl _ (HA2.out _ e)))
  replace HN6 := Lib.hid (hk4.blk HN6.out (fun e => Nat.lt_asymm (HA2.out _ e) HZ2.out))
  clear h4 hk4 H2 HNN HK3 HK2 e0 f0
  have n0 := blk_cell HN6.out 0
  have n1 := blk_cell HN6.out 1
  have n2 := blk_cell HN6.out 2
  have z0 := blk_froz HN.out 0
  have z1 := blk_froz HN.out 1
  have z2 := blk_froz HN.out 2
  have c0 := blk_cell HN.out 0
  have c1 := blk_cell HN.out 1
  have c2 := blk_cell HN.out 2
  simp only [List.getElem?_toArray, List.getElem?_cons_zero, List.getElem?_cons_succ] at n0 n1 n2 c0 c1 c2
  go_wp2_with fail
  have HP6 := put_wt HN.out xi xa xb
  have KF : Keep (fun x => x = w.heap.size) w6 (((w6.setCell ⟨w.heap.size, 0, none⟩ (.int .i64 xi)).setCell ⟨w.heap.size, 1, none⟩ (.int .i64 xa)).setCell ⟨w.heap.size, 2, none⟩ (.int .i64 xb)) := (((Keep.refl (fun x => x = w.heap.size) w6).setCell (p := ⟨w.heap.size, 0, none⟩) (.inl rfl) _).setCell (p := ⟨w.heap.size, 1, none⟩) (.inl rfl) _).setCell (p := ⟨w.heap.size, 2, none⟩) (.inl rfl) _
  refine ret_cell_tmp3 rfl rfl rfl rfl rfl (load_wt (blk_cell HP6 0) (blk_cell HP6 1) (blk_cell HP6 2)) ⟨rfl, H4.out.keep KF ?_, HK4.out.trans KF (fun x hx => .inr (Nat.le_of_eq hx.symm))⟩
  rintro x (rfl | hx) e
  · subst e; exact Nat.lt_irrefl _ HHB.out
  · subst e; exact Nat.lt_irrefl _ (HA2.out _ hx)
end Go.Proofs.YtbppaiejpgdbiaaGreat.hw
namespace Go.Proofs.YtbppaiejpgdbiaaGreat
abbrev Node := Int × Int × Int
def lastI (p : List Nd) : Int := (p.getLast?.map Prod.fst).getD (-1)
def headI (q : List Nd) : Int := (q.head?.map Prod.fst).getD (-1)
theorem headI_nil : headI [] = -1 := rfl
theorem lastI_snoc (p : List Nd) (x : Nd) : lastI (p ++ [x]) = x.1 := by simp [lastI]
theorem lastI_mid (p u : List Nd) (x y : Nd) : lastI (p ++ y :: (u ++ [x])) = x.1 := by
  have : p ++ y :: (u ++ [x]) = (p ++ y :: u) ++ [x] := by simp
  rw [this, lastI_snoc]
theorem headI_cons (x : Nd) (q : List Nd) : headI (x :: q) = x.1 := rfl
structure Lives (N : List Node) (L : List Nd) : Prop where
  at_ : ∀ (p : List Nd) (i a : Int) (q : List Nd), L = p ++ (i, a) :: q → ∃ k : Nat, i = k ∧ N[k]? = some (a, lastI p, headI q)
  dead : ∀ (k : Nat) (x : Node), N[k]? = some x → (∀ a : Int, ((k : Int), a) ∉ L) → x.1 = -2
  first : N ≠ [] → ∃ (a : Int) (q : List Nd), L = (0, a) :: q
  nn : ∀ x ∈ L, 0 ≤ x.2 ∧ x.2 < 1000000
  srt : L.Pairwise (fun x y => x.1 < y.1)
def idN (v : Int) (x : Node) : Node := (v, x.2.1, x.2.2)
def aheadN (v : Int) (x : Node) : Node := (x.1, v, x.2.2)
def nextN (v : Int) (x : Node) : Node := (x.1, x.2.1, v)
def aftI : Option Nat → Int
  | none => -1
  | some k => k
def aheadO (N : List Node) (i : Nat) : Option Nat → List Node
  | none => N
  | some k => N.modify k (aheadN i)
def joinN (N : List Node) (i j : Nat) (r : Int) (k : Option Nat) : List Node :=
  aheadO (((N.modify j (idN (-2))).modify i (idN r)).modify i (nextN (aftI k))) i k
theorem joinN_len (N : List Node) (i j : Nat) (r : Int) (k : Option Nat) : (joinN N i j r k).length = N.length := by
  cases k <;> simp [joinN, aheadO]
theorem joinN_at (N : List Node) (i j : Nat) (r : Int) (k : Option Nat) (m : Nat) :
    (joinN N i j r k)[m]? = (N[m]?).map (fun x => (if m = i then r else if m = j then -2 else x.1, if k = some m then (i : Int) else x.2.1, if m = i then aftI k else x.2.2)) := by
  cases h : N[m]? with
  | none =>
    rw [List.getElem?_eq_none_iff] at h
    rw [Option.map_none, List.getElem?_eq_none_iff, joinN_len]
    exact h
  | some x =>
    cases k with
    | none =>
      simp only [joinN, aheadO, List.getElem?_modify, h]
      by_cases h1 : i = m
      · subst h1
        by_cases h2 : j = i
        · subst h2; simp [idN, nextN, aftI]
        · simp [idN, nextN, aftI, h2]
      · by_cases h2 : j = m
        · subst h2; simp [idN, nextN, aftI, h1, Ne.symm h1]
        · simp [idN, nextN, aftI, h1, h2, Ne.symm h1, Ne.symm h2]
    | some k =>
      simp only [joinN, aheadO, List.getElem?_modify, h]
      by_cases h3 : k = m
      · subst h3
        by_cases h1 : i = k
        · subst h1
          by_cases h2 : j = i
          · subst h2; simp [idN, nextN, aheadN, aftI]
          · simp [idN, nextN, aheadN, aftI, h2]
        · by_cases h2 : j = k
          · subst h2; simp [idN, nextN, aheadN, aftI, h1, Ne.symm h1]
          · simp [idN, nextN, aheadN, aftI, h1, h2, Ne.symm h1, Ne.symm h2]
      · by_cases h1 : i = m
        · subst h1
          by_cases h2 : j = i
          · subst h2; simp [idN, nextN, aheadN, aftI, h3]
          · simp [idN, nextN, aheadN, aftI, h2, h3]
        · by_cases h2 : j = m
          · subst h2; simp [idN, nextN, aheadN, aftI, h1, Ne.symm h1, h3]
          · simp [idN, nextN, aheadN, aftI, h1, h2, Ne.symm h1, Ne.symm h2, h3]
def kOf (L2 : List Nd) : Option Nat := L2.head?.map (fun x => x.1.toNat)
theorem Lives.place {N : List Node} {L : List Nd} (h : Lives N L) {x : Nd} (hx : x ∈ L) : ∃ k : Nat, x.1 = k ∧ k < N.length := by
  obtain ⟨p, q, rfl⟩ := List.append_of_mem hx
  obtain ⟨k, h1, h2⟩ := h.at_ p x.1 x.2 q rfl
  exact ⟨k, h1, (List.getElem?_eq_some_iff.1 h2).1⟩
theorem Lives.aft {N : List Node} {L1 L2 : List Nd} {x : Nd} (h : Lives N (L1 ++ x :: L2)) : aftI (kOf L2) = headI L2 := by
  rcases L2 with _ | ⟨y, L2⟩
  · rfl
  · obtain ⟨k, h1, _⟩ := h.place (x := y) (by simp)
    show aftI (some y.1.toNat) = y.1
    show ((y.1.toNat : Nat) : Int) = y.1
    omega
theorem Lives.join {N : List Node} {L1 L2 : List Nd} {i j : Nat} {a b r : Int} (h : Lives N (L1 ++ ((i : Int), a) :: ((j : Int), b) :: L2)) (hr : 0 ≤ r ∧ r < 1000000) :
    Lives (joinN N i j r (kOf L2)) (L1 ++ ((i : Int), r) :: L2) := by
  have hs := h.srt
  have hs1 := (List.pairwise_append.1 hs).1
  have hs2 := (List.pairwise_append.1 hs).2.1
  have hs3 := (List.pairwise_append.1 hs).2.2
  have hs4 := (List.pairwise_cons.1 hs2).2
  have hij : (i : Int) < j := (List.pairwise_cons.1 hs2).1 ((j : Int), b) (by simp)
  have hsrt : (L1 ++ ((i : Int), r) :: L2).Pairwise (fun x y => x.1 < y.1) := by
    rw [List.pairwise_append]
    refine ⟨hs1, ?_, ?_⟩
    · rw [List.pairwise_cons]
      exact ⟨fun x hx => (List.pairwise_cons.1 hs2).1 x (List.mem_cons_of_mem _ hx), (List.pairwise_cons.1 hs4).2⟩
    · intro x hx y hy
      rcases List.mem_cons.1 hy with rfl | hy
      · exact hs3 x hx ((i : Int), a) (by simp)
      · exact hs3 x hx y (by simp [hy])
  have hL1 : ∀ x ∈ L1, x.1 < i := fun x hx => hs3 x hx ((i : Int), a) (by simp)
  have hL2 : ∀ x ∈ L2, (j : Int) < x.1 := fun x hx => (List.pairwise_cons.1 hs4).1 x hx
  have hk : ∀ m : Nat, kOf L2 = some m → ∃ c q, L2 = ((m : Int), c) :: q := by
    intro m hm
    rcases L2 with _ | ⟨y, L2⟩
    · simp [kOf] at hm
    · simp only [kOf, List.head?_cons, Option.map_some, Option.some.injEq] at hm
      have := hL2 y (by simp)
      refine ⟨y.2, L2, ?_⟩
      have : y.1 = (m : Int) := by omega
      rw [← this]
  refine ⟨?_, ?_, ?_, ?_, hsrt⟩
  · intro p x c q heq
    rcases List.append_eq_append_iff.1 heq with ⟨u, hu1, hu2⟩ | ⟨u, hu1, hu2⟩
    · -- p = L1 ++ u
      rcases u with _ | ⟨y, u⟩
      · simp at hu2
        obtain ⟨⟨rfl, rfl⟩, rfl⟩ := hu2
        simp only [List.append_nil] at hu1
        subst hu1
        obtain ⟨m, e1, hm⟩ := h.at_ p i a _ rfl
        have e1 : i = m := by omega
        subst e1
        refine ⟨i, rfl, ?_⟩
        have haft := Lives.aft (N := N) (L1 := p ++ [((i : Int), a)]) (x := ((j : Int), b)) (L2 := L2) (by simpa using h)
        rw [joinN_at, hm]
        have hne : kOf L2 ≠ some i := by
          intro e
          obtain ⟨c', q', e'⟩ := hk i e
          have := hL2 ((i : Int), c') (by rw [e']; simp)
          simp at this
          omega
        simp [hne, haft]
      · simp at hu2
        obtain ⟨rfl, hq⟩ := hu2
        obtain ⟨m, e1, hm⟩ := h.at_ (L1 ++ ((i : Int), a) :: ((j : Int), b) :: u) x c q (by rw [hq]; simp)
        subst e1
        have hlt : (j : Int) < (m : Int) := hL2 ((m : Int), c) (by rw [hq]; simp)
        refine ⟨m, rfl, ?_⟩
        rw [joinN_at, hm, hu1]
        rcases List.eq_nil_or_concat u with rfl | ⟨u', y, rfl⟩
        · have hkm : kOf L2 = some m := by rw [hq]; simp [kOf]
          have h1 : m ≠ i := by omega
          have h2 : m ≠ j := by omega
          have e2 : lastI (L1 ++ [((i : Int), r)]) = i := lastI_snoc _ _
          simp [hkm, h1, h2, e2]
        · have h1 : m ≠ i := by omega
          have h2 : m ≠ j := by omega
          have h3 : kOf L2 ≠ some m := by
            intro e
            obtain ⟨c', q', e'⟩ := hk m e
            have hs5 := (List.pairwise_cons.1 hs4).2
            rw [hq, List.concat_eq_append] at hs5
            rw [hq, List.concat_eq_append] at e'
            have hy : y ∈ u' ++ [y] := by simp
            have h6 := (List.pairwise_append.1 hs5).2.2
            rcases u' with _ | ⟨z, u'⟩
            · simp at e'
              have := h6 y (by simp) ((m : Int), c) (by simp)
              rw [e'.1] at this
              simp at this
            · simp at e'
              have := h6 z (by simp) ((m : Int), c) (by simp)
              rw [e'.1] at this
              simp at this
          rw [List.concat_eq_append]
          have e2 : lastI (L1 ++ ((i : Int), r) :: (u' ++ [y])) = y.1 := lastI_mid _ _ _ _
          have e3 : lastI (L1 ++ ((i : Int), a) :: ((j : Int), b) :: (u' ++ [y])) = y.1 := by
            have : L1 ++ ((i : Int), a) :: ((j : Int), b) :: (u' ++ [y]) = (L1 ++ [((i : Int), a)]) ++ ((j : Int), b) :: (u' ++ [y]) := by simp
            rw [this, lastI_mid]
          simp [h1, h2, h3, e2, e3]
    · -- L1 = p ++ u
      rcases u with _ | ⟨y, u⟩
      · simp at hu2
        obtain ⟨⟨rfl, rfl⟩, rfl⟩ := hu2
        simp only [List.append_nil] at hu1
        subst hu1
        obtain ⟨m, e1, hm⟩ := h.at_ L1 i a _ rfl
        have e1 : i = m := by omega
        subst e1
        refine ⟨i, rfl, ?_⟩
        have haft := Lives.aft (N := N) (L1 := L1 ++ [((i : Int), a)]) (x := ((j : Int), b)) (L2 := q) (by simpa using h)
        rw [joinN_at, hm]
        have hne : kOf q ≠ some i := by
          intro e
          obtain ⟨c', q', e'⟩ := hk i e
          have := hL2 ((i : Int), c') (by rw [e']; simp)
          simp at this
          omega
        simp [hne, haft]
      · simp at hu2
        obtain ⟨rfl, hq⟩ := hu2
        obtain ⟨m, e1, hm⟩ := h.at_ p x c (u ++ ((i : Int), a) :: ((j : Int), b) :: L2) (by rw [hu1]; simp)
        subst e1
        have hlt : (m : Int) < i := hL1 ((m : Int), c) (by rw [hu1]; simp)
        have h1 : m ≠ i := by omega
        have h2 : m ≠ j := by omega
        have h3 : kOf L2 ≠ some m := by
          intro e
          obtain ⟨c', q', e'⟩ := hk m e
          have := hL2 ((m : Int), c') (by rw [e']; simp)
          simp at this
          omega
        refine ⟨m, rfl, ?_⟩
        rw [joinN_at, hm, hq]
        have e2 : headI (u ++ ((i : Int), a) :: ((j : Int), b) :: L2) = headI (u ++ ((i : Int), r) :: L2) := by cases u <;> rfl
        simp [h1, h2, h3, e2]
  · intro m x hx hno
    rw [joinN_at, Option.map_eq_some_iff] at hx
    obtain ⟨y, hy, rfl⟩ := hx
    by_cases h1 : m = i
    · subst h1
      exact absurd (by simp) (hno r)
    · by_cases h2 : m = j
      · subst h2; simp [h1]
      · simp only [h1, h2, if_false]
        refine h.dead m y hy (fun c hc => ?_)
        rw [List.mem_append, List.mem_cons, List.mem_cons] at hc
        rcases hc with hc | hc | hc | hc
        · exact hno c (by simp [hc])
        · simp at hc; omega
        · simp at hc; omega
        · exact hno c (by simp [hc])
  · intro hne
    have hN : N ≠ [] := by
      intro e
      subst e
      apply hne
      apply List.eq_nil_of_length_eq_zero
      rw [joinN_len]; rfl
    obtain ⟨c, q, e⟩ := h.first hN
    rcases L1 with _ | ⟨y, L1⟩
    · simp at e
      exact ⟨r, L2, by rw [List.nil_append, e.1.1]; rfl⟩
    · simp at e
      exact ⟨c, L1 ++ ((i : Int), r) :: L2, by rw [e.1]; rfl⟩
  · intro x hx
    rw [List.mem_append, List.mem_cons] at hx
    rcases hx with hx | rfl | hx
    · exact h.nn x (by simp [hx])
    · exact hr
    · exact h.nn x (by simp [hx])
def askQ (P : Int → Int → Option Int) (Q : List (Th Wt)) (turn i a : Int) : List Nd → List (Th Wt) × Int
  | [] => (Q, turn)
  | y :: _ => match P a y.2 with
    | some r => (pushT Q ⟨r, i, turn, ⟨i, a, y.2⟩⟩, turn + 1)
    | none => (Q, turn)
def askL (P : Int → Int → Option Int) (Q : List (Th Wt)) (turn : Int) (p q : List Nd) : List (Th Wt) × Int :=
  match p.getLast? with
  | none => (Q, turn)
  | some x => askQ P Q turn x.1 x.2 q
section
variable {P : Int → Int → Option Int} {Q : List (Th Wt)} {turn i a : Int} {q : List Nd}
theorem askQ_mem {e : Th Wt} (h : e ∈ (askQ P Q turn i a q).1) : e ∈ Q ∨ (P e.x.a e.x.b = some e.r ∧ e.p = e.x.i ∧ e.x.i = i ∧ e.x.a = a) := by
  unfold askQ at h
  split at h
  · exact .inl h
  · split at h
    · rename_i r hr
      rcases List.mem_cons.1 ((push_perm _ _).mem_iff.1 h) with rfl | h
      · exact .inr ⟨hr, rfl, rfl, rfl⟩
      · exact .inl h
    · exact .inl h
theorem askQ_sub {e : Th Wt} (h : e ∈ Q) : e ∈ (askQ P Q turn i a q).1 := by
  unfold askQ
  split
  · exact h
  · split
    · exact (push_perm _ _).mem_iff.2 (List.mem_cons_of_mem _ h)
    · exact h
theorem askQ_has {y : Nd} {q' : List Nd} (e : q = y :: q') {r : Int} (hr : P a y.2 = some r) : ∃ e ∈ (askQ P Q turn i a q).1, e.r = r ∧ e.p = i ∧ e.x = ⟨i, a, y.2⟩ := by
  subst e
  simp only [askQ, hr]
  exact ⟨_, (push_perm _ _).mem_iff.2 (List.mem_cons_self), rfl, rfl, rfl⟩
theorem askQ_heap (h : HeapT Q) : HeapT (askQ P Q turn i a q).1 := by
  unfold askQ
  split
  · exact h
  · split
    · exact push_heap _ _ h
    · exact h
theorem askQ_len : (askQ P Q turn i a q).1.length ≤ Q.length + 1 ∧ turn ≤ (askQ P Q turn i a q).2 ∧ (askQ P Q turn i a q).2 ≤ turn + 1 := by
  unfold askQ
  split
  · exact ⟨Nat.le_succ _, by omega, by omega⟩
  · split
    · exact ⟨by rw [push_len]; omega, by omega, by omega⟩
    · exact ⟨Nat.le_succ _, by omega, by omega⟩
end
theorem askL_len {P : Int → Int → Option Int} {Q : List (Th Wt)} {turn : Int} {p q : List Nd} : (askL P Q turn p q).1.length ≤ Q.length + 1 ∧ turn ≤ (askL P Q turn p q).2 ∧ (askL P Q turn p q).2 ≤ turn + 1 := by
  unfold askL
  split
  · exact ⟨Nat.le_succ _, by omega, by omega⟩
  · exact askQ_len
structure QOk (P : Int → Int → Option Int) (n : Nat) (Q : List (Th Wt)) : Prop where
  heap : HeapT Q
  ent : ∀ e ∈ Q, P e.x.a e.x.b = some e.r ∧ e.p = e.x.i
  pos : ∀ e ∈ Q, ∃ k : Nat, e.x.i = k ∧ k < n ∧ 0 ≤ e.x.a
theorem QOk.ask {P : Int → Int → Option Int} {n : Nat} {Q : List (Th Wt)} (h : QOk P n Q) (turn a : Int) (k : Nat) (hk : k < n) (ha : 0 ≤ a) (q : List Nd) : QOk P n (askQ P Q turn k a q).1 := by
  refine ⟨askQ_heap h.heap, ?_, ?_⟩
  · intro e he
    rcases askQ_mem he with h1 | ⟨h1, h2, _⟩
    · exact h.ent e h1
    · exact ⟨h1, h2⟩
  · intro e he
    rcases askQ_mem he with h1 | ⟨h1, h2, h3, h4⟩
    · exact h.pos e h1
    · exact ⟨k, h3, hk, by rw [h4]; exact ha⟩
theorem QOk.pop {P : Int → Int → Option Int} {n : Nat} {Q : List (Th Wt)} (h : QOk P n Q) (hl : 0 < Q.length) : QOk P n (popT Q) :=
  have sub : ∀ e ∈ popT Q, e ∈ Q := fun e he => (pop_perm Q hl).mem_iff.2 (List.mem_cons_of_mem _ he)
  ⟨pop_heap _ h.heap, fun e he => h.ent e (sub e he), fun e he => h.pos e (sub e he)⟩
structure BegS (P : Int → Int → Option Int) (L : List Nd) (n k : Nat) (Q : List (Th Wt)) (turn : Int) : Prop where
  q : QOk P n Q
  com : ∀ (i a j b : Int) (p q : List Nd), L = p ++ (i, a) :: (j, b) :: q → p.length < k → ∀ r, P a b = some r → ∃ e ∈ Q, e.r = r ∧ e.p = i ∧ e.x = ⟨i, a, b⟩
  size : Q.length ≤ k
  turn : 0 ≤ turn ∧ turn ≤ k
theorem BegS.start (P : Int → Int → Option Int) (L : List Nd) (n : Nat) : BegS P L n 0 [] 0 := by
  refine ⟨⟨?_, by simp, by simp⟩, fun i a j b p q e h => by omega, by simp, by omega⟩
  intro j hj
  simp at hj
theorem BegS.ask {P : Int → Int → Option Int} {L : List Nd} {n : Nat} {Q : List (Th Wt)} {turn : Int} {p q : List Nd} {i : Nat} {a : Int} (h : BegS P L n p.length Q turn) (e : L = p ++ ((i : Int), a) :: q) (hi : i < n) (ha : 0 ≤ a) :
    BegS P L n (p.length + 1) (askQ P Q turn i a q).1 (askQ P Q turn i a q).2 := by
  have hl := askQ_len (P := P) (Q := Q) (turn := turn) (i := i) (a := a) (q := q)
  refine ⟨h.q.ask turn a i hi ha q, ?_, ?_, ?_⟩
  · intro i' a' j b p' q' e' hk r hr
    by_cases hlt : p'.length < p.length
    · obtain ⟨x, hx, h3⟩ := h.com i' a' j b p' q' e' hlt r hr
      exact ⟨x, askQ_sub hx, h3⟩
    · have hpl : p'.length = p.length := by omega
      rw [e] at e'
      obtain ⟨rfl, e2⟩ := List.append_inj e' hpl.symm
      simp only [List.cons.injEq, Prod.mk.injEq] at e2
      obtain ⟨⟨e3, rfl⟩, e4⟩ := e2
      rw [← e3]
      exact askQ_has e4 hr
  · have := h.size; omega
  · have := h.turn; omega
theorem BegS.mach {P : Int → Int → Option Int} {L : List Nd} {n : Nat} {Q : List (Th Wt)} {turn : Int} (h : BegS P L n L.length Q turn) (hs : L.Pairwise (fun x y => x.1 < y.1)) : Mach P L Q :=
  ⟨h.q.ent, fun i a j b p q e r hr => h.com i a j b p q e (by rw [e]; simp) r hr, hs⟩
structure RunS (P : Int → Int → Option Int) (M : List (Int × Int)) (ids0 : List Int) (N : List Node) (L : List Nd) (Q : List (Th Wt)) (turn steps : Int) (n : Nat) : Prop where
  lives : Lives N L
  nlen : N.length = n
  mach : Mach P L Q
  q : QOk P n Q
  same : seqE M 256 (idsC L) = seqE M 256 ids0
  pos : 0 ≤ steps
  steps : steps + L.length = n
  size : Q.length + 3 * L.length ≤ 4 * n
  turn : 0 ≤ turn ∧ turn + 2 * L.length ≤ 3 * n
theorem RunS.start {P : Int → Int → Option Int} {M : List (Int × Int)} {N : List Node} {L : List Nd} {Q : List (Th Wt)} {turn : Int} (hl : Lives N L) (hn : N.length = L.length) (h : BegS P L L.length L.length Q turn) : RunS P M (idsC L) N L Q turn 0 L.length :=
  ⟨hl, hn, h.mach hl.srt, h.q, rfl, Int.le_refl _, by omega, by have := h.size; omega, by have := h.turn; omega⟩
theorem RunS.fin {P : Int → Int → Option Int} {M : List (Int × Int)} {ids0 : List Int} {N : List Node} {L : List Nd} {turn steps : Int} {n : Nat} (h : RunS P M ids0 N L [] turn steps n)
    (hP : ∀ a b r, P a b = some r ↔ ∃ k : Nat, M[k]? = some (a, b) ∧ r = 256 + k) : idsC L = seqE M 256 ids0 ∧ steps = n - (seqE M 256 ids0).length := by
  have h1 := done_same hP h.mach
  rw [h.same] at h1
  refine ⟨h1.symm, ?_⟩
  rw [h1]
  have := h.steps
  unfold idsC
  rw [List.length_map]
  omega
theorem RunS.drop {P : Int → Int → Option Int} {M : List (Int × Int)} {ids0 : List Int} {N : List Node} {L : List Nd} {Q : List (Th Wt)} {turn steps : Int} {n : Nat} (h : RunS P M ids0 N L Q turn steps n) (hl : 0 < Q.length)
    (hs : ∀ p j q, L ≠ p ++ (Q[0].x.i, Q[0].x.a) :: (j, Q[0].x.b) :: q) : RunS P M ids0 N L (popT Q) turn steps n :=
  ⟨h.lives, h.nlen, h.mach.stale (pop_perm Q hl) hs, h.q.pop hl, h.same, h.pos, h.steps, by rw [pop_len]; have := h.size; omega, h.turn⟩
theorem RunS.join {P : Int → Int → Option Int} {M : List (Int × Int)} {ids0 : List Int} {N : List Node} {L1 L2 : List Nd} {Q : List (Th Wt)} {turn steps : Int} {n i j : Nat} {a b : Int}
    (h : RunS P M ids0 N (L1 ++ ((i : Int), a) :: ((j : Int), b) :: L2) Q turn steps n) (hl : 0 < Q.length) (hx : Q[0].x = ⟨i, a, b⟩)
    (hP : ∀ a b r, P a b = some r ↔ ∃ k : Nat, M[k]? = some (a, b) ∧ r = 256 + k) (hM : OkM M 256) (hr : Q[0].r < 1000000) :
    RunS P M ids0 (joinN N i j Q[0].r (kOf L2)) (L1 ++ ((i : Int), Q[0].r) :: L2)
      (askQ P (askL P (popT Q) turn L1 (((i : Int), Q[0].r) :: L2)).1 (askL P (popT Q) turn L1 (((i : Int), Q[0].r) :: L2)).2 i Q[0].r L2).1
      (askQ P (askL P (popT Q) turn L1 (((i : Int), Q[0].r) :: L2)).1 (askL P (popT Q) turn L1 (((i : Int), Q[0].r) :: L2)).2 i Q[0].r L2).2 (steps + 1) n := by
  have hp := pop_perm Q hl
  have hmem : Q[0] ∈ Q := List.getElem_mem _
  have hmin : ∀ e ∈ Q, leT Q[0] e := by
    intro e he
    obtain ⟨j', hj', rfl⟩ := List.getElem_of_mem he
    exact heap_min Q h.q.heap j' hj'
  have he0 := h.q.ent Q[0] hmem
  obtain ⟨k0, hk0, hr0⟩ := (hP _ _ _).1 he0.1
  have hr1 : 0 ≤ Q[0].r := by omega
  have hlives := h.lives.join (r := Q[0].r) ⟨hr1, hr⟩
  have hsame := join_same hP hM h.mach hmem hmin hx
  have hqp := h.q.pop hl
  generalize hR : Q[0].r = R at *
  generalize hQ1 : askL P (popT Q) turn L1 (((i : Int), R) :: L2) = Q1 at *
  have hplace : ∀ x ∈ L1 ++ ((i : Int), R) :: L2, ∃ k : Nat, x.1 = k ∧ k < n ∧ 0 ≤ x.2 := by
    intro x hx
    obtain ⟨k, h1, h2⟩ := hlives.place hx
    rw [joinN_len, h.nlen] at h2
    exact ⟨k, h1, h2, (hlives.nn x hx).1⟩
  have hl1 : QOk P n Q1.1 ∧ (∀ e ∈ popT Q, e ∈ Q1.1) ∧ Q1.1.length ≤ (popT Q).length + 1 ∧ turn ≤ Q1.2 ∧ Q1.2 ≤ turn + 1 ∧ (∀ e ∈ Q1.1, e ∈ popT Q ∨ (P e.x.a e.x.b = some e.r ∧ e.p = e.x.i)) ∧
      (∀ p i' a', L1 = p ++ [(i', a')] → ∀ r, P a' R = some r → ∃ e ∈ Q1.1, e.r = r ∧ e.p = i' ∧ e.x = ⟨i', a', R⟩) := by
    subst hQ1
    unfold askL
    rcases List.eq_nil_or_concat L1 with rfl | ⟨p', x, rfl⟩
    · refine ⟨hqp, fun e he => he, by simp, by simp, by simp; omega, fun e he => .inl he, ?_⟩
      intro p i' a' e
      simp at e
    · simp only [List.concat_eq_append, List.getLast?_concat] at *
      obtain ⟨k, hk1, hk2, hk3⟩ := hplace x (by simp)
      have hlen := askQ_len (P := P) (Q := popT Q) (turn := turn) (i := x.1) (a := x.2) (q := ((i : Int), R) :: L2)
      refine ⟨?_, fun e he => askQ_sub he, hlen.1, hlen.2.1, hlen.2.2, ?_, ?_⟩
      · rw [hk1]; exact hqp.ask turn x.2 k hk2 hk3 _
      · intro e he
        rcases askQ_mem he with h1 | ⟨h1, h2, _⟩
        · exact .inl h1
        · exact .inr ⟨h1, h2⟩
      · intro p i' a' e r hr'
        have e2 := (List.append_inj' e rfl).2
        simp at e2
        subst e2
        exact askQ_has rfl hr'
  obtain ⟨q1, q2, q3, q4, q5, q6, q7⟩ := hl1
  obtain ⟨ki, hki1, hki2, hki3⟩ := hplace ((i : Int), R) (by simp)
  have hki : i = ki := by simp at hki1; omega
  subst hki
  have hlen := askQ_len (P := P) (Q := Q1.1) (turn := Q1.2) (i := (i : Int)) (a := R) (q := L2)
  refine ⟨hlives, by rw [joinN_len]; exact h.nlen, ?_, q1.ask Q1.2 R i hki2 hr1 L2, ?_, by have := h.pos; omega, ?_, ?_, ?_⟩
  · have := Mach.join (Q'' := (askQ P Q1.1 Q1.2 i R L2).1) h.mach hp hx (fun e he => askQ_sub (q2 e he)) (fun e he => ?_) (fun p i' a' e r hr' => ?_) (fun j' b' q e r hr' => ?_)
    · rw [hR] at this
      exact this
    · rcases askQ_mem he with h1 | ⟨h1, h2, _⟩
      · exact q6 e h1
      · exact .inr ⟨h1, h2⟩
    · rw [hR] at hr' ⊢
      obtain ⟨x, hx1, hx2⟩ := q7 p i' a' e r hr'
      exact ⟨x, askQ_sub hx1, hx2⟩
    · rw [hR] at hr' ⊢
      exact askQ_has e hr'
  · rw [← hsame]; exact h.same
  · have := h.steps; simp only [List.length_append, List.length_cons] at this ⊢; omega
  · have := h.size
    have h2 := pop_len Q
    simp only [List.length_append, List.length_cons] at this ⊢; omega
  · have := h.turn; simp only [List.length_append, List.length_cons] at this ⊢; omega
open Go.RowKit Go.Maps Go.WideMaps
theorem info_str4 : (Tryz.prog.info? 9).map (fun i => (i.zero, i.size, i.bytes)) = some (some (.string ⟨#[]⟩), 1, 16) := by kernel_rfl
theorem info_mrg : (Tryz.prog.info? 55).map (fun i => (i.zero, i.size, i.bytes)) = some (some (.agg #[.int .i64 0, .int .i64 0]), 2, 16) := by kernel_rfl
def bytsT (T : List Ent) : List (List UInt8) := T.map (·.1)
def mrgsT (T : List Ent) : List (Int × Int) := (T.drop 256).map (·.2)
structure RefIs (w : World) (base : Nat) (T : List Ent) (vb vm : Value) : Prop where
  row : w.ownsRow base 9 1 vb T.length ((bytsT T).map strV)
  mrg : w.ownsRow base 55 2 vm (mrgsT T).length ((mrgsT T).flatMap encM)
  nil : (mrgsT T).length = 0 → vm = .slice none 0 0
theorem RefIs.below {B : Nat} {w w' : World} {base : Nat} {T : List Ent} {vb vm : Value} (h : RefIs w base T vb vm) (hb : Below B w w') (hB : w.heap.size ≤ B) : RefIs w' base T vb vm := ⟨own_below h.row hb hB, own_below h.mrg hb hB, h.nil⟩
theorem RefIs.keep {F : Nat → Prop} {w w' : World} {base : Nat} {T : List Ent} {vb vm : Value} (h : RefIs w base T vb vm) (k : Keep F w w') (hF : ∀ g, F g → g < base) : RefIs w' base T vb vm :=
  ⟨own_keep h.row k (fun g hg hf => by have := own_base h.row g hg; have := hF g hf; omega), own_keep h.mrg k (fun g hg hf => by have := own_base h.mrg g hg; have := hF g hf; omega), h.nil⟩
theorem RefIs.less {w : World} {b base : Nat} {T : List Ent} {vb vm : Value} (h : RefIs w b T vb vm) (hle : base ≤ b) : RefIs w base T vb vm := ⟨own_less h.row hle, own_less h.mrg hle, h.nil⟩
section
variable {w : World} {base : Nat} {T : List Ent} {vb vm : Value}
theorem rhas_any (id : Int) (h : RefIs w base T vb vm) : Calls Tryz.prog 35 #[.agg #[vb, vm], .int .i64 id] w fun e w' => e = .returned (.bool (hasT T id)) ∧ Below w.heap.size w w' := by
  obtain ⟨A, c, rfl⟩ := own_slice h.row
  obtain ⟨A2, c2, hvm⟩ := own_slice h.mrg
  subst hvm
  have hb0 := (Below.refl w.heap.size w).alloc (Nat.le_refl _) (.cells #[.slice A T.length c, .slice A2 (mrgsT T).length c2] 34)
  have n0 := blk_cell (blk_new w (.cells #[.slice A T.length c, .slice A2 (mrgsT T).length c2] 34)) 0
  simp only [List.getElem?_toArray, List.getElem?_cons_zero] at n0
  have HB := Lib.hid hb0
  clear hb0 h
  go_enter Tryz.func35, Tryz.ntmps35
  by_cases h0 : 0 ≤ id
  · go_wp2_with fail
    go_ret
    exact ⟨ret_bool (by simp [hasT, h0]), HB.out⟩
  · go_wp2_with fail
    go_ret
    exact ⟨ret_bool (by simp [hasT]; omega), HB.out⟩
theorem find_take {T : List Ent} {s : List UInt8} {k : Nat} (hk : k < T.length) (h : findT (T.take k) s = none) (he : T[k].1 = s) : findT T s = some k := by
  unfold findT at *
  have e : T = T.take k ++ (T[k] :: T.drop (k + 1)) := by rw [← List.drop_eq_getElem_cons hk, List.take_append_drop]
  have h0 : (T[k] :: T.drop (k + 1)).findIdx? (fun e => e.1 == s) = some 0 := by simp only [List.findIdx?_cons, he, beq_self_eq_true, if_true]
  rw [e, List.findIdx?_append, h, h0]
  simp only [Option.none_or, Option.map_some, Option.some.injEq, List.length_take]
  omega
theorem find_take_next {T : List Ent} {s : List UInt8} {k : Nat} (hk : k < T.length) (h : findT (T.take k) s = none) (he : T[k].1 ≠ s) : findT (T.take (k + 1)) s = none := by
  rw [take_snoc hk]
  unfold findT at *
  rw [find_snoc, h]
  simp [he]
def findI (T : List Ent) (s : List UInt8) : Int := match findT T s with | some i => (i : Int) | none => -1
set_option maxHeartbeats 1000000 in
theorem rfind_any (s : List UInt8) (h : RefIs w base T vb vm) (hlen : T.length ≤ 1000) : Calls Tryz.prog 100 #[.agg #[vb, vm], strV s] w fun e w' => e = .returned (.int .i64 (findI T s)) ∧ Below w.heap.size w w' := by
  obtain ⟨A, c, rfl⟩ := own_slice h.row
  obtain ⟨A2, c2, hvm⟩ := own_slice h.mrg
  subst hvm
  have hb0 := (Below.refl w.heap.size w).alloc (Nat.le_refl _) (.cells #[.slice A T.length c, .slice A2 (mrgsT T).length c2] 34)
  have n0 := blk_cell (blk_new w (.cells #[.slice A T.length c, .slice A2 (mrgsT T).length c2] 34)) 0
  simp only [List.getElem?_toArray, List.getElem?_cons_zero] at n0
  have HSL := Lib.hid ((own_sl1 h.row).below hb0 (Nat.le_refl _))
  have HB := Lib.hid hb0
  clear hb0 h
  unfold strV
  go_enter Tryz.func100, Tryz.ntmps100
  go_wp2_with fail
  generalize hW : w.alloc (.cells #[.slice A T.length c, .slice A2 (mrgsT T).length c2] 34) = W at *
  clear hW
  go_loopg [5] T.length (fun n i W' => ∃ k : Nat, k + n = T.length ∧ i = .int .i64 (k : Int) ∧ findT (T.take k) s = none ∧ W' = W)
  case atStart => exact ⟨0, by omega, rfl, rfl, rfl⟩
  case round =>
    obtain ⟨k, hk, rfl, hf, hW⟩ := hrel
    subst hW
    have HF := Lib.hid hf
    clear hf
    by_cases hlt : k < T.length
    · obtain ⟨ba, o, rfl, g0⟩ := HSL.out.at k (by simpa [bytsT] using hlt)
      simp only [bytsT, List.getElem_map, strV] at g0
      have q0 : 0 ≤ (k : Int) := by omega
      have q1 : (k : Int) < (T.length : Int) := by omega
      by_cases he : T[k].1 = s
      · have HE := Lib.hid he
        rw [he] at g0
        clear he
        go_wp2_with fail
        go_ret
        refine ⟨ret_int ?_, HB.out⟩
        unfold findI
        rw [find_take hlt HF.out HE.out]
      · have HE := Lib.hid he
        have hne : ¬ bs T[k].1 = bs s := fun e => he (bs_inj e)
        generalize bs T[k].1 = x at *
        generalize bs s = y at *
        have hbe : (x.toList == y.toList) = false := by
          rw [beq_eq_false_iff_ne, ByteArray.toList_eq, ByteArray.toList_eq]
          intro e
          apply hne
          apply ByteArray.ext
          exact Array.ext' e
        clear he
        go_wp2_with fail
        go_roundg (gk - 1)
        case measure => omega
        case rel => exact ⟨k + 1, by omega, by simp, find_take_next hlt HF.out HE.out, rfl⟩
    · have : k = T.length := by omega
      subst this
      go_wp2_with fail
      go_ret
      refine ⟨ret_int ?_, HB.out⟩
      have := HF.out
      rw [List.take_length] at this
      unfold findI
      rw [this]
end
theorem load_ref {w : World} {r : Nat} {A B : Option Addr} {n m c d : Nat} (h : w.heap[r]? = some (.cells #[.slice A n c, .slice B m d] 34)) : (loadVar 34 ⟨r, 0, none⟩).run Tryz.prog w = .ok (.agg #[.slice A n c, .slice B m d]) w := by
  have n0 := blk_cell h 0
  have n1 := blk_cell h 1
  simp only [List.getElem?_toArray, List.getElem?_cons_zero, List.getElem?_cons_succ] at n0 n1
  simp [go_sem, n0, n1]
def basV (k : Nat) : List Value := ((baseT.take k).map (·.1)).map strV
structure RBegIs (w0 w : World) (r tb k : Nat) : Prop where
  ex : ∃ sv, w.heap[tb]? = some (.cells #[sv, .slice none 0 0] 34) ∧ w.ownsRow w0.heap.size 9 1 sv k (basV k)
  res : w.heap[r]? = some (.cells #[.slice none 0 0, .slice none 0 0] 34)
  below : Below w0.heap.size w0 w
  lt : w0.heap.size ≤ tb ∧ w0.heap.size ≤ r
  ne : r ≠ tb
theorem rbeg_start (w : World) : RBegIs w ((w.alloc (.cells #[.slice none 0 0, .slice none 0 0] 34)).alloc (.cells #[.slice none 0 0, .slice none 0 0] 34)) w.heap.size (w.heap.size + 1) 0 := by
  refine ⟨⟨.slice none 0 0, ?_, own_nil _ _ _ _⟩, ?_, ?_, by omega, by omega⟩
  · have := blk_new (w.alloc (.cells #[.slice none 0 0, .slice none 0 0] 34)) (.cells #[.slice none 0 0, .slice none 0 0] 34)
    rwa [size_alloc] at this
  · exact blk_alloc (blk_new w _) _
  · exact ((Below.refl _ _).alloc (Nat.le_refl _) _).alloc (by simp) _
set_option maxHeartbeats 1000000 in
theorem rbegin_any (w : World) : Calls Tryz.prog 53 #[] w fun e w' => ∃ vb, e = .returned (.agg #[vb, .slice none 0 0]) ∧ RefIs w' w.heap.size baseT vb (.slice none 0 0) ∧ Below w.heap.size w w' := by
  have HS := Lib.hid (rbeg_start w)
  go_enter Tryz.func53, Tryz.ntmps53
  go_wp2_with fail
  generalize hW : (w.alloc (.cells #[.slice none 0 0, .slice none 0 0] 34)).alloc (.cells #[.slice none 0 0, .slice none 0 0] 34) = W0 at *
  clear hW
  obtain ⟨tb, ht⟩ : ∃ tb, w.heap.size + 1 = tb := ⟨_, rfl⟩
  obtain ⟨r, hr⟩ : ∃ r, w.heap.size = r := ⟨_, rfl⟩
  have HS1 : Hid (RBegIs w W0 r tb 0) := Lib.hid (by rw [← ht, ← hr]; exact HS.out)
  have HTB : Hid (w.heap.size ≤ tb) := Lib.hid (by omega)
  rw [ht, hr]
  clear HS ht hr
  go_loopg [2] 256 (fun n i W => ∃ k : Nat, k + n = 256 ∧ i = .int .i64 (k : Int) ∧ RBegIs w W r tb k)
  case atStart => exact ⟨0, rfl, rfl, HS1.out⟩
  case round =>
    obtain ⟨k, hk, rfl, hW⟩ := hrel
    have HW := Lib.hid hW
    clear HS1
    rename World => W
    by_cases hlt : k < 256
    · obtain ⟨sv, hbk, hrow⟩ := hW.ex
      have c0 := blk_cell hbk 0
      simp only [List.getElem?_toArray, List.getElem?_cons_zero] at c0
      obtain ⟨svA, svc, rfl⟩ := own_slice hrow
      have hlt' : (k : Int) < 256 := by omega
      have hbyte : IntKind.u8.wrap (k : Int) = k := IntWalk.u8_in _ (by omega)
      have hconv : (convert 126 9 (.slice (some ⟨W.heap.size, 0, none⟩) 1 1)).run Tryz.prog (W.alloc (.cells #[.int .u8 (k : Int)] 5)) = .ok (.string (bs [UInt8.ofNat k])) (W.alloc (.cells #[.int .u8 (k : Int)] 5)) := by
        refine run_convert_bytes_back _ _ _ 5 ⟨W.heap.size, 0, none⟩ 1 [UInt8.ofNat k] Tryz.underlying126 Tryz.underlying5 Tryz.underlying9 ?_
        intro j hj
        have : j = 0 := by simpa using hj
        subst this
        rw [add_plain, blk_cell (blk_new W _) 0]
        have : k % 256 = k := by omega
        simp [this]
      obtain ⟨x, hx⟩ : ∃ x, bs [UInt8.ofNat k] = x := ⟨_, rfl⟩
      rw [hx] at hconv
      have HX := Lib.hid hx
      have hb5 := (Below.refl W.heap.size W).alloc (Nat.le_refl _) (.cells #[.int .u8 (k : Int)] 5)
      have hb6 := hb5.alloc (by simp) (.cells #[.string x] 9)
      have HG : Hid (((W.alloc (.cells #[.int .u8 (k : Int)] 5)).alloc (.cells #[.string x] 9)).heap[W.heap.size + 1]? = some (.cells [Value.string x].toArray 9)) := Lib.hid (by
        have := blk_new (W.alloc (.cells #[.int .u8 (k : Int)] 5)) (.cells #[.string x] 9)
        rwa [size_alloc] at this)
      have HROW := Lib.hid (own_below hrow hb6 (Nat.le_refl _))
      have HBK := Lib.hid (blk_below hb6 (blk_lt hbk) hbk)
      have HRES := Lib.hid (blk_below hb6 (blk_lt hW.res) hW.res)
      have HB6 := Lib.hid (hW.below.trans (hb6.mono hW.below.size))
      have HLE := Lib.hid hb6.size
      have HGEN := Lib.hid (Nat.le_trans hW.below.size hb6.size)
      clear hx hb5 hb6 hbk hrow hW
      go_wp2_with (at_builtin; refine app_at (w.heap.size) 31 9 (.string ⟨#[]⟩) 1 16 [_] 1 (W.heap.size + 1) _ _ rfl rfl Tryz.underlying31 info_str4 rfl (by decide) _ _ _ rfl rfl rfl (by intro u hu; simp at hu; subst hu; rfl) HG.out HROW.out (by omega) (by omega) HGEN.out ?_)
      intro v' w1 hown1 hg1 _
      obtain ⟨A1, cA1, rfl⟩ := own_slice hown1
      have hk1 : Keep (fun g => (Value.slice svA k svc).ownBlock = some g) ((W.alloc (.cells #[.int .u8 (k : Int)] 5)).alloc (.cells #[.string x] 9)) w1 := Keep.of_grown hg1 (fun g hg => hg)
      have b1 := hk1.blk HBK.out (row_ne HROW.out HBK.out (by decide))
      have r1 := hk1.blk HRES.out (row_ne HROW.out HRES.out (by decide))
      have hb1 := HB6.out.trans (hk1.below HGEN.out (own_base HROW.out))
      have c0 := blk_cell b1 0
      have z0 := blk_froz b1 0
      simp only [List.getElem?_toArray, List.getElem?_cons_zero] at c0
      have b2 := blk_set b1 0 (.slice A1 (k + 1) cA1)
      simp only [List.setIfInBounds_toArray, List.set_cons_zero] at b2
      have HB2 := Lib.hid b2
      have HR2 := Lib.hid (blk_far (p := ⟨tb, 0, none⟩) r1 HW.out.ne (.slice A1 (k + 1) cA1))
      have K2 : Keep (fun g => g = tb) w1 (w1.setCell ⟨tb, 0, none⟩ (.slice A1 (k + 1) cA1)) := Keep.setCell (F := fun g => g = tb) (p := ⟨tb, 0, none⟩) (Keep.refl _ _) (Or.inl rfl) _
      have HO2 := Lib.hid (own_keep hown1 K2 (fun g hg e => row_ne hown1 b1 (by decide) (by rw [hg, e])))
      have HBE2 := Lib.hid (hb1.setCell (p := ⟨tb, 0, none⟩) HTB.out (.slice A1 (k + 1) cA1))
      rename_i c0o _
      clear hown1 hg1 hk1 b1 r1 hb1 b2 K2 hconv
      go_wp2_with fail
      go_roundg (gk - 1)
      case measure => omega
      case rel =>
        refine ⟨k + 1, by omega, by simp, ⟨⟨_, HB2.out, ?_⟩, HR2.out, HBE2.out, HW.out.lt, HW.out.ne⟩⟩
        have e5 : basV (k + 1) = basV k ++ [.string x] := by
          unfold basV
          rw [base_take k hlt]
          simp [strV, HX.out]
        rw [e5]
        exact HO2.out
    · have : k = 256 := by omega
      subst this
      obtain ⟨sv, hbk, hrow⟩ := hW.ex
      obtain ⟨svA, svc, rfl⟩ := own_slice hrow
      have c0 := blk_cell hbk 0
      have c1 := blk_cell hbk 1
      have z0 := blk_froz hW.res 0
      have z1 := blk_froz hW.res 1
      have d0 := blk_cell hW.res 0
      have d1 := blk_cell hW.res 1
      simp only [List.getElem?_toArray, List.getElem?_cons_zero, List.getElem?_cons_succ] at c0 c1 d0 d1
      have HROW := Lib.hid hrow
      clear hW hbk hrow
      go_wp2_with fail
      refine ret_cell1 (r := r) rfl rfl (load_ref (by exact blk_set (blk_set HW.out.res 0 _) 1 _)) ?_
      refine ⟨_, rfl, ?_, (HW.out.below.setCell (p := ⟨r, 0, none⟩) HW.out.lt.2 _).setCell (p := ⟨r, 1, none⟩) HW.out.lt.2 _⟩
      have K3 : ∀ (W : World) (i : Nat) (u : Value), Keep (fun g => g = r) W (W.setCell ⟨r, i, none⟩ u) := fun W i u => Keep.setCell (F := fun g => g = r) (p := ⟨r, i, none⟩) (Keep.refl _ _) (Or.inl rfl) _
      have hne : ∀ g, (Value.slice svA 256 svc).ownBlock = some g → ¬ g = r := fun g hg e => row_ne HROW.out HW.out.res (by decide) (by rw [hg, e])
      refine ⟨?_, own_nil _ _ _ _, fun _ => rfl⟩
      have e6 : basV 256 = (bytsT baseT).map strV := by
        unfold basV bytsT
        rw [List.take_of_length_le (by rw [base_len]; decide)]
      rw [← e6, base_len]
      exact own_keep (own_keep HROW.out (K3 _ 0 _) hne) (K3 _ 1 _) hne
structure RAdd (w W : World) (base : Nat) (T : List Ent) (A : Option Addr) (c : Nat) (A2 : Option Addr) (c2 : Nat) (a b : Int) (r0 r1 r2 : Nat) : Prop where
  t : W.heap[r0]? = some (.cells #[.slice A T.length c, .slice A2 (mrgsT T).length c2] 34)
  m : W.heap[r1]? = some (.cells #[.int .i64 a, .int .i64 b] 55)
  r : W.heap[r2]? = some (.cells #[.slice none 0 0, .slice none 0 0] 34)
  ref : RefIs W base T (.slice A T.length c) (.slice A2 (mrgsT T).length c2)
  below : Below w.heap.size w W
  le : w.heap.size ≤ r0 ∧ w.heap.size ≤ r1 ∧ w.heap.size ≤ r2
theorem RAdd.step {w W W' : World} {base : Nat} {T : List Ent} {A : Option Addr} {c : Nat} {A2 : Option Addr} {c2 : Nat} {a b : Int} {r0 r1 r2 : Nat} (h : RAdd w W base T A c A2 c2 a b r0 r1 r2) (hb : Below W.heap.size W W') : RAdd w W' base T A c A2 c2 a b r0 r1 r2 :=
  ⟨blk_below hb (blk_lt h.t) h.t, blk_below hb (blk_lt h.m) h.m, blk_below hb (blk_lt h.r) h.r, h.ref.below hb (Nat.le_refl _), h.below.trans (hb.mono h.below.size), h.le⟩
theorem RAdd.drewN {w W : World} {base : Nat} {T : List Ent} {A : Option Addr} {c : Nat} {A2 : Option Addr} {c2 : Nat} {a b : Int} {r0 r1 r2 : Nat} (h : RAdd w W base T A c A2 c2 a b r0 r1 r2) (n : Nat) : RAdd w (W.drewN n) base T A c A2 c2 a b r0 r1 r2 := h.step (below_drewN (Below.refl _ _) n)
theorem RAdd.cells {w W : World} {base : Nat} {T : List Ent} {A : Option Addr} {c : Nat} {A2 : Option Addr} {c2 : Nat} {a b : Int} {r0 r1 r2 : Nat} (h : RAdd w W base T A c A2 c2 a b r0 r1 r2) :
    W.cell? ⟨r0, 0, none⟩ = some (.slice A T.length c) ∧ W.cell? ⟨r0, 1, none⟩ = some (.slice A2 (mrgsT T).length c2) ∧ W.cell? ⟨r1, 0, none⟩ = some (.int .i64 a) ∧ W.cell? ⟨r1, 1, none⟩ = some (.int .i64 b) ∧
    W.cell? ⟨r2, 0, none⟩ = some (.slice none 0 0) ∧ W.cell? ⟨r2, 1, none⟩ = some (.slice none 0 0) ∧ W.frozen? ⟨r2, 0, none⟩ = false ∧ W.frozen? ⟨r2, 1, none⟩ = false :=
  ⟨blk_cell h.t 0, blk_cell h.t 1, blk_cell h.m 0, blk_cell h.m 1, blk_cell h.r 0, blk_cell h.r 1, blk_froz h.r 0, blk_froz h.r 1⟩
theorem radd_start {w : World} {base : Nat} {T : List Ent} {A : Option Addr} {c : Nat} {A2 : Option Addr} {c2 : Nat} (a b : Int) (h : RefIs w base T (.slice A T.length c) (.slice A2 (mrgsT T).length c2)) :
    RAdd w (((w.alloc (.cells #[.slice A T.length c, .slice A2 (mrgsT T).length c2] 34)).alloc (.cells #[.int .i64 a, .int .i64 b] 55)).alloc (.cells #[.slice none 0 0, .slice none 0 0] 34)) base T A c A2 c2 a b w.heap.size (w.heap.size + 1) (w.heap.size + 1 + 1) := by
  have hb := (((Below.refl w.heap.size w).alloc (Nat.le_refl _) (.cells #[.slice A T.length c, .slice A2 (mrgsT T).length c2] 34)).alloc (by simp) (.cells #[.int .i64 a, .int .i64 b] 55)).alloc (by simp; omega) (.cells #[.slice none 0 0, .slice none 0 0] 34)
  refine ⟨blk_alloc (blk_alloc (blk_new w _) _) _, ?_, ?_, h.below hb (Nat.le_refl _), hb, by omega⟩
  · refine blk_alloc ?_ _
    have := blk_new (w.alloc (.cells #[.slice A T.length c, .slice A2 (mrgsT T).length c2] 34)) (.cells #[.int .i64 a, .int .i64 b] 55)
    rwa [size_alloc] at this
  · have := blk_new ((w.alloc (.cells #[.slice A T.length c, .slice A2 (mrgsT T).length c2] 34)).alloc (.cells #[.int .i64 a, .int .i64 b] 55)) (.cells #[.slice none 0 0, .slice none 0 0] 34)
    rwa [size_alloc, size_alloc] at this
theorem ret_ref {fn : Func} {R : Ending → World → Prop} {tmps : Array Value} {w : World} {r : Nat} {A B : Option Addr} {n m c d : Nat} {x : Int} {p q : Tmp}
    (h : fn.results = #[.cell p 34, .tmp q]) (hp : tmps.getD p undef = .pointer (some ⟨r, 0, none⟩)) (hq : tmps.getD q undef = .int .i64 x)
    (hl : w.heap[r]? = some (.cells #[.slice A n c, .slice B m d] 34))
    (hR : R (.returned (.tuple #[.agg #[.slice A n c, .slice B m d], .int .i64 x])) w) : bodyPost Tryz.prog fn R .ret ⟨tmps, []⟩ w := by
  refine bodyPost_ret (v := .tuple #[.agg #[.slice A n c, .slice B m d], .int .i64 x]) ?_ rfl hR
  rw [results_cell_tmp h, hp, hq]
  simp [asAddr, load_ref hl, Result.andThen]
theorem RAdd.same {w W : World} {base : Nat} {T : List Ent} {A : Option Addr} {c : Nat} {A2 : Option Addr} {c2 : Nat} {a b : Int} {r0 r1 r2 : Nat} (h : RAdd w W base T A c A2 c2 a b r0 r1 r2) :
    ((W.setCell ⟨r2, 0, none⟩ (.slice A T.length c)).setCell ⟨r2, 1, none⟩ (.slice A2 (mrgsT T).length c2)).heap[r2]? = some (.cells #[.slice A T.length c, .slice A2 (mrgsT T).length c2] 34) ∧
    Below w.heap.size w ((W.setCell ⟨r2, 0, none⟩ (.slice A T.length c)).setCell ⟨r2, 1, none⟩ (.slice A2 (mrgsT T).length c2)) ∧
    RefIs ((W.setCell ⟨r2, 0, none⟩ (.slice A T.length c)).setCell ⟨r2, 1, none⟩ (.slice A2 (mrgsT T).length c2)) base T (.slice A T.length c) (.slice A2 (mrgsT T).length c2) := by
  have K3 : ∀ (W : World) (i : Nat) (u : Value), Keep (fun g => g = r2) W (W.setCell ⟨r2, i, none⟩ u) := fun W i u => Keep.setCell (F := fun g => g = r2) (p := ⟨r2, i, none⟩) (Keep.refl _ _) (Or.inl rfl) _
  refine ⟨by simpa using blk_set (blk_set h.r 0 _) 1 _, (h.below.setCell (p := ⟨r2, 0, none⟩) h.le.2.2 _).setCell (p := ⟨r2, 1, none⟩) h.le.2.2 _, ?_, ?_, h.ref.nil⟩
  · exact own_keep (own_keep h.ref.row (K3 _ 0 _) (fun g hg e => row_ne h.ref.row h.r (by decide) (by rw [hg, e]))) (K3 _ 1 _) (fun g hg e => row_ne h.ref.row h.r (by decide) (by rw [hg, e]))
  · exact own_keep (own_keep h.ref.mrg (K3 _ 0 _) (fun g hg e => row_ne h.ref.mrg h.r (by decide) (by rw [hg, e]))) (K3 _ 1 _) (fun g hg e => row_ne h.ref.mrg h.r (by decide) (by rw [hg, e]))
def RAddOk (w : World) (base : Nat) (T : List Ent) (a b : Int) (e : Ending) (w' : World) : Prop :=
  Below w.heap.size w w' ∧ ∃ A' n' c' A2' m' c2', e = .returned (.tuple #[.agg #[.slice A' n' c', .slice A2' m' c2'], .int .i64 (addT T a b).2.1]) ∧ RefIs w' base (addT T a b).2.2 (.slice A' n' c') (.slice A2' m' c2')
theorem RAdd.err {w W : World} {base : Nat} {T : List Ent} {A : Option Addr} {c : Nat} {A2 : Option Addr} {c2 : Nat} {a b : Int} {r0 r1 r2 : Nat} (h : RAdd w W base T A c A2 c2 a b r0 r1 r2) {x : Int} (hx : addT T a b = (0, x, T)) :
    RAddOk w base T a b (.returned (.tuple #[.agg #[.slice A T.length c, .slice A2 (mrgsT T).length c2], .int .i64 x])) ((W.setCell ⟨r2, 0, none⟩ (.slice A T.length c)).setCell ⟨r2, 1, none⟩ (.slice A2 (mrgsT T).length c2)) :=
  ⟨h.same.2.1, _, _, _, _, _, _, by rw [hx], by rw [hx]; exact h.same.2.2⟩
set_option maxHeartbeats 2000000 in
theorem radd_err {w : World} {base : Nat} {T : List Ent} {A : Option Addr} {c : Nat} {A2 : Option Addr} {c2 : Nat} (a b : Int) (h : RefIs w base T (.slice A T.length c) (.slice A2 (mrgsT T).length c2)) (hT : OkT T) (he : (addT T a b).2.1 ≠ 0) :
    Calls Tryz.prog 54 #[.agg #[.slice A T.length c, .slice A2 (mrgsT T).length c2], .agg #[.int .i64 a, .int .i64 b]] w (RAddOk w base T a b) := by
  have HS := Lib.hid (radd_start a b h)
  have HOK := Lib.hid hT
  have HE := Lib.hid he
  obtain ⟨t0, t1, m0, m1, _, _, _, _⟩ := HS.out.cells
  clear h hT he
  go_enter Tryz.func54, Tryz.ntmps54
  go_wp2_with fail
  generalize hW : ((w.alloc (.cells #[.slice A T.length c, .slice A2 (mrgsT T).length c2] 34)).alloc (.cells #[.int .i64 a, .int .i64 b] 55)).alloc (.cells #[.slice none 0 0, .slice none 0 0] 34) = W at *
  clear hW
  obtain ⟨r2, hr2⟩ : ∃ r2, w.heap.size + 1 + 1 = r2 := ⟨_, rfl⟩
  obtain ⟨r1, hr1⟩ : ∃ r1, w.heap.size + 1 = r1 := ⟨_, rfl⟩
  obtain ⟨r0, hr0⟩ : ∃ r0, w.heap.size = r0 := ⟨_, rfl⟩
  have HS1 : Hid (RAdd w W base T A c A2 c2 a b r0 r1 r2) := Lib.hid (by rw [← hr2, ← hr1, ← hr0]; exact HS.out)
  rw [hr2, hr1, hr0]
  clear HS hr2 hr1 hr0 t0 t1 m0 m1
  refine (rhas_any a HS1.out.ref).mono ?_
  rintro e W1 ⟨rfl, hb1⟩
  have HS2 := Lib.hid (HS1.out.step hb1)
  obtain ⟨t0, t1, m0, m1, d0, d1, z0, z1⟩ := HS2.out.cells
  clear hb1 HS1
  cases ha : hasT T a with
  | false =>
    go_wp2_with fail
    refine ret_ref (r := r2) rfl rfl rfl HS2.out.same.1 (HS2.out.err (x := 4) ?_)
    simp [addT, ha]
  | true =>
    have HA := Lib.hid ha
    clear ha
    go_wp2_with fail
    refine (rhas_any b HS2.out.ref).mono ?_
    rintro e W2 ⟨rfl, hb2⟩
    have HS3 := Lib.hid (HS2.out.step hb2)
    clear t0 t1 m0 m1 d0 d1 z0 z1 hb2 HS2
    obtain ⟨t0, t1, m0, m1, d0, d1, z0, z1⟩ := HS3.out.cells
    cases hb : hasT T b with
    | false =>
      go_wp2_with fail
      refine ret_ref (r := r2) rfl rfl rfl HS3.out.same.1 (HS3.out.err (x := 4) ?_)
      simp [addT, hb]
    | true =>
      have HAB := Lib.hid hb
      obtain ⟨k, rfl, hk, ek⟩ := hasT_at HA.out
      obtain ⟨l, rfl, hl, el⟩ := hasT_at hb
      obtain ⟨ba, o, rfl, g0⟩ := (own_sl1 HS3.out.ref.row).at k (by simpa [bytsT] using hk)
      obtain ⟨ba', o', e', g1⟩ := (own_sl1 HS3.out.ref.row).at l (by simpa [bytsT] using hl)
      cases e'
      simp only [bytsT, List.getElem_map, strV] at g0 g1
      have hX := HOK.out.len T[k] (List.getElem_mem hk)
      have hY := HOK.out.len T[l] (List.getElem_mem hl)
      have EK := Lib.hid ek
      have EL := Lib.hid el
      have HSM := Lib.hid HOK.out.small
      obtain ⟨X, hXe⟩ : ∃ X, T[k].1 = X := ⟨_, rfl⟩
      obtain ⟨Y, hYe⟩ : ∃ Y, T[l].1 = Y := ⟨_, rfl⟩
      rw [hXe] at g0 hX
      rw [hYe] at g1 hY
      have HXE := Lib.hid hXe
      have HYE := Lib.hid hYe
      have hbig : (9223372036854775807 < (bs X).size + (bs Y).size) = False := by rw [eq_iff_iff, iff_false, bs_size, bs_size]; omega
      have HX := Lib.hid hX
      have HY := Lib.hid hY
      have q0 : 0 ≤ (k : Int) := by omega
      have q1 : (k : Int) < (T.length : Int) := by omega
      have q2 : 0 ≤ (l : Int) := by omega
      have q3 : (l : Int) < (T.length : Int) := by omega
      clear hb ek el hXe hYe hX hY
      go_wp2_with fail
      go_quiet (fail)
      rw [bs_append]
      obtain ⟨z, hz⟩ : ∃ z, bs (X ++ Y) = z := ⟨_, rfl⟩
      have hzs : z.size = (X ++ Y).length := by rw [← hz, bs_size]
      have HZ := Lib.hid hz
      have HZS := Lib.hid hzs
      rw [hz]
      clear hz hbig g0 g1 q0 q1 q2 q3 hzs
      have HS4 := Lib.hid (HS3.out.drewN nq)
      clear t0 t1 m0 m1 d0 d1 z0 z1 HS3
      generalize W2.drewN nq = W3 at *
      obtain ⟨t0, t1, m0, m1, d0, d1, z0, z1⟩ := HS4.out.cells
      by_cases h64 : (64 : Int) < (z.size : Int)
      · go_wp2_with fail
        refine ret_ref (r := r2) rfl rfl rfl HS4.out.same.1 (HS4.out.err (x := 3) ?_)
        exact addT_long HA.out HAB.out (by rw [EK.out, HXE.out]) (by rw [EL.out, HYE.out]) (by have := HZS.out; omega)
      · by_cases h1000 : (1000 : Int) ≤ (T.length : Int)
        · go_wp2_with fail
          refine ret_ref (r := r2) rfl rfl rfl HS4.out.same.1 (HS4.out.err (x := 5) ?_)
          exact addT_full HA.out HAB.out (by rw [EK.out, HXE.out]) (by rw [EL.out, HYE.out]) (by have := HZS.out; omega) (by omega)
        · have HRF := Lib.hid (rfind_any (X ++ Y) HS4.out.ref HSM.out)
          unfold strV at HRF
          rw [HZ.out] at HRF
          go_wp2_with fail
          refine HRF.out.mono ?_
          rintro e W4 ⟨rfl, hb4⟩
          have HS5 := Lib.hid (HS4.out.step hb4)
          clear t0 t1 m0 m1 d0 d1 z0 z1 HS4 HRF hb4
          obtain ⟨t0, t1, m0, m1, d0, d1, z0, z1⟩ := HS5.out.cells
          cases hf : findT T (X ++ Y) with
          | none =>
            exfalso
            have := HE.out
            rw [addT_ok HA.out HAB.out (by rw [EK.out, HXE.out]) (by rw [EL.out, HYE.out]) (by have := HZS.out; omega) (by omega) (by rw [hf]; rfl)] at this
            exact this rfl
          | some i =>
            have hi : findI T (X ++ Y) = (i : Int) := by unfold findI; rw [hf]
            rw [hi]
            have HF := Lib.hid hf
            have h0i : 0 ≤ (i : Int) := by omega
            clear hf hi
            go_wp2_with fail
            refine ret_ref (r := r2) rfl rfl rfl HS5.out.same.1 (HS5.out.err (x := 10) ?_)
            exact addT_twice HA.out HAB.out (by rw [EK.out, HXE.out]) (by rw [EL.out, HYE.out]) (by have := HZS.out; omega) (by omega) (by rw [HF.out]; rfl)
theorem gen_below {K : Act → World → Prop} {a : Act} {W V w0 : World} {b : Nat} (hb : Below b w0 V) (hV : W = V) (h : ∀ W', W' = V → K a W') : K a W := by subst hV; exact h _ rfl
theorem bel_new {w0 W : World} (h : Below w0.heap.size w0 W) (o : Obj) : (W.alloc o).heap[W.heap.size]? = some o := blk_new W o
theorem bel_alloc {w0 W : World} (h : Below w0.heap.size w0 W) (o : Obj) : Below w0.heap.size w0 (W.alloc o) := h.trans (((Below.refl W.heap.size W).alloc (Nat.le_refl _) o).mono h.size)
theorem row_alloc {W : World} {base n : Nat} {e : TypeId} {size : Nat} {v : Value} {xs : List Value} (h : W.ownsRow base e size v n xs) (o : Obj) : (W.alloc o).ownsRow base e size v n xs := own_below h ((Below.refl W.heap.size W).alloc (Nat.le_refl _) o) (Nat.le_refl _)
theorem radd_fin {w W4 W : World} {base : Nat} {T : List Ent} {A : Option Addr} {c : Nat} {A2 : Option Addr} {c2 : Nat} {a b : Int} {r0 r1 r2 : Nat} {A7 A8 : Option Addr} {c7 c8 : Nat} {z : ByteArray} {Z : List UInt8}
    (h : RAdd w W4 base T A c A2 c2 a b r0 r1 r2) (hb : Below W4.heap.size W4 W)
    (ho1 : W.ownsRow W4.heap.size 9 1 (.slice A7 (T.length + 1) c7) (T.length + 1) ((bytsT T).map strV ++ [.string z]))
    (ho2 : W.ownsRow W4.heap.size 55 2 (.slice A8 ((mrgsT T).length + 1) c8) ((mrgsT T).length + 1) ((mrgsT T).flatMap encM ++ [.int .i64 a, .int .i64 b]))
    (hz : strV Z = .string z) (hadd : addT T a b = ((T.length : Int), 0, T ++ [(Z, a, b)])) (hbase : base ≤ w.heap.size) (h256 : 256 ≤ T.length) :
    ((W.setCell ⟨r2, 0, none⟩ (.slice A7 (T.length + 1) c7)).setCell ⟨r2, 1, none⟩ (.slice A8 ((mrgsT T).length + 1) c8)).heap[r2]? = some (.cells #[.slice A7 (T.length + 1) c7, .slice A8 ((mrgsT T).length + 1) c8] 34) ∧
    RAddOk w base T a b (.returned (.tuple #[.agg #[.slice A7 (T.length + 1) c7, .slice A8 ((mrgsT T).length + 1) c8], .int .i64 0])) ((W.setCell ⟨r2, 0, none⟩ (.slice A7 (T.length + 1) c7)).setCell ⟨r2, 1, none⟩ (.slice A8 ((mrgsT T).length + 1) c8)) := by
  have h' := h.step hb
  have K3 : ∀ (W : World) (i : Nat) (u : Value), Keep (fun g => g = r2) W (W.setCell ⟨r2, i, none⟩ u) := fun W i u => Keep.setCell (F := fun g => g = r2) (p := ⟨r2, i, none⟩) (Keep.refl _ _) (Or.inl rfl) _
  have hle : base ≤ W4.heap.size := Nat.le_trans hbase h.below.size
  have e1 : bytsT (T ++ [(Z, a, b)]) = bytsT T ++ [Z] := by simp [bytsT]
  have e2 : mrgsT (T ++ [(Z, a, b)]) = mrgsT T ++ [(a, b)] := by
    unfold mrgsT
    rw [List.drop_append_of_le_length h256]
    simp
  refine ⟨by simpa using blk_set (blk_set h'.r 0 _) 1 _, (h'.below.setCell (p := ⟨r2, 0, none⟩) h.le.2.2 _).setCell (p := ⟨r2, 1, none⟩) h.le.2.2 _, _, _, _, _, _, _, by rw [hadd], ?_⟩
  rw [hadd]
  refine ⟨?_, ?_, ?_⟩
  · simp only [List.length_append, List.length_singleton, e1, List.map_append, List.map_cons, List.map_nil, hz]
    exact own_less (own_keep (own_keep ho1 (K3 _ 0 _) (fun g hg e => row_ne ho1 h'.r (by decide) (by rw [hg, e]))) (K3 _ 1 _) (fun g hg e => row_ne ho1 h'.r (by decide) (by rw [hg, e]))) hle
  · simp only [e2, List.length_append, List.length_singleton, List.flatMap_append]
    have e3 : [((a, b) : Int × Int)].flatMap encM = [.int .i64 a, .int .i64 b] := by simp [encM]
    rw [e3]
    exact own_less (own_keep (own_keep ho2 (K3 _ 0 _) (fun g hg e => row_ne ho2 h'.r (by decide) (by rw [hg, e]))) (K3 _ 1 _) (fun g hg e => row_ne ho2 h'.r (by decide) (by rw [hg, e]))) hle
  · intro e
    simp [e2] at e
set_option maxHeartbeats 2000000 in
theorem radd_ok {w : World} {base : Nat} {T : List Ent} {A : Option Addr} {c : Nat} {A2 : Option Addr} {c2 : Nat} (a b : Int) (h : RefIs w base T (.slice A T.length c) (.slice A2 (mrgsT T).length c2)) (hT : OkT T) (he : (addT T a b).2.1 = 0) (hbase : base ≤ w.heap.size) :
    Calls Tryz.prog 54 #[.agg #[.slice A T.length c, .slice A2 (mrgsT T).length c2], .agg #[.int .i64 a, .int .i64 b]] w (RAddOk w base T a b) := by
  have HS := Lib.hid (radd_start a b h)
  have HOK := Lib.hid hT
  have HE := Lib.hid he
  have HBASE := Lib.hid hbase
  obtain ⟨t0, t1, m0, m1, _, _, _, _⟩ := HS.out.cells
  clear h hT he hbase
  go_enter Tryz.func54, Tryz.ntmps54
  go_wp2_with fail
  generalize hW : ((w.alloc (.cells #[.slice A T.length c, .slice A2 (mrgsT T).length c2] 34)).alloc (.cells #[.int .i64 a, .int .i64 b] 55)).alloc (.cells #[.slice none 0 0, .slice none 0 0] 34) = W at *
  clear hW
  obtain ⟨r2, hr2⟩ : ∃ r2, w.heap.size + 1 + 1 = r2 := ⟨_, rfl⟩
  obtain ⟨r1, hr1⟩ : ∃ r1, w.heap.size + 1 = r1 := ⟨_, rfl⟩
  obtain ⟨r0, hr0⟩ : ∃ r0, w.heap.size = r0 := ⟨_, rfl⟩
  have HS1 : Hid (RAdd w W base T A c A2 c2 a b r0 r1 r2) := Lib.hid (by rw [← hr2, ← hr1, ← hr0]; exact HS.out)
  rw [hr2, hr1, hr0]
  clear HS hr2 hr1 hr0 t0 t1 m0 m1
  refine (rhas_any a HS1.out.ref).mono ?_
  rintro e W1 ⟨rfl, hb1⟩
  have HS2 := Lib.hid (HS1.out.step hb1)
  obtain ⟨t0, t1, m0, m1, d0, d1, z0, z1⟩ := HS2.out.cells
  clear hb1 HS1
  cases ha : hasT T a with
  | false => exact absurd HE.out (by simp [addT, ha])
  | true =>
    have HA := Lib.hid ha
    clear ha
    go_wp2_with fail
    refine (rhas_any b HS2.out.ref).mono ?_
    rintro e W2 ⟨rfl, hb2⟩
    have HS3 := Lib.hid (HS2.out.step hb2)
    clear t0 t1 m0 m1 d0 d1 z0 z1 hb2 HS2
    obtain ⟨t0, t1, m0, m1, d0, d1, z0, z1⟩ := HS3.out.cells
    cases hb : hasT T b with
    | false => exact absurd HE.out (by simp [addT, hb])
    | true =>
      have HAB := Lib.hid hb
      obtain ⟨k, rfl, hk, ek⟩ := hasT_at HA.out
      obtain ⟨l, rfl, hl, el⟩ := hasT_at hb
      obtain ⟨ba, o, rfl, g0⟩ := (own_sl1 HS3.out.ref.row).at k (by simpa [bytsT] using hk)
      obtain ⟨ba', o', e', g1⟩ := (own_sl1 HS3.out.ref.row).at l (by simpa [bytsT] using hl)
      cases e'
      simp only [bytsT, List.getElem_map, strV] at g0 g1
      have hX := HOK.out.len T[k] (List.getElem_mem hk)
      have hY := HOK.out.len T[l] (List.getElem_mem hl)
      have EK := Lib.hid ek
      have EL := Lib.hid el
      have HSM := Lib.hid HOK.out.small
      obtain ⟨X, hXe⟩ : ∃ X, T[k].1 = X := ⟨_, rfl⟩
      obtain ⟨Y, hYe⟩ : ∃ Y, T[l].1 = Y := ⟨_, rfl⟩
      rw [hXe] at g0 hX
      rw [hYe] at g1 hY
      have HXE := Lib.hid hXe
      have HYE := Lib.hid hYe
      have hbig : (9223372036854775807 < (bs X).size + (bs Y).size) = False := by rw [eq_iff_iff, iff_false, bs_size, bs_size]; omega
      have HX := Lib.hid hX
      have HY := Lib.hid hY
      have q0 : 0 ≤ (k : Int) := by omega
      have q1 : (k : Int) < (T.length : Int) := by omega
      have q2 : 0 ≤ (l : Int) := by omega
      have q3 : (l : Int) < (T.length : Int) := by omega
      clear hb ek el hXe hYe hX hY
      go_wp2_with fail
      go_quiet (fail)
      rw [bs_append]
      obtain ⟨z, hz⟩ : ∃ z, bs (X ++ Y) = z := ⟨_, rfl⟩
      have hzs : z.size = (X ++ Y).length := by rw [← hz, bs_size]
      have HZ := Lib.hid hz
      have HZS := Lib.hid hzs
      rw [hz]
      clear hz hbig g0 g1 q0 q1 q2 q3 hzs
      have HS4 := Lib.hid (HS3.out.drewN nq)
      clear t0 t1 m0 m1 d0 d1 z0 z1 HS3
      generalize W2.drewN nq = W3 at *
      obtain ⟨t0, t1, m0, m1, d0, d1, z0, z1⟩ := HS4.out.cells
      by_cases h64 : (64 : Int) < (z.size : Int)
      · exact absurd HE.out (by rw [addT_long HA.out HAB.out (by rw [EK.out, HXE.out]) (by rw [EL.out, HYE.out]) (by have := HZS.out; omega)]; simp)
      · by_cases h1000 : (1000 : Int) ≤ (T.length : Int)
        · exact absurd HE.out (by rw [addT_full HA.out HAB.out (by rw [EK.out, HXE.out]) (by rw [EL.out, HYE.out]) (by have := HZS.out; omega) (by omega)]; simp)
        · have HRF := Lib.hid (rfind_any (X ++ Y) HS4.out.ref HSM.out)
          unfold strV at HRF
          rw [HZ.out] at HRF
          go_wp2_with fail
          refine HRF.out.mono ?_
          rintro e W4 ⟨rfl, hb4⟩
          have HS5 := Lib.hid (HS4.out.step hb4)
          clear t0 t1 m0 m1 d0 d1 z0 z1 HS4 HRF hb4
          obtain ⟨t0, t1, m0, m1, d0, d1, z0, z1⟩ := HS5.out.cells
          cases hf : findT T (X ++ Y) with
          | some i => exact absurd HE.out (by rw [addT_twice HA.out HAB.out (by rw [EK.out, HXE.out]) (by rw [EL.out, HYE.out]) (by have := HZS.out; omega) (by omega) (by rw [hf]; rfl)]; simp)
          | none =>
            have HADD := Lib.hid (addT_ok HA.out HAB.out (by rw [EK.out, HXE.out]) (by rw [EL.out, HYE.out]) (by have := HZS.out; omega) (by omega) (by rw [hf]; rfl))
            have hi : findI T (X ++ Y) = -1 := by unfold findI; rw [hf]
            rw [hi]
            clear hf hi
            have hsm := HSM.out
            have hml : (mrgsT T).length ≤ 1000 := by unfold mrgsT; simp; omega
            go_wp2_with (at_builtin; refine app_copy (W4.heap.size) base 31 9 (.string ⟨#[]⟩) 1 16 _ _ rfl rfl Tryz.underlying31 info_str4 rfl (by decide) _ _ _ rfl rfl (by intro u hu; obtain ⟨y, _, rfl⟩ := List.mem_map.1 hu; rfl) (fun e => absurd e (by omega)) HS5.out.ref.row (by omega) (by omega) (Nat.le_refl _) ?_)
            intro v1 W5 ho1 hb5 _
            obtain ⟨A5, c5, rfl⟩ := own_slice ho1
            have HS6 := Lib.hid (HS5.out.step hb5)
            have HB5 := Lib.hid hb5
            have HO1 := Lib.hid ho1
            clear t0 t1 m0 m1 d0 d1 z0 z1 ho1 hb5
            obtain ⟨t0, t1, m0, m1, d0, d1, z0, z1⟩ := HS6.out.cells
            go_wp2_with (at_builtin; refine app_copy (W4.heap.size) base 32 55 (.agg #[.int .i64 0, .int .i64 0]) 2 16 _ _ rfl rfl Tryz.underlying32 info_mrg rfl (by decide) _ _ _ rfl rfl (by intro u hu; obtain ⟨y, _, hy⟩ := List.mem_flatMap.1 hu; simp [encM] at hy; rcases hy with rfl | rfl <;> rfl) HS6.out.ref.nil HS6.out.ref.mrg (by omega) (by omega) HB5.out.size ?_)
            intro v2 W6 ho2 hb6 _
            obtain ⟨A6, c6, rfl⟩ := own_slice ho2
            have HBB := Lib.hid (HB5.out.trans (hb6.mono HB5.out.size))
            have HO1 := Lib.hid (own_below HO1.out hb6 (Nat.le_refl _))
            have HO2 := Lib.hid ho2
            clear t0 t1 m0 m1 d0 d1 z0 z1 ho2 hb6
            obtain ⟨t0, t1, m0, m1, d0, d1, z0, z1⟩ := (HS5.out.step HBB.out).cells
            go_upto_region 14 with fail
            have HBB := Lib.hid (HBB.out.trans ((Below.refl W6.heap.size W6).drew.mono HBB.out.size))
            have HO1 := Lib.hid (own_drew HO1.out)
            have HO2 := Lib.hid (own_drew HO2.out)
            have HKZ := Lib.hid (show strV (X ++ Y) = .string z by unfold strV; rw [HZ.out])
            have H256 := Lib.hid (show 256 ≤ T.length by obtain ⟨M, hM⟩ := HOK.out.base; rw [hM, List.length_append, base_len]; omega)
            have HNE := Lib.hid (show r1 ≠ r2 by
              intro e
              have h1 := HS5.out.m
              rw [e, HS5.out.r] at h1
              simp at h1)
            refine wp_region_G (D := 9) (S := fun V => V.cell? ⟨r1, 0, none⟩ = some (.int .i64 (k : Int)) ∧ V.cell? ⟨r1, 1, none⟩ = some (.int .i64 (l : Int))) (by kernel_rfl) (by exact ⟨m0, m1⟩) (fun hHeld => ?_)
            refine tkG (oi := { dst := some 60, op := Op.move (Operand.tmp 7), type := 31, pos := "ref.go:52", after := #[], guard := none }) 0 60 ?_ rfl hHeld (.inl ⟨by rfl, ?_⟩) ?_; rotate_left; focus (intro w' hSw; (try dsimp only at hSw); go_simp; (try with_reducible rfl))
            try simp only [sIB, sC0, sCS]
            refine tkG (oi := { dst := some 61, op := Op.move (Operand.tmp 6), type := 9, pos := "ref.go:52", after := #[], guard := none }) 1 61 ?_ rfl hHeld (.inl ⟨by rfl, ?_⟩) ?_; rotate_left; focus (intro w' hSw; (try dsimp only at hSw); go_simp; (try with_reducible rfl))
            try simp only [sIB, sC0, sCS]
            refine tkG (oi := { dst := some 64, op := Op.move (Operand.tmp 8), type := 32, pos := "ref.go:52", after := #[], guard := none }) 4 64 ?_ rfl hHeld (.inl ⟨by rfl, ?_⟩) ?_; rotate_left; focus (intro w' hSw; (try dsimp only at hSw); go_simp; (try with_reducible rfl))
            try simp only [sIB, sC0, sCS]
            refine tkG (oi := { dst := some 65, op := Op.load 55 (Operand.tmp 3), type := 55, pos := "ref.go:52", after := #[], guard := none }) 5 65 ?_ rfl hHeld (.inl ⟨by rfl, ?_⟩) ?_; rotate_left; focus (intro w' hSw; (try dsimp only at hSw); go_simp; (try with_reducible rfl))
            try simp only [sIB, sC0, sCS]
            refine wpAnyG_two (i := 2) (j := 6) (oi := { dst := some 62, op := Op.buildSlice 31 1 #[(0, Operand.tmp 61)], type := 31, pos := "ref.go:52", after := #[{ on := 1, ground := Ground.data }], guard := none }) (oj := { dst := some 66, op := Op.buildSlice 32 1 #[(0, Operand.tmp 65)], type := 32, pos := "ref.go:52", after := #[{ on := 5, ground := Ground.data }], guard := none }) (by kernel_rfl) rfl rfl (by rfl) (by rfl) (fun K hK => ?_) (fun K hK => ?_)
            ·
              go_simp; have HE1 := Lib.hid (bel_new HBB.out (.cells #[.string z] 9)); (try have HE2 := Lib.hid (blk_alloc HE2.out (.cells #[.string z] 9))); have HO1 := Lib.hid (row_alloc HO1.out (.cells #[.string z] 9)); have HO2 := Lib.hid (row_alloc HO2.out (.cells #[.string z] 9)); have HBB := Lib.hid (bel_alloc HBB.out (.cells #[.string z] 9)); refine gen_below HBB.out rfl (fun W' hW' => ?_); rw [← hW'] at HBB HO1 HO2 HE1; (try rw [← hW'] at HE2); clear hW'; have h := And.intro (HS5.out.step HBB.out).cells.2.2.1 (HS5.out.step HBB.out).cells.2.2.2.1
              refine hK.out _ _ h (fun hHeld => ?_)
              clear hK K
              try simp only [Act.put, sIB, sC0, sCS]
              refine wpAnyG_two (i := 3) (j := 6) (oi := { dst := some 63, op := Op.call { callee := Callee.builtin Builtin.append, args := #[Operand.tmp 60, Operand.tmp 62], argTypes := #[31, 31] }, type := 31, pos := "ref.go:52", after := #[{ on := 0, ground := Ground.data }, { on := 2, ground := Ground.data }], guard := none }) (oj := { dst := some 66, op := Op.buildSlice 32 1 #[(0, Operand.tmp 65)], type := 32, pos := "ref.go:52", after := #[{ on := 5, ground := Ground.data }], guard := none }) (by kernel_rfl) rfl rfl (by rfl) (by rfl) (fun K hK => ?_) (fun K hK => ?_)
              ·
                refine wp_app_at (W4.heap.size) 31 9 (.string ⟨#[]⟩) 1 16 [_] 1 _ _ _ rfl Tryz.underlying31 info_str4 rfl (by decide) _ _ _ rfl rfl rfl (by intro u hu; simp at hu; subst hu; rfl) HE1.out HO1.out (by omega) (by omega) HBB.out.size ?_; intro v' W' hown' hg' _; obtain ⟨A7, c7, rfl⟩ := own_slice hown'; have hk' : Keep (fun g => (Value.slice A5 T.length c5).ownBlock = some g) _ W' := Keep.of_grown hg' (fun g hg => hg); (try have HE2 := Lib.hid (hk'.blk HE2.out (row_ne HO1.out HE2.out (by decide)))); have HO2 := Lib.hid (own_keep HO2.out hk' (fun g hg e => row_row_ne HO1.out HO2.out (by decide) g e hg)); have HBB := Lib.hid (HBB.out.trans (hk'.below HBB.out.size (own_base HO1.out))); have HO1 := Lib.hid hown'; clear hown' hg' hk'; have h := And.intro (HS5.out.step HBB.out).cells.2.2.1 (HS5.out.step HBB.out).cells.2.2.2.1
                refine hK.out _ _ h (fun hHeld => ?_)
                clear hK K
                try simp only [Act.put, sIB, sC0, sCS]
                refine wpAnyG_one (i := 6) (o := { dst := some 66, op := Op.buildSlice 32 1 #[(0, Operand.tmp 65)], type := 32, pos := "ref.go:52", after := #[{ on := 5, ground := Ground.data }], guard := none }) (by kernel_rfl) rfl (by rfl) (fun K hK => ?_)
                go_simp; have HE2 := Lib.hid (bel_new HBB.out (.cells #[.int .i64 (k : Int), .int .i64 (l : Int)] 55)); (try have HE1 := Lib.hid (blk_alloc HE1.out (.cells #[.int .i64 (k : Int), .int .i64 (l : Int)] 55))); have HO1 := Lib.hid (row_alloc HO1.out (.cells #[.int .i64 (k : Int), .int .i64 (l : Int)] 55)); have HO2 := Lib.hid (row_alloc HO2.out (.cells #[.int .i64 (k : Int), .int .i64 (l : Int)] 55)); have HBB := Lib.hid (bel_alloc HBB.out (.cells #[.int .i64 (k : Int), .int .i64 (l : Int)] 55)); refine gen_below HBB.out rfl (fun W' hW' => ?_); rw [← hW'] at HBB HO1 HO2 HE2; (try rw [← hW'] at HE1); clear hW'; have h := And.intro (HS5.out.step HBB.out).cells.2.2.1 (HS5.out.step HBB.out).cells.2.2.2.1
                refine hK.out _ _ h (fun hHeld => ?_)
                clear hK K
                try simp only [Act.put, sIB, sC0, sCS]
                refine wpAnyG_one (i := 7) (o := { dst := some 67, op := Op.call { callee := Callee.builtin Builtin.append, args := #[Operand.tmp 64, Operand.tmp 66], argTypes := #[32, 32] }, type := 32, pos := "ref.go:52", after := #[{ on := 4, ground := Ground.data }, { on := 6, ground := Ground.data }, { on := 3, ground := Ground.chain }], guard := none }) (by kernel_rfl) rfl (by rfl) (fun K hK => ?_)
                refine wp_app_at (W4.heap.size) 32 55 (.agg #[.int .i64 0, .int .i64 0]) 2 16 [_, _] 1 _ _ _ rfl Tryz.underlying32 info_mrg rfl (by decide) _ _ _ rfl rfl rfl (by intro u hu; simp at hu; rcases hu with rfl | rfl <;> rfl) HE2.out HO2.out (by omega) (by omega) HBB.out.size ?_; intro v' W' hown' hg' _; obtain ⟨A8, c8, rfl⟩ := own_slice hown'; have hk' : Keep (fun g => (Value.slice A6 (mrgsT T).length c6).ownBlock = some g) _ W' := Keep.of_grown hg' (fun g hg => hg); (try have HE1 := Lib.hid (hk'.blk HE1.out (row_ne HO2.out HE1.out (by decide)))); have HO1 := Lib.hid (own_keep HO1.out hk' (fun g hg e => row_row_ne HO2.out HO1.out (by decide) g e hg)); have HBB := Lib.hid (HBB.out.trans (hk'.below HBB.out.size (own_base HO2.out))); have HO2 := Lib.hid hown'; clear hown' hg' hk'; have h := And.intro (HS5.out.step HBB.out).cells.2.2.1 (HS5.out.step HBB.out).cells.2.2.2.1
                refine hK.out _ _ h (fun hHeld => ?_)
                clear hK K
                try simp only [Act.put, sIB, sC0, sCS]
                refine tkG (oi := { dst := some 68, op := Op.build 34 #[(0, Operand.tmp 63), (1, Operand.tmp 67)], type := 34, pos := "ref.go:52", after := #[{ on := 3, ground := Ground.data }, { on := 7, ground := Ground.data }], guard := none }) 8 68 ?_ rfl hHeld (.inl ⟨by rfl, ?_⟩) ?_; rotate_left; focus (intro w' hSw; (try dsimp only at hSw); go_simp; (try with_reducible rfl))
                try simp only [sIB, sC0, sCS]
                refine wpAnyG_last (o := { dst := none, op := Op.store 34 (Operand.tmp 4) (Operand.tmp 68), type := 0, pos := "ref.go:52", after := #[{ on := 8, ground := Ground.data }, { on := 7, ground := Ground.chain }, { on := 0, ground := Ground.phase }, { on := 1, ground := Ground.phase }, { on := 2, ground := Ground.phase }, { on := 3, ground := Ground.phase }, { on := 4, ground := Ground.phase }, { on := 5, ground := Ground.phase }, { on := 6, ground := Ground.phase }, { on := 7, ground := Ground.phase }, { on := 8, ground := Ground.phase }], guard := none }) (by kernel_rfl) rfl (by rfl) (fun K hK => ?_)
                obtain ⟨_, _, _, _, d0, d1, z0, z1⟩ := (HS5.out.step HBB.out).cells; go_simp
                refine hK.out _ _ ?_
                clear hK K
                try simp only [Act.put, sIB, sC0, sCS]
                refine wpAnyG_one (i := 10) (o := { dst := some 5, op := Op.assign (Operand.const (Value.int IntKind.i64 0)), type := 3, pos := "ref.go:52", after := #[{ on := 9, ground := Ground.chain }, { on := 0, ground := Ground.phase }, { on := 1, ground := Ground.phase }, { on := 2, ground := Ground.phase }, { on := 3, ground := Ground.phase }, { on := 4, ground := Ground.phase }, { on := 5, ground := Ground.phase }, { on := 6, ground := Ground.phase }, { on := 7, ground := Ground.phase }, { on := 8, ground := Ground.phase }, { on := 9, ground := Ground.phase }], guard := none }) (by kernel_rfl) rfl (by rfl) (fun K hK => ?_)
                go_simp; have mm := blk_far (p := ⟨r2, 1, none⟩) (blk_far (p := ⟨r2, 0, none⟩) (HS5.out.step HBB.out).m HNE.out (.slice A7 (T.length + 1) c7)) HNE.out (.slice A8 ((mrgsT T).length + 1) c8); have h := And.intro (blk_cell mm 0) (blk_cell mm 1)
                refine hK.out _ _ h (fun hHeld => ?_)
                clear hK K
                try simp only [Act.put, sIB, sC0, sCS]
                refine wpAnyG_done (by kernel_rfl) ?_ _
                go_wp2_with fail; have FIN := radd_fin HS5.out HBB.out HO1.out HO2.out HKZ.out HADD.out HBASE.out H256.out; refine ret_ref (r := r2) rfl rfl rfl FIN.1 FIN.2
              ·
                go_simp; have HE2 := Lib.hid (bel_new HBB.out (.cells #[.int .i64 (k : Int), .int .i64 (l : Int)] 55)); (try have HE1 := Lib.hid (blk_alloc HE1.out (.cells #[.int .i64 (k : Int), .int .i64 (l : Int)] 55))); have HO1 := Lib.hid (row_alloc HO1.out (.cells #[.int .i64 (k : Int), .int .i64 (l : Int)] 55)); have HO2 := Lib.hid (row_alloc HO2.out (.cells #[.int .i64 (k : Int), .int .i64 (l : Int)] 55)); have HBB := Lib.hid (bel_alloc HBB.out (.cells #[.int .i64 (k : Int), .int .i64 (l : Int)] 55)); refine gen_below HBB.out rfl (fun W' hW' => ?_); rw [← hW'] at HBB HO1 HO2 HE2; (try rw [← hW'] at HE1); clear hW'; have h := And.intro (HS5.out.step HBB.out).cells.2.2.1 (HS5.out.step HBB.out).cells.2.2.2.1
                refine hK.out _ _ h (fun hHeld => ?_)
                clear hK K
                try simp only [Act.put, sIB, sC0, sCS]
                refine wpAnyG_one (i := 3) (o := { dst := some 63, op := Op.call { callee := Callee.builtin Builtin.append, args := #[Operand.tmp 60, Operand.tmp 62], argTypes := #[31, 31] }, type := 31, pos := "ref.go:52", after := #[{ on := 0, ground := Ground.data }, { on := 2, ground := Ground.data }], guard := none }) (by kernel_rfl) rfl (by rfl) (fun K hK => ?_)
                refine wp_app_at (W4.heap.size) 31 9 (.string ⟨#[]⟩) 1 16 [_] 1 _ _ _ rfl Tryz.underlying31 info_str4 rfl (by decide) _ _ _ rfl rfl rfl (by intro u hu; simp at hu; subst hu; rfl) HE1.out HO1.out (by omega) (by omega) HBB.out.size ?_; intro v' W' hown' hg' _; obtain ⟨A7, c7, rfl⟩ := own_slice hown'; have hk' : Keep (fun g => (Value.slice A5 T.length c5).ownBlock = some g) _ W' := Keep.of_grown hg' (fun g hg => hg); (try have HE2 := Lib.hid (hk'.blk HE2.out (row_ne HO1.out HE2.out (by decide)))); have HO2 := Lib.hid (own_keep HO2.out hk' (fun g hg e => row_row_ne HO1.out HO2.out (by decide) g e hg)); have HBB := Lib.hid (HBB.out.trans (hk'.below HBB.out.size (own_base HO1.out))); have HO1 := Lib.hid hown'; clear hown' hg' hk'; have h := And.intro (HS5.out.step HBB.out).cells.2.2.1 (HS5.out.step HBB.out).cells.2.2.2.1
                refine hK.out _ _ h (fun hHeld => ?_)
                clear hK K
                try simp only [Act.put, sIB, sC0, sCS]
                refine wpAnyG_one (i := 7) (o := { dst := some 67, op := Op.call { callee := Callee.builtin Builtin.append, args := #[Operand.tmp 64, Operand.tmp 66], argTypes := #[32, 32] }, type := 32, pos := "ref.go:52", after := #[{ on := 4, ground := Ground.data }, { on := 6, ground := Ground.data }, { on := 3, ground := Ground.chain }], guard := none }) (by kernel_rfl) rfl (by rfl) (fun K hK => ?_)
                refine wp_app_at (W4.heap.size) 32 55 (.agg #[.int .i64 0, .int .i64 0]) 2 16 [_, _] 1 _ _ _ rfl Tryz.underlying32 info_mrg rfl (by decide) _ _ _ rfl rfl rfl (by intro u hu; simp at hu; rcases hu with rfl | rfl <;> rfl) HE2.out HO2.out (by omega) (by omega) HBB.out.size ?_; intro v' W' hown' hg' _; obtain ⟨A8, c8, rfl⟩ := own_slice hown'; have hk' : Keep (fun g => (Value.slice A6 (mrgsT T).length c6).ownBlock = some g) _ W' := Keep.of_grown hg' (fun g hg => hg); (try have HE1 := Lib.hid (hk'.blk HE1.out (row_ne HO2.out HE1.out (by decide)))); have HO1 := Lib.hid (own_keep HO1.out hk' (fun g hg e => row_row_ne HO2.out HO1.out (by decide) g e hg)); have HBB := Lib.hid (HBB.out.trans (hk'.below HBB.out.size (own_base HO2.out))); have HO2 := Lib.hid hown'; clear hown' hg' hk'; have h := And.intro (HS5.out.step HBB.out).cells.2.2.1 (HS5.out.step HBB.out).cells.2.2.2.1
                refine hK.out _ _ h (fun hHeld => ?_)
                clear hK K
                try simp only [Act.put, sIB, sC0, sCS]
                refine tkG (oi := { dst := some 68, op := Op.build 34 #[(0, Operand.tmp 63), (1, Operand.tmp 67)], type := 34, pos := "ref.go:52", after := #[{ on := 3, ground := Ground.data }, { on := 7, ground := Ground.data }], guard := none }) 8 68 ?_ rfl hHeld (.inl ⟨by rfl, ?_⟩) ?_; rotate_left; focus (intro w' hSw; (try dsimp only at hSw); go_simp; (try with_reducible rfl))
                try simp only [sIB, sC0, sCS]
                refine wpAnyG_last (o := { dst := none, op := Op.store 34 (Operand.tmp 4) (Operand.tmp 68), type := 0, pos := "ref.go:52", after := #[{ on := 8, ground := Ground.data }, { on := 7, ground := Ground.chain }, { on := 0, ground := Ground.phase }, { on := 1, ground := Ground.phase }, { on := 2, ground := Ground.phase }, { on := 3, ground := Ground.phase }, { on := 4, ground := Ground.phase }, { on := 5, ground := Ground.phase }, { on := 6, ground := Ground.phase }, { on := 7, ground := Ground.phase }, { on := 8, ground := Ground.phase }], guard := none }) (by kernel_rfl) rfl (by rfl) (fun K hK => ?_)
                obtain ⟨_, _, _, _, d0, d1, z0, z1⟩ := (HS5.out.step HBB.out).cells; go_simp
                refine hK.out _ _ ?_
                clear hK K
                try simp only [Act.put, sIB, sC0, sCS]
                refine wpAnyG_one (i := 10) (o := { dst := some 5, op := Op.assign (Operand.const (Value.int IntKind.i64 0)), type := 3, pos := "ref.go:52", after := #[{ on := 9, ground := Ground.chain }, { on := 0, ground := Ground.phase }, { on := 1, ground := Ground.phase }, { on := 2, ground := Ground.phase }, { on := 3, ground := Ground.phase }, { on := 4, ground := Ground.phase }, { on := 5, ground := Ground.phase }, { on := 6, ground := Ground.phase }, { on := 7, ground := Ground.phase }, { on := 8, ground := Ground.phase }, { on := 9, ground := Ground.phase }], guard := none }) (by kernel_rfl) rfl (by rfl) (fun K hK => ?_)
                go_simp; have mm := blk_far (p := ⟨r2, 1, none⟩) (blk_far (p := ⟨r2, 0, none⟩) (HS5.out.step HBB.out).m HNE.out (.slice A7 (T.length + 1) c7)) HNE.out (.slice A8 ((mrgsT T).length + 1) c8); have h := And.intro (blk_cell mm 0) (blk_cell mm 1)
                refine hK.out _ _ h (fun hHeld => ?_)
                clear hK K
                try simp only [Act.put, sIB, sC0, sCS]
                refine wpAnyG_done (by kernel_rfl) ?_ _
                go_wp2_with fail; have FIN := radd_fin HS5.out HBB.out HO1.out HO2.out HKZ.out HADD.out HBASE.out H256.out; refine ret_ref (r := r2) rfl rfl rfl FIN.1 FIN.2
            ·
              go_simp; have HE2 := Lib.hid (bel_new HBB.out (.cells #[.int .i64 (k : Int), .int .i64 (l : Int)] 55)); (try have HE1 := Lib.hid (blk_alloc HE1.out (.cells #[.int .i64 (k : Int), .int .i64 (l : Int)] 55))); have HO1 := Lib.hid (row_alloc HO1.out (.cells #[.int .i64 (k : Int), .int .i64 (l : Int)] 55)); have HO2 := Lib.hid (row_alloc HO2.out (.cells #[.int .i64 (k : Int), .int .i64 (l : Int)] 55)); have HBB := Lib.hid (bel_alloc HBB.out (.cells #[.int .i64 (k : Int), .int .i64 (l : Int)] 55)); refine gen_below HBB.out rfl (fun W' hW' => ?_); rw [← hW'] at HBB HO1 HO2 HE2; (try rw [← hW'] at HE1); clear hW'; have h := And.intro (HS5.out.step HBB.out).cells.2.2.1 (HS5.out.step HBB.out).cells.2.2.2.1
              refine hK.out _ _ h (fun hHeld => ?_)
              clear hK K
              try simp only [Act.put, sIB, sC0, sCS]
              refine wpAnyG_one (i := 2) (o := { dst := some 62, op := Op.buildSlice 31 1 #[(0, Operand.tmp 61)], type := 31, pos := "ref.go:52", after := #[{ on := 1, ground := Ground.data }], guard := none }) (by kernel_rfl) rfl (by rfl) (fun K hK => ?_)
              go_simp; have HE1 := Lib.hid (bel_new HBB.out (.cells #[.string z] 9)); (try have HE2 := Lib.hid (blk_alloc HE2.out (.cells #[.string z] 9))); have HO1 := Lib.hid (row_alloc HO1.out (.cells #[.string z] 9)); have HO2 := Lib.hid (row_alloc HO2.out (.cells #[.string z] 9)); have HBB := Lib.hid (bel_alloc HBB.out (.cells #[.string z] 9)); refine gen_below HBB.out rfl (fun W' hW' => ?_); rw [← hW'] at HBB HO1 HO2 HE1; (try rw [← hW'] at HE2); clear hW'; have h := And.intro (HS5.out.step HBB.out).cells.2.2.1 (HS5.out.step HBB.out).cells.2.2.2.1
              refine hK.out _ _ h (fun hHeld => ?_)
              clear hK K
              try simp only [Act.put, sIB, sC0, sCS]
              refine wpAnyG_one (i := 3) (o := { dst := some 63, op := Op.call { callee := Callee.builtin Builtin.append, args := #[Operand.tmp 60, Operand.tmp 62], argTypes := #[31, 31] }, type := 31, pos := "ref.go:52", after := #[{ on := 0, ground := Ground.data }, { on := 2, ground := Ground.data }], guard := none }) (by kernel_rfl) rfl (by rfl) (fun K hK => ?_)
              refine wp_app_at (W4.heap.size) 31 9 (.string ⟨#[]⟩) 1 16 [_] 1 _ _ _ rfl Tryz.underlying31 info_str4 rfl (by decide) _ _ _ rfl rfl rfl (by intro u hu; simp at hu; subst hu; rfl) HE1.out HO1.out (by omega) (by omega) HBB.out.size ?_; intro v' W' hown' hg' _; obtain ⟨A7, c7, rfl⟩ := own_slice hown'; have hk' : Keep (fun g => (Value.slice A5 T.length c5).ownBlock = some g) _ W' := Keep.of_grown hg' (fun g hg => hg); (try have HE2 := Lib.hid (hk'.blk HE2.out (row_ne HO1.out HE2.out (by decide)))); have HO2 := Lib.hid (own_keep HO2.out hk' (fun g hg e => row_row_ne HO1.out HO2.out (by decide) g e hg)); have HBB := Lib.hid (HBB.out.trans (hk'.below HBB.out.size (own_base HO1.out))); have HO1 := Lib.hid hown'; clear hown' hg' hk'; have h := And.intro (HS5.out.step HBB.out).cells.2.2.1 (HS5.out.step HBB.out).cells.2.2.2.1
              refine hK.out _ _ h (fun hHeld => ?_)
              clear hK K
              try simp only [Act.put, sIB, sC0, sCS]
              refine wpAnyG_one (i := 7) (o := { dst := some 67, op := Op.call { callee := Callee.builtin Builtin.append, args := #[Operand.tmp 64, Operand.tmp 66], argTypes := #[32, 32] }, type := 32, pos := "ref.go:52", after := #[{ on := 4, ground := Ground.data }, { on := 6, ground := Ground.data }, { on := 3, ground := Ground.chain }], guard := none }) (by kernel_rfl) rfl (by rfl) (fun K hK => ?_)
              refine wp_app_at (W4.heap.size) 32 55 (.agg #[.int .i64 0, .int .i64 0]) 2 16 [_, _] 1 _ _ _ rfl Tryz.underlying32 info_mrg rfl (by decide) _ _ _ rfl rfl rfl (by intro u hu; simp at hu; rcases hu with rfl | rfl <;> rfl) HE2.out HO2.out (by omega) (by omega) HBB.out.size ?_; intro v' W' hown' hg' _; obtain ⟨A8, c8, rfl⟩ := own_slice hown'; have hk' : Keep (fun g => (Value.slice A6 (mrgsT T).length c6).ownBlock = some g) _ W' := Keep.of_grown hg' (fun g hg => hg); (try have HE1 := Lib.hid (hk'.blk HE1.out (row_ne HO2.out HE1.out (by decide)))); have HO1 := Lib.hid (own_keep HO1.out hk' (fun g hg e => row_row_ne HO2.out HO1.out (by decide) g e hg)); have HBB := Lib.hid (HBB.out.trans (hk'.below HBB.out.size (own_base HO2.out))); have HO2 := Lib.hid hown'; clear hown' hg' hk'; have h := And.intro (HS5.out.step HBB.out).cells.2.2.1 (HS5.out.step HBB.out).cells.2.2.2.1
              refine hK.out _ _ h (fun hHeld => ?_)
              clear hK K
              try simp only [Act.put, sIB, sC0, sCS]
              refine tkG (oi := { dst := some 68, op := Op.build 34 #[(0, Operand.tmp 63), (1, Operand.tmp 67)], type := 34, pos := "ref.go:52", after := #[{ on := 3, ground := Ground.data }, { on := 7, ground := Ground.data }], guard := none }) 8 68 ?_ rfl hHeld (.inl ⟨by rfl, ?_⟩) ?_; rotate_left; focus (intro w' hSw; (try dsimp only at hSw); go_simp; (try with_reducible rfl))
              try simp only [sIB, sC0, sCS]
              refine wpAnyG_last (o := { dst := none, op := Op.store 34 (Operand.tmp 4) (Operand.tmp 68), type := 0, pos := "ref.go:52", after := #[{ on := 8, ground := Ground.data }, { on := 7, ground := Ground.chain }, { on := 0, ground := Ground.phase }, { on := 1, ground := Ground.phase }, { on := 2, ground := Ground.phase }, { on := 3, ground := Ground.phase }, { on := 4, ground := Ground.phase }, { on := 5, ground := Ground.phase }, { on := 6, ground := Ground.phase }, { on := 7, ground := Ground.phase }, { on := 8, ground := Ground.phase }], guard := none }) (by kernel_rfl) rfl (by rfl) (fun K hK => ?_)
              obtain ⟨_, _, _, _, d0, d1, z0, z1⟩ := (HS5.out.step HBB.out).cells; go_simp
              refine hK.out _ _ ?_
              clear hK K
              try simp only [Act.put, sIB, sC0, sCS]
              refine wpAnyG_one (i := 10) (o := { dst := some 5, op := Op.assign (Operand.const (Value.int IntKind.i64 0)), type := 3, pos := "ref.go:52", after := #[{ on := 9, ground := Ground.chain }, { on := 0, ground := Ground.phase }, { on := 1, ground := Ground.phase }, { on := 2, ground := Ground.phase }, { on := 3, ground := Ground.phase }, { on := 4, ground := Ground.phase }, { on := 5, ground := Ground.phase }, { on := 6, ground := Ground.phase }, { on := 7, ground := Ground.phase }, { on := 8, ground := Ground.phase }, { on := 9, ground := Ground.phase }], guard := none }) (by kernel_rfl) rfl (by rfl) (fun K hK => ?_)
              go_simp; have mm := blk_far (p := ⟨r2, 1, none⟩) (blk_far (p := ⟨r2, 0, none⟩) (HS5.out.step HBB.out).m HNE.out (.slice A7 (T.length + 1) c7)) HNE.out (.slice A8 ((mrgsT T).length + 1) c8); have h := And.intro (blk_cell mm 0) (blk_cell mm 1)
              refine hK.out _ _ h (fun hHeld => ?_)
              clear hK K
              try simp only [Act.put, sIB, sC0, sCS]
              refine wpAnyG_done (by kernel_rfl) ?_ _
              go_wp2_with fail; have FIN := radd_fin HS5.out HBB.out HO1.out HO2.out HKZ.out HADD.out HBASE.out H256.out; refine ret_ref (r := r2) rfl rfl rfl FIN.1 FIN.2
def foldT (T : List Ent) (x : Nat) : Nat := if x % (T.length + (T.length - 256)) ≥ T.length then 256 + x % (T.length + (T.length - 256)) - T.length else x % (T.length + (T.length - 256))
def growStep (T : List Ent) (x y : Nat) : List Ent := if (addT T (foldT T x : Nat) (foldT T y : Nat)).2.1 = 0 then (addT T (foldT T x : Nat) (foldT T y : Nat)).2.2 else T
def growT (l : List Nat) : Nat → List Ent
  | 0 => baseT
  | j + 1 => growStep (growT l j) (l.getD (2 * j) 0) (l.getD (2 * j + 1) 0)
theorem okT_step {T : List Ent} (h : OkT T) (x y : Nat) : OkT (growStep T x y) := by
  unfold growStep
  split
  · rename_i h0; exact okT_add h _ _ h0
  · exact h
theorem okT_grow (l : List Nat) : ∀ j, OkT (growT l j)
  | 0 => okT_base
  | j + 1 => okT_step (okT_grow l j) _ _
theorem okT_256 {T : List Ent} (h : OkT T) : 256 ≤ T.length := by
  obtain ⟨M, hM⟩ := h.base
  rw [hM, List.length_append, base_len]
  omega
theorem mrgs_len {T : List Ent} : (mrgsT T).length = T.length - 256 := by simp [mrgsT]
theorem radd_any {w : World} {base : Nat} {T : List Ent} {A : Option Addr} {c : Nat} {A2 : Option Addr} {c2 : Nat} (a b : Int) (h : RefIs w base T (.slice A T.length c) (.slice A2 (mrgsT T).length c2)) (hT : OkT T) (hbase : base ≤ w.heap.size) :
    Calls Tryz.prog 54 #[.agg #[.slice A T.length c, .slice A2 (mrgsT T).length c2], .agg #[.int .i64 a, .int .i64 b]] w (RAddOk w base T a b) := by
  by_cases he : (addT T a b).2.1 = 0
  · exact radd_ok a b h hT he hbase
  · exact radd_err a b h hT he
structure GrowIs (w W : World) (l : List Nat) (r tb j : Nat) : Prop where
  ex : ∃ A c A2 c2, W.heap[tb]? = some (.cells #[.slice A (growT l j).length c, .slice A2 (mrgsT (growT l j)).length c2] 34) ∧ RefIs W w.heap.size (growT l j) (.slice A (growT l j).length c) (.slice A2 (mrgsT (growT l j)).length c2)
  res : W.heap[r]? = some (.cells #[.slice none 0 0, .slice none 0 0] 34)
  below : Below w.heap.size w W
  le : w.heap.size ≤ r ∧ w.heap.size ≤ tb
  ne : r ≠ tb
theorem grow_start {w w1 : World} {l : List Nat} {A1 : Option Addr} {c1 : Nat} (hr : RefIs w1 (w.alloc (.cells #[.slice none 0 0, .slice none 0 0] 34)).heap.size baseT (.slice A1 baseT.length c1) (.slice none 0 0))
    (hb : Below (w.alloc (.cells #[.slice none 0 0, .slice none 0 0] 34)).heap.size (w.alloc (.cells #[.slice none 0 0, .slice none 0 0] 34)) w1) :
    GrowIs w (w1.alloc (.cells #[.slice A1 baseT.length c1, .slice none 0 0] 34)) l w.heap.size w1.heap.size 0 := by
  have e0 : (mrgsT (growT l 0)).length = 0 := by rw [mrgs_len]; simp [growT, base_len]
  have hb2 := (Below.refl w1.heap.size w1).alloc (Nat.le_refl _) (.cells #[.slice A1 baseT.length c1, .slice none 0 0] 34)
  have hr2 := (hr.below hb2 (Nat.le_refl _)).less (base := w.heap.size) (by simp)
  have hsz := hb.size
  rw [size_alloc] at hsz
  refine ⟨⟨A1, c1, none, 0, ?_, ?_⟩, blk_alloc (blk_below hb (by simp) (blk_new w _)) _, ?_, ⟨Nat.le_refl _, by omega⟩, by omega⟩
  · rw [e0]; exact blk_new w1 _
  · rw [e0]; exact hr2
  · exact (((Below.refl w.heap.size w).alloc (Nat.le_refl _) _).trans (hb.mono (by simp))).alloc (by omega) _
theorem GrowIs.err {w W w2 : World} {l : List Nat} {r tb j : Nat} (h : GrowIs w W l r tb j) (hb : Below W.heap.size W w2) (he : growT l (j + 1) = growT l j) (o : Obj) : GrowIs w (w2.alloc o) l r tb (j + 1) := by
  obtain ⟨A, c, A2, c2, hbk, href⟩ := h.ex
  have hb2 := hb.alloc hb.size o
  refine ⟨⟨A, c, A2, c2, ?_, ?_⟩, blk_below hb2 (blk_lt h.res) h.res, h.below.trans (hb2.mono h.below.size), h.le, h.ne⟩
  · rw [he]; exact blk_below hb2 (blk_lt hbk) hbk
  · rw [he]; exact href.below hb2 (Nat.le_refl _)
theorem GrowIs.ok {w W w2 : World} {l : List Nat} {r tb j n m c c2 : Nat} {A A2 : Option Addr} (h : GrowIs w W l r tb j) (hb : Below W.heap.size W w2) (href : RefIs w2 w.heap.size (growT l (j + 1)) (.slice A n c) (.slice A2 m c2)) (o : Obj) :
    GrowIs w (((w2.alloc o).setCell ⟨tb, 0, none⟩ (.slice A n c)).setCell ⟨tb, 1, none⟩ (.slice A2 m c2)) l r tb (j + 1) := by
  obtain ⟨A0, c0, A20, c20, hbk, _⟩ := h.ex
  have hb2 := hb.alloc hb.size o
  have en : n = (growT l (j + 1)).length := by obtain ⟨_, _, e⟩ := own_slice href.row; injection e
  have em : m = (mrgsT (growT l (j + 1))).length := by obtain ⟨_, _, e⟩ := own_slice href.mrg; injection e
  subst en; subst em
  have hr1 := href.below ((Below.refl w2.heap.size w2).alloc (Nat.le_refl _) o) (Nat.le_refl _)
  have b1 := blk_set (blk_set (blk_below hb2 (blk_lt hbk) hbk) 0 (.slice A (growT l (j + 1)).length c)) 1 (.slice A2 (mrgsT (growT l (j + 1))).length c2)
  simp only [List.setIfInBounds_toArray, List.set_cons_zero, List.set_cons_succ] at b1
  have K3 : ∀ (W : World) (i : Nat) (u : Value), Keep (fun g => g = tb) W (W.setCell ⟨tb, i, none⟩ u) := fun W i u => Keep.setCell (F := fun g => g = tb) (p := ⟨tb, i, none⟩) (Keep.refl _ _) (Or.inl rfl) _
  have hk1 := blk_below hb2 (blk_lt hbk) hbk
  refine ⟨⟨A, c, A2, c2, b1, ?_, ?_, hr1.nil⟩, blk_far (p := ⟨tb, 1, none⟩) (blk_far (p := ⟨tb, 0, none⟩) (blk_below hb2 (blk_lt h.res) h.res) h.ne _) h.ne _, ((h.below.trans (hb2.mono h.below.size)).setCell (p := ⟨tb, 0, none⟩) h.le.2 _).setCell (p := ⟨tb, 1, none⟩) h.le.2 _, h.le, h.ne⟩
  · exact own_keep (own_keep hr1.row (K3 _ 0 _) (fun g hg e => row_ne hr1.row hk1 (by decide) (by rw [hg, e]))) (K3 _ 1 _) (fun g hg e => row_ne hr1.row hk1 (by decide) (by rw [hg, e]))
  · exact own_keep (own_keep hr1.mrg (K3 _ 0 _) (fun g hg e => row_ne hr1.mrg hk1 (by decide) (by rw [hg, e]))) (K3 _ 1 _) (fun g hg e => row_ne hr1.mrg hk1 (by decide) (by rw [hg, e]))
theorem GrowIs.fin {w W : World} {l : List Nat} {r tb j n m c c2 : Nat} {A A2 : Option Addr} (h : GrowIs w W l r tb j) (href : RefIs W w.heap.size (growT l j) (.slice A n c) (.slice A2 m c2)) :
    ((W.setCell ⟨r, 0, none⟩ (.slice A n c)).setCell ⟨r, 1, none⟩ (.slice A2 m c2)).heap[r]? = some (.cells #[.slice A n c, .slice A2 m c2] 34) ∧ Below w.heap.size w ((W.setCell ⟨r, 0, none⟩ (.slice A n c)).setCell ⟨r, 1, none⟩ (.slice A2 m c2)) ∧
      RefIs ((W.setCell ⟨r, 0, none⟩ (.slice A n c)).setCell ⟨r, 1, none⟩ (.slice A2 m c2)) w.heap.size (growT l j) (.slice A n c) (.slice A2 m c2) := by
  have b1 := blk_set (blk_set h.res 0 (.slice A n c)) 1 (.slice A2 m c2)
  simp only [List.setIfInBounds_toArray, List.set_cons_zero, List.set_cons_succ] at b1
  have K3 : ∀ (W : World) (i : Nat) (u : Value), Keep (fun g => g = r) W (W.setCell ⟨r, i, none⟩ u) := fun W i u => Keep.setCell (F := fun g => g = r) (p := ⟨r, i, none⟩) (Keep.refl _ _) (Or.inl rfl) _
  have n1 := blk_set h.res 0 (.slice A n c)
  refine ⟨b1, (h.below.setCell (p := ⟨r, 0, none⟩) h.le.1 _).setCell (p := ⟨r, 1, none⟩) h.le.1 _, ?_, ?_, href.nil⟩
  · exact own_keep (own_keep href.row (K3 _ 0 _) (fun g hg e => row_ne href.row h.res (by decide) (by rw [hg, e]))) (K3 _ 1 _) (fun g hg e => row_ne href.row h.res (by decide) (by rw [hg, e]))
  · exact own_keep (own_keep href.mrg (K3 _ 0 _) (fun g hg e => row_ne href.mrg h.res (by decide) (by rw [hg, e]))) (K3 _ 1 _) (fun g hg e => row_ne href.mrg h.res (by decide) (by rw [hg, e]))
theorem GrowIs.drewN {w W : World} {l : List Nat} {r tb j : Nat} (h : GrowIs w W l r tb j) (n : Nat) : GrowIs w (W.drewN n) l r tb j := by
  obtain ⟨A, c, A2, c2, hbk, href⟩ := h.ex
  exact ⟨⟨A, c, A2, c2, hbk, href.row, href.mrg, href.nil⟩, h.res, below_drewN h.below n, h.le, h.ne⟩
set_option maxHeartbeats 2000000 in
theorem grow_any (l : List Nat) (A : Option Addr) (c : Nat) (w : World) (hl : Sl1 w A (fun x : Nat => .int .u16 (x : Int)) l) (hsm : ∀ x ∈ l, x < 65536) (hlen : l.length < 9000000000000000000) :
    Calls Tryz.prog 20 #[.slice A l.length c] w fun e w' => Below w.heap.size w w' ∧ ∃ A1 n1 c1 A2 n2 c2, e = .returned (.agg #[.slice A1 n1 c1, .slice A2 n2 c2]) ∧
      RefIs w' w.heap.size (growT l (min (l.length / 2) 30)) (.slice A1 n1 c1) (.slice A2 n2 c2) := by
  have HL := Lib.hid hl
  clear hl
  go_enter Tryz.func20, Tryz.ntmps20
  go_wp2_with fail
  refine (rbegin_any _).mono ?_
  rintro e w1 ⟨vb, rfl, hr, hb⟩
  obtain ⟨A1, c1, rfl⟩ := own_slice hr.row
  go_wp2_with fail
  have HS := Lib.hid (grow_start (l := l) hr hb)
  clear hr hb
  generalize hW : w1.alloc (.cells #[.slice A1 baseT.length c1, .slice none 0 0] 34) = W0 at *
  obtain ⟨r, hr⟩ : ∃ r, w.heap.size = r := ⟨_, rfl⟩
  obtain ⟨tb, ht⟩ : ∃ tb, w1.heap.size = tb := ⟨_, rfl⟩
  have HS1 : Hid (GrowIs w W0 l r tb 0) := Lib.hid (by rw [← hr, ← ht]; exact HS.out)
  rw [hr, ht]
  clear HS hr ht hW
  go_loopg [4] 30 (fun n i W => ∃ j : Nat, j + n = 30 ∧ 2 * j ≤ l.length + 1 ∧ j ≤ l.length / 2 ∧ i = .int .i64 ((2 * j : Nat) : Int) ∧ GrowIs w W l r tb j)
  case atStart => exact ⟨0, by omega, by omega, by omega, rfl, HS1.out⟩
  case round =>
    obtain ⟨j, hj, hj2, hj3, rfl, hW⟩ := hrel
    have HW := Lib.hid hW
    clear HS1
    rename World => W
    by_cases hgo : 2 * j + 1 < l.length ∧ j < 30
    · obtain ⟨A3, c3, A4, c4, hbk, href⟩ := hW.ex
      have c0 := blk_cell hbk 0
      have c1' := blk_cell hbk 1
      simp only [List.getElem?_toArray, List.getElem?_cons_zero, List.getElem?_cons_succ] at c0 c1'
      have hT := okT_grow l j
      have hn1 := okT_256 hT
      have hn2 := hT.small
      have hm1 := mrgs_len (T := growT l j)
      have hLW := HL.out.below hW.below (Nat.le_refl _)
      obtain ⟨b, o, hA, x0⟩ := hLW.at (2 * j) (by omega)
      obtain ⟨_, _, hA', x1⟩ := hLW.at (2 * j + 1) hgo.1
      rw [hA] at hA'
      injection hA' with hA'
      injection hA' with e1 e2
      subst e1; subst e2
      have hx0 := hsm _ (List.getElem_mem (l := l) (n := 2 * j) (by omega))
      have hx1 := hsm _ (List.getElem_mem (l := l) (n := 2 * j + 1) hgo.1)
      have eX : l.getD (2 * j) 0 = l[2 * j]'(by omega) := by rw [List.getD_eq_getElem?_getD, List.getElem?_eq_getElem (by omega)]; rfl
      have eY : l.getD (2 * j + 1) 0 = l[2 * j + 1]'hgo.1 := by rw [List.getD_eq_getElem?_getD, List.getElem?_eq_getElem hgo.1]; rfl
      generalize hX : l[2 * j]'(by omega) = x at *
      generalize hY : l[2 * j + 1]'hgo.1 = y at *
      obtain ⟨n, hn⟩ : ∃ n, (growT l j).length = n := ⟨_, rfl⟩
      obtain ⟨m, hm⟩ : ∃ m, (mrgsT (growT l j)).length = m := ⟨_, rfl⟩
      have HREF := Lib.hid href
      have HEX := Lib.hid eX
      have HEY := Lib.hid eY
      have HN := Lib.hid hn
      have HM := Lib.hid hm
      have HOKT := Lib.hid hT
      rw [hn] at c0
      rw [hm] at c1'
      rw [hn] at hn1 hn2 hm1
      rw [hm] at hm1
      have g1 : (2 * (j : Int) + 1) < (l.length : Int) := by omega
      have g2 : (2 * (j : Int)) < 60 := by omega
      have g3 : (0 : Int) ≤ 2 * (j : Int) := by omega
      have g4 : (0 : Int) ≤ 2 * (j : Int) + 1 := by omega
      have g5 : (2 * (j : Int)) < (l.length : Int) := by omega
      have w1' : IntKind.i64.wrap (x : Int) = x := IntWalk.i64_in _ (by omega)
      have w2 : IntKind.i64.wrap (y : Int) = y := IntWalk.i64_in _ (by omega)
      have w3 : IntKind.i64.wrap ((n : Int) + m) = (n : Int) + m := IntWalk.i64_in _ (by omega)
      have w4 : IntKind.i64.wrap (2 * (j : Int) + 1) = 2 * (j : Int) + 1 := IntWalk.i64_in _ (by omega)
      have t1 : (2 * (j : Int)).toNat = 2 * j := by omega
      have t2 : (2 * (j : Int) + 1).toNat = 2 * j + 1 := by omega
      have hnm : ¬ ((n : Int) + m = 0) := by omega
      have HW2 := HW
      subst hA
      clear hW hbk href eX eY hn hm hLW hT
      go_wp2_with fail
      go_quiet (fail)
      have ex : (x : Int) % ((n : Int) + ((n - 256 : Nat) : Int)) = ((x % (n + (n - 256)) : Nat) : Int) := by push_cast; rfl
      have ey : (y : Int) % ((n : Int) + ((n - 256 : Nat) : Int)) = ((y % (n + (n - 256)) : Nat) : Int) := by push_cast; rfl
      rw [ex, ey]
      have hp := Nat.mod_lt x (show n + (n - 256) > 0 by omega)
      have hq := Nat.mod_lt y (show n + (n - 256) > 0 by omega)
      have fx : foldT (growT l j) x = if x % (n + (n - 256)) ≥ n then 256 + x % (n + (n - 256)) - n else x % (n + (n - 256)) := by unfold foldT; rw [HN.out]
      have fy : foldT (growT l j) y = if y % (n + (n - 256)) ≥ n then 256 + y % (n + (n - 256)) - n else y % (n + (n - 256)) := by unfold foldT; rw [HN.out]
      generalize x % (n + (n - 256)) = p at *
      generalize y % (n + (n - 256)) = q at *
      have HFX := Lib.hid fx
      have HFY := Lib.hid fy
      have HW3 := Lib.hid (HW2.out.drewN nq)
      have HREF3 : Hid (RefIs (W.drewN nq) w.heap.size (growT l j) (.slice A3 (growT l j).length c3) (.slice A4 (mrgsT (growT l j)).length c4)) := Lib.hid ⟨HREF.out.row, HREF.out.mrg, HREF.out.nil⟩
      have d0 : (W.drewN nq).cell? ⟨tb, 0, none⟩ = some (Value.slice A3 n c3) := c0
      have d1 : (W.drewN nq).cell? ⟨tb, 1, none⟩ = some (Value.slice A4 (n - 256) c4) := by rw [← hm1]; exact c1'
      clear fx fy c0 c1' HREF HW HW2 x0 x1 ex ey
      obtain ⟨W3, hW3⟩ : ∃ W3, W.drewN nq = W3 := ⟨_, rfl⟩
      rw [hW3] at HW3 HREF3 d0 d1
      rw [hW3]
      clear hW3
      have hstep : ∀ T' : List Ent, ∀ a' b' : Int, a' = (foldT (growT l j) x : Nat) → b' = (foldT (growT l j) y : Nat) → growT l (j + 1) = if (addT (growT l j) a' b').2.1 = 0 then (addT (growT l j) a' b').2.2 else growT l j := by
        intro _ a' b' ha hb
        subst ha; subst hb
        simp only [growT, growStep, HEX.out, HEY.out]
      have HSTEP := Lib.hid hstep
      clear hstep
      have HADD : Hid (∀ a b : Int, Calls Tryz.prog 54 #[.agg #[.slice A3 n c3, .slice A4 (n - 256) c4], .agg #[.int .i64 a, .int .i64 b]] W3 (RAddOk W3 w.heap.size (growT l j) a b)) := Lib.hid (fun a b => by
        have h := radd_any a b HREF3.out HOKT.out HW3.out.below.size
        rw [HM.out, HN.out, hm1] at h
        exact h)
      have w5 : IntKind.i64.wrap (2 * (j : Int) + 2) = 2 * (j : Int) + 2 := IntWalk.i64_in _ (by omega)
      by_cases hpn : n ≤ p
      · by_cases hqn : n ≤ q
        · have fpn : foldT (growT l j) x = 256 + p - n := by rw [HFX.out]; exact if_pos hpn
          have wp1 : IntKind.i64.wrap (256 + (p : Int)) = 256 + (p : Int) := IntWalk.i64_in _ (by omega)
          have wp2 : IntKind.i64.wrap (256 + (p : Int) - n) = 256 + (p : Int) - n := IntWalk.i64_in _ (by omega)
          have fqn : foldT (growT l j) y = 256 + q - n := by rw [HFY.out]; exact if_pos hqn
          have wq1 : IntKind.i64.wrap (256 + (q : Int)) = 256 + (q : Int) := IntWalk.i64_in _ (by omega)
          have wq2 : IntKind.i64.wrap (256 + (q : Int) - n) = 256 + (q : Int) - n := IntWalk.i64_in _ (by omega)
          go_wp2_with fail
          refine (HADD.out _ _).mono ?_
          rintro e w4 ⟨hb, A5, n5, c5, A6, n6, c6, rfl, href⟩
          have hst := HSTEP.out [] _ _ (show 256 + (p : Int) - n = _ by rw [fpn]; omega) (show 256 + (q : Int) - n = _ by rw [fqn]; omega)
          have HB := Lib.hid hb
          have HR := Lib.hid href
          clear hb href d0 d1
          rcases Decidable.em ((addT (growT l j) (256 + (p : Int) - n) (256 + (q : Int) - n)).2.1 = 0) with he | he
          · rw [if_pos he] at hst
            rw [← hst] at HR
            have HG := Lib.hid (HW3.out.ok HB.out HR.out (.cells #[.slice A5 n5 c5, .slice A6 n6 c6] 34))
            obtain ⟨_, _, _, _, hbk, _⟩ := HW3.out.ex
            have hb4 := HB.out.alloc HB.out.size (.cells #[.slice A5 n5 c5, .slice A6 n6 c6] 34)
            have e0 := blk_cell (blk_below hb4 (blk_lt hbk) hbk) 0
            have e1 := blk_cell (blk_below hb4 (blk_lt hbk) hbk) 1
            have z0 := blk_froz (blk_below hb4 (blk_lt hbk) hbk) 0
            have z1 := blk_froz (blk_below hb4 (blk_lt hbk) hbk) 1
            have f0 := blk_cell (blk_new w4 (.cells #[.slice A5 n5 c5, .slice A6 n6 c6] 34)) 0
            have f1 := blk_cell (blk_new w4 (.cells #[.slice A5 n5 c5, .slice A6 n6 c6] 34)) 1
            simp only [List.getElem?_toArray, List.getElem?_cons_zero, List.getElem?_cons_succ] at e0 e1 f0 f1
            clear hbk hb4 hst
            go_wp2_with fail
            go_roundg (gk - 1)
            case measure => omega
            case rel => exact ⟨j + 1, by omega, by omega, by omega, by simp [Int.mul_add], HG.out⟩
          · rw [if_neg he] at hst
            have HG := Lib.hid (HW3.out.err HB.out hst (.cells #[.slice A5 n5 c5, .slice A6 n6 c6] 34))
            clear hst
            go_wp2_with fail
            go_roundg (gk - 1)
            case measure => omega
            case rel => exact ⟨j + 1, by omega, by omega, by omega, by simp [Int.mul_add], HG.out⟩
        · have fpn : foldT (growT l j) x = 256 + p - n := by rw [HFX.out]; exact if_pos hpn
          have wp1 : IntKind.i64.wrap (256 + (p : Int)) = 256 + (p : Int) := IntWalk.i64_in _ (by omega)
          have wp2 : IntKind.i64.wrap (256 + (p : Int) - n) = 256 + (p : Int) - n := IntWalk.i64_in _ (by omega)
          have fqn : foldT (growT l j) y = q := by rw [HFY.out]; exact if_neg hqn
          go_wp2_with fail
          refine (HADD.out _ _).mono ?_
          rintro e w4 ⟨hb, A5, n5, c5, A6, n6, c6, rfl, href⟩
          have hst := HSTEP.out [] _ _ (show 256 + (p : Int) - n = _ by rw [fpn]; omega) (show (q : Int) = _ by rw [fqn])
          have HB := Lib.hid hb
          have HR := Lib.hid href
          clear hb href d0 d1
          rcases Decidable.em ((addT (growT l j) (256 + (p : Int) - n) ((q : Int))).2.1 = 0) with he | he
          · rw [if_pos he] at hst
            rw [← hst] at HR
            have HG := Lib.hid (HW3.out.ok HB.out HR.out (.cells #[.slice A5 n5 c5, .slice A6 n6 c6] 34))
            obtain ⟨_, _, _, _, hbk, _⟩ := HW3.out.ex
            have hb4 := HB.out.alloc HB.out.size (.cells #[.slice A5 n5 c5, .slice A6 n6 c6] 34)
            have e0 := blk_cell (blk_below hb4 (blk_lt hbk) hbk) 0
            have e1 := blk_cell (blk_below hb4 (blk_lt hbk) hbk) 1
            have z0 := blk_froz (blk_below hb4 (blk_lt hbk) hbk) 0
            have z1 := blk_froz (blk_below hb4 (blk_lt hbk) hbk) 1
            have f0 := blk_cell (blk_new w4 (.cells #[.slice A5 n5 c5, .slice A6 n6 c6] 34)) 0
            have f1 := blk_cell (blk_new w4 (.cells #[.slice A5 n5 c5, .slice A6 n6 c6] 34)) 1
            simp only [List.getElem?_toArray, List.getElem?_cons_zero, List.getElem?_cons_succ] at e0 e1 f0 f1
            clear hbk hb4 hst
            go_wp2_with fail
            go_roundg (gk - 1)
            case measure => omega
            case rel => exact ⟨j + 1, by omega, by omega, by omega, by simp [Int.mul_add], HG.out⟩
          · rw [if_neg he] at hst
            have HG := Lib.hid (HW3.out.err HB.out hst (.cells #[.slice A5 n5 c5, .slice A6 n6 c6] 34))
            clear hst
            go_wp2_with fail
            go_roundg (gk - 1)
            case measure => omega
            case rel => exact ⟨j + 1, by omega, by omega, by omega, by simp [Int.mul_add], HG.out⟩
      · by_cases hqn : n ≤ q
        · have fpn : foldT (growT l j) x = p := by rw [HFX.out]; exact if_neg hpn
          have fqn : foldT (growT l j) y = 256 + q - n := by rw [HFY.out]; exact if_pos hqn
          have wq1 : IntKind.i64.wrap (256 + (q : Int)) = 256 + (q : Int) := IntWalk.i64_in _ (by omega)
          have wq2 : IntKind.i64.wrap (256 + (q : Int) - n) = 256 + (q : Int) - n := IntWalk.i64_in _ (by omega)
          go_wp2_with fail
          refine (HADD.out _ _).mono ?_
          rintro e w4 ⟨hb, A5, n5, c5, A6, n6, c6, rfl, href⟩
          have hst := HSTEP.out [] _ _ (show (p : Int) = _ by rw [fpn]) (show 256 + (q : Int) - n = _ by rw [fqn]; omega)
          have HB := Lib.hid hb
          have HR := Lib.hid href
          clear hb href d0 d1
          rcases Decidable.em ((addT (growT l j) ((p : Int)) (256 + (q : Int) - n)).2.1 = 0) with he | he
          · rw [if_pos he] at hst
            rw [← hst] at HR
            have HG := Lib.hid (HW3.out.ok HB.out HR.out (.cells #[.slice A5 n5 c5, .slice A6 n6 c6] 34))
            obtain ⟨_, _, _, _, hbk, _⟩ := HW3.out.ex
            have hb4 := HB.out.alloc HB.out.size (.cells #[.slice A5 n5 c5, .slice A6 n6 c6] 34)
            have e0 := blk_cell (blk_below hb4 (blk_lt hbk) hbk) 0
            have e1 := blk_cell (blk_below hb4 (blk_lt hbk) hbk) 1
            have z0 := blk_froz (blk_below hb4 (blk_lt hbk) hbk) 0
            have z1 := blk_froz (blk_below hb4 (blk_lt hbk) hbk) 1
            have f0 := blk_cell (blk_new w4 (.cells #[.slice A5 n5 c5, .slice A6 n6 c6] 34)) 0
            have f1 := blk_cell (blk_new w4 (.cells #[.slice A5 n5 c5, .slice A6 n6 c6] 34)) 1
            simp only [List.getElem?_toArray, List.getElem?_cons_zero, List.getElem?_cons_succ] at e0 e1 f0 f1
            clear hbk hb4 hst
            go_wp2_with fail
            go_roundg (gk - 1)
            case measure => omega
            case rel => exact ⟨j + 1, by omega, by omega, by omega, by simp [Int.mul_add], HG.out⟩
          · rw [if_neg he] at hst
            have HG := Lib.hid (HW3.out.err HB.out hst (.cells #[.slice A5 n5 c5, .slice A6 n6 c6] 34))
            clear hst
            go_wp2_with fail
            go_roundg (gk - 1)
            case measure => omega
            case rel => exact ⟨j + 1, by omega, by omega, by omega, by simp [Int.mul_add], HG.out⟩
        · have fpn : foldT (growT l j) x = p := by rw [HFX.out]; exact if_neg hpn
          have fqn : foldT (growT l j) y = q := by rw [HFY.out]; exact if_neg hqn
          go_wp2_with fail
          refine (HADD.out _ _).mono ?_
          rintro e w4 ⟨hb, A5, n5, c5, A6, n6, c6, rfl, href⟩
          have hst := HSTEP.out [] _ _ (show (p : Int) = _ by rw [fpn]) (show (q : Int) = _ by rw [fqn])
          have HB := Lib.hid hb
          have HR := Lib.hid href
          clear hb href d0 d1
          rcases Decidable.em ((addT (growT l j) ((p : Int)) ((q : Int))).2.1 = 0) with he | he
          · rw [if_pos he] at hst
            rw [← hst] at HR
            have HG := Lib.hid (HW3.out.ok HB.out HR.out (.cells #[.slice A5 n5 c5, .slice A6 n6 c6] 34))
            obtain ⟨_, _, _, _, hbk, _⟩ := HW3.out.ex
            have hb4 := HB.out.alloc HB.out.size (.cells #[.slice A5 n5 c5, .slice A6 n6 c6] 34)
            have e0 := blk_cell (blk_below hb4 (blk_lt hbk) hbk) 0
            have e1 := blk_cell (blk_below hb4 (blk_lt hbk) hbk) 1
            have z0 := blk_froz (blk_below hb4 (blk_lt hbk) hbk) 0
            have z1 := blk_froz (blk_below hb4 (blk_lt hbk) hbk) 1
            have f0 := blk_cell (blk_new w4 (.cells #[.slice A5 n5 c5, .slice A6 n6 c6] 34)) 0
            have f1 := blk_cell (blk_new w4 (.cells #[.slice A5 n5 c5, .slice A6 n6 c6] 34)) 1
            simp only [List.getElem?_toArray, List.getElem?_cons_zero, List.getElem?_cons_succ] at e0 e1 f0 f1
            clear hbk hb4 hst
            go_wp2_with fail
            go_roundg (gk - 1)
            case measure => omega
            case rel => exact ⟨j + 1, by omega, by omega, by omega, by simp [Int.mul_add], HG.out⟩
          · rw [if_neg he] at hst
            have HG := Lib.hid (HW3.out.err HB.out hst (.cells #[.slice A5 n5 c5, .slice A6 n6 c6] 34))
            clear hst
            go_wp2_with fail
            go_roundg (gk - 1)
            case measure => omega
            case rel => exact ⟨j + 1, by omega, by omega, by omega, by simp [Int.mul_add], HG.out⟩
    · have hmin : min (l.length / 2) 30 = j := by omega
      obtain ⟨A3, c3, A4, c4, hbk, href⟩ := hW.ex
      have c0 := blk_cell hbk 0
      have c1' := blk_cell hbk 1
      have d0 := blk_cell hW.res 0
      have d1 := blk_cell hW.res 1
      have z0 := blk_froz hW.res 0
      have z1 := blk_froz hW.res 1
      simp only [List.getElem?_toArray, List.getElem?_cons_zero, List.getElem?_cons_succ] at c0 c1' d0 d1
      have hfin := hW.fin href
      have HFIN := Lib.hid hfin
      have HMIN := Lib.hid hmin
      clear hW hbk href hmin hfin
      by_cases h1 : 2 * j + 1 < l.length
      · have h2 : j = 30 := by omega
        subst h2
        have h3 : (2 * 30 + 1 : Int) < (l.length : Int) := by omega
        go_wp2_with fail
        refine ret_cell1 (r := r) rfl rfl (load_ref HFIN.out.1) ⟨HFIN.out.2.1, _, _, _, _, _, _, rfl, ?_⟩
        rw [HMIN.out]; exact HFIN.out.2.2
      · have h3 : ¬ ((2 * j : Nat) : Int) + 1 < (l.length : Int) := by omega
        go_wp2_with fail
        refine ret_cell1 (r := r) rfl rfl (load_ref HFIN.out.1) ⟨HFIN.out.2.1, _, _, _, _, _, _, rfl, ?_⟩
        rw [HMIN.out]; exact HFIN.out.2.2
theorem addT_fine {T : List Ent} {a b : Int} (he : (addT T a b).2.1 = 0) : hasT T a = true ∧ hasT T b = true ∧ (addT T a b).2.2 = T ++ [((entT T a).1 ++ (entT T b).1, a, b)] ∧ T.length < 1000 := by
  unfold addT at *
  by_cases h1 : (!(hasT T a && hasT T b)) = true
  · rw [if_pos h1] at he; simp at he
  rw [if_neg h1] at he ⊢
  by_cases h2 : ((entT T a).1 ++ (entT T b).1).length > 64
  · rw [if_pos h2] at he; simp at he
  rw [if_neg h2] at he ⊢
  by_cases h3 : T.length ≥ 1000
  · rw [if_pos h3] at he; simp at he
  rw [if_neg h3] at he ⊢
  by_cases h4 : (findT T ((entT T a).1 ++ (entT T b).1)).isSome = true
  · rw [if_pos h4] at he; simp at he
  rw [if_neg h4]
  simp only [Bool.not_eq_true, Bool.not_eq_eq_eq_not, Bool.not_false, Bool.and_eq_true] at h1
  simp only [Bool.not_true, Bool.and_eq_false_imp, Bool.not_eq_false] at h1
  have : hasT T a = true ∧ hasT T b = true := by
    revert h1; cases hasT T a <;> cases hasT T b <;> simp
  exact ⟨this.1, this.2, rfl, by omega⟩
def AddsT (T : List Ent) : Prop := OkT T ∧ addsT baseT (mrgsT T) = some T
theorem addsT_base : AddsT baseT := by
  refine ⟨okT_base, ?_⟩
  have : mrgsT baseT = [] := by
    apply List.eq_nil_of_length_eq_zero
    rw [mrgs_len, base_len]
  rw [this]; rfl
theorem addsT_add {T : List Ent} (h : AddsT T) (a b : Int) (he : (addT T a b).2.1 = 0) : AddsT (addT T a b).2.2 := by
  refine ⟨okT_add h.1 a b he, ?_⟩
  obtain ⟨ha, hb, e, _⟩ := addT_fine he
  have h256 := okT_256 h.1
  have em : mrgsT (addT T a b).2.2 = mrgsT T ++ [(a, b)] := by
    rw [e]
    unfold mrgsT
    rw [List.drop_append_of_le_length h256]
    simp
  rw [em, addsT_snoc, h.2]
  simp [he]
theorem addsT_grow (l : List Nat) : ∀ j, AddsT (growT l j)
  | 0 => addsT_base
  | j + 1 => by
    show AddsT (growStep (growT l j) (l.getD (2 * j) 0) (l.getD (2 * j + 1) 0))
    unfold growStep
    split
    · rename_i h0; exact addsT_add (addsT_grow l j) _ _ h0
    · exact addsT_grow l j
theorem base_ent {T : List Ent} (h : OkT T) {i : Nat} (hi : i < 256) : entT T (i : Int) = ([UInt8.ofNat i], -1, -1) := by
  obtain ⟨M, hM⟩ := h.base
  have h2 := okT_256 h
  rw [entT_nat _ _ (by omega)]
  have h0 : (baseT ++ M)[i]? = some ([UInt8.ofNat i], -1, -1) := by
    rw [List.getElem?_append_left (by rw [base_len]; exact hi), List.getElem?_eq_getElem (by rw [base_len]; exact hi), base_at i hi]
  rw [← hM, List.getElem?_eq_getElem (by omega)] at h0
  exact Option.some.inj h0
theorem made_all {T : List Ent} (h : OkT T) {i : Nat} (h1 : 256 ≤ i) (h2 : i < T.length) :
    bornT T (i : Int) = true ∧ hasT T (parT T (i : Int)).1 = true ∧ hasT T (parT T (i : Int)).2 = true ∧ hasT T (i : Int) = true ∧
    bytesT T (i : Int) = bytesT T (parT T (i : Int)).1 ++ bytesT T (parT T (i : Int)).2 ∧ pairT T (parT T (i : Int)) = some i ∧
    0 ≤ (parT T (i : Int)).1 ∧ 0 ≤ (parT T (i : Int)).2 ∧ (parT T (i : Int)).1 < i ∧ (parT T (i : Int)).2 < i := by
  obtain ⟨q1, q2, q3, q4, q5⟩ := h.made i h1 h2
  have hi : hasT T (i : Int) = true := by simp [hasT]; omega
  have hne : (entT T (i : Int)).2 ≠ (-1, -1) := by intro e; rw [e] at q1; simp at q1
  have hborn : bornT T (i : Int) = true := by
    unfold bornT
    rw [hi]
    simpa using hne
  have hpar : parT T (i : Int) = (entT T (i : Int)).2 := by unfold parT; rw [if_pos hborn]
  rw [hpar]
  have ha : hasT T (entT T (i : Int)).2.1 = true := by simp [hasT]; omega
  have hb : hasT T (entT T (i : Int)).2.2 = true := by simp [hasT]; omega
  refine ⟨hborn, ha, hb, hi, ?_, ?_, q1, q3, q2, q4⟩
  · unfold bytesT
    rw [if_pos hi, if_pos ha, if_pos hb]
    exact q5
  · unfold pairT
    rw [List.findIdx?_eq_some_iff_getElem]
    refine ⟨h2, ?_, ?_⟩
    · rw [entT_nat _ _ h2] at hne ⊢
      simpa using hne
    · intro j hj
      rw [Bool.not_eq_true, Bool.eq_false_iff]
      intro hh
      simp only [Bool.and_eq_true, beq_iff_eq] at hh
      have hjl : j < T.length := by omega
      by_cases hj2 : j < 256
      · have := base_ent h hj2
        rw [entT_nat _ _ hjl] at this
        rw [this] at hh
        exact hne hh.1.symm
      · obtain ⟨p1, p2, p3, p4, p5⟩ := h.made j (by omega) hjl
        have e2 : (entT T (j : Int)).2 = (entT T (i : Int)).2 := by rw [entT_nat _ _ hjl]; exact hh.1
        rw [e2, ← q5] at p5
        have := h.nodup j i hjl h2 p5
        omega
theorem nats_of {w : World} {A : Option Addr} {xs : List Int} (hw : ∀ y ∈ xs, (Lit.int .u16 y).wf = true) (hs : Sl1 w A (Value.int .u16) xs) :
    ∃ l : List Nat, l.length = xs.length ∧ (∀ x ∈ l, x < 65536) ∧ Sl1 w A (fun x : Nat => .int .u16 (x : Int)) l := by
  have hr : ∀ y ∈ xs, 0 ≤ y ∧ y < 65536 := by
    intro y hy
    have := hw y hy
    have e1 : IntKind.u16.min = 0 := by decide
    have e2 : IntKind.u16.max = 65535 := by decide
    simp only [Lit.wf, e1, e2, Bool.and_eq_true, decide_eq_true_eq] at this
    omega
  refine ⟨xs.map Int.toNat, by simp, ?_, ?_⟩
  · intro x hx
    obtain ⟨y, hy, rfl⟩ := List.mem_map.1 hx
    have := hr y hy
    omega
  · intro i x hx
    rw [List.getElem?_map, Option.map_eq_some_iff] at hx
    obtain ⟨y, hy, rfl⟩ := hx
    obtain ⟨b, o, e, hc⟩ := hs i y hy
    have := hr y (List.mem_of_getElem? hy)
    refine ⟨b, o, e, ?_⟩
    show w.cell? _ = some (Value.int .u16 (y.toNat : Int))
    rw [hc, Int.toNat_of_nonneg this.1]
def encN (x : Node) : List Value := [.int .i64 x.1, .int .i64 x.2.1, .int .i64 x.2.2]
theorem encN_len (x : Node) : (encN x).length = 3 := rfl
theorem info_node : (Tryz.prog.info? 266).map (fun i => (i.zero, i.size, i.bytes)) = some (some (.agg #[.int .i64 0, .int .i64 0, .int .i64 0]), 3, 24) := by kernel_rfl
theorem flat_modify (N : List Node) (f : Node → Node) (o : Nat) (v : Node → Value) (hf : ∀ x, encN (f x) = (encN x).set o (v x)) (ho : o < 3) : ∀ (k : Nat) (x : Node), N[k]? = some x → (N.modify k f).flatMap encN = (N.flatMap encN).set (k * 3 + o) (v x) := by
  induction N with
  | nil => intro k x h; simp at h
  | cons a N ih =>
    intro k x h
    cases k with
    | zero =>
      simp at h
      subst h
      simp only [List.modify_zero_cons, List.flatMap_cons, hf]
      rw [List.set_append_left _ _ (by rw [encN_len]; omega)]
      congr 1
      simp
    | succ k =>
      simp at h
      simp only [List.modify_succ_cons, List.flatMap_cons, ih k x h]
      have e : (k + 1) * 3 + o = (encN a).length + (k * 3 + o) := by rw [encN_len]; omega
      rw [e, List.set_append_right _ _ (Nat.le_add_right _ _), Nat.add_sub_cancel_left]
theorem flat_id (N : List Node) (u : Int) (k : Nat) (hk : k < N.length) : (N.modify k (idN u)).flatMap encN = (N.flatMap encN).set (k * 3) (.int .i64 u) :=
  flat_modify N (idN u) 0 (fun _ => .int .i64 u) (fun x => rfl) (by omega) k N[k] (List.getElem?_eq_getElem hk)
theorem flat_ahead (N : List Node) (u : Int) (k : Nat) (hk : k < N.length) : (N.modify k (aheadN u)).flatMap encN = (N.flatMap encN).set (k * 3 + 1) (.int .i64 u) :=
  flat_modify N (aheadN u) 1 (fun _ => .int .i64 u) (fun x => rfl) (by omega) k N[k] (List.getElem?_eq_getElem hk)
theorem flat_next (N : List Node) (u : Int) (k : Nat) (hk : k < N.length) : (N.modify k (nextN u)).flatMap encN = (N.flatMap encN).set (k * 3 + 2) (.int .i64 u) :=
  flat_modify N (nextN u) 2 (fun _ => .int .i64 u) (fun x => rfl) (by omega) k N[k] (List.getElem?_eq_getElem hk)
structure LinkIs (w : World) (base cb tb qb : Nat) (N : List Node) (bel steps : Int) (A : Option Addr) (c : Nat) : Prop where
  blk : w.heap[cb]? = some (.cells #[.pointer (some ⟨tb, 0, none⟩), .slice A N.length c, .pointer (some ⟨qb, 0, none⟩), .int .i64 bel, .int .i64 steps] 264)
  row : w.ownsRow base 266 3 (.slice A N.length c) N.length (N.flatMap encN)
  le : base ≤ cb
theorem LinkIs.below {B : Nat} {w w' : World} {base cb tb qb : Nat} {N : List Node} {bel steps : Int} {A : Option Addr} {c : Nat} (h : LinkIs w base cb tb qb N bel steps A c) (hb : Below B w w') (hB : w.heap.size ≤ B) : LinkIs w' base cb tb qb N bel steps A c :=
  ⟨blk_below hb (Nat.lt_of_lt_of_le (blk_lt h.blk) hB) h.blk, own_below h.row hb hB, h.le⟩
theorem LinkIs.keep {F : Nat → Prop} {w w' : World} {base cb tb qb : Nat} {N : List Node} {bel steps : Int} {A : Option Addr} {c : Nat} (h : LinkIs w base cb tb qb N bel steps A c) (k : Keep F w w') (hF : ¬ F cb) (hA : ∀ g, A = some ⟨g, 0, none⟩ → ¬ F g) : LinkIs w' base cb tb qb N bel steps A c :=
  ⟨k.blk h.blk hF, own_keep h.row k (fun g hg => hA g (hw.own_addr h.row g hg)), h.le⟩
theorem LinkIs.at {w : World} {base cb tb qb : Nat} {N : List Node} {bel steps : Int} {A : Option Addr} {c : Nat} (h : LinkIs w base cb tb qb N bel steps A c) (i : Nat) (x : Node) (hi : N[i]? = some x) :
    ∃ g, A = some ⟨g, 0, none⟩ ∧ w.cell? ⟨g, i * 3, none⟩ = some (.int .i64 x.1) ∧ w.cell? ⟨g, i * 3 + 1, none⟩ = some (.int .i64 x.2.1) ∧ w.cell? ⟨g, i * 3 + 2, none⟩ = some (.int .i64 x.2.2) := by
  have hlt := (List.getElem?_eq_some_iff.1 hi).1
  obtain ⟨g, cap, e, _, _, _⟩ := own_open h.row (by omega)
  injection e with e1 e2 e3
  subst e1
  obtain ⟨b, o, e2, hc⟩ := (own_sl encN_len h.row (by decide)) i x hi
  injection e2 with e2
  injection e2 with e2 e3
  subst e2; subst e3
  refine ⟨_, rfl, ?_, ?_, ?_⟩
  · have := hc 0 _ rfl; simpa using this
  · have := hc 1 _ rfl; simpa using this
  · have := hc 2 _ rfl; simpa using this
theorem row_row {w : World} {b1 b2 n1 n2 s1 s2 c1 c2 : Nat} {e1 e2 : TypeId} {A1 A2 : Option Addr} {x1 x2 : List Value} (h1 : w.ownsRow b1 e1 s1 (.slice A1 n1 c1) n1 x1) (h2 : w.ownsRow b2 e2 s2 (.slice A2 n2 c2) n2 x2) (hne : e1 ≠ e2) : ∀ g, A1 = some ⟨g, 0, none⟩ → A2 ≠ some ⟨g, 0, none⟩ := by
  intro g hg1 hg2
  rcases h1.2 with ⟨q1, _⟩ | ⟨g1, cap1, cur1, q1, _, hb1, _⟩
  · injection q1 with q1; rw [hg1] at q1; cases q1
  · rcases h2.2 with ⟨q2, _⟩ | ⟨g2, cap2, cur2, q2, _, hb2, _⟩
    · injection q2 with q2; rw [hg2] at q2; cases q2
    · injection q1 with q1; rw [hg1] at q1; injection q1 with q1; injection q1 with q1; subst q1
      injection q2 with q2; rw [hg2] at q2; injection q2 with q2; injection q2 with q2; subst q2
      rw [hb1] at hb2
      injection hb2 with hb2
      injection hb2 with _ hb2 _
      exact hne hb2
theorem row_ne2 {w : World} {b1 n1 s1 c1 : Nat} {e1 e2 : TypeId} {A1 : Option Addr} {x1 : List Value} {g : Nat} {cs : Array Value} {fz : Nat × Nat} (h1 : w.ownsRow b1 e1 s1 (.slice A1 n1 c1) n1 x1) (h2 : w.heap[g]? = some (.cells cs e2 fz)) (hne : e1 ≠ e2) : A1 ≠ some ⟨g, 0, none⟩ := by
  intro hg1
  rcases h1.2 with ⟨q1, _⟩ | ⟨g1, cap1, cur1, q1, _, hb1, _⟩
  · injection q1 with q1; rw [hg1] at q1; cases q1
  · injection q1 with q1; rw [hg1] at q1; injection q1 with q1; injection q1 with q1; subst q1
    rw [hb1] at h2
    injection h2 with h2
    injection h2 with _ h2 _
    exact hne h2
theorem blk_ne {w : World} {e1 e2 : TypeId} {g1 g2 : Nat} {c1 c2 : Array Value} {f1 f2 : Nat × Nat} (h1 : w.heap[g1]? = some (.cells c1 e1 f1)) (h2 : w.heap[g2]? = some (.cells c2 e2 f2)) (hne : e1 ≠ e2) : g1 ≠ g2 := by
  rintro rfl
  rw [h1] at h2
  injection h2 with h2
  injection h2 with _ h2 _
  exact hne h2
structure ChainIs (w : World) (base tbase tb : Nat) (T : List Ent) (sv : Value) (mb mp cb qb : Nat) (N : List Node) (bel steps : Int) (A : Option Addr) (c : Nat) (Q : List (Th Wt)) (turn : Int) (Aq : Option Addr) (cq : Nat) : Prop where
  lk : LinkIs w base cb tb qb N bel steps A c
  hp : hw.HeapWs w base qb Q turn Aq cq
  tab : TabIs w tbase tb T sv mb mp
  tlt : ∀ x, tabF tb sv mb mp x → x < base
section
variable {w w' : World} {base tbase tb : Nat} {T : List Ent} {sv : Value} {mb mp cb qb : Nat} {N : List Node} {bel steps : Int} {A : Option Addr} {c : Nat} {Q : List (Th Wt)} {turn : Int} {Aq : Option Addr} {cq : Nat}
theorem ChainIs.below {B : Nat} (h : ChainIs w base tbase tb T sv mb mp cb qb N bel steps A c Q turn Aq cq) (hb : Below B w w') (hB : w.heap.size ≤ B) : ChainIs w' base tbase tb T sv mb mp cb qb N bel steps A c Q turn Aq cq :=
  ⟨h.lk.below hb hB, h.hp.below hb hB, h.tab.below hb hB, h.tlt⟩
theorem ChainIs.drew (h : ChainIs w base tbase tb T sv mb mp cb qb N bel steps A c Q turn Aq cq) : ChainIs w.drew base tbase tb T sv mb mp cb qb N bel steps A c Q turn Aq cq :=
  h.below (B := w.heap.size) ⟨rfl, rfl, rfl, Nat.le_refl _, fun _ _ => rfl⟩ (Nat.le_refl _)
theorem ChainIs.sizes (h : ChainIs w base tbase tb T sv mb mp cb qb N bel steps A c Q turn Aq cq) : base ≤ w.heap.size := Nat.le_trans h.lk.le (Nat.le_of_lt (blk_lt h.lk.blk))
theorem ChainIs.queue {Q' : List (Th Wt)} {turn' : Int} {Aq' : Option Addr} {cq' : Nat} (h : ChainIs w base tbase tb T sv mb mp cb qb N bel steps A c Q turn Aq cq) (hq : hw.HeapWs w' base qb Q' turn' Aq' cq') (k : Keep (hw.heapF qb Aq) w w') : ChainIs w' base tbase tb T sv mb mp cb qb N bel steps A c Q' turn' Aq' cq' ∧ Below base w w' := by
  have hF : ∀ g, hw.heapF qb Aq g → base ≤ g := h.hp.base
  refine ⟨⟨h.lk.keep k ?_ ?_, hq, h.tab.keep k ?_, h.tlt⟩, k.below h.sizes hF⟩
  · rintro (e | e)
    · exact blk_ne h.lk.blk h.hp.blk (by decide) e
    · exact row_ne2 h.hp.row h.lk.blk (by decide) e
  · rintro g e (e2 | e2)
    · subst e2; exact row_ne2 h.lk.row h.hp.blk (by decide) e
    · exact row_row h.lk.row h.hp.row (by decide) g e e2
  · intro x hx hx2
    have := h.tlt x hx
    have := hF x hx2
    omega
theorem ChainIs.link {N' : List Node} {steps' : Int} {A' : Option Addr} {c' : Nat} (h : ChainIs w base tbase tb T sv mb mp cb qb N bel steps A c Q turn Aq cq) (hl : LinkIs w' base cb tb qb N' bel steps' A' c') (k : Keep (fun g => g = cb ∨ A = some ⟨g, 0, none⟩) w w') : ChainIs w' base tbase tb T sv mb mp cb qb N' bel steps' A' c' Q turn Aq cq ∧ Below base w w' := by
  have hF : ∀ g, (g = cb ∨ A = some ⟨g, 0, none⟩) → base ≤ g := by
    rintro g (e | e)
    · rw [e]; exact h.lk.le
    · exact own_base h.lk.row g (hw.addr_own e)
  refine ⟨⟨hl, h.hp.keep k ?_, h.tab.keep k ?_, h.tlt⟩, k.below h.sizes hF⟩
  · rintro g (e | e) (e2 | e2)
    · exact blk_ne h.lk.blk h.hp.blk (by decide) (e2.symm.trans e)
    · subst e; exact row_ne2 h.lk.row h.hp.blk (by decide) e2
    · subst e2; exact row_ne2 h.hp.row h.lk.blk (by decide) e
    · exact row_row h.lk.row h.hp.row (by decide) g e2 e
  · intro x hx hx2
    have := h.tlt x hx
    have := hF x hx2
    omega
end
def pairB (T : List Ent) (bel : Int) (a b : Int) : Option Int := (pairT T (a, b)).bind (fun r => if (r : Int) < bel then some (r : Int) else none)
theorem askQ_none {P : Int → Int → Option Int} {Q : List (Th Wt)} {turn i a : Int} {y : Nd} {q : List Nd} (h : P a y.2 = none) : askQ P Q turn i a (y :: q) = (Q, turn) := by simp only [askQ, h]
theorem askQ_some {P : Int → Int → Option Int} {Q : List (Th Wt)} {turn i a r : Int} {y : Nd} {q : List Nd} (h : P a y.2 = some r) : askQ P Q turn i a (y :: q) = (pushT Q ⟨r, i, turn, ⟨i, a, y.2⟩⟩, turn + 1) := by simp only [askQ, h]
section
variable {w w' : World} {base tbase tb : Nat} {T : List Ent} {sv : Value} {mb mp cb qb : Nat} {N : List Node} {bel steps : Int} {A : Option Addr} {c : Nat} {Q : List (Th Wt)} {turn : Int} {Aq : Option Addr} {cq : Nat}
theorem asks_end (h : ChainIs w base tbase tb T sv mb mp cb qb N bel steps A c Q turn Aq cq) :
    Calls Tryz.prog 179 #[.pointer (some ⟨cb, 0, none⟩), .int .i64 (-1)] w fun e w' => e = .returned (.tuple #[]) ∧ w' = w := by
  clear h
  go_enter Tryz.func179, Tryz.ntmps179
  go_wp2_with fail
  (try simp only [Exit.inBlock, Exit.then])
  refine bodyPost_ret (results_none rfl _ _ _) rfl ?_
  exact ⟨rfl, rfl⟩
theorem asks_last (h : ChainIs w base tbase tb T sv mb mp cb qb N bel steps A c Q turn Aq cq) (i : Nat) (a p : Int) (hi : N[i]? = some (a, p, -1)) :
    Calls Tryz.prog 179 #[.pointer (some ⟨cb, 0, none⟩), .int .i64 (i : Int)] w fun e w' => e = .returned (.tuple #[]) ∧ w' = w := by
  have hlt := (List.getElem?_eq_some_iff.1 hi).1
  obtain ⟨g, rfl, a0, a1, a2⟩ := h.lk.at i _ hi
  have h1 := blk_cell h.lk.blk 1
  simp only [List.getElem?_toArray, List.getElem?_cons_zero, List.getElem?_cons_succ] at h1 a2
  have p0 : (0 : Int) ≤ (i : Int) := by omega
  have p1 : (i : Int) < (N.length : Int) := by omega
  have q1 : ((i : Int) == -1) = false := by simp
  clear hi h a0 a1
  go_enter Tryz.func179, Tryz.ntmps179
  go_wp2_with fail
  (try simp only [Exit.inBlock, Exit.then])
  refine bodyPost_ret (results_none rfl _ _ _) rfl ?_
  exact ⟨rfl, rfl⟩
set_option maxHeartbeats 4000000 in
theorem asks_two (h : ChainIs w base tbase tb T sv mb mp cb qb N bel steps A c Q turn Aq cq) (i j : Nat) (a p : Int) (b : Int) (y : Int × Int) (hi : N[i]? = some (a, p, (j : Int))) (hj : N[j]? = some (b, y))
    (ha : (Lit.int .i64 a).wf = true) (hb : (Lit.int .i64 b).wf = true) (hQ : Q.length < 1000000000) (ht0 : 0 ≤ turn) (ht1 : turn < 1000000000000000000) (R : List (Th Wt) × Int) (hR : askQ (pairB T bel) Q turn i a [((j : Int), b)] = R) :
    Calls Tryz.prog 179 #[.pointer (some ⟨cb, 0, none⟩), .int .i64 (i : Int)] w fun e w' => e = .returned (.tuple #[]) ∧ (∃ Aq' cq', ChainIs w' base tbase tb T sv mb mp cb qb N bel steps A c R.1 R.2 Aq' cq') ∧ Below base w w' := by
  have hlt := (List.getElem?_eq_some_iff.1 hi).1
  have hlt2 := (List.getElem?_eq_some_iff.1 hj).1
  obtain ⟨g, rfl, a0, a1, a2⟩ := h.lk.at i _ hi
  obtain ⟨g', e, b0, b1, b2⟩ := h.lk.at j _ hj
  injection e with e
  injection e with e
  subst e
  have h1 := blk_cell h.lk.blk 1
  simp only [List.getElem?_toArray, List.getElem?_cons_zero, List.getElem?_cons_succ] at h1 a0 a2 b0
  have p0 : (0 : Int) ≤ (i : Int) := by omega
  have p1 : (i : Int) < (N.length : Int) := by omega
  have p2 : (0 : Int) ≤ (j : Int) := by omega
  have p3 : (j : Int) < (N.length : Int) := by omega
  have q1 : ((i : Int) == -1) = false := by simp
  have q2 : ((j : Int) == -1) = false := by simp
  have HH := Lib.hid h
  have HR := Lib.hid hR
  clear hi hj h a1 b1 b2 hR
  go_enter Tryz.func179, Tryz.ntmps179
  go_upto_region 1 with fail
  refine wp_region_D (Ds := [25]) (S := fun V => V.cell? ⟨cb, 1, none⟩ = some (.slice (some ⟨g, 0, none⟩) N.length c) ∧ V.cell? ⟨g, i * 3, none⟩ = some (.int .i64 a) ∧ V.cell? ⟨g, i * 3 + 2, none⟩ = some (.int .i64 (j : Int)) ∧ V.cell? ⟨g, j * 3, none⟩ = some (.int .i64 b)) (by kernel_rfl) (by exact ⟨h1, a0, a2, b0⟩) (fun hHeld => ?_)
  (have HD := Lib.hid HH.out.drew); (have HB0 : Hid (Below w.heap.size w w.drew) := Lib.hid ⟨rfl, rfl, rfl, Nat.le_refl _, fun _ _ => rfl⟩); generalize w.drew = W0 at *
  refine tkP 0 20 ?_ rfl (.inl ⟨by rfl, ?_⟩) ?_; rotate_left; focus (intro w' _; go_simp; (try with_reducible rfl))
  try simp only [sIB, sC0, sCS]
  refine tkP 1 21 ?_ rfl (.inl ⟨by rfl, ?_⟩) ?_; rotate_left; focus (intro w' _; go_simp; (try with_reducible rfl))
  try simp only [sIB, sC0, sCS]
  refine tkP 2 22 ?_ rfl (.inl ⟨by rfl, ?_⟩) ?_; rotate_left; focus (intro w' _; go_simp; (try with_reducible rfl))
  try simp only [sIB, sC0, sCS]
  refine tkP 4 24 ?_ rfl (.inl ⟨by rfl, ?_⟩) ?_; rotate_left; focus (intro w' _; go_simp; (try with_reducible rfl))
  try simp only [sIB, sC0, sCS]
  refine tkP 8 28 ?_ rfl (.inl ⟨by rfl, ?_⟩) ?_; rotate_left; focus (intro w' _; go_simp; (try with_reducible rfl))
  try simp only [sIB, sC0, sCS]
  refine tkP 9 29 ?_ rfl (.inl ⟨by rfl, ?_⟩) ?_; rotate_left; focus (intro w' _; go_simp; (try with_reducible rfl))
  try simp only [sIB, sC0, sCS]
  refine tkP 10 30 ?_ rfl (.inl ⟨by rfl, ?_⟩) ?_; rotate_left; focus (intro w' _; go_simp; (try with_reducible rfl))
  try simp only [sIB, sC0, sCS]
  refine tkP 12 32 ?_ rfl (.inl ⟨by rfl, ?_⟩) ?_; rotate_left; focus (intro w' _; go_simp; (try with_reducible rfl))
  try simp only [sIB, sC0, sCS]
  refine tkP 13 33 ?_ rfl (.inl ⟨by rfl, ?_⟩) ?_; rotate_left; focus (intro w' _; go_simp; (try with_reducible rfl))
  try simp only [sIB, sC0, sCS]
  refine tkP 14 34 ?_ rfl (.inl ⟨by rfl, ?_⟩) ?_; rotate_left; focus (intro w' _; go_simp; (try with_reducible rfl))
  try simp only [sIB, sC0, sCS]
  refine tkP 16 36 ?_ rfl (.inl ⟨by rfl, ?_⟩) ?_; rotate_left; focus (intro w' _; go_simp; (try with_reducible rfl))
  try simp only [sIB, sC0, sCS]
  refine tkD 3 23 ?_ rfl hHeld (.inl ⟨by rfl, ?_⟩) ?_; rotate_left; focus (intro w' hSw; (try dsimp only at hSw); go_simp; (try with_reducible rfl))
  try simp only [sIB, sC0, sCS]
  refine tkP 5 25 ?_ rfl (.inl ⟨by rfl, ?_⟩) ?_; rotate_left; focus (intro w' _; go_simp; (try with_reducible rfl))
  try simp only [sIB, sC0, sCS]
  refine tkP 6 26 ?_ rfl (.inl ⟨by rfl, ?_⟩) ?_; rotate_left; focus (intro w' _; go_simp; (try with_reducible rfl))
  try simp only [sIB, sC0, sCS]
  refine tkD 7 27 ?_ rfl hHeld (.inl ⟨by rfl, ?_⟩) ?_; rotate_left; focus (intro w' hSw; (try dsimp only at hSw); go_simp; (try with_reducible rfl))
  try simp only [sIB, sC0, sCS]
  refine tkD 11 31 ?_ rfl hHeld (.inl ⟨by rfl, ?_⟩) ?_; rotate_left; focus (intro w' hSw; (try dsimp only at hSw); go_simp; (try with_reducible rfl))
  try simp only [sIB, sC0, sCS]
  refine tkD 15 35 ?_ rfl hHeld (.inl ⟨by rfl, ?_⟩) ?_; rotate_left; focus (intro w' hSw; (try dsimp only at hSw); go_simp; (try with_reducible rfl))
  try simp only [sIB, sC0, sCS]
  refine tkP 17 37 ?_ rfl (.inl ⟨by rfl, ?_⟩) ?_; rotate_left; focus (intro w' _; go_simp; (try with_reducible rfl))
  try simp only [sIB, sC0, sCS]
  refine tkP 18 38 ?_ rfl (.inl ⟨by rfl, ?_⟩) ?_; rotate_left; focus (intro w' _; go_simp; (try with_reducible rfl))
  try simp only [sIB, sC0, sCS]
  refine tkD 19 39 ?_ rfl hHeld (.inl ⟨by rfl, ?_⟩) ?_; rotate_left; focus (intro w' hSw; (try dsimp only at hSw); go_simp; (try with_reducible rfl))
  try simp only [sIB, sC0, sCS]
  refine tkP 20 40 ?_ rfl (.inl ⟨by rfl, ?_⟩) ?_; rotate_left; focus (intro w' _; go_simp; (try with_reducible rfl))
  try simp only [sIB, sC0, sCS]
  refine tkP 21 41 ?_ rfl (.inl ⟨by rfl, ?_⟩) ?_; rotate_left; focus (intro w' _; go_simp; (try with_reducible rfl))
  try simp only [sIB, sC0, sCS]
  refine tkD 22 42 ?_ rfl hHeld (.inl ⟨by rfl, ?_⟩) ?_; rotate_left; focus (intro w' hSw; (try dsimp only at hSw); go_simp; (try with_reducible rfl))
  try simp only [sIB, sC0, sCS]
  refine tkP 23 43 ?_ rfl (.inl ⟨by rfl, ?_⟩) ?_; rotate_left; focus (intro w' _; go_simp; (try with_reducible rfl))
  try simp only [sIB, sC0, sCS]
  refine wpAnyD_one (i := 24) (by kernel_rfl) rfl (by rfl) (fun K hK => ?_)
  go_simp; have hbl := (Below.refl W0.heap.size W0).alloc (Nat.le_refl _) (.cells #[.int .i64 0, .int .i64 0] 55); have h := And.intro (below_cell hbl (Nat.le_refl _) hHeld.1) (And.intro (below_cell hbl (Nat.le_refl _) hHeld.2.1) (And.intro (below_cell hbl (Nat.le_refl _) hHeld.2.2.1) (below_cell hbl (Nat.le_refl _) hHeld.2.2.2))); clear hbl
  refine hK.out _ _ h (fun hHeld => ?_)
  clear hK K
  try simp only [Act.put, sIB, sC0, sCS]
  refine wpAnyD_last (D := 25) (by decide) (by kernel_rfl) rfl (by rfl) (fun K hK => ?_)
  go_simp
  refine hK.out _ _ ?_
  clear hK K
  try simp only [Act.put, sIB, sC0, sCS]
  refine wpAnyD_done (by kernel_rfl) ?_ _
  go_upto_region 2 with fail
  have HBW := Lib.hid ((Below.refl W0.heap.size W0).alloc (Nat.le_refl _) (.cells #[.int .i64 a, .int .i64 b] 55))
  have HN := Lib.hid (blk_new W0 (.cells #[.int .i64 a, .int .i64 b] 55))
  replace HD := Lib.hid (HD.out.below HBW.out (Nat.le_refl _))
  replace HB0 := Lib.hid (HB0.out.trans (HBW.out.mono HB0.out.size))
  clear hHeld h1 a0 a2 b0 HBW p0 p1 p2 p3 q1 q2 h
  generalize W0.heap.size = g4 at *
  generalize W0.alloc (.cells #[.int .i64 a, .int .i64 b] 55) = W1 at *
  have h0 := blk_cell HD.out.lk.blk 0
  have n0 := blk_cell HN.out 0
  have n1 := blk_cell HN.out 1
  simp only [List.getElem?_toArray, List.getElem?_cons_zero, List.getElem?_cons_succ] at h0 n0 n1
  obtain ⟨o, ho⟩ : ∃ o, pairT T (a, b) = o := ⟨_, rfl⟩
  have HO := Lib.hid ho
  refine wp_region_D (Ds := []) (S := fun V => V.cell? ⟨cb, 0, none⟩ = some (.pointer (some ⟨tb, 0, none⟩)) ∧ V.cell? ⟨g4, 0, none⟩ = some (.int .i64 a) ∧ V.cell? ⟨g4, 1, none⟩ = some (.int .i64 b)) (by kernel_rfl) (by exact ⟨h0, n0, n1⟩) (fun hHeld => ?_)
  (replace HD := Lib.hid HD.out.drew); (replace HB0 : Hid (Below w.heap.size w W1.drew) := Lib.hid HB0.out.drew); (have HN1 : Hid (W1.drew.heap[g4]? = some (.cells #[.int .i64 a, .int .i64 b] 55)) := Lib.hid HN.out); (have HP := pair_tab a b ha hb HD.out.tab); rw [ho] at HP; (replace HP := Lib.hid HP); clear HN ho; generalize W1.drew = W2 at *
  refine tkP 0 45 ?_ rfl (.inl ⟨by rfl, ?_⟩) ?_; rotate_left; focus (intro w' _; go_simp; (try with_reducible rfl))
  try simp only [sIB, sC0, sCS]
  refine tkP 1 46 ?_ rfl (.inl ⟨by rfl, ?_⟩) ?_; rotate_left; focus (intro w' _; go_simp; (try with_reducible rfl))
  try simp only [sIB, sC0, sCS]
  refine tkP 2 47 ?_ rfl (.inl ⟨by rfl, ?_⟩) ?_; rotate_left; focus (intro w' _; go_simp; (try with_reducible rfl))
  try simp only [sIB, sC0, sCS]
  refine tkP 4 49 ?_ rfl (.inl ⟨by rfl, ?_⟩) ?_; rotate_left; focus (intro w' _; go_simp; (try with_reducible rfl))
  try simp only [sIB, sC0, sCS]
  refine tkP 6 51 ?_ rfl (.inl ⟨by rfl, ?_⟩) ?_; rotate_left; focus (intro w' _; go_simp; (try with_reducible rfl))
  try simp only [sIB, sC0, sCS]
  refine tkD 3 48 ?_ rfl hHeld (.inl ⟨by rfl, ?_⟩) ?_; rotate_left; focus (intro w' hSw; (try dsimp only at hSw); go_simp; (try with_reducible rfl))
  try simp only [sIB, sC0, sCS]
  refine tkD 5 50 ?_ rfl hHeld (.inl ⟨by rfl, ?_⟩) ?_; rotate_left; focus (intro w' hSw; (try dsimp only at hSw); go_simp; (try with_reducible rfl))
  try simp only [sIB, sC0, sCS]
  refine tkD 7 52 ?_ rfl hHeld (.inl ⟨by rfl, ?_⟩) ?_; rotate_left; focus (intro w' hSw; (try dsimp only at hSw); go_simp; (try with_reducible rfl))
  try simp only [sIB, sC0, sCS]
  refine wpAnyD_one (i := 8) (by kernel_rfl) rfl (by rfl) (fun K hK => ?_)
  go_simp; refine HP.out.mono ?_; rintro e W2 ⟨rfl, rfl⟩; have h := hHeld; go_simp
  refine hK.out _ _ h (fun hHeld => ?_)
  clear hK K
  try simp only [Act.put, sIB, sC0, sCS]
  refine tkP 9 44 ?_ rfl (.inl ⟨by rfl, ?_⟩) ?_; rotate_left; focus (intro w' _; go_simp; (try with_reducible rfl))
  try simp only [sIB, sC0, sCS]
  refine tkP 10 54 ?_ rfl (.inl ⟨by rfl, ?_⟩) ?_; rotate_left; focus (intro w' _; go_simp; (try with_reducible rfl))
  try simp only [sIB, sC0, sCS]
  refine tkP 11 55 ?_ rfl (.inl ⟨by rfl, ?_⟩) ?_; rotate_left; focus (intro w' _; go_simp; (try with_reducible rfl))
  try simp only [sIB, sC0, sCS]
  refine tkP 12 5 ?_ rfl (.inl ⟨by rfl, ?_⟩) ?_; rotate_left; focus (intro w' _; go_simp; (try with_reducible rfl))
  try simp only [sIB, sC0, sCS]
  refine tkP 13 6 ?_ rfl (.inl ⟨by rfl, ?_⟩) ?_; rotate_left; focus (intro w' _; go_simp; (try with_reducible rfl))
  try simp only [sIB, sC0, sCS]
  refine wpAnyD_done (by kernel_rfl) ?_ _
  clear h hHeld h0 n0 n1
  have h3 := blk_cell HD.out.lk.blk 3
  simp only [List.getElem?_toArray, List.getElem?_cons_zero, List.getElem?_cons_succ] at h3
  cases o with
  | none =>
    simp only [Option.getD_none, Option.isSome_none]
    go_wp2_with fail
    go_end0
    refine ⟨rfl, ⟨Aq, cq, ?_⟩, HB0.out.mono HH.out.sizes⟩
    rw [← HR.out, askQ_none (by show pairB T bel a b = none; unfold pairB; rw [HO.out]; rfl)]
    exact HD.out
  | some r =>
    simp only [Option.getD_some, Option.isSome_some]
    by_cases hlt : (r : Int) < bel
    · have HPB : Hid (pairB T bel a b = some (r : Int)) := Lib.hid (by unfold pairB; rw [HO.out]; simp [hlt])
      have hd : decide ((r : Int) < bel) = true := by simpa using hlt
      go_upto_region 4 with fail
      have h2 := blk_cell HD.out.lk.blk 2
      have n0 := blk_cell HN1.out 0
      have n1 := blk_cell HN1.out 1
      simp only [List.getElem?_toArray, List.getElem?_cons_zero, List.getElem?_cons_succ] at h2 n0 n1
      clear h3 hd HP
      refine wp_region_D (Ds := [9]) (S := fun V => V.cell? ⟨cb, 2, none⟩ = some (.pointer (some ⟨qb, 0, none⟩)) ∧ V.cell? ⟨g4, 0, none⟩ = some (.int .i64 a) ∧ V.cell? ⟨g4, 1, none⟩ = some (.int .i64 b)) (by kernel_rfl) (by exact ⟨h2, n0, n1⟩) (fun hHeld => ?_)
      (replace HD := Lib.hid HD.out.drew); (replace HB0 : Hid (Below w.heap.size w W2.drew) := Lib.hid HB0.out.drew); (have HPU := Lib.hid (by simpa only [hw.wtV] using hw.push_any HD.out.hp (r : Int) (i : Int) ⟨(i : Int), a, b⟩ hQ ht0 ht1 HD.out.sizes)); clear HN1; generalize W2.drew = W3 at *
      refine tkP 0 65 ?_ rfl (.inl ⟨by rfl, ?_⟩) ?_; rotate_left; focus (intro w' _; go_simp; (try with_reducible rfl))
      try simp only [sIB, sC0, sCS]
      refine tkP 1 66 ?_ rfl (.inl ⟨by rfl, ?_⟩) ?_; rotate_left; focus (intro w' _; go_simp; (try with_reducible rfl))
      try simp only [sIB, sC0, sCS]
      refine tkP 2 67 ?_ rfl (.inl ⟨by rfl, ?_⟩) ?_; rotate_left; focus (intro w' _; go_simp; (try with_reducible rfl))
      try simp only [sIB, sC0, sCS]
      refine tkP 4 69 ?_ rfl (.inl ⟨by rfl, ?_⟩) ?_; rotate_left; focus (intro w' _; go_simp; (try with_reducible rfl))
      try simp only [sIB, sC0, sCS]
      refine tkP 5 70 ?_ rfl (.inl ⟨by rfl, ?_⟩) ?_; rotate_left; focus (intro w' _; go_simp; (try with_reducible rfl))
      try simp only [sIB, sC0, sCS]
      refine tkP 6 71 ?_ rfl (.inl ⟨by rfl, ?_⟩) ?_; rotate_left; focus (intro w' _; go_simp; (try with_reducible rfl))
      try simp only [sIB, sC0, sCS]
      refine tkD 3 68 ?_ rfl hHeld (.inl ⟨by rfl, ?_⟩) ?_; rotate_left; focus (intro w' hSw; (try dsimp only at hSw); go_simp; (try with_reducible rfl))
      try simp only [sIB, sC0, sCS]
      refine wpAnyD_one (i := 7) (by kernel_rfl) rfl (by rfl) (fun K hK => ?_)
      go_simp
      refine hK.out _ _ hHeld (fun hHeld => ?_)
      clear hK K
      try simp only [Act.put, sIB, sC0, sCS]
      refine tkP 8 73 ?_ rfl (.inl ⟨by rfl, ?_⟩) ?_; rotate_left; focus (intro w' _; go_simp; (try with_reducible rfl))
      try simp only [sIB, sC0, sCS]
      refine wpAnyD_last (D := 9) (by decide) (by kernel_rfl) rfl (by rfl) (fun K hK => ?_)
      go_simp; refine HPU.out.mono ?_; rintro e W4 ⟨rfl, h5, hk⟩; have H5 := Lib.hid h5; have HK := Lib.hid hk; clear h5 hk; go_simp
      refine hK.out _ _ ?_
      clear hK K
      try simp only [Act.put, sIB, sC0, sCS]
      refine wpAnyD_done (by kernel_rfl) ?_ _
      go_wp2_with fail
      go_end0
      obtain ⟨Aq', cq', h6, _⟩ := H5.out
      obtain ⟨hC, hB⟩ := HD.out.queue h6 HK.out
      refine ⟨rfl, ⟨Aq', cq', ?_⟩, (HB0.out.mono HH.out.sizes).trans hB⟩
      rw [← HR.out, askQ_some HPB.out]
      exact hC
    · have hd : decide ((r : Int) < bel) = false := by simpa using hlt
      have HPB : Hid (pairB T bel a b = none) := Lib.hid (by unfold pairB; rw [HO.out]; simp; omega)
      go_wp2_with fail
      go_end0
      refine ⟨rfl, ⟨Aq, cq, ?_⟩, HB0.out.mono HH.out.sizes⟩
      rw [← HR.out, askQ_none HPB.out]
      exact HD.out
theorem wf_id {a : Int} (h : 0 ≤ a ∧ a < 1000000) : (Lit.int .i64 a).wf = true := by
  have e1 : IntKind.i64.min = -9223372036854775808 := by decide
  have e2 : IntKind.i64.max = 9223372036854775807 := by decide
  simp only [Lit.wf, e1, e2, Bool.and_eq_true, decide_eq_true_eq]
  omega
theorem asks_live (h : ChainIs w base tbase tb T sv mb mp cb qb N bel steps A c Q turn Aq cq) {p q : List Nd} {i : Nat} {a : Int} (hL : Lives N (p ++ ((i : Int), a) :: q)) (hQ : Q.length < 1000000000) (ht0 : 0 ≤ turn) (ht1 : turn < 1000000000000000000) :
    Calls Tryz.prog 179 #[.pointer (some ⟨cb, 0, none⟩), .int .i64 (i : Int)] w fun e w' => e = .returned (.tuple #[]) ∧ (∃ Aq' cq', ChainIs w' base tbase tb T sv mb mp cb qb N bel steps A c (askQ (pairB T bel) Q turn i a q).1 (askQ (pairB T bel) Q turn i a q).2 Aq' cq') ∧ Below base w w' := by
  obtain ⟨k, e, hk⟩ := hL.at_ p i a q rfl
  have e : i = k := by omega
  subst e
  rcases q with _ | ⟨⟨j, b⟩, q⟩
  · exact (asks_last h i a _ hk).mono fun e w' ⟨h1, h2⟩ => ⟨h1, by subst h2; exact ⟨Aq, cq, h⟩, by subst h2; exact Below.refl _ _⟩
  · obtain ⟨m, rfl, hm⟩ := hL.at_ (p ++ [((i : Int), a)]) j b q (by simp)
    exact asks_two h i m a _ b _ hk hm (wf_id (hL.nn ((i : Int), a) (by simp))) (wf_id (hL.nn ((m : Int), b) (by simp))) hQ ht0 ht1 _ rfl
theorem asks_ahead (h : ChainIs w base tbase tb T sv mb mp cb qb N bel steps A c Q turn Aq cq) {p q : List Nd} (hL : Lives N (p ++ q)) (hQ : Q.length < 1000000000) (ht0 : 0 ≤ turn) (ht1 : turn < 1000000000000000000) :
    Calls Tryz.prog 179 #[.pointer (some ⟨cb, 0, none⟩), .int .i64 (lastI p)] w fun e w' => e = .returned (.tuple #[]) ∧ (∃ Aq' cq', ChainIs w' base tbase tb T sv mb mp cb qb N bel steps A c (askL (pairB T bel) Q turn p q).1 (askL (pairB T bel) Q turn p q).2 Aq' cq') ∧ Below base w w' := by
  rcases List.eq_nil_or_concat p with rfl | ⟨p', x, rfl⟩
  · exact (asks_end h).mono fun e w' ⟨h1, h2⟩ => ⟨h1, by subst h2; exact ⟨Aq, cq, h⟩, by subst h2; exact Below.refl _ _⟩
  · rw [List.concat_eq_append] at *
    have hL' : Lives N (p' ++ x :: q) := by simpa using hL
    obtain ⟨k, e, _⟩ := hL'.place (x := x) (by simp)
    obtain ⟨x1, x2⟩ := x
    simp only at e
    subst e
    have := asks_live h hL' hQ ht0 ht1
    rw [lastI_snoc]
    unfold askL
    rw [List.getLast?_concat]
    exact this
end
def staleB (N : List Node) (x : Node) (a b : Int) : Bool :=
  if x.1 ≠ a then true else if x.2.2 = -1 then true else match N[x.2.2.toNat]? with
    | some y => y.1 != b
    | none => true
section
variable {w w' : World} {base tbase tb : Nat} {T : List Ent} {sv : Value} {mb mp cb qb : Nat} {N : List Node} {bel steps : Int} {A : Option Addr} {c : Nat} {Q : List (Th Wt)} {turn : Int} {Aq : Option Addr} {cq : Nat}
set_option maxHeartbeats 4000000 in
theorem stale_any (h : ChainIs w base tbase tb T sv mb mp cb qb N bel steps A c Q turn Aq cq) (i : Nat) (x : Node) (a b : Int) (hi : N[i]? = some x) (hnx : x.1 = a → x.2.2 ≠ -1 → ∃ j : Nat, x.2.2 = j ∧ ∃ y, N[j]? = some y) :
    Calls Tryz.prog 181 #[.pointer (some ⟨cb, 0, none⟩), hw.wtV ⟨(i : Int), a, b⟩] w fun e w' => e = .returned (.bool (staleB N x a b)) ∧ Below w.heap.size w w' := by
  obtain ⟨B, hB⟩ : ∃ B, staleB N x a b = B := ⟨_, rfl⟩
  rw [hB]
  have HBB := Lib.hid hB
  obtain ⟨x1, x2, x3⟩ := x
  have hlt := (List.getElem?_eq_some_iff.1 hi).1
  have hbx := (Below.refl w.heap.size w).alloc (Nat.le_refl _) (.cells #[.int .i64 (i : Int), .int .i64 a, .int .i64 b] 261)
  have hn := blk_new w (.cells #[.int .i64 (i : Int), .int .i64 a, .int .i64 b] 261)
  have HD := Lib.hid (h.below hbx (Nat.le_refl _))
  have HB0 := Lib.hid hbx
  have HN := Lib.hid hn
  have p0 : (0 : Int) ≤ (i : Int) := by omega
  have p1 : (i : Int) < (N.length : Int) := by omega
  have HI := Lib.hid hi
  have HX := Lib.hid hnx
  have HG : Hid (∃ g3, g3 = w.heap.size) := Lib.hid ⟨_, rfl⟩
  clear h hB hbx hn hi hnx
  unfold hw.wtV
  go_enter Tryz.func181, Tryz.ntmps181
  go_upto_region 1 with fail
  generalize w.alloc (.cells #[.int .i64 (i : Int), .int .i64 a, .int .i64 b] 261) = W1 at *
  obtain ⟨g, hA, a0, a1, a2⟩ := HD.out.lk.at i _ HI.out
  subst hA
  have h1 := blk_cell HD.out.lk.blk 1
  have n0 := blk_cell HN.out 0
  simp only [List.getElem?_toArray, List.getElem?_cons_zero, List.getElem?_cons_succ] at h1 a0 a1 a2 n0
  refine wp_region_D (Ds := [9]) (S := fun V => V.cell? ⟨cb, 1, none⟩ = some (.slice (some ⟨g, 0, none⟩) N.length c) ∧ V.cell? ⟨w.heap.size, 0, none⟩ = some (.int .i64 (i : Int)) ∧ V.cell? ⟨g, i * 3, none⟩ = some (.int .i64 x1) ∧ V.cell? ⟨g, i * 3 + 1, none⟩ = some (.int .i64 x2) ∧ V.cell? ⟨g, i * 3 + 2, none⟩ = some (.int .i64 x3)) (by kernel_rfl) (by exact ⟨h1, n0, a0, a1, a2⟩) (fun hHeld => ?_)
  (replace HD := Lib.hid HD.out.drew); (replace HB0 : Hid (Below w.heap.size w W1.drew) := Lib.hid HB0.out.drew); (replace HN : Hid (W1.drew.heap[w.heap.size]? = some (.cells #[.int .i64 (i : Int), .int .i64 a, .int .i64 b] 261)) := Lib.hid HN.out); generalize W1.drew = W0 at *
  refine tkP 0 6 ?_ rfl (.inl ⟨by rfl, ?_⟩) ?_; rotate_left; focus (intro w' _; go_simp; (try with_reducible rfl))
  try simp only [sIB, sC0, sCS]
  refine tkP 1 7 ?_ rfl (.inl ⟨by rfl, ?_⟩) ?_; rotate_left; focus (intro w' _; go_simp; (try with_reducible rfl))
  try simp only [sIB, sC0, sCS]
  refine tkP 2 8 ?_ rfl (.inl ⟨by rfl, ?_⟩) ?_; rotate_left; focus (intro w' _; go_simp; (try with_reducible rfl))
  try simp only [sIB, sC0, sCS]
  refine tkP 4 10 ?_ rfl (.inl ⟨by rfl, ?_⟩) ?_; rotate_left; focus (intro w' _; go_simp; (try with_reducible rfl))
  try simp only [sIB, sC0, sCS]
  refine tkD 3 9 ?_ rfl hHeld (.inl ⟨by rfl, ?_⟩) ?_; rotate_left; focus (intro w' hSw; (try dsimp only at hSw); go_simp; (try with_reducible rfl))
  try simp only [sIB, sC0, sCS]
  refine tkD 5 11 ?_ rfl hHeld (.inl ⟨by rfl, ?_⟩) ?_; rotate_left; focus (intro w' hSw; (try dsimp only at hSw); go_simp; (try with_reducible rfl))
  try simp only [sIB, sC0, sCS]
  refine tkP 6 12 ?_ rfl (.inl ⟨by rfl, ?_⟩) ?_; rotate_left; focus (intro w' _; go_simp; (try with_reducible rfl))
  try simp only [sIB, sC0, sCS]
  refine tkD 7 13 ?_ rfl hHeld (.inl ⟨by rfl, ?_⟩) ?_; rotate_left; focus (intro w' hSw; (try dsimp only at hSw); go_simp; (try with_reducible rfl))
  try simp only [sIB, sC0, sCS]
  refine wpAnyD_one (i := 8) (by kernel_rfl) rfl (by rfl) (fun K hK => ?_)
  go_simp; have hbl := (Below.refl W0.heap.size W0).alloc (Nat.le_refl _) (.cells #[.int .i64 0, .int .i64 0, .int .i64 0] 266); have h := And.intro (below_cell hbl (Nat.le_refl _) hHeld.1) (And.intro (below_cell hbl (Nat.le_refl _) hHeld.2.1) (And.intro (below_cell hbl (Nat.le_refl _) hHeld.2.2.1) (And.intro (below_cell hbl (Nat.le_refl _) hHeld.2.2.2.1) (below_cell hbl (Nat.le_refl _) hHeld.2.2.2.2)))); clear hbl
  refine hK.out _ _ h (fun hHeld => ?_)
  clear hK K
  try simp only [Act.put, sIB, sC0, sCS]
  refine wpAnyD_last (D := 9) (by decide) (by kernel_rfl) rfl (by rfl) (fun K hK => ?_)
  go_simp
  refine hK.out _ _ ?_
  clear hK K
  try simp only [Act.put, sIB, sC0, sCS]
  refine wpAnyD_done (by kernel_rfl) ?_ _
  go_upto_region 2 with fail
  clear h hHeld h1 n0 a0 a1 a2 p0 p1
  have HBW := Lib.hid ((Below.refl W0.heap.size W0).alloc (Nat.le_refl _) (.cells #[.int .i64 x1, .int .i64 x2, .int .i64 x3] 266))
  have HN5 := Lib.hid (blk_new W0 (.cells #[.int .i64 x1, .int .i64 x2, .int .i64 x3] 266))
  replace HN := Lib.hid (blk_alloc HN.out (.cells #[.int .i64 x1, .int .i64 x2, .int .i64 x3] 266))
  replace HD := Lib.hid (HD.out.below HBW.out (Nat.le_refl _))
  replace HB0 := Lib.hid (HB0.out.trans (HBW.out.mono HB0.out.size))
  clear HBW
  generalize W0.heap.size = g5 at *
  generalize W0.alloc (.cells #[.int .i64 x1, .int .i64 x2, .int .i64 x3] 266) = W2 at *
  have h1 := blk_cell HD.out.lk.blk 1
  have n1 := blk_cell HN.out 1
  have n2 := blk_cell HN.out 2
  have m0 := blk_cell HN5.out 0
  have m2 := blk_cell HN5.out 2
  simp only [List.getElem?_toArray, List.getElem?_cons_zero, List.getElem?_cons_succ] at h1 n1 n2 m0 m2
  by_cases e1 : x1 = a
  · subst e1
    by_cases e2 : x3 = -1
    · subst e2
      have HT : Hid (B = true) := Lib.hid (by rw [← HBB.out]; simp [staleB])
      refine wp_region_held_drew (S := fun V => V.cell? ⟨cb, 1, none⟩ = some (.slice (some ⟨g, 0, none⟩) N.length c) ∧ V.cell? ⟨w.heap.size, 1, none⟩ = some (.int .i64 x1) ∧ V.cell? ⟨g5, 0, none⟩ = some (.int .i64 x1) ∧ V.cell? ⟨g5, 2, none⟩ = some (.int .i64 (-1))) (by kernel_rfl) (by exact ⟨h1, n1, m0, m2⟩) (fun hHeld => ?_)
      refine tkH 0 14 ?_ rfl hHeld (.inl ⟨by rfl, ?_⟩) ?_; rotate_left; focus (intro w' hSw; (try dsimp only at hSw); go_simp; (try with_reducible rfl))
      try simp only [sIB, sC0, sCS]
      refine tkH 1 15 ?_ rfl hHeld (.inl ⟨by rfl, ?_⟩) ?_; rotate_left; focus (intro w' hSw; (try dsimp only at hSw); go_simp; (try with_reducible rfl))
      try simp only [sIB, sC0, sCS]
      refine tkH 2 16 ?_ rfl hHeld (.inl ⟨by rfl, ?_⟩) ?_; rotate_left; focus (intro w' hSw; (try dsimp only at hSw); go_simp; (try with_reducible rfl))
      try simp only [sIB, sC0, sCS]
      refine tkH 3 17 ?_ rfl hHeld (.inl ⟨by rfl, ?_⟩) ?_; rotate_left; focus (intro w' hSw; (try dsimp only at hSw); go_simp; (try with_reducible rfl))
      try simp only [sIB, sC0, sCS]
      refine tkH 4 18 ?_ rfl hHeld (.inl ⟨by rfl, ?_⟩) ?_; rotate_left; focus (intro w' hSw; (try dsimp only at hSw); go_simp; (try with_reducible rfl))
      try simp only [sIB, sC0, sCS]
      refine tkH 5 19 ?_ rfl hHeld (.inl ⟨by rfl, ?_⟩) ?_; rotate_left; focus (intro w' hSw; (try dsimp only at hSw); go_simp; (try with_reducible rfl))
      try simp only [sIB, sC0, sCS]
      refine tkH 6 20 ?_ rfl hHeld (.inl ⟨by rfl, ?_⟩) ?_; rotate_left; focus (intro w' hSw; (try dsimp only at hSw); go_simp; (try with_reducible rfl))
      try simp only [sIB, sC0, sCS]
      refine tkH 7 21 ?_ rfl hHeld (.inl ⟨by rfl, ?_⟩) ?_; rotate_left; focus (intro w' hSw; (try dsimp only at hSw); go_simp; (try with_reducible rfl))
      try simp only [sIB, sC0, sCS]
      refine tkH 8 22 ?_ rfl hHeld (.inl ⟨by rfl, ?_⟩) ?_; rotate_left; focus (intro w' hSw; (try dsimp only at hSw); go_simp; (try with_reducible rfl))
      try simp only [sIB, sC0, sCS]
      refine tkH 9 23 ?_ rfl hHeld (.inl ⟨by rfl, ?_⟩) ?_; rotate_left; focus (intro w' hSw; (try dsimp only at hSw); go_simp; (try with_reducible rfl))
      try simp only [sIB, sC0, sCS]
      refine tkH 10 24 ?_ rfl hHeld (.inl ⟨by rfl, ?_⟩) ?_; rotate_left; focus (intro w' hSw; (try dsimp only at hSw); go_simp; (try with_reducible rfl))
      try simp only [sIB, sC0, sCS]
      refine tkH 11 25 ?_ rfl hHeld (.inl ⟨by rfl, ?_⟩) ?_; rotate_left; focus (intro w' hSw; (try dsimp only at hSw); go_simp; (try with_reducible rfl))
      try simp only [sIB, sC0, sCS]
      refine tkH 12 26 undef rfl hHeld (.inr ⟨by rfl, rfl⟩) ?_; try simp only [sIB, sC0, sCS]
      refine tkH 13 27 undef rfl hHeld (.inr ⟨by rfl, rfl⟩) ?_; try simp only [sIB, sC0, sCS]
      refine tkH 14 28 undef rfl hHeld (.inr ⟨by rfl, rfl⟩) ?_; try simp only [sIB, sC0, sCS]
      refine tkH 15 29 undef rfl hHeld (.inr ⟨by rfl, rfl⟩) ?_; try simp only [sIB, sC0, sCS]
      refine tkH 16 30 undef rfl hHeld (.inr ⟨by rfl, rfl⟩) ?_; try simp only [sIB, sC0, sCS]
      refine tkH 17 31 undef rfl hHeld (.inr ⟨by rfl, rfl⟩) ?_; try simp only [sIB, sC0, sCS]
      refine tkH 18 32 undef rfl hHeld (.inr ⟨by rfl, rfl⟩) ?_; try simp only [sIB, sC0, sCS]
      refine tkH 19 33 undef rfl hHeld (.inr ⟨by rfl, rfl⟩) ?_; try simp only [sIB, sC0, sCS]
      refine tkH 20 34 undef rfl hHeld (.inr ⟨by rfl, rfl⟩) ?_; try simp only [sIB, sC0, sCS]
      refine tkH 21 35 undef rfl hHeld (.inr ⟨by rfl, rfl⟩) ?_; try simp only [sIB, sC0, sCS]
      refine tkH 22 36 undef rfl hHeld (.inr ⟨by rfl, rfl⟩) ?_; try simp only [sIB, sC0, sCS]
      refine tkH 23 37 undef rfl hHeld (.inr ⟨by rfl, rfl⟩) ?_; try simp only [sIB, sC0, sCS]
      refine tkH 24 38 undef rfl hHeld (.inr ⟨by rfl, rfl⟩) ?_; try simp only [sIB, sC0, sCS]
      refine tkH 25 39 ?_ rfl hHeld (.inl ⟨by rfl, ?_⟩) ?_; rotate_left; focus (intro w' hSw; (try dsimp only at hSw); go_simp; (try with_reducible rfl))
      try simp only [sIB, sC0, sCS]
      refine tkH 26 4 ?_ rfl hHeld (.inl ⟨by rfl, ?_⟩) ?_; rotate_left; focus (intro w' hSw; (try dsimp only at hSw); go_simp; (try with_reducible rfl))
      try simp only [sIB, sC0, sCS]
      refine wpAnyH_done (by kernel_rfl) ?_ _
      go_wp2_with fail
      go_ret
      exact ⟨ret_bool HT.out.symm, HB0.out.drew⟩
    · obtain ⟨j, hj, y, hy⟩ := HX.out rfl e2
      simp only at hj
      subst hj
      have q2 : ((j : Int) == -1) = false := by simp
      have HT : Hid (B = (y.1 != b)) := Lib.hid (by rw [← HBB.out]; simp [staleB, hy])
      have hlt2 := (List.getElem?_eq_some_iff.1 hy).1
      obtain ⟨g', e, b0, b1, b2⟩ := HD.out.lk.at j _ hy
      injection e with e
      injection e with e
      subst e
      have p2 : (0 : Int) ≤ (j : Int) := by omega
      have p3 : (j : Int) < (N.length : Int) := by omega
      clear e2 hy
      refine wp_region_held_drew (S := fun V => V.cell? ⟨cb, 1, none⟩ = some (.slice (some ⟨g, 0, none⟩) N.length c) ∧ V.cell? ⟨w.heap.size, 1, none⟩ = some (.int .i64 x1) ∧ V.cell? ⟨w.heap.size, 2, none⟩ = some (.int .i64 b) ∧ V.cell? ⟨g5, 0, none⟩ = some (.int .i64 x1) ∧ V.cell? ⟨g5, 2, none⟩ = some (.int .i64 (j : Int)) ∧ V.cell? ⟨g, j * 3, none⟩ = some (.int .i64 y.1)) (by kernel_rfl) (by exact ⟨h1, n1, n2, m0, m2, b0⟩) (fun hHeld => ?_)
      refine tkH 0 14 ?_ rfl hHeld (.inl ⟨by rfl, ?_⟩) ?_; rotate_left; focus (intro w' hSw; (try dsimp only at hSw); go_simp; (try with_reducible rfl))
      try simp only [sIB, sC0, sCS]
      refine tkH 1 15 ?_ rfl hHeld (.inl ⟨by rfl, ?_⟩) ?_; rotate_left; focus (intro w' hSw; (try dsimp only at hSw); go_simp; (try with_reducible rfl))
      try simp only [sIB, sC0, sCS]
      refine tkH 2 16 ?_ rfl hHeld (.inl ⟨by rfl, ?_⟩) ?_; rotate_left; focus (intro w' hSw; (try dsimp only at hSw); go_simp; (try with_reducible rfl))
      try simp only [sIB, sC0, sCS]
      refine tkH 3 17 ?_ rfl hHeld (.inl ⟨by rfl, ?_⟩) ?_; rotate_left; focus (intro w' hSw; (try dsimp only at hSw); go_simp; (try with_reducible rfl))
      try simp only [sIB, sC0, sCS]
      refine tkH 4 18 ?_ rfl hHeld (.inl ⟨by rfl, ?_⟩) ?_; rotate_left; focus (intro w' hSw; (try dsimp only at hSw); go_simp; (try with_reducible rfl))
      try simp only [sIB, sC0, sCS]
      refine tkH 5 19 ?_ rfl hHeld (.inl ⟨by rfl, ?_⟩) ?_; rotate_left; focus (intro w' hSw; (try dsimp only at hSw); go_simp; (try with_reducible rfl))
      try simp only [sIB, sC0, sCS]
      refine tkH 6 20 ?_ rfl hHeld (.inl ⟨by rfl, ?_⟩) ?_; rotate_left; focus (intro w' hSw; (try dsimp only at hSw); go_simp; (try with_reducible rfl))
      try simp only [sIB, sC0, sCS]
      refine tkH 7 21 ?_ rfl hHeld (.inl ⟨by rfl, ?_⟩) ?_; rotate_left; focus (intro w' hSw; (try dsimp only at hSw); go_simp; (try with_reducible rfl))
      try simp only [sIB, sC0, sCS]
      refine tkH 8 22 ?_ rfl hHeld (.inl ⟨by rfl, ?_⟩) ?_; rotate_left; focus (intro w' hSw; (try dsimp only at hSw); go_simp; (try with_reducible rfl))
      try simp only [sIB, sC0, sCS]
      refine tkH 9 23 ?_ rfl hHeld (.inl ⟨by rfl, ?_⟩) ?_; rotate_left; focus (intro w' hSw; (try dsimp only at hSw); go_simp; (try with_reducible rfl))
      try simp only [sIB, sC0, sCS]
      refine tkH 10 24 ?_ rfl hHeld (.inl ⟨by rfl, ?_⟩) ?_; rotate_left; focus (intro w' hSw; (try dsimp only at hSw); go_simp; (try with_reducible rfl))
      try simp only [sIB, sC0, sCS]
      refine tkH 11 25 ?_ rfl hHeld (.inl ⟨by rfl, ?_⟩) ?_; rotate_left; focus (intro w' hSw; (try dsimp only at hSw); go_simp; (try with_reducible rfl))
      try simp only [sIB, sC0, sCS]
      refine tkH 12 26 ?_ rfl hHeld (.inl ⟨by rfl, ?_⟩) ?_; rotate_left; focus (intro w' hSw; (try dsimp only at hSw); go_simp; (try with_reducible rfl))
      try simp only [sIB, sC0, sCS]
      refine tkH 13 27 ?_ rfl hHeld (.inl ⟨by rfl, ?_⟩) ?_; rotate_left; focus (intro w' hSw; (try dsimp only at hSw); go_simp; (try with_reducible rfl))
      try simp only [sIB, sC0, sCS]
      refine tkH 14 28 ?_ rfl hHeld (.inl ⟨by rfl, ?_⟩) ?_; rotate_left; focus (intro w' hSw; (try dsimp only at hSw); go_simp; (try with_reducible rfl))
      try simp only [sIB, sC0, sCS]
      refine tkH 15 29 ?_ rfl hHeld (.inl ⟨by rfl, ?_⟩) ?_; rotate_left; focus (intro w' hSw; (try dsimp only at hSw); go_simp; (try with_reducible rfl))
      try simp only [sIB, sC0, sCS]
      refine tkH 16 30 ?_ rfl hHeld (.inl ⟨by rfl, ?_⟩) ?_; rotate_left; focus (intro w' hSw; (try dsimp only at hSw); go_simp; (try with_reducible rfl))
      try simp only [sIB, sC0, sCS]
      refine tkH 17 31 ?_ rfl hHeld (.inl ⟨by rfl, ?_⟩) ?_; rotate_left; focus (intro w' hSw; (try dsimp only at hSw); go_simp; (try with_reducible rfl))
      try simp only [sIB, sC0, sCS]
      refine tkH 18 32 ?_ rfl hHeld (.inl ⟨by rfl, ?_⟩) ?_; rotate_left; focus (intro w' hSw; (try dsimp only at hSw); go_simp; (try with_reducible rfl))
      try simp only [sIB, sC0, sCS]
      refine tkH 19 33 ?_ rfl hHeld (.inl ⟨by rfl, ?_⟩) ?_; rotate_left; focus (intro w' hSw; (try dsimp only at hSw); go_simp; (try with_reducible rfl))
      try simp only [sIB, sC0, sCS]
      refine tkH 20 34 ?_ rfl hHeld (.inl ⟨by rfl, ?_⟩) ?_; rotate_left; focus (intro w' hSw; (try dsimp only at hSw); go_simp; (try with_reducible rfl))
      try simp only [sIB, sC0, sCS]
      refine tkH 21 35 ?_ rfl hHeld (.inl ⟨by rfl, ?_⟩) ?_; rotate_left; focus (intro w' hSw; (try dsimp only at hSw); go_simp; (try with_reducible rfl))
      try simp only [sIB, sC0, sCS]
      refine tkH 22 36 ?_ rfl hHeld (.inl ⟨by rfl, ?_⟩) ?_; rotate_left; focus (intro w' hSw; (try dsimp only at hSw); go_simp; (try with_reducible rfl))
      try simp only [sIB, sC0, sCS]
      refine tkH 23 37 ?_ rfl hHeld (.inl ⟨by rfl, ?_⟩) ?_; rotate_left; focus (intro w' hSw; (try dsimp only at hSw); go_simp; (try with_reducible rfl))
      try simp only [sIB, sC0, sCS]
      refine tkH 24 38 ?_ rfl hHeld (.inl ⟨by rfl, ?_⟩) ?_; rotate_left; focus (intro w' hSw; (try dsimp only at hSw); go_simp; (try with_reducible rfl))
      try simp only [sIB, sC0, sCS]
      refine tkH 25 39 ?_ rfl hHeld (.inl ⟨by rfl, ?_⟩) ?_; rotate_left; focus (intro w' hSw; (try dsimp only at hSw); go_simp; (try with_reducible rfl))
      try simp only [sIB, sC0, sCS]
      refine tkH 26 4 ?_ rfl hHeld (.inl ⟨by rfl, ?_⟩) ?_; rotate_left; focus (intro w' hSw; (try dsimp only at hSw); go_simp; (try with_reducible rfl))
      try simp only [sIB, sC0, sCS]
      refine wpAnyH_done (by kernel_rfl) ?_ _
      go_wp2_with fail
      go_ret
      exact ⟨ret_bool HT.out.symm, HB0.out.drew⟩
  · have q1 : (x1 != a) = true := by simpa using e1
    have HT : Hid (B = true) := Lib.hid (by rw [← HBB.out]; simp [staleB, e1])
    clear e1
    refine wp_region_held_drew (S := fun V => V.cell? ⟨cb, 1, none⟩ = some (.slice (some ⟨g, 0, none⟩) N.length c) ∧ V.cell? ⟨w.heap.size, 1, none⟩ = some (.int .i64 a) ∧ V.cell? ⟨g5, 0, none⟩ = some (.int .i64 x1)) (by kernel_rfl) (by exact ⟨h1, n1, m0⟩) (fun hHeld => ?_)
    refine tkH 0 14 ?_ rfl hHeld (.inl ⟨by rfl, ?_⟩) ?_; rotate_left; focus (intro w' hSw; (try dsimp only at hSw); go_simp; (try with_reducible rfl))
    try simp only [sIB, sC0, sCS]
    refine tkH 1 15 ?_ rfl hHeld (.inl ⟨by rfl, ?_⟩) ?_; rotate_left; focus (intro w' hSw; (try dsimp only at hSw); go_simp; (try with_reducible rfl))
    try simp only [sIB, sC0, sCS]
    refine tkH 2 16 ?_ rfl hHeld (.inl ⟨by rfl, ?_⟩) ?_; rotate_left; focus (intro w' hSw; (try dsimp only at hSw); go_simp; (try with_reducible rfl))
    try simp only [sIB, sC0, sCS]
    refine tkH 3 17 ?_ rfl hHeld (.inl ⟨by rfl, ?_⟩) ?_; rotate_left; focus (intro w' hSw; (try dsimp only at hSw); go_simp; (try with_reducible rfl))
    try simp only [sIB, sC0, sCS]
    refine tkH 4 18 ?_ rfl hHeld (.inl ⟨by rfl, ?_⟩) ?_; rotate_left; focus (intro w' hSw; (try dsimp only at hSw); go_simp; (try with_reducible rfl))
    try simp only [sIB, sC0, sCS]
    refine tkH 5 19 ?_ rfl hHeld (.inl ⟨by rfl, ?_⟩) ?_; rotate_left; focus (intro w' hSw; (try dsimp only at hSw); go_simp; (try with_reducible rfl))
    try simp only [sIB, sC0, sCS]
    refine tkH 6 20 ?_ rfl hHeld (.inl ⟨by rfl, ?_⟩) ?_; rotate_left; focus (intro w' hSw; (try dsimp only at hSw); go_simp; (try with_reducible rfl))
    try simp only [sIB, sC0, sCS]
    refine tkH 7 21 undef rfl hHeld (.inr ⟨by rfl, rfl⟩) ?_; try simp only [sIB, sC0, sCS]
    refine tkH 8 22 undef rfl hHeld (.inr ⟨by rfl, rfl⟩) ?_; try simp only [sIB, sC0, sCS]
    refine tkH 9 23 undef rfl hHeld (.inr ⟨by rfl, rfl⟩) ?_; try simp only [sIB, sC0, sCS]
    refine tkH 10 24 ?_ rfl hHeld (.inl ⟨by rfl, ?_⟩) ?_; rotate_left; focus (intro w' hSw; (try dsimp only at hSw); go_simp; (try with_reducible rfl))
    try simp only [sIB, sC0, sCS]
    refine tkH 11 25 ?_ rfl hHeld (.inl ⟨by rfl, ?_⟩) ?_; rotate_left; focus (intro w' hSw; (try dsimp only at hSw); go_simp; (try with_reducible rfl))
    try simp only [sIB, sC0, sCS]
    refine tkH 12 26 undef rfl hHeld (.inr ⟨by rfl, rfl⟩) ?_; try simp only [sIB, sC0, sCS]
    refine tkH 13 27 undef rfl hHeld (.inr ⟨by rfl, rfl⟩) ?_; try simp only [sIB, sC0, sCS]
    refine tkH 14 28 undef rfl hHeld (.inr ⟨by rfl, rfl⟩) ?_; try simp only [sIB, sC0, sCS]
    refine tkH 15 29 undef rfl hHeld (.inr ⟨by rfl, rfl⟩) ?_; try simp only [sIB, sC0, sCS]
    refine tkH 16 30 undef rfl hHeld (.inr ⟨by rfl, rfl⟩) ?_; try simp only [sIB, sC0, sCS]
    refine tkH 17 31 undef rfl hHeld (.inr ⟨by rfl, rfl⟩) ?_; try simp only [sIB, sC0, sCS]
    refine tkH 18 32 undef rfl hHeld (.inr ⟨by rfl, rfl⟩) ?_; try simp only [sIB, sC0, sCS]
    refine tkH 19 33 undef rfl hHeld (.inr ⟨by rfl, rfl⟩) ?_; try simp only [sIB, sC0, sCS]
    refine tkH 20 34 undef rfl hHeld (.inr ⟨by rfl, rfl⟩) ?_; try simp only [sIB, sC0, sCS]
    refine tkH 21 35 undef rfl hHeld (.inr ⟨by rfl, rfl⟩) ?_; try simp only [sIB, sC0, sCS]
    refine tkH 22 36 undef rfl hHeld (.inr ⟨by rfl, rfl⟩) ?_; try simp only [sIB, sC0, sCS]
    refine tkH 23 37 undef rfl hHeld (.inr ⟨by rfl, rfl⟩) ?_; try simp only [sIB, sC0, sCS]
    refine tkH 24 38 undef rfl hHeld (.inr ⟨by rfl, rfl⟩) ?_; try simp only [sIB, sC0, sCS]
    refine tkH 25 39 ?_ rfl hHeld (.inl ⟨by rfl, ?_⟩) ?_; rotate_left; focus (intro w' hSw; (try dsimp only at hSw); go_simp; (try with_reducible rfl))
    try simp only [sIB, sC0, sCS]
    refine tkH 26 4 ?_ rfl hHeld (.inl ⟨by rfl, ?_⟩) ?_; rotate_left; focus (intro w' hSw; (try dsimp only at hSw); go_simp; (try with_reducible rfl))
    try simp only [sIB, sC0, sCS]
    refine wpAnyH_done (by kernel_rfl) ?_ _
    go_wp2_with fail
    go_ret
    exact ⟨ret_bool HT.out.symm, HB0.out.drew⟩
end
section
variable {w w' : World} {base tbase tb : Nat} {T : List Ent} {sv : Value} {mb mp cb qb : Nat} {N : List Node} {bel steps : Int} {A : Option Addr} {c g : Nat} {Q : List (Th Wt)} {turn : Int} {Aq : Option Addr} {cq : Nat}
theorem LinkIs.set (h : LinkIs w base cb tb qb N bel steps (some ⟨g, 0, none⟩) c) {N' : List Node} {j : Nat} {u : Int} (hl : N'.length = N.length) (hf : N'.flatMap encN = (N.flatMap encN).set j (.int .i64 u)) : LinkIs (w.setCell ⟨g, j, none⟩ (.int .i64 u)) base cb tb qb N' bel steps (some ⟨g, 0, none⟩) c := by
  refine ⟨?_, ?_, h.le⟩
  · rw [hl]
    exact blk_far h.blk (fun e => row_ne2 h.row h.blk (by decide) (by rw [show cb = g from e])) _
  · rw [hl, hf]
    exact own_set h.row j _
theorem LinkIs.set_steps (h : LinkIs w base cb tb qb N bel steps (some ⟨g, 0, none⟩) c) {u : Int} : LinkIs (w.setCell ⟨cb, 4, none⟩ (.int .i64 u)) base cb tb qb N bel u (some ⟨g, 0, none⟩) c := by
  refine ⟨by simpa using blk_set h.blk 4 (.int .i64 u), ?_, h.le⟩
  exact own_keep h.row ((Keep.refl (fun x => x = cb) w).setCell (p := ⟨cb, 4, none⟩) (.inl rfl) _) (fun x hx e => row_ne2 h.row h.blk (by decide) (by rw [hw.own_addr h.row x hx, e]))
theorem LinkIs.cellAt (h : LinkIs w base cb tb qb N bel steps (some ⟨g, 0, none⟩) c) (j : Nat) (hj : j < N.length * 3) : (∃ v, w.cell? ⟨g, j, none⟩ = some v) ∧ w.frozen? ⟨g, j, none⟩ = false :=
  hw.own_cells h.row (by omega) j hj
set_option maxHeartbeats 4000000 in
theorem join_any (h : ChainIs w base tbase tb T sv mb mp cb qb N bel steps A c Q turn Aq cq) {L1 L2 : List Nd} {i j : Nat} {a b r : Int} (hL : Lives N (L1 ++ ((i : Int), a) :: ((j : Int), b) :: L2)) (hr : 0 ≤ r ∧ r < 1000000)
    (hQ : Q.length + 1 < 1000000000) (ht0 : 0 ≤ turn) (ht1 : turn + 1 < 1000000000000000000) (hs0 : 0 ≤ steps) (hs1 : steps < 1000000000000000000) (R : List (Th Wt) × Int)
    (hR : askQ (pairB T bel) (askL (pairB T bel) Q turn L1 (((i : Int), r) :: L2)).1 (askL (pairB T bel) Q turn L1 (((i : Int), r) :: L2)).2 i r L2 = R) :
    Calls Tryz.prog 182 #[.pointer (some ⟨cb, 0, none⟩), .int .i64 (i : Int), .int .i64 r] w fun e w' => e = .returned (.tuple #[]) ∧ (∃ Aq' cq', ChainIs w' base tbase tb T sv mb mp cb qb (joinN N i j r (kOf L2)) bel (steps + 1) A c R.1 R.2 Aq' cq') ∧ Below base w w' := by
  obtain ⟨ki, e, hi⟩ := hL.at_ L1 i a _ rfl
  have e : i = ki := by omega
  subst e
  obtain ⟨kj, e, hj⟩ := hL.at_ (L1 ++ [((i : Int), a)]) j b L2 (by simp)
  have e : j = kj := by omega
  subst e
  rw [headI_cons] at hi
  rw [← Lives.aft (N := N) (L1 := L1 ++ [((i : Int), a)]) (x := ((j : Int), b)) (L2 := L2) (by simpa using hL)] at hj
  have HLV := Lib.hid (hL.join (r := r) hr)
  have hkm : ∀ m, kOf L2 = some m → m < N.length := by
    intro m hm
    rcases L2 with _ | ⟨y, L2⟩
    · simp [kOf] at hm
    · obtain ⟨k, h1, h2⟩ := hL.place (x := y) (by simp)
      simp only [kOf, List.head?_cons, Option.map_some, Option.some.injEq] at hm
      omega
  have HQL : Hid ((askL (pairB T bel) Q turn L1 (((i : Int), r) :: L2)).1.length < 1000000000 ∧ 0 ≤ (askL (pairB T bel) Q turn L1 (((i : Int), r) :: L2)).2 ∧ (askL (pairB T bel) Q turn L1 (((i : Int), r) :: L2)).2 < 1000000000000000000) := Lib.hid (by
    have := askL_len (P := pairB T bel) (Q := Q) (turn := turn) (p := L1) (q := ((i : Int), r) :: L2)
    omega)
  generalize hk : kOf L2 = k at *
  have hlt := (List.getElem?_eq_some_iff.1 hi).1
  have hlt2 := (List.getElem?_eq_some_iff.1 hj).1
  obtain ⟨g, rfl, a0, a1, a2⟩ := h.lk.at i _ hi
  obtain ⟨g', e, b0, b1, b2⟩ := h.lk.at j _ hj
  injection e with e
  injection e with e
  subst e
  have h1 := blk_cell h.lk.blk 1
  simp only [List.getElem?_toArray, List.getElem?_cons_zero, List.getElem?_cons_succ] at h1 a2 b0 b2
  have p0 : (0 : Int) ≤ (i : Int) := by omega
  have p1 : (i : Int) < (N.length : Int) := by omega
  have p2 : (0 : Int) ≤ (j : Int) := by omega
  have p3 : (j : Int) < (N.length : Int) := by omega
  have z0 := (h.lk.cellAt (j * 3) (by omega)).2
  have HH := Lib.hid h
  have HR := Lib.hid hR
  have HK : Hid (∀ m, k = some m → m < N.length) := Lib.hid hkm
  clear hi hj h a0 a1 b1 hL hR hk hkm
  go_enter Tryz.func182, Tryz.ntmps182
  go_upto_region 3 with fail
  have HL1 := Lib.hid (HH.out.lk.set (by rw [List.length_modify]) (flat_id N (-2) j hlt2))
  have HK1 : Hid (Keep (fun x => x = cb ∨ (some ⟨g, 0, none⟩ : Option Addr) = some ⟨x, 0, none⟩) w (w.setCell ⟨g, j * 3, none⟩ (.int .i64 (-2)))) := Lib.hid ((Keep.refl _ _).setCell (p := ⟨g, j * 3, none⟩) (.inl (.inr rfl)) _)
  clear z0 h1 a2 b0 b2
  generalize w.setCell ⟨g, j * 3, none⟩ (.int .i64 (-2)) = W1 at *
  have h1 := blk_cell HL1.out.blk 1
  simp only [List.getElem?_toArray, List.getElem?_cons_zero, List.getElem?_cons_succ, List.length_modify] at h1
  refine wp_region_D (Ds := [14, 17]) (S := fun V => V.cell? ⟨cb, 1, none⟩ = some (.slice (some ⟨g, 0, none⟩) N.length c)) (by kernel_rfl) (by exact h1) (fun hHeld => ?_)
  (replace HL1 : Hid (LinkIs W1.drew base cb tb qb (N.modify j (idN (-2))) bel steps (some ⟨g, 0, none⟩) c) := Lib.hid (HL1.out.below (B := W1.heap.size) ⟨rfl, rfl, rfl, Nat.le_refl _, fun _ _ => rfl⟩ (Nat.le_refl _))); (replace HK1 := Lib.hid HK1.out.drew); clear h1; generalize W1.drew = W2 at *
  refine tkP 0 31 ?_ rfl (.inl ⟨by rfl, ?_⟩) ?_; rotate_left; focus (intro w' _; go_simp; (try with_reducible rfl))
  try simp only [sIB, sC0, sCS]
  refine tkP 1 32 ?_ rfl (.inl ⟨by rfl, ?_⟩) ?_; rotate_left; focus (intro w' _; go_simp; (try with_reducible rfl))
  try simp only [sIB, sC0, sCS]
  refine tkP 2 33 ?_ rfl (.inl ⟨by rfl, ?_⟩) ?_; rotate_left; focus (intro w' _; go_simp; (try with_reducible rfl))
  try simp only [sIB, sC0, sCS]
  refine tkP 4 35 ?_ rfl (.inl ⟨by rfl, ?_⟩) ?_; rotate_left; focus (intro w' _; go_simp; (try with_reducible rfl))
  try simp only [sIB, sC0, sCS]
  refine tkP 5 36 ?_ rfl (.inl ⟨by rfl, ?_⟩) ?_; rotate_left; focus (intro w' _; go_simp; (try with_reducible rfl))
  try simp only [sIB, sC0, sCS]
  refine tkP 6 37 ?_ rfl (.inl ⟨by rfl, ?_⟩) ?_; rotate_left; focus (intro w' _; go_simp; (try with_reducible rfl))
  try simp only [sIB, sC0, sCS]
  refine tkP 7 38 ?_ rfl (.inl ⟨by rfl, ?_⟩) ?_; rotate_left; focus (intro w' _; go_simp; (try with_reducible rfl))
  try simp only [sIB, sC0, sCS]
  refine tkP 9 40 ?_ rfl (.inl ⟨by rfl, ?_⟩) ?_; rotate_left; focus (intro w' _; go_simp; (try with_reducible rfl))
  try simp only [sIB, sC0, sCS]
  refine tkP 10 41 ?_ rfl (.inl ⟨by rfl, ?_⟩) ?_; rotate_left; focus (intro w' _; go_simp; (try with_reducible rfl))
  try simp only [sIB, sC0, sCS]
  refine tkP 11 42 ?_ rfl (.inl ⟨by rfl, ?_⟩) ?_; rotate_left; focus (intro w' _; go_simp; (try with_reducible rfl))
  try simp only [sIB, sC0, sCS]
  refine tkD 3 34 ?_ rfl hHeld (.inl ⟨by rfl, ?_⟩) ?_; rotate_left; focus (intro w' hSw; (try dsimp only at hSw); go_simp; (try with_reducible rfl))
  try simp only [sIB, sC0, sCS]
  refine tkD 8 39 ?_ rfl hHeld (.inl ⟨by rfl, ?_⟩) ?_; rotate_left; focus (intro w' hSw; (try dsimp only at hSw); go_simp; (try with_reducible rfl))
  try simp only [sIB, sC0, sCS]
  refine tkP 12 43 ?_ rfl (.inl ⟨by rfl, ?_⟩) ?_; rotate_left; focus (intro w' _; go_simp; (try with_reducible rfl))
  try simp only [sIB, sC0, sCS]
  refine tkP 13 44 ?_ rfl (.inl ⟨by rfl, ?_⟩) ?_; rotate_left; focus (intro w' _; go_simp; (try with_reducible rfl))
  try simp only [sIB, sC0, sCS]
  refine wpAnyD_last (D := 14) (by decide) (by kernel_rfl) rfl (by rfl) (fun K hK => ?_)
  obtain ⟨⟨v0, c0⟩, z0⟩ := HL1.out.cellAt (i * 3) (by rw [List.length_modify]; omega); go_simp; have HL2 := Lib.hid (HL1.out.set (N' := (N.modify j (idN (-2))).modify i (idN r)) (by simp) (flat_id (N.modify j (idN (-2))) r i (by rw [List.length_modify]; exact hlt))); have HK2 := Lib.hid (HK1.out.setCell (p := ⟨g, i * 3, none⟩) (.inl (.inr rfl)) (.int .i64 r)); clear c0 z0; generalize W2.setCell ⟨g, i * 3, none⟩ (.int .i64 r) = W3 at *
  refine hK.out _ _ ?_
  clear hK K
  try simp only [Act.put, sIB, sC0, sCS]
  refine tkP 15 45 ?_ rfl (.inl ⟨by rfl, ?_⟩) ?_; rotate_left; focus (intro w' _; go_simp; (try with_reducible rfl))
  try simp only [sIB, sC0, sCS]
  refine tkP 16 46 ?_ rfl (.inl ⟨by rfl, ?_⟩) ?_; rotate_left; focus (intro w' _; go_simp; (try with_reducible rfl))
  try simp only [sIB, sC0, sCS]
  refine wpAnyD_last (D := 17) (by decide) (by kernel_rfl) rfl (by rfl) (fun K hK => ?_)
  obtain ⟨⟨v0, c0⟩, z0⟩ := HL2.out.cellAt (i * 3 + 2) (by rw [List.length_modify, List.length_modify]; omega); go_simp; have HL3 := Lib.hid (HL2.out.set (N' := ((N.modify j (idN (-2))).modify i (idN r)).modify i (nextN (aftI k))) (by simp) (flat_next ((N.modify j (idN (-2))).modify i (idN r)) (aftI k) i (by rw [List.length_modify, List.length_modify]; exact hlt))); have HK3 := Lib.hid (HK2.out.setCell (p := ⟨g, i * 3 + 2, none⟩) (.inl (.inr rfl)) (.int .i64 (aftI k))); clear c0 z0; generalize W3.setCell ⟨g, i * 3 + 2, none⟩ (.int .i64 (aftI k)) = W4 at *
  refine hK.out _ _ ?_
  clear hK K
  try simp only [Act.put, sIB, sC0, sCS]
  refine wpAnyD_done (by kernel_rfl) ?_ _
  cases k with
  | none =>
    simp only [aftI] at *
    have HL4 : Hid (LinkIs W4 base cb tb qb (joinN N i j r none) bel steps (some ⟨g, 0, none⟩) c) := Lib.hid HL3.out
    have HK4 := HK3
    clear HL1 HL2 HL3 HK1 HK2 HK3
    go_upto_region 6 with fail
    have g4 := blk_cell HL4.out.blk 4
    have z4 := blk_froz HL4.out.blk 4
    simp only [List.getElem?_toArray, List.getElem?_cons_zero, List.getElem?_cons_succ] at g4
    have ws : IntKind.i64.wrap (steps + 1) = steps + 1 := IntWalk.i64_in _ (by omega)
    go_upto_region 7 with fail
    clear ws
    have HL5 := Lib.hid (HL4.out.set_steps (u := steps + 1))
    have HK5 := Lib.hid (HK4.out.setCell (p := ⟨cb, 4, none⟩) (.inl (.inl rfl)) (.int .i64 (steps + 1)))
    clear g4 z4
    generalize W4.setCell ⟨cb, 4, none⟩ (.int .i64 (steps + 1)) = W5 at *
    obtain ⟨hC, hB⟩ := HH.out.link HL5.out HK5.out
    have HC := Lib.hid hC
    have HB := Lib.hid hB
    clear hC hB
    have hlv := HLV.out
    obtain ⟨ki, e, hki⟩ := hlv.at_ L1 i r L2 rfl
    have e : i = ki := by omega
    subst e
    obtain ⟨g', e, a0, a1, a2⟩ := HL5.out.at i _ hki
    injection e with e
    injection e with e
    subst e
    have h1 := blk_cell HL5.out.blk 1
    simp only [List.getElem?_toArray, List.getElem?_cons_zero, List.getElem?_cons_succ] at h1 a1
    rw [joinN_len] at h1
    clear hki hlv a0 a2
    go_wp2_with fail
    refine (asks_ahead HC.out HLV.out (by omega) ht0 (by omega)).mono ?_
    rintro e W6 ⟨rfl, ⟨Aq6, cq6, h6⟩, hb6⟩
    have H6 := Lib.hid h6
    have HB6 := Lib.hid (HB.out.trans hb6)
    clear h6 hb6
    go_wp2_with fail
    refine (asks_live H6.out HLV.out HQL.out.1 HQL.out.2.1 HQL.out.2.2).mono ?_
    rintro e W7 ⟨rfl, ⟨Aq7, cq7, h7⟩, hb7⟩
    have H7 := Lib.hid h7
    have HB7 := Lib.hid (HB6.out.trans hb7)
    clear h7 hb7
    go_wp2_with fail
    go_end0
    exact ⟨rfl, ⟨Aq7, cq7, by rw [← HR.out]; exact H7.out⟩, HB7.out⟩
  | some m =>
    have hm := HK.out m rfl
    simp only [aftI] at *
    have q1 : ((m : Int) != -1) = true := by simp
    have p4 : (0 : Int) ≤ (m : Int) := by omega
    have p5 : (m : Int) < (N.length : Int) := by omega
    have h1 := blk_cell HL3.out.blk 1
    simp only [List.getElem?_toArray, List.getElem?_cons_zero, List.getElem?_cons_succ, List.length_modify] at h1
    obtain ⟨⟨v0, c0⟩, z0⟩ := HL3.out.cellAt (m * 3 + 1) (by rw [List.length_modify, List.length_modify, List.length_modify]; omega)
    go_upto_region 6 with fail
    have HL4 : Hid (LinkIs (W4.setCell ⟨g, m * 3 + 1, none⟩ (.int .i64 (i : Int))) base cb tb qb (joinN N i j r (some m)) bel steps (some ⟨g, 0, none⟩) c) := Lib.hid (HL3.out.set (by rw [joinN_len]; simp) (flat_ahead (((N.modify j (idN (-2))).modify i (idN r)).modify i (nextN (aftI (some m)))) (i : Int) m (by simp only [List.length_modify]; exact hm)))
    have HK4 := Lib.hid (HK3.out.setCell (p := ⟨g, m * 3 + 1, none⟩) (.inl (.inr rfl)) (.int .i64 (i : Int)))
    clear HL1 HL2 HL3 HK1 HK2 HK3 c0 z0 h1
    generalize W4.setCell ⟨g, m * 3 + 1, none⟩ (.int .i64 (i : Int)) = W4 at *
    go_upto_region 6 with fail
    have g4 := blk_cell HL4.out.blk 4
    have z4 := blk_froz HL4.out.blk 4
    simp only [List.getElem?_toArray, List.getElem?_cons_zero, List.getElem?_cons_succ] at g4
    have ws : IntKind.i64.wrap (steps + 1) = steps + 1 := IntWalk.i64_in _ (by omega)
    go_upto_region 7 with fail
    clear ws
    have HL5 := Lib.hid (HL4.out.set_steps (u := steps + 1))
    have HK5 := Lib.hid (HK4.out.setCell (p := ⟨cb, 4, none⟩) (.inl (.inl rfl)) (.int .i64 (steps + 1)))
    clear g4 z4
    generalize W4.setCell ⟨cb, 4, none⟩ (.int .i64 (steps + 1)) = W5 at *
    obtain ⟨hC, hB⟩ := HH.out.link HL5.out HK5.out
    have HC := Lib.hid hC
    have HB := Lib.hid hB
    clear hC hB
    have hlv := HLV.out
    obtain ⟨ki, e, hki⟩ := hlv.at_ L1 i r L2 rfl
    have e : i = ki := by omega
    subst e
    obtain ⟨g', e, a0, a1, a2⟩ := HL5.out.at i _ hki
    injection e with e
    injection e with e
    subst e
    have h1 := blk_cell HL5.out.blk 1
    simp only [List.getElem?_toArray, List.getElem?_cons_zero, List.getElem?_cons_succ] at h1 a1
    rw [joinN_len] at h1
    clear hki hlv a0 a2
    go_wp2_with fail
    refine (asks_ahead HC.out HLV.out (by omega) ht0 (by omega)).mono ?_
    rintro e W6 ⟨rfl, ⟨Aq6, cq6, h6⟩, hb6⟩
    have H6 := Lib.hid h6
    have HB6 := Lib.hid (HB.out.trans hb6)
    clear h6 hb6
    go_wp2_with fail
    refine (asks_live H6.out HLV.out HQL.out.1 HQL.out.2.1 HQL.out.2.2).mono ?_
    rintro e W7 ⟨rfl, ⟨Aq7, cq7, h7⟩, hb7⟩
    have H7 := Lib.hid h7
    have HB7 := Lib.hid (HB6.out.trans hb7)
    clear h7 hb7
    go_wp2_with fail
    go_end0
    exact ⟨rfl, ⟨Aq7, cq7, by rw [← HR.out]; exact H7.out⟩, HB7.out⟩
end
theorem stale_spec {N : List Node} {L : List Nd} (hL : Lives N L) {k : Nat} {y : Node} (hk : N[k]? = some y) {a b : Int} (ha : 0 ≤ a) :
    (y.1 = a → y.2.2 ≠ -1 → ∃ j : Nat, y.2.2 = j ∧ ∃ z, N[j]? = some z) ∧ (staleB N y a b = true → ∀ p j q, L ≠ p ++ ((k : Int), a) :: (j, b) :: q) ∧ (staleB N y a b = false → ∃ p q, ∃ j : Nat, L = p ++ ((k : Int), a) :: ((j : Int), b) :: q) := by
  by_cases hal : ∃ c, ((k : Int), c) ∈ L
  · obtain ⟨c, hc⟩ := hal
    obtain ⟨p, q, rfl⟩ := List.append_of_mem hc
    obtain ⟨k', e, hk'⟩ := hL.at_ p k c q rfl
    have e : k = k' := by omega
    subst e
    rw [hk] at hk'
    have hy : y = (c, lastI p, headI q) := Option.some.inj hk'
    subst hy
    rcases q with _ | ⟨⟨j, d⟩, q⟩
    · refine ⟨fun _ h => absurd headI_nil h, fun _ p' j q' e => ?_, fun h => ?_⟩
      · obtain ⟨_, _, e2⟩ := place_once hL.srt e
        simp at e2
      · simp [staleB, headI_nil] at h
    · obtain ⟨j', rfl, hj'⟩ := hL.at_ (p ++ [((k : Int), c)]) j d q (by simp)
      refine ⟨fun _ _ => ⟨j', rfl, _, hj'⟩, fun h p' j q' e => ?_, fun h => ?_⟩
      · obtain ⟨_, e1, e2⟩ := place_once hL.srt e
        simp at e2
        obtain ⟨⟨e2, e3⟩, _⟩ := e2
        simp [staleB, headI_cons, hj', e1, e3] at h
      · by_cases h1 : c = a
        · subst h1
          simp [staleB, headI_cons, hj'] at h
          exact ⟨p, q, j', by rw [h]⟩
        · simp [staleB, h1] at h
  · have hd := hL.dead k y hk (fun c hc => hal ⟨c, hc⟩)
    have hne : y.1 ≠ a := by omega
    refine ⟨fun h => absurd h hne, fun _ p j q e => hal ⟨a, by rw [e]; simp⟩, fun h => ?_⟩
    simp [staleB, hne] at h
section
variable {w w' : World} {base tbase tb : Nat} {T : List Ent} {sv : Value} {mb mp cb qb : Nat} {N : List Node} {bel steps : Int} {A : Option Addr} {c g : Nat} {Q : List (Th Wt)} {turn : Int} {Aq : Option Addr} {cq : Nat}
structure RunIs (w W : World) (base tbase tb : Nat) (T : List Ent) (sv : Value) (mb mp cb qb : Nat) (bel : Int) (A : Option Addr) (c : Nat) (M : List (Int × Int)) (ids0 : List Int) (n : Nat) (N : List Node) (L : List Nd) (Q : List (Th Wt)) (turn steps : Int) (Aq : Option Addr) (cq : Nat) : Prop where
  ch : ChainIs W base tbase tb T sv mb mp cb qb N bel steps A c Q turn Aq cq
  run : RunS (pairB T bel) M ids0 N L Q turn steps n
  bl : Below base w W
set_option maxHeartbeats 4000000 in
theorem run_any {L : List Nd} {M : List (Int × Int)} {ids0 : List Int} {n : Nat} (h : ChainIs w base tbase tb T sv mb mp cb qb N bel steps A c Q turn Aq cq) (hr : RunS (pairB T bel) M ids0 N L Q turn steps n) (hn : n ≤ 100000000)
    (hP : ∀ a b r, pairB T bel a b = some r ↔ ∃ k : Nat, M[k]? = some (a, b) ∧ r = 256 + k) (hM : OkM M 256) (hrs : ∀ a b r, pairB T bel a b = some r → r < 1000000) :
    Calls Tryz.prog 168 #[.pointer (some ⟨cb, 0, none⟩)] w fun e w' => e = .returned (.tuple #[]) ∧ ∃ N' L' turn' steps' Aq' cq', RunIs w w' base tbase tb T sv mb mp cb qb bel A c M ids0 n N' L' [] turn' steps' Aq' cq' := by
  have HS : Hid (RunIs w w base tbase tb T sv mb mp cb qb bel A c M ids0 n N L Q turn steps Aq cq) := Lib.hid ⟨h, hr, Below.refl _ _⟩
  have HPP := Lib.hid hP
  have HM := Lib.hid hM
  have HRS := Lib.hid hrs
  clear h hr hP hM hrs
  go_enter Tryz.func168, Tryz.ntmps168
  go_wp2_with fail
  go_loopg [] (Q.length + 3 * L.length) (fun m W => ∃ N' L' Q' turn' steps' Aq' cq', Q'.length + 3 * L'.length ≤ m ∧ RunIs w W base tbase tb T sv mb mp cb qb bel A c M ids0 n N' L' Q' turn' steps' Aq' cq')
  case atStart => exact ⟨N, L, Q, turn, steps, Aq, cq, Nat.le_refl _, HS.out⟩
  case round =>
    obtain ⟨N', L', Q', turn', steps', Aq', cq', hm, hW⟩ := hrel
    clear HS
    rename World => W
    have HW := Lib.hid hW
    have HMM := Lib.hid hm
    have hsz := hW.run.size
    have htn := hW.run.turn
    have hst := hW.run.steps
    have HSZ := Lib.hid hsz
    have HTN := Lib.hid htn
    have HST := Lib.hid hst
    have h2 := blk_cell hW.ch.lk.blk 2
    simp only [List.getElem?_toArray, List.getElem?_cons_zero, List.getElem?_cons_succ] at h2
    clear hW hm hsz htn hst
    go_wp2_with fail
    by_cases h0 : 0 < Q'.length
    · refine (hw.pop_h HW.out.ch.hp h0 (by have := HSZ.out; omega)).mono ?_
      rintro e w4 ⟨rfl, h4, hk4⟩
      obtain ⟨hC, hB⟩ := HW.out.ch.queue h4 hk4
      have HC := Lib.hid hC
      have HB := Lib.hid (HW.out.bl.trans hB)
      have hent := HW.out.run.q.ent Q'[0] (List.getElem_mem _)
      obtain ⟨k, hk1, hk2, hk3⟩ := HW.out.run.q.pos Q'[0] (List.getElem_mem _)
      have HRR := Lib.hid (HRS.out _ _ _ hent.1)
      obtain ⟨x, hx⟩ : ∃ x, Q'[0].x = x := ⟨_, rfl⟩
      have HX := Lib.hid hx
      rw [hx] at hk1 hk3 ⊢
      clear hx hent h4 hk4 hC hB h2
      obtain ⟨xi, xa, xb⟩ := x
      simp only at hk1 hk3
      subst hk1
      have hkN : k < N'.length := by rw [HW.out.run.nlen]; exact hk2
      have hy := List.getElem?_eq_getElem hkN
      obtain ⟨hs1, hs2, hs3⟩ := stale_spec HW.out.run.lives hy (b := xb) hk3
      have HST2 := Lib.hid (by simpa only [hw.wtV] using stale_any (HC.out.below ((Below.refl w4.heap.size w4).alloc (Nat.le_refl _) (.cells #[.int .i64 (k : Int), .int .i64 xa, .int .i64 xb] 261)) (Nat.le_refl _)) k _ xa xb hy hs1)
      have HS2 := Lib.hid hs2
      have HS3 := Lib.hid hs3
      replace HB := Lib.hid (HB.out.alloc HC.out.sizes (.cells #[.int .i64 (k : Int), .int .i64 xa, .int .i64 xb] 261))
      replace HC := Lib.hid (HC.out.below ((Below.refl w4.heap.size w4).alloc (Nat.le_refl _) (.cells #[.int .i64 (k : Int), .int .i64 xa, .int .i64 xb] 261)) (Nat.le_refl _))
      have HN := Lib.hid (blk_new w4 (.cells #[.int .i64 (k : Int), .int .i64 xa, .int .i64 xb] 261))
      clear hs1 hs2 hs3 hy
      unfold hw.wtV
      simp only
      go_upto_region 2 with fail
      have HB2 := Lib.hid HB.out
      have n0 := blk_cell HN.out 0
      have n1 := blk_cell HN.out 1
      have n2 := blk_cell HN.out 2
      simp only [List.getElem?_toArray, List.getElem?_cons_zero, List.getElem?_cons_succ] at n0 n1 n2
      generalize w4.heap.size = g2 at *
      generalize w4.alloc (.cells #[.int .i64 (k : Int), .int .i64 xa, .int .i64 xb] 261) = w5 at *
      obtain ⟨B, hB⟩ : ∃ B, staleB N' N'[k] xa xb = B := ⟨_, rfl⟩
      rw [hB] at HST2 HS2 HS3
      clear hB
      go_wp2_with fail
      refine HST2.out.mono ?_
      rintro e w6 ⟨rfl, hb6⟩
      clear HST2
      have n60 := below_cell hb6 (Nat.le_refl _) n0
      have HC6 := Lib.hid (HC.out.below hb6 (Nat.le_refl _))
      have HB6 := Lib.hid (HB.out.trans (hb6.mono HC.out.sizes))
      clear hb6 n0 n1 n2 HC HB HB2 HN
      cases B with
      | true =>
        have HNEW := Lib.hid (HW.out.run.drop h0 (by rw [HX.out]; exact HS2.out rfl))
        have HPL := Lib.hid (pop_len Q')
        go_wp2_with fail
        go_roundg (gk - 1)
        case measure => have := HMM.out; omega
        case rel => exact ⟨N', L', popT Q', turn', steps', Aq', cq', by have := HMM.out; have := HPL.out; omega, HC6.out, HNEW.out, HB6.out⟩
      | false =>
        obtain ⟨L1, L2, j, hL⟩ := HS3.out rfl
        subst hL
        have HNEW := Lib.hid (HW.out.run.join h0 HX.out HPP.out HM.out HRR.out)
        have hr0 : 0 ≤ Q'[0].r := by
          obtain ⟨_, _, e⟩ := (HPP.out _ _ _).1 (HW.out.run.q.ent Q'[0] (List.getElem_mem _)).1
          omega
        have HJ := Lib.hid (join_any HC6.out HW.out.run.lives ⟨hr0, HRR.out⟩ (by rw [pop_len]; have := HSZ.out; omega) (by have := HTN.out; omega) (by have := HTN.out; omega) HW.out.run.pos (by have := HST.out; omega) _ rfl)
        have HPL := Lib.hid (pop_len Q')
        have HQ3 := Lib.hid (askL_len (P := pairB T bel) (Q := popT Q') (turn := turn') (p := L1) (q := ((k : Int), Q'[0].r) :: L2))
        generalize hR2 : askL (pairB T bel) (popT Q') turn' L1 (((k : Int), Q'[0].r) :: L2) = R2 at *
        have HQ4 := Lib.hid (askQ_len (P := pairB T bel) (Q := R2.1) (turn := R2.2) (i := (k : Int)) (a := Q'[0].r) (q := L2))
        generalize hR3 : askQ (pairB T bel) R2.1 R2.2 (k : Int) Q'[0].r L2 = R3 at *
        generalize Q'[0].r = rr at *
        clear hR2 hR3 hr0 HS2 HS3
        go_wp2_with fail
        refine HJ.out.mono ?_
        rintro e w7 ⟨rfl, ⟨Aq7, cq7, h7⟩, hb7⟩
        have H7 := Lib.hid h7
        have HB7 := Lib.hid (HB6.out.trans hb7)
        clear h7 hb7 HJ
        go_wp2_with fail
        go_roundg (gk - 1)
        case measure => have := HMM.out; omega
        case rel => exact ⟨_, _, R3.1, R3.2, _, Aq7, cq7, by have := HMM.out; have := HPL.out; have := HQ3.out; have := HQ4.out; simp only [List.length_append, List.length_cons] at *; omega, H7.out, HNEW.out, HB7.out⟩
    · have e0 : Q' = [] := List.eq_nil_of_length_eq_zero (by omega)
      subst e0
      refine (hw.pop_none HW.out.ch.hp).mono ?_
      rintro e w4 ⟨rfl, hb4⟩
      have HF : Hid (RunIs w (w4.alloc (.cells #[.int .i64 0, .int .i64 0, .int .i64 0] 261)) base tbase tb T sv mb mp cb qb bel A c M ids0 n N' L' [] turn' steps' Aq' cq') := Lib.hid (by
        have hb5 := hb4.alloc hb4.size (.cells #[.int .i64 0, .int .i64 0, .int .i64 0] 261)
        exact ⟨HW.out.ch.below hb5 (Nat.le_refl _), HW.out.run, HW.out.bl.trans (hb5.mono HW.out.ch.sizes)⟩)
      clear hb4 h2
      unfold hw.wtV
      go_wp2_with fail
      (try simp only [Exit.inBlock, Exit.then])
      refine bodyPost_ret (results_none rfl _ _ _) rfl ?_
      exact ⟨rfl, _, _, _, _, _, _, HF.out⟩
end
end Go.Proofs.YtbppaiejpgdbiaaGreat
