/- Layer 5 (chain): run. -/
import Derived.Test.YtpkmcokkapfnmaaChain7
namespace Go.Proofs.Ytpkmcokkapfnmaa
open Go.RowKit Go.Maps Go.WideMaps
set_option maxRecDepth 100000
set_option linter.unusedVariables false
set_option linter.unusedSimpArgs false

theorem stale_spec {N : List Node} {L : List Nd} (hL : Lives N L) {k : Nat} {y : Node} (hk : N[k]? = some y) {a b : Int} (ha : 0 ≤ a) :
    (y.1 = a → y.2.2 ≠ -1 → ∃ j : Nat, y.2.2 = j ∧ ∃ z, N[j]? = some z) ∧ (staleB N y a b = true → ∀ p j q, L ≠ p ++ ((k : Int), a) :: (j, b) :: q) ∧ (staleB N y a b = false → ∃ p q, ∃ j : Nat, L = p ++ ((k : Int), a) :: ((j : Int), b) :: q) := by
  by_cases hal : ∃ c, ((k : Int), c) ∈ L
  · obtain ⟨c, hc⟩ := hal
    obtain ⟨p, q, rfl⟩ := List.append_of_mem hc
    obtain ⟨k', e, hk'⟩ := hL.at_ p k c q rfl
    have e : k = k' := by omega
    subst e
    rw [hk] at hk'
    have hy : y = (c, lastI p, headI q) := Option.some.inj hk'
    subst hy
    rcases q with _ | ⟨⟨j, d⟩, q⟩
    · refine ⟨fun _ h => absurd headI_nil h, fun _ p' j q' e => ?_, fun h => ?_⟩
      · obtain ⟨_, _, e2⟩ := place_once hL.srt e
        simp at e2
      · simp [staleB, headI_nil] at h
    · obtain ⟨j', rfl, hj'⟩ := hL.at_ (p ++ [((k : Int), c)]) j d q (by simp)
      refine ⟨fun _ _ => ⟨j', rfl, _, hj'⟩, fun h p' j q' e => ?_, fun h => ?_⟩
      · obtain ⟨_, e1, e2⟩ := place_once hL.srt e
        simp at e2
        obtain ⟨⟨e2, e3⟩, _⟩ := e2
        simp [staleB, headI_cons, hj', e1, e3] at h
      · by_cases h1 : c = a
        · subst h1
          simp [staleB, headI_cons, hj'] at h
          exact ⟨p, q, j', by rw [h]⟩
        · simp [staleB, h1] at h
  · have hd := hL.dead k y hk (fun c hc => hal ⟨c, hc⟩)
    have hne : y.1 ≠ a := by omega
    refine ⟨fun h => absurd h hne, fun _ p j q e => hal ⟨a, by rw [e]; simp⟩, fun h => ?_⟩
    simp [staleB, hne] at h

section
variable {w w' : World} {base tbase tb : Nat} {T : List Ent} {sv : Value} {mb mp cb qb : Nat} {N : List Node} {bel steps : Int} {A : Option Addr} {c g : Nat} {Q : List (Th Wt)} {turn : Int} {Aq : Option Addr} {cq : Nat}
structure RunIs (w W : World) (base tbase tb : Nat) (T : List Ent) (sv : Value) (mb mp cb qb : Nat) (bel : Int) (A : Option Addr) (c : Nat) (M : List (Int × Int)) (ids0 : List Int) (n : Nat) (N : List Node) (L : List Nd) (Q : List (Th Wt)) (turn steps : Int) (Aq : Option Addr) (cq : Nat) : Prop where
  ch : ChainIs W base tbase tb T sv mb mp cb qb N bel steps A c Q turn Aq cq
  run : RunS (pairB T bel) M ids0 N L Q turn steps n
  bl : Below base w W

set_option maxHeartbeats 4000000 in
theorem run_any {L : List Nd} {M : List (Int × Int)} {ids0 : List Int} {n : Nat} (h : ChainIs w base tbase tb T sv mb mp cb qb N bel steps A c Q turn Aq cq) (hr : RunS (pairB T bel) M ids0 N L Q turn steps n) (hn : n ≤ 100000000)
    (hP : ∀ a b r, pairB T bel a b = some r ↔ ∃ k : Nat, M[k]? = some (a, b) ∧ r = 256 + k) (hM : OkM M 256) (hrs : ∀ a b r, pairB T bel a b = some r → r < 1000000) :
    Calls Try.prog 38 #[.pointer (some ⟨cb, 0, none⟩)] w fun e w' => e = .returned (.tuple #[]) ∧ ∃ N' L' turn' steps' Aq' cq', RunIs w w' base tbase tb T sv mb mp cb qb bel A c M ids0 n N' L' [] turn' steps' Aq' cq' := by
  have HS : Hid (RunIs w w base tbase tb T sv mb mp cb qb bel A c M ids0 n N L Q turn steps Aq cq) := Lib.hid ⟨h, hr, Below.refl _ _⟩
  have HPP := Lib.hid hP
  have HM := Lib.hid hM
  have HRS := Lib.hid hrs
  clear h hr hP hM hrs
  go_enter Try.func38, Try.ntmps38
  go_wp2_with fail
  go_loopg [] (Q.length + 3 * L.length) (fun m W => ∃ N' L' Q' turn' steps' Aq' cq', Q'.length + 3 * L'.length ≤ m ∧ RunIs w W base tbase tb T sv mb mp cb qb bel A c M ids0 n N' L' Q' turn' steps' Aq' cq')
  case atStart => exact ⟨N, L, Q, turn, steps, Aq, cq, Nat.le_refl _, HS.out⟩
  case round =>
    obtain ⟨N', L', Q', turn', steps', Aq', cq', hm, hW⟩ := hrel
    clear HS
    rename World => W
    have HW := Lib.hid hW
    have HMM := Lib.hid hm
    have hsz := hW.run.size
    have htn := hW.run.turn
    have hst := hW.run.steps
    have HSZ := Lib.hid hsz
    have HTN := Lib.hid htn
    have HST := Lib.hid hst
    have h2 := blk_cell hW.ch.lk.blk 2
    simp only [List.getElem?_toArray, List.getElem?_cons_zero, List.getElem?_cons_succ] at h2
    clear hW hm hsz htn hst
    go_wp2_with fail
    by_cases h0 : 0 < Q'.length
    · refine (hw.pop_h HW.out.ch.hp h0 (by have := HSZ.out; omega)).mono ?_
      rintro e w4 ⟨rfl, h4, hk4⟩
      obtain ⟨hC, hB⟩ := HW.out.ch.queue h4 hk4
      have HC := Lib.hid hC
      have HB := Lib.hid (HW.out.bl.trans hB)
      have hent := HW.out.run.q.ent Q'[0] (List.getElem_mem _)
      obtain ⟨k, hk1, hk2, hk3⟩ := HW.out.run.q.pos Q'[0] (List.getElem_mem _)
      have HRR := Lib.hid (HRS.out _ _ _ hent.1)
      obtain ⟨x, hx⟩ : ∃ x, Q'[0].x = x := ⟨_, rfl⟩
      have HX := Lib.hid hx
      rw [hx] at hk1 hk3 ⊢
      clear hx hent h4 hk4 hC hB h2
      obtain ⟨xi, xa, xb⟩ := x
      simp only at hk1 hk3
      subst hk1
      have hkN : k < N'.length := by rw [HW.out.run.nlen]; exact hk2
      have hy := List.getElem?_eq_getElem hkN
      obtain ⟨hs1, hs2, hs3⟩ := stale_spec HW.out.run.lives hy (b := xb) hk3
      have HST2 := Lib.hid (by simpa only [hw.wtV] using stale_any (HC.out.below ((Below.refl w4.heap.size w4).alloc (Nat.le_refl _) (.cells #[.int .i64 (k : Int), .int .i64 xa, .int .i64 xb] 105)) (Nat.le_refl _)) k _ xa xb hy hs1)
      have HS2 := Lib.hid hs2
      have HS3 := Lib.hid hs3
      replace HB := Lib.hid (HB.out.alloc HC.out.sizes (.cells #[.int .i64 (k : Int), .int .i64 xa, .int .i64 xb] 105))
      replace HC := Lib.hid (HC.out.below ((Below.refl w4.heap.size w4).alloc (Nat.le_refl _) (.cells #[.int .i64 (k : Int), .int .i64 xa, .int .i64 xb] 105)) (Nat.le_refl _))
      have HN := Lib.hid (blk_new w4 (.cells #[.int .i64 (k : Int), .int .i64 xa, .int .i64 xb] 105))
      clear hs1 hs2 hs3 hy
      unfold hw.wtV
      simp only
      go_upto_region 2 with fail
      have HB2 := Lib.hid HB.out
      have n0 := blk_cell HN.out 0
      have n1 := blk_cell HN.out 1
      have n2 := blk_cell HN.out 2
      simp only [List.getElem?_toArray, List.getElem?_cons_zero, List.getElem?_cons_succ] at n0 n1 n2
      generalize w4.heap.size = g2 at *
      generalize w4.alloc (.cells #[.int .i64 (k : Int), .int .i64 xa, .int .i64 xb] 105) = w5 at *
      obtain ⟨B, hB⟩ : ∃ B, staleB N' N'[k] xa xb = B := ⟨_, rfl⟩
      rw [hB] at HST2 HS2 HS3
      clear hB
      go_wp2_with fail
      refine HST2.out.mono ?_
      rintro e w6 ⟨rfl, hb6⟩
      clear HST2
      have n60 := below_cell hb6 (Nat.le_refl _) n0
      have HC6 := Lib.hid (HC.out.below hb6 (Nat.le_refl _))
      have HB6 := Lib.hid (HB.out.trans (hb6.mono HC.out.sizes))
      clear hb6 n0 n1 n2 HC HB HB2 HN
      cases B with
      | true =>
        have HNEW := Lib.hid (HW.out.run.drop h0 (by rw [HX.out]; exact HS2.out rfl))
        have HPL := Lib.hid (pop_len Q')
        go_wp2_with fail
        go_roundg (gk - 1)
        case measure => have := HMM.out; omega
        case rel => exact ⟨N', L', popT Q', turn', steps', Aq', cq', by have := HMM.out; have := HPL.out; omega, HC6.out, HNEW.out, HB6.out⟩
      | false =>
        obtain ⟨L1, L2, j, hL⟩ := HS3.out rfl
        subst hL
        have HNEW := Lib.hid (HW.out.run.join h0 HX.out HPP.out HM.out HRR.out)
        have hr0 : 0 ≤ Q'[0].r := by
          obtain ⟨_, _, e⟩ := (HPP.out _ _ _).1 (HW.out.run.q.ent Q'[0] (List.getElem_mem _)).1
          omega
        have HJ := Lib.hid (join_any HC6.out HW.out.run.lives ⟨hr0, HRR.out⟩ (by rw [pop_len]; have := HSZ.out; omega) (by have := HTN.out; omega) (by have := HTN.out; omega) HW.out.run.pos (by have := HST.out; omega) _ rfl)
        have HPL := Lib.hid (pop_len Q')
        have HQ3 := Lib.hid (askL_len (P := pairB T bel) (Q := popT Q') (turn := turn') (p := L1) (q := ((k : Int), Q'[0].r) :: L2))
        generalize hR2 : askL (pairB T bel) (popT Q') turn' L1 (((k : Int), Q'[0].r) :: L2) = R2 at *
        have HQ4 := Lib.hid (askQ_len (P := pairB T bel) (Q := R2.1) (turn := R2.2) (i := (k : Int)) (a := Q'[0].r) (q := L2))
        generalize hR3 : askQ (pairB T bel) R2.1 R2.2 (k : Int) Q'[0].r L2 = R3 at *
        generalize Q'[0].r = rr at *
        clear hR2 hR3 hr0 HS2 HS3
        go_wp2_with fail
        refine HJ.out.mono ?_
        rintro e w7 ⟨rfl, ⟨Aq7, cq7, h7⟩, hb7⟩
        have H7 := Lib.hid h7
        have HB7 := Lib.hid (HB6.out.trans hb7)
        clear h7 hb7 HJ
        go_wp2_with fail
        go_roundg (gk - 1)
        case measure => have := HMM.out; omega
        case rel => exact ⟨_, _, R3.1, R3.2, _, Aq7, cq7, by have := HMM.out; have := HPL.out; have := HQ3.out; have := HQ4.out; simp only [List.length_append, List.length_cons] at *; omega, H7.out, HNEW.out, HB7.out⟩
    · have e0 : Q' = [] := List.eq_nil_of_length_eq_zero (by omega)
      subst e0
      refine (hw.pop_none HW.out.ch.hp).mono ?_
      rintro e w4 ⟨rfl, hb4⟩
      have HF : Hid (RunIs w (w4.alloc (.cells #[.int .i64 0, .int .i64 0, .int .i64 0] 105)) base tbase tb T sv mb mp cb qb bel A c M ids0 n N' L' [] turn' steps' Aq' cq') := Lib.hid (by
        have hb5 := hb4.alloc hb4.size (.cells #[.int .i64 0, .int .i64 0, .int .i64 0] 105)
        exact ⟨HW.out.ch.below hb5 (Nat.le_refl _), HW.out.run, HW.out.bl.trans (hb5.mono HW.out.ch.sizes)⟩)
      clear hb4 h2
      unfold hw.wtV
      go_wp2_with fail
      (try simp only [Exit.inBlock, Exit.then])
      refine bodyPost_ret (results_none rfl _ _ _) rfl ?_
      exact ⟨rfl, _, _, _, _, _, _, HF.out⟩
end
end Go.Proofs.Ytpkmcokkapfnmaa
