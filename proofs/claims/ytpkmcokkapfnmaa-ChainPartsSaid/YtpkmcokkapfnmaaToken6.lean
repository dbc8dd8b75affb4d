/- Layer 4 (token): Clone and Merges. -/
import Derived.Test.YtpkmcokkapfnmaaGrow2
import Derived.Maps.AppendAt
namespace Go.Proofs.Ytpkmcokkapfnmaa
open Go.RowKit Go.Maps Go.WideMaps
set_option maxRecDepth 100000
set_option linter.unusedVariables false
set_option linter.unusedSimpArgs false

theorem one_ent (l : List Ent) : ∀ u ∈ l.flatMap encE, u.oneCell' = true := by
  intro u hu
  obtain ⟨e, _, hu⟩ := List.mem_flatMap.1 hu
  simp [encE] at hu
  rcases hu with rfl | rfl | rfl <;> rfl
theorem len_ent (l : List Ent) : (l.flatMap encE).length = l.length * 3 := by
  induction l with
  | nil => rfl
  | cons a l ih => rw [List.flatMap_cons, List.length_append, ih, encE_len, List.length_cons]; omega

theorem eql_ent (g o n c : Nat) (w : World) : (binOp .eql 90 (.slice (some ⟨g, o, none⟩) n c) (.slice none 0 0)).run Try.prog w = .ok (.bool false) w := by kernel_rfl
theorem clone_ent (l : List Ent) (g o c : Nat) (w : World) (hg : g < w.heap.size) (hc : ∀ j u, (l.flatMap encE)[j]? = some u → w.cell? ⟨g, o + j, none⟩ = some u) (hlen : l.length ≤ 1000) :
    Calls Try.prog 46 #[.slice (some ⟨g, o, none⟩) l.length c] w fun e w' => ∃ A c', e = .returned (.slice A l.length c') ∧ w'.ownsRow w.heap.size 93 3 (.slice A l.length c') l.length (l.flatMap encE) ∧ Below w.heap.size w w' := by
  have HC := Lib.hid hc
  have heq := eql_ent g o l.length c w
  clear hc
  go_enter Try.func46, Try.ntmps46
  have hE : (w.alloc (.cells #[] 93)).ownsRow w.heap.size 93 3 (.slice (some ⟨w.heap.size, 0, none⟩) 0 0) 0 [] := ⟨by simp, .inr ⟨w.heap.size, 0, #[], rfl, Nat.le_refl _, blk_new w _, Nat.le_refl _, Nat.zero_le _, by simp, by simp⟩⟩
  have HE := Lib.hid hE
  have HN : Hid (∀ j u, (l.flatMap encE)[j]? = some u → (w.alloc (.cells #[] 93)).cell? ((⟨g, o, none⟩ : Addr).add j) = some u) := Lib.hid (by
    intro j u hu
    rw [add_plain]
    exact below_cell ((Below.refl w.heap.size w).alloc (Nat.le_refl _) _) (Nat.le_refl _) (HC.out j u hu))
  have H1 := Lib.hid (one_ent l)
  have HLEN := Lib.hid (len_ent l)
  obtain ⟨i, hi, hz0, hz1, hz2⟩ := info_parts info_ent
  have HI := Lib.hid hi
  have HZ := Lib.hid (And.intro hz0 (And.intro hz1 hz2))
  clear hi hz0 hz1 hz2 hE
  go_wp2_with (at_builtin; refine wpList_append_own_at _ rfl _ _ 90 rfl w.heap.size 93 i (.agg #[.string ⟨#[]⟩, .int .i64 0, .int .i64 0]) 3 32 Try.underlying90 HI.out HZ.out.1 HZ.out.2.1 HZ.out.2.2 rfl (by decide) _ 0 [] rfl HE.out ⟨g, o, none⟩ l.length c _ rfl HLEN.out HN.out H1.out (by unfold maxLen; omega) (by omega) (by simp) ?_)
  intro v' w' r1 r2 _ _
  have hb : Below w.heap.size w w' := by
    have h0 := (Below.refl w.heap.size w).alloc (Nat.le_refl _) (.cells #[] 93)
    have hk : Keep (fun k => k = w.heap.size) (w.alloc (.cells #[] 93)) w' := Keep.of_grown r2 (fun k hk => by simpa [Value.ownBlock] using hk.symm)
    exact h0.trans (hk.below (by simp) (fun x hx => by omega))
  obtain ⟨A, c', rfl⟩ := own_slice r1
  have HB := Lib.hid hb
  have HR := Lib.hid r1
  clear r1 r2 hb
  go_wp2_with fail
  go_ret
  exact ⟨_, _, rfl, HR.out, HB.out⟩

/-- what Merges has made: the copy, k of the merges -/
structure MrgIs (w W : World) (T : List Ent) (A : Option Addr) (cA : Nat) (v : Value) (k : Nat) : Prop where
  ents : W.ownsRow w.heap.size 93 3 (.slice A (T.drop 256).length cA) (T.drop 256).length ((T.drop 256).flatMap encE)
  row : W.ownsRow w.heap.size 71 2 v k (((mrgsT T).take k).flatMap encM)
  nil : k = 0 → v = .slice none 0 0
  below : Below w.heap.size w W
theorem info_mrg2 : (Try.prog.info? 71).map (fun i => (i.zero, i.size, i.bytes)) = some (some (.agg #[.int .i64 0, .int .i64 0]), 2, 16) := by kernel_rfl

set_option maxHeartbeats 2000000 in
theorem merges_tab {w : World} {base tb : Nat} {T : List Ent} {sv : Value} {mb mp : Nat} (h : TabIs w base tb T sv mb mp) (hT : OkT T) : Calls Try.prog 29 #[.pointer (some ⟨tb, 0, none⟩)] w fun e w' =>
    ∃ A c, e = .returned (.slice A (mrgsT T).length c) ∧ w'.ownsRow w.heap.size 71 2 (.slice A (mrgsT T).length c) (mrgsT T).length ((mrgsT T).flatMap encM) ∧ Below w.heap.size w w' := by
  have h256 := okT_256 hT
  have hsm := hT.small
  obtain ⟨g, cap, rfl, hg1, hg2, hc⟩ := own_open h.row (by omega)
  have hcap : T.length ≤ cap := by
    rcases h.row.2 with ⟨h1, _⟩ | ⟨g', cap', cur, h1, hb, hg, hc1, hc2, hc3, ht⟩
    · cases h1
    · cases h1; exact hc1
  have n0 := blk_cell h.blk 0
  simp only [List.getElem?_toArray, List.getElem?_cons_zero] at n0
  have hD : (T.drop 256).length = T.length - 256 := by simp
  have hcells : ∀ j u, ((T.drop 256).flatMap encE)[j]? = some u → w.cell? ⟨g, 768 + j, none⟩ = some u := by
    intro j u hu
    have e1 : (T.flatMap encE)[768 + j]? = some u := by
      have : T.flatMap encE = (T.take 256).flatMap encE ++ (T.drop 256).flatMap encE := by rw [← List.flatMap_append, List.take_append_drop]
      rw [this, List.getElem?_append_right (by rw [len_ent]; simp; omega), len_ent]
      have e : 768 + j - (List.take 256 T).length * 3 = j := by simp; omega
      rw [e]; exact hu
    exact (hc _ _ e1).1
  have hCL : ∃ o, (cap = 256 → o = 0) ∧ (¬ cap = 256 → o = 768) ∧ ∀ j u, ((T.drop 256).flatMap encE)[j]? = some u → w.cell? ⟨g, o + j, none⟩ = some u := by
    by_cases h0 : cap = 256
    · refine ⟨0, fun _ => rfl, fun h => absurd h0 h, ?_⟩
      have : T.drop 256 = [] := List.drop_eq_nil_of_le (by omega)
      rw [this]; intro j u hu; simp at hu
    · exact ⟨768, fun h => absurd h h0, fun _ => rfl, hcells⟩
  obtain ⟨o, ho0, ho1, hoc⟩ := hCL
  have hCL := clone_ent (T.drop 256) g o (cap - 256) w hg2 hoc (by rw [hD]; omega)
  rw [hD] at hCL
  have hm := mrgs_len (T := T)
  have hnn : ∃ n, T.length - 256 = n := ⟨_, rfl⟩
  obtain ⟨n, hn⟩ := hnn
  rw [hn] at hCL hD hm
  have HCL := Lib.hid hCL
  have HM := Lib.hid hm
  have q1 : (256 : Int) ≤ (T.length : Int) := by omega
  have q2 : (T.length : Int) ≤ (cap : Int) := by omega
  have q3 : ((T.length : Int) - 256).toNat = n := by omega
  have q4 : ((cap : Int) - 256).toNat = cap - 256 := by omega
  have HT := Lib.hid hT
  clear hc hg1 hg2 hCL h hcells hoc hT hm
  have HD := Lib.hid hD
  by_cases hcap0 : cap = 256
  · have e0 := ho0 hcap0
    subst e0
    subst hcap0
    have hl : T.length = 256 := by omega
    have hn0 : n = 0 := by omega
    subst hn0
    rw [Nat.sub_self] at HCL
    clear ho0 ho1
    go_enter Try.func29, Try.ntmps29
    go_wp2_with fail
    refine HCL.out.mono ?_
    rintro e w1 ⟨A, cA, rfl, hrow, hb1⟩
    have hs0 : MrgIs w w1 T A cA (.slice none 0 0) 0 := ⟨by rw [HD.out]; exact hrow, by simpa using own_nil _ _ _ _, fun _ => rfl, hb1⟩
    have HS := Lib.hid hs0
    clear hrow hb1 hs0
    go_wp2_with fail
    go_loopg [3, 15] 0 (fun m v i W => ∃ k : Nat, ∃ A2 c2, k + m = 0 ∧ v = .slice A2 k c2 ∧ i = .int .i64 (k : Int) ∧ MrgIs w W T A cA v k)
    case atStart => exact ⟨0, _, _, by omega, rfl, rfl, HS.out⟩
    case round =>
      obtain ⟨k, A2, c2, hk, rfl, rfl, hW⟩ := hrel
      clear HS
      rename World => W
      by_cases hlt : k < 0
      · exact absurd hlt (Nat.not_lt_zero _)
      · have hke : k = 0 := by omega
        subst hke
        have hlt1 : ¬ (0 : Int) < 0 := by omega
        have HROW := Lib.hid hW.row
        have HB := Lib.hid hW.below
        clear hW
        go_wp2_with fail
        go_ret
        have := HROW.out
        rw [List.take_of_length_le (by rw [HM.out]; exact Nat.le_refl _)] at this
        refine ⟨A2, c2, by rw [HM.out]; rfl, ?_, HB.out⟩
        rw [HM.out]
        exact this
  · have e0 := ho1 hcap0
    subst e0
    clear ho0 ho1
    go_enter Try.func29, Try.ntmps29
    go_wp2_with fail
    refine HCL.out.mono ?_
    rintro e w1 ⟨A, cA, rfl, hrow, hb1⟩
    have hs0 : MrgIs w w1 T A cA (.slice none 0 0) 0 := ⟨by rw [HD.out]; exact hrow, by simpa using own_nil _ _ _ _, fun _ => rfl, hb1⟩
    have HS := Lib.hid hs0
    clear hrow hb1 hs0
    go_wp2_with fail
    go_loopg [3, 15] n (fun m v i W => ∃ k : Nat, ∃ A2 c2, k + m = n ∧ v = .slice A2 k c2 ∧ i = .int .i64 (k : Int) ∧ MrgIs w W T A cA v k)
    case atStart => exact ⟨0, _, _, by omega, rfl, rfl, HS.out⟩
    case round =>
      obtain ⟨k, A2, c2, hk, rfl, rfl, hW⟩ := hrel
      clear HS
      rename World => W
      by_cases hlt : k < n
      · have hlt' : (k : Int) < (n : Int) := by omega
        obtain ⟨b, o, rfl, hcc⟩ := (own_sl (enc := encE) (fun _ => rfl) hW.ents (by decide)).at k (by rw [HD.out]; exact hlt)
        have hk2 : k < (T.drop 256).length := by rw [HD.out]; exact hlt
        have hmk : (mrgsT T)[k]? = some ((T.drop 256)[k]).2 := by unfold mrgsT; rw [List.getElem?_map, List.getElem?_eq_getElem hk2]; rfl
        generalize (T.drop 256)[k] = e at *
        obtain ⟨es, ea, eb⟩ := e
        have g0 : W.cell? ⟨b, o + k * 3, none⟩ = some (strV es) := hcc 0 _ rfl
        have g1 : W.cell? ⟨b, o + k * 3 + 1, none⟩ = some (.int .i64 ea) := hcc 1 _ rfl
        have g2 : W.cell? ⟨b, o + k * 3 + 2, none⟩ = some (.int .i64 eb) := hcc 2 _ rfl
        unfold strV at g0
        obtain ⟨x, hx⟩ : ∃ x, bs es = x := ⟨_, rfl⟩
        rw [hx] at g0
        have hb5 := (Below.refl W.heap.size W).alloc (Nat.le_refl _) (.cells #[.string x, .int .i64 ea, .int .i64 eb] 93)
        have hb6 := hb5.alloc (by simp) (.cells #[.int .i64 ea, .int .i64 eb] 71)
        have hn5 := blk_new W (.cells #[.string x, .int .i64 ea, .int .i64 eb] 93)
        have f0 := blk_cell hn5 0
        have f1 := blk_cell hn5 1
        have f2 := blk_cell hn5 2
        simp only [List.getElem?_toArray, List.getElem?_cons_zero, List.getElem?_cons_succ] at f0 f1 f2
        have HG : Hid (((W.alloc (.cells #[.string x, .int .i64 ea, .int .i64 eb] 93)).alloc (.cells #[.int .i64 ea, .int .i64 eb] 71)).heap[W.heap.size + 1]? = some (.cells [Value.int .i64 ea, Value.int .i64 eb].toArray 71)) := Lib.hid (by
          have := blk_new (W.alloc (.cells #[.string x, .int .i64 ea, .int .i64 eb] 93)) (.cells #[.int .i64 ea, .int .i64 eb] 71)
          rwa [size_alloc] at this)
        have HROW := Lib.hid (own_below hW.row hb6 (Nat.le_refl _))
        have HENTS := Lib.hid (own_below hW.ents hb6 (Nat.le_refl _))
        have HB6 := Lib.hid (hW.below.trans (hb6.mono hW.below.size))
        have HGEN := Lib.hid (Nat.le_trans hW.below.size hb6.size)
        have HMK := Lib.hid hmk
        have p0 : 0 ≤ (k : Int) := by omega
        clear hb5 hb6 hn5 hW hcc hmk hx
        go_wp2_with (at_builtin; refine app_at (w.heap.size) 26 71 (.agg #[.int .i64 0, .int .i64 0]) 2 16 [_, _] 1 (W.heap.size + 1) _ _ rfl rfl Try.underlying26 info_mrg2 rfl (by decide) _ _ _ rfl rfl rfl (by intro u hu; simp at hu; rcases hu with rfl | rfl <;> rfl) HG.out HROW.out (by omega) (by omega) HGEN.out ?_)
        intro v' w9 hown1 hg1 _
        obtain ⟨A3, c3, rfl⟩ := own_slice hown1
        have hk1 : Keep (fun g => (Value.slice A2 k c2).ownBlock = some g) ((W.alloc (.cells #[.string x, .int .i64 ea, .int .i64 eb] 93)).alloc (.cells #[.int .i64 ea, .int .i64 eb] 71)) w9 := Keep.of_grown hg1 (fun g hg => hg)
        have hb9 := HB6.out.trans (hk1.below HGEN.out (own_base HROW.out))
        have hents := own_keep HENTS.out hk1 (fun g hg e => row_row_ne HENTS.out HROW.out (by decide) g hg e)
        have e5 : ((mrgsT T).take k).flatMap encM ++ [Value.int .i64 ea, Value.int .i64 eb] = ((mrgsT T).take (k + 1)).flatMap encM := by
          have hkl : k < (mrgsT T).length := by rw [HM.out]; exact hlt
          have := HMK.out
          rw [List.getElem?_eq_getElem hkl] at this
          rw [take_snoc hkl, List.flatMap_append, Option.some.inj this]
          simp [encM]
        rw [e5] at hown1
        have HNEW := Lib.hid (show MrgIs w w9 T (some ⟨b, o, none⟩) cA (.slice A3 (k + 1) c3) (k + 1) from ⟨hents, hown1, fun h => by omega, hb9⟩)
        clear hown1 hg1 hk1 hb9 hents e5 f0 f1 f2 g0 g1 g2
        have wk : IntKind.i64.wrap ((k : Int) + 1) = (k : Int) + 1 := IntWalk.i64_in _ (by omega)
        go_wp2_with fail
        go_roundg (gk - 1)
        case measure => omega
        case rel => exact ⟨k + 1, A3, c3, by omega, rfl, by simp, HNEW.out⟩
      · have hke : k = n := by omega
        subst hke
        have hlt1 : ¬ (k : Int) < (k : Int) := by omega
        have HROW := Lib.hid hW.row
        have HB := Lib.hid hW.below
        clear hW
        go_wp2_with fail
        go_ret
        have := HROW.out
        rw [List.take_of_length_le (by rw [HM.out]; exact Nat.le_refl _)] at this
        refine ⟨A2, c2, by rw [HM.out]; rfl, ?_, HB.out⟩
        rw [HM.out]
        exact this
end Go.Proofs.Ytpkmcokkapfnmaa
