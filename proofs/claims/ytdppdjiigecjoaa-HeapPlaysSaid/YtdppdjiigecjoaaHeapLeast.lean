/- Layer 3 (heap): the law's own least. -/
import Derived.Test.YtdppdjiigecjoaaHeapI8
import Derived.Test.YtdppdjiigecjoaaRef5
namespace Go.Proofs.Ytdppdjiigecjoaa
open Go.RowKit Go.Maps Go.WideMaps
set_option maxRecDepth 100000
set_option linter.unusedVariables false
set_option linter.unusedSimpArgs false

abbrev Tn := Th Unit
def encTn (a : Tn) : List Value := [.int .i64 a.r, .int .i64 a.p, .int .i64 a.t]
def ltV (a b : Tn) : Bool := decide (a.r < b.r) || (decide (a.r = b.r) && (decide (a.p < b.p) || (decide (a.p = b.p) && decide (a.t < b.t))))
theorem ltV_ltB (a b : Tn) : ltV a b = ltB a b := by
  unfold ltV ltB
  by_cases h1 : a.r = b.r
  · by_cases h2 : a.p = b.p
    · simp [h1, h2]
    · simp [h1, h2]
  · simp [h1]
/-- the least among the first i -/
def lesK (l : List Tn) : Nat → Nat
  | 0 => 0
  | i + 1 => if h : i < l.length ∧ lesK l i < l.length then (if ltB l[i] l[lesK l i] then i else lesK l i) else lesK l i
theorem lesK_lt (l : List Tn) (h : 0 < l.length) : ∀ i, lesK l i < l.length
  | 0 => h
  | i + 1 => by
    have := lesK_lt l h i
    unfold lesK
    split
    · rename_i h2
      split
      · exact h2.1
      · exact this
    · exact this
theorem lesK_le (l : List Tn) (h : 0 < l.length) : ∀ i, i ≤ l.length → ∀ j, (hj : j < i) → (h2 : j < l.length) → leT (l[lesK l i]'(lesK_lt l h i)) l[j]
  | 0, _ => fun j hj _ => by omega
  | i + 1, hi => by
    intro j hj h2
    have ih := lesK_le l h i (by omega)
    have hlt := lesK_lt l h i
    by_cases hb : ltB (l[i]'(by omega)) l[lesK l i] = true
    · have e : lesK l (i + 1) = i := by rw [lesK, dif_pos ⟨by omega, hlt⟩, if_pos hb]
      simp only [e]
      rcases Nat.lt_or_ge j i with h3 | h3
      · exact leT_trans (ltB_le hb) (ih j h3 h2)
      · have : j = i := by omega
        subst this
        exact leT_refl _
    · have e : lesK l (i + 1) = lesK l i := by rw [lesK, dif_pos ⟨by omega, hlt⟩, if_neg hb]
      simp only [e]
      rcases Nat.lt_or_ge j i with h3 | h3
      · exact ih j h3 h2
      · have : j = i := by omega
        subst this
        exact ltB_not (by simpa using hb)
def lesT (l : List Tn) : Nat := lesK l l.length

theorem cells3 {V : World} {n : Nat} {a b c : Value} {t : TypeId} (h : V.heap[n]? = some (.cells #[a, b, c] t)) : V.cell? ⟨n, 0, none⟩ = some a ∧ V.cell? ⟨n, 1, none⟩ = some b ∧ V.cell? ⟨n, 2, none⟩ = some c ∧ V.frozen? ⟨n, 0, none⟩ = false ∧ V.frozen? ⟨n, 1, none⟩ = false ∧ V.frozen? ⟨n, 2, none⟩ = false :=
  ⟨blk_cell h 0, blk_cell h 1, blk_cell h 2, blk_froz h 0, blk_froz h 1, blk_froz h 2⟩
theorem put3 {V : World} {n : Nat} {a b c : Value} {t : TypeId} (h : V.heap[n]? = some (.cells #[a, b, c] t)) (x y z : Value) : (((V.setCell ⟨n, 0, none⟩ x).setCell ⟨n, 1, none⟩ y).setCell ⟨n, 2, none⟩ z).heap[n]? = some (.cells #[x, y, z] t) := by
  simpa using blk_set (blk_set (blk_set h 0 x) 1 y) 2 z
theorem far3 {V : World} {n m : Nat} {o : Obj} (h : V.heap[m]? = some o) (hne : m ≠ n) (x y z : Value) : (((V.setCell ⟨n, 0, none⟩ x).setCell ⟨n, 1, none⟩ y).setCell ⟨n, 2, none⟩ z).heap[m]? = some o :=
  blk_far (p := ⟨n, 2, none⟩) (blk_far (p := ⟨n, 1, none⟩) (blk_far (p := ⟨n, 0, none⟩) h hne x) hne y) hne z
theorem bel3 {w V : World} {n : Nat} (hb : Below w.heap.size w V) (h : w.heap.size ≤ n) (x y z : Value) : Below w.heap.size w (((V.setCell ⟨n, 0, none⟩ x).setCell ⟨n, 1, none⟩ y).setCell ⟨n, 2, none⟩ z) :=
  ((hb.setCell (p := ⟨n, 0, none⟩) h _).setCell (p := ⟨n, 1, none⟩) h _).setCell (p := ⟨n, 2, none⟩) h _

set_option maxHeartbeats 4000000 in
theorem least_any (l : List Tn) (A : Option Addr) (c : Nat) (w : World) (hl : Sl w A encTn 3 l) (hlen : l.length < 1000000) :
    Calls Try.prog 38 #[.slice A l.length c] w fun e w' => e = .returned (.int .i64 (lesT l : Nat)) ∧ Below w.heap.size w w' := by
  have HL := Lib.hid hl
  clear hl
  go_enter Try.func38, Try.ntmps38
  go_wp2_with fail
  go_loopg [3, 4] l.length (fun n u i W => ∃ k : Nat, k + n = l.length ∧ i = .int .i64 (k : Int) ∧ u = .int .i64 ((lesK l k : Nat) : Int) ∧ Below w.heap.size w W)
  case atStart => exact ⟨0, by omega, rfl, rfl, Below.refl _ _⟩
  case round =>
    obtain ⟨k, hk, rfl, rfl, hB⟩ := hrel
    rename World => W
    have HB := Lib.hid hB
    clear hB
    by_cases hlt : k < l.length
    · have hlt' : (k : Int) < (l.length : Int) := by omega
      have hs := lesK_lt l (by omega) k
      have HNX := Lib.hid (show lesK l (k + 1) = if ltV l[k] l[lesK l k] = true then k else lesK l k from by rw [ltV_ltB, lesK, dif_pos ⟨hlt, hs⟩])
      obtain ⟨s, hse⟩ : ∃ s, lesK l k = s := ⟨_, rfl⟩
      simp only [hse] at hs HNX
      rw [hse]
      obtain ⟨b, o, hA, hc⟩ := HL.out.at k hlt
      obtain ⟨b', o', hA', hd⟩ := HL.out.at s hs
      rw [hA] at hA'
      injection hA' with hA'
      injection hA' with q1 q2
      subst q1; subst q2
      subst hA
      have a0 := hc 0 _ rfl
      have a1 := hc 1 _ rfl
      have a2 := hc 2 _ rfl
      have b0 := hd 0 _ rfl
      have b1 := hd 1 _ rfl
      have b2 := hd 2 _ rfl
      clear hc hd
      obtain ⟨V0, hV⟩ : ∃ V0, ltV l[k] l[s] = V0 := ⟨_, rfl⟩
      have HV := Lib.hid hV
      rw [hV] at HNX
      unfold ltV at HV
      generalize l[k].r = xr at *
      generalize l[k].p = xp at *
      generalize l[k].t = xt at *
      generalize l[s].r = yr at *
      generalize l[s].p = yp at *
      generalize l[s].t = yt at *
      clear hV
      have p0 : (0 : Int) ≤ (k : Int) := by omega
      have p2 : (0 : Int) ≤ (s : Int) := by omega
      have p3 : (s : Int) < (l.length : Int) := by omega
      have HSC : Hid (∀ V, Below w.heap.size w V → V.cell? ⟨b, o + k * 3, none⟩ = some (.int .i64 xr) ∧ V.cell? ⟨b, o + k * 3 + 1, none⟩ = some (.int .i64 xp) ∧ V.cell? ⟨b, o + k * 3 + 2, none⟩ = some (.int .i64 xt) ∧ V.cell? ⟨b, o + s * 3, none⟩ = some (.int .i64 yr) ∧ V.cell? ⟨b, o + s * 3 + 1, none⟩ = some (.int .i64 yp) ∧ V.cell? ⟨b, o + s * 3 + 2, none⟩ = some (.int .i64 yt)) := Lib.hid (fun V hV => ⟨below_cell hV (Nat.le_refl _) a0, below_cell hV (Nat.le_refl _) a1, below_cell hV (Nat.le_refl _) a2, below_cell hV (Nat.le_refl _) b0, below_cell hV (Nat.le_refl _) b1, below_cell hV (Nat.le_refl _) b2⟩)
      have HBB := Lib.hid (HB.out.drew)
      clear a0 a1 a2 b0 b1 b2
      go_wp2_with fail
      refine wp_region_D (Ds := []) (S := fun V => V.cell? ⟨b, o + k * 3, none⟩ = some (.int .i64 xr) ∧ V.cell? ⟨b, o + k * 3 + 1, none⟩ = some (.int .i64 xp) ∧ V.cell? ⟨b, o + k * 3 + 2, none⟩ = some (.int .i64 xt) ∧ V.cell? ⟨b, o + s * 3, none⟩ = some (.int .i64 yr) ∧ V.cell? ⟨b, o + s * 3 + 1, none⟩ = some (.int .i64 yp) ∧ V.cell? ⟨b, o + s * 3 + 2, none⟩ = some (.int .i64 yt)) (by kernel_rfl) (by exact HSC.out _ HBB.out) (fun hHeld => ?_)
      generalize W.drew = W0 at *
      refine wpAnyD_takeP (i := 0) (oi := { dst := some 13, op := Op.move (Operand.tmp 0), type := 63, pos := "law.go:27", after := #[], guard := none }) (d := 13) (v := ?_) rfl rfl (by kernel_rfl) (by kernel_rfl) (by kernel_rfl) (fun _ _ _ h => h) (Or.inl ⟨by rfl, ?_⟩) ?_
      rotate_left
      · (intro w' _; go_simp; (try with_reducible rfl))
      simp only [List.setIfInBounds_toArray, List.set_cons_zero, List.set_cons_succ]
      refine wpAnyD_takeP (i := 1) (oi := { dst := some 14, op := Op.move (Operand.tmp 4), type := 3, pos := "law.go:27", after := #[], guard := none }) (d := 14) (v := ?_) rfl rfl (by kernel_rfl) (by kernel_rfl) (by kernel_rfl) (fun _ _ _ h => h) (Or.inl ⟨by rfl, ?_⟩) ?_
      rotate_left
      · (intro w' _; go_simp; (try with_reducible rfl))
      simp only [List.setIfInBounds_toArray, List.set_cons_zero, List.set_cons_succ]
      refine wpAnyD_takeP (i := 2) (oi := { dst := some 15, op := Op.indexAddr 63 (Operand.tmp 13) (Operand.tmp 14), type := 0, pos := "law.go:27", after := #[{ on := 0, ground := Ground.data }, { on := 1, ground := Ground.data }], guard := none }) (d := 15) (v := ?_) rfl rfl (by kernel_rfl) (by kernel_rfl) (by kernel_rfl) (fun _ _ _ h => h) (Or.inl ⟨by rfl, ?_⟩) ?_
      rotate_left
      · (intro w' _; go_simp; (try with_reducible rfl))
      simp only [List.setIfInBounds_toArray, List.set_cons_zero, List.set_cons_succ]
      refine wpAnyD_takeP (i := 4) (oi := { dst := some 17, op := Op.move (Operand.tmp 0), type := 63, pos := "law.go:27", after := #[{ on := 10, ground := Ground.gcOnly Departure.lateStores }], guard := none }) (d := 17) (v := ?_) rfl rfl (by kernel_rfl) (by kernel_rfl) (by kernel_rfl) (fun _ _ _ h => h) (Or.inl ⟨by rfl, ?_⟩) ?_
      rotate_left
      · (intro w' _; go_simp; (try with_reducible rfl))
      simp only [List.setIfInBounds_toArray, List.set_cons_zero, List.set_cons_succ]
      refine wpAnyD_takeP (i := 5) (oi := { dst := some 18, op := Op.move (Operand.tmp 3), type := 3, pos := "law.go:27", after := #[{ on := 10, ground := Ground.gcOnly Departure.lateStores }], guard := none }) (d := 18) (v := ?_) rfl rfl (by kernel_rfl) (by kernel_rfl) (by kernel_rfl) (fun _ _ _ h => h) (Or.inl ⟨by rfl, ?_⟩) ?_
      rotate_left
      · (intro w' _; go_simp; (try with_reducible rfl))
      simp only [List.setIfInBounds_toArray, List.set_cons_zero, List.set_cons_succ]
      refine wpAnyD_takeP (i := 6) (oi := { dst := some 19, op := Op.indexAddr 63 (Operand.tmp 17) (Operand.tmp 18), type := 0, pos := "law.go:27", after := #[{ on := 4, ground := Ground.data }, { on := 5, ground := Ground.data }, { on := 10, ground := Ground.gcOnly Departure.lateStores }], guard := none }) (d := 19) (v := ?_) rfl rfl (by kernel_rfl) (by kernel_rfl) (by kernel_rfl) (fun _ _ _ h => h) (Or.inl ⟨by rfl, ?_⟩) ?_
      rotate_left
      · (intro w' _; go_simp; (try with_reducible rfl))
      simp only [List.setIfInBounds_toArray, List.set_cons_zero, List.set_cons_succ]
      refine wpAnyD_takeD (i := 3) (oi := { dst := some 16, op := Op.load 68 (Operand.tmp 15), type := 68, pos := "law.go:27", after := #[{ on := 2, ground := Ground.data }], guard := none }) (d := 16) (v := ?_) rfl rfl (by kernel_rfl) (by kernel_rfl) (by kernel_rfl) (by kernel_rfl) (fun _ _ _ h => h) (Or.inl ⟨by rfl, ?_⟩) hHeld ?_
      rotate_left
      · (intro w' hSw; (try dsimp only at hSw); go_simp; (try with_reducible rfl))
      simp only [List.setIfInBounds_toArray, List.set_cons_zero, List.set_cons_succ]
      refine wpAnyD_takeD (i := 7) (oi := { dst := some 20, op := Op.load 68 (Operand.tmp 19), type := 68, pos := "law.go:27", after := #[{ on := 6, ground := Ground.data }, { on := 10, ground := Ground.gcOnly Departure.lateStores }], guard := none }) (d := 20) (v := ?_) rfl rfl (by kernel_rfl) (by kernel_rfl) (by kernel_rfl) (by kernel_rfl) (fun _ _ _ h => h) (Or.inl ⟨by rfl, ?_⟩) hHeld ?_
      rotate_left
      · (intro w' hSw; (try dsimp only at hSw); go_simp; (try with_reducible rfl))
      simp only [List.setIfInBounds_toArray, List.set_cons_zero, List.set_cons_succ]
      refine wpAnyD_two (i := 8) (j := 9) (oi := { dst := some 5, op := Op.alloc 68, type := 0, pos := "law.go:27", after := #[], guard := none }) (oj := { dst := some 6, op := Op.alloc 68, type := 0, pos := "law.go:27", after := #[], guard := none }) (by kernel_rfl) rfl rfl (by rfl) (by rfl) (fun K hK => ?_) (fun K hK => ?_)
      ·
        go_simp; (try have HNE := Lib.hid (Nat.ne_of_gt (blk_lt HN6.out.1))); have HN5 := Lib.hid (And.intro (bel_new HBB.out (.cells #[.int .i64 0, .int .i64 0, .int .i64 0] 68)) HBB.out.size); (try have HN6 := Lib.hid (And.intro (blk_alloc HN6.out.1 (.cells #[.int .i64 0, .int .i64 0, .int .i64 0] 68)) HN6.out.2)); have HBB := Lib.hid (bel_alloc HBB.out (.cells #[.int .i64 0, .int .i64 0, .int .i64 0] 68)); refine gen_below HBB.out rfl (fun W' hW' => ?_); rw [← hW'] at HBB HN5; (try rw [← hW'] at HN6); clear hW'; have h := HSC.out _ HBB.out
        refine hK.out _ _ h (fun hHeld => ?_)
        clear hK K
        try simp only [Act.put, List.setIfInBounds_toArray, List.set_cons_zero, List.set_cons_succ]
        refine wpAnyD_one (i := 9) (o := { dst := some 6, op := Op.alloc 68, type := 0, pos := "law.go:27", after := #[], guard := none }) (by kernel_rfl) rfl (by rfl) (fun K hK => ?_)
        go_simp; (try have HNE := Lib.hid (Nat.ne_of_lt (blk_lt HN5.out.1))); have HN6 := Lib.hid (And.intro (bel_new HBB.out (.cells #[.int .i64 0, .int .i64 0, .int .i64 0] 68)) HBB.out.size); (try have HN5 := Lib.hid (And.intro (blk_alloc HN5.out.1 (.cells #[.int .i64 0, .int .i64 0, .int .i64 0] 68)) HN5.out.2)); have HBB := Lib.hid (bel_alloc HBB.out (.cells #[.int .i64 0, .int .i64 0, .int .i64 0] 68)); refine gen_below HBB.out rfl (fun W' hW' => ?_); rw [← hW'] at HBB HN6; (try rw [← hW'] at HN5); clear hW'; have h := HSC.out _ HBB.out
        refine hK.out _ _ h (fun hHeld => ?_)
        clear hK K
        try simp only [Act.put, List.setIfInBounds_toArray, List.set_cons_zero, List.set_cons_succ]
        refine wpAnyD_one (i := 10) (o := { dst := none, op := Op.store 68 (Operand.tmp 5) (Operand.tmp 16), type := 0, pos := "law.go:27", after := #[{ on := 8, ground := Ground.data }, { on := 3, ground := Ground.data }, { on := 0, ground := Ground.phase }, { on := 1, ground := Ground.phase }, { on := 2, ground := Ground.phase }, { on := 3, ground := Ground.phase }, { on := 4, ground := Ground.textOnly Departure.lateStores }, { on := 5, ground := Ground.textOnly Departure.lateStores }, { on := 6, ground := Ground.textOnly Departure.lateStores }, { on := 7, ground := Ground.textOnly Departure.lateStores }, { on := 8, ground := Ground.phase }, { on := 9, ground := Ground.phase }], guard := none }) (by kernel_rfl) rfl (by rfl) (fun K hK => ?_)
        obtain ⟨d0, d1, d2, z0, z1, z2⟩ := cells3 HN5.out.1; go_simp; have HN6 := Lib.hid (And.intro (far3 HN6.out.1 HNE.out.symm (.int .i64 xr) (.int .i64 xp) (.int .i64 xt)) HN6.out.2); have HBB := Lib.hid (bel3 HBB.out HN5.out.2 (.int .i64 xr) (.int .i64 xp) (.int .i64 xt)); have HN5 := Lib.hid (And.intro (put3 HN5.out.1 (.int .i64 xr) (.int .i64 xp) (.int .i64 xt)) HN5.out.2); refine gen_below HBB.out rfl (fun W' hW' => ?_); rw [← hW'] at HBB HN5 HN6; clear hW' d0 d1 d2 z0 z1 z2; have h := HSC.out _ HBB.out
        refine hK.out _ _ h (fun hHeld => ?_)
        clear hK K
        try simp only [Act.put, List.setIfInBounds_toArray, List.set_cons_zero, List.set_cons_succ]
        refine wpAnyD_one (i := 11) (o := { dst := none, op := Op.store 68 (Operand.tmp 6) (Operand.tmp 20), type := 0, pos := "law.go:27", after := #[{ on := 9, ground := Ground.data }, { on := 7, ground := Ground.data }, { on := 10, ground := Ground.chain }, { on := 0, ground := Ground.phase }, { on := 1, ground := Ground.phase }, { on := 2, ground := Ground.phase }, { on := 3, ground := Ground.phase }, { on := 4, ground := Ground.phase }, { on := 5, ground := Ground.phase }, { on := 6, ground := Ground.phase }, { on := 7, ground := Ground.phase }, { on := 8, ground := Ground.phase }, { on := 9, ground := Ground.phase }, { on := 10, ground := Ground.phase }], guard := none }) (by kernel_rfl) rfl (by rfl) (fun K hK => ?_)
        obtain ⟨d0, d1, d2, z0, z1, z2⟩ := cells3 HN6.out.1; go_simp; have HN5 := Lib.hid (And.intro (far3 HN5.out.1 HNE.out (.int .i64 yr) (.int .i64 yp) (.int .i64 yt)) HN5.out.2); have HBB := Lib.hid (bel3 HBB.out HN6.out.2 (.int .i64 yr) (.int .i64 yp) (.int .i64 yt)); have HN6 := Lib.hid (And.intro (put3 HN6.out.1 (.int .i64 yr) (.int .i64 yp) (.int .i64 yt)) HN6.out.2); refine gen_below HBB.out rfl (fun W' hW' => ?_); rw [← hW'] at HBB HN5 HN6; clear hW' d0 d1 d2 z0 z1 z2; have h := HSC.out _ HBB.out
        refine hK.out _ _ h (fun hHeld => ?_)
        clear hK K
        try simp only [Act.put, List.setIfInBounds_toArray, List.set_cons_zero, List.set_cons_succ]
        refine wpAnyD_done (by kernel_rfl) ?_ _
        obtain ⟨c0, c1, c2, _, _, _⟩ := cells3 HN5.out.1
        obtain ⟨d0, d1, d2, _, _, _⟩ := cells3 HN6.out.1
        clear hHeld h
        by_cases h1 : xr < yr
        · have HVV : Hid (V0 = true) := Lib.hid (by rw [← HV.out]; simp [h1])
          go_wp2_with fail
          go_roundg (gk - 1)
          case measure => omega
          case rel => exact ⟨k + 1, by omega, by simp, by rw [HNX.out, HVV.out]; rfl, HBB.out⟩
        · by_cases h2 : xr = yr
          · subst h2
            by_cases h3 : xp < yp
            · have HVV : Hid (V0 = true) := Lib.hid (by rw [← HV.out]; simp [h3])
              go_wp2_with fail
              go_roundg (gk - 1)
              case measure => omega
              case rel => exact ⟨k + 1, by omega, by simp, by rw [HNX.out, HVV.out]; rfl, HBB.out⟩
            · by_cases h4 : xp = yp
              · subst h4
                by_cases h5 : xt < yt
                · have HVV : Hid (V0 = true) := Lib.hid (by rw [← HV.out]; simp [h5])
                  go_wp2_with fail
                  go_roundg (gk - 1)
                  case measure => omega
                  case rel => exact ⟨k + 1, by omega, by simp, by rw [HNX.out, HVV.out]; rfl, HBB.out⟩
                · have HVV : Hid (V0 = false) := Lib.hid (by rw [← HV.out]; simp [h5])
                  go_wp2_with fail
                  go_roundg (gk - 1)
                  case measure => omega
                  case rel => exact ⟨k + 1, by omega, by simp, by rw [HNX.out, HVV.out]; rfl, HBB.out⟩
              · have HVV : Hid (V0 = false) := Lib.hid (by rw [← HV.out]; simp [h3, h4])
                go_wp2_with fail
                go_roundg (gk - 1)
                case measure => omega
                case rel => exact ⟨k + 1, by omega, by simp, by rw [HNX.out, HVV.out]; rfl, HBB.out⟩
          · have HVV : Hid (V0 = false) := Lib.hid (by rw [← HV.out]; simp [h1, h2])
            go_wp2_with fail
            go_roundg (gk - 1)
            case measure => omega
            case rel => exact ⟨k + 1, by omega, by simp, by rw [HNX.out, HVV.out]; rfl, HBB.out⟩
      ·
        go_simp; (try have HNE := Lib.hid (Nat.ne_of_lt (blk_lt HN5.out.1))); have HN6 := Lib.hid (And.intro (bel_new HBB.out (.cells #[.int .i64 0, .int .i64 0, .int .i64 0] 68)) HBB.out.size); (try have HN5 := Lib.hid (And.intro (blk_alloc HN5.out.1 (.cells #[.int .i64 0, .int .i64 0, .int .i64 0] 68)) HN5.out.2)); have HBB := Lib.hid (bel_alloc HBB.out (.cells #[.int .i64 0, .int .i64 0, .int .i64 0] 68)); refine gen_below HBB.out rfl (fun W' hW' => ?_); rw [← hW'] at HBB HN6; (try rw [← hW'] at HN5); clear hW'; have h := HSC.out _ HBB.out
        refine hK.out _ _ h (fun hHeld => ?_)
        clear hK K
        try simp only [Act.put, List.setIfInBounds_toArray, List.set_cons_zero, List.set_cons_succ]
        refine wpAnyD_one (i := 8) (o := { dst := some 5, op := Op.alloc 68, type := 0, pos := "law.go:27", after := #[], guard := none }) (by kernel_rfl) rfl (by rfl) (fun K hK => ?_)
        go_simp; (try have HNE := Lib.hid (Nat.ne_of_gt (blk_lt HN6.out.1))); have HN5 := Lib.hid (And.intro (bel_new HBB.out (.cells #[.int .i64 0, .int .i64 0, .int .i64 0] 68)) HBB.out.size); (try have HN6 := Lib.hid (And.intro (blk_alloc HN6.out.1 (.cells #[.int .i64 0, .int .i64 0, .int .i64 0] 68)) HN6.out.2)); have HBB := Lib.hid (bel_alloc HBB.out (.cells #[.int .i64 0, .int .i64 0, .int .i64 0] 68)); refine gen_below HBB.out rfl (fun W' hW' => ?_); rw [← hW'] at HBB HN5; (try rw [← hW'] at HN6); clear hW'; have h := HSC.out _ HBB.out
        refine hK.out _ _ h (fun hHeld => ?_)
        clear hK K
        try simp only [Act.put, List.setIfInBounds_toArray, List.set_cons_zero, List.set_cons_succ]
        refine wpAnyD_one (i := 10) (o := { dst := none, op := Op.store 68 (Operand.tmp 5) (Operand.tmp 16), type := 0, pos := "law.go:27", after := #[{ on := 8, ground := Ground.data }, { on := 3, ground := Ground.data }, { on := 0, ground := Ground.phase }, { on := 1, ground := Ground.phase }, { on := 2, ground := Ground.phase }, { on := 3, ground := Ground.phase }, { on := 4, ground := Ground.textOnly Departure.lateStores }, { on := 5, ground := Ground.textOnly Departure.lateStores }, { on := 6, ground := Ground.textOnly Departure.lateStores }, { on := 7, ground := Ground.textOnly Departure.lateStores }, { on := 8, ground := Ground.phase }, { on := 9, ground := Ground.phase }], guard := none }) (by kernel_rfl) rfl (by rfl) (fun K hK => ?_)
        obtain ⟨d0, d1, d2, z0, z1, z2⟩ := cells3 HN5.out.1; go_simp; have HN6 := Lib.hid (And.intro (far3 HN6.out.1 HNE.out.symm (.int .i64 xr) (.int .i64 xp) (.int .i64 xt)) HN6.out.2); have HBB := Lib.hid (bel3 HBB.out HN5.out.2 (.int .i64 xr) (.int .i64 xp) (.int .i64 xt)); have HN5 := Lib.hid (And.intro (put3 HN5.out.1 (.int .i64 xr) (.int .i64 xp) (.int .i64 xt)) HN5.out.2); refine gen_below HBB.out rfl (fun W' hW' => ?_); rw [← hW'] at HBB HN5 HN6; clear hW' d0 d1 d2 z0 z1 z2; have h := HSC.out _ HBB.out
        refine hK.out _ _ h (fun hHeld => ?_)
        clear hK K
        try simp only [Act.put, List.setIfInBounds_toArray, List.set_cons_zero, List.set_cons_succ]
        refine wpAnyD_one (i := 11) (o := { dst := none, op := Op.store 68 (Operand.tmp 6) (Operand.tmp 20), type := 0, pos := "law.go:27", after := #[{ on := 9, ground := Ground.data }, { on := 7, ground := Ground.data }, { on := 10, ground := Ground.chain }, { on := 0, ground := Ground.phase }, { on := 1, ground := Ground.phase }, { on := 2, ground := Ground.phase }, { on := 3, ground := Ground.phase }, { on := 4, ground := Ground.phase }, { on := 5, ground := Ground.phase }, { on := 6, ground := Ground.phase }, { on := 7, ground := Ground.phase }, { on := 8, ground := Ground.phase }, { on := 9, ground := Ground.phase }, { on := 10, ground := Ground.phase }], guard := none }) (by kernel_rfl) rfl (by rfl) (fun K hK => ?_)
        obtain ⟨d0, d1, d2, z0, z1, z2⟩ := cells3 HN6.out.1; go_simp; have HN5 := Lib.hid (And.intro (far3 HN5.out.1 HNE.out (.int .i64 yr) (.int .i64 yp) (.int .i64 yt)) HN5.out.2); have HBB := Lib.hid (bel3 HBB.out HN6.out.2 (.int .i64 yr) (.int .i64 yp) (.int .i64 yt)); have HN6 := Lib.hid (And.intro (put3 HN6.out.1 (.int .i64 yr) (.int .i64 yp) (.int .i64 yt)) HN6.out.2); refine gen_below HBB.out rfl (fun W' hW' => ?_); rw [← hW'] at HBB HN5 HN6; clear hW' d0 d1 d2 z0 z1 z2; have h := HSC.out _ HBB.out
        refine hK.out _ _ h (fun hHeld => ?_)
        clear hK K
        try simp only [Act.put, List.setIfInBounds_toArray, List.set_cons_zero, List.set_cons_succ]
        refine wpAnyD_done (by kernel_rfl) ?_ _
        obtain ⟨c0, c1, c2, _, _, _⟩ := cells3 HN5.out.1
        obtain ⟨d0, d1, d2, _, _, _⟩ := cells3 HN6.out.1
        clear hHeld h
        by_cases h1 : xr < yr
        · have HVV : Hid (V0 = true) := Lib.hid (by rw [← HV.out]; simp [h1])
          go_wp2_with fail
          go_roundg (gk - 1)
          case measure => omega
          case rel => exact ⟨k + 1, by omega, by simp, by rw [HNX.out, HVV.out]; rfl, HBB.out⟩
        · by_cases h2 : xr = yr
          · subst h2
            by_cases h3 : xp < yp
            · have HVV : Hid (V0 = true) := Lib.hid (by rw [← HV.out]; simp [h3])
              go_wp2_with fail
              go_roundg (gk - 1)
              case measure => omega
              case rel => exact ⟨k + 1, by omega, by simp, by rw [HNX.out, HVV.out]; rfl, HBB.out⟩
            · by_cases h4 : xp = yp
              · subst h4
                by_cases h5 : xt < yt
                · have HVV : Hid (V0 = true) := Lib.hid (by rw [← HV.out]; simp [h5])
                  go_wp2_with fail
                  go_roundg (gk - 1)
                  case measure => omega
                  case rel => exact ⟨k + 1, by omega, by simp, by rw [HNX.out, HVV.out]; rfl, HBB.out⟩
                · have HVV : Hid (V0 = false) := Lib.hid (by rw [← HV.out]; simp [h5])
                  go_wp2_with fail
                  go_roundg (gk - 1)
                  case measure => omega
                  case rel => exact ⟨k + 1, by omega, by simp, by rw [HNX.out, HVV.out]; rfl, HBB.out⟩
              · have HVV : Hid (V0 = false) := Lib.hid (by rw [← HV.out]; simp [h3, h4])
                go_wp2_with fail
                go_roundg (gk - 1)
                case measure => omega
                case rel => exact ⟨k + 1, by omega, by simp, by rw [HNX.out, HVV.out]; rfl, HBB.out⟩
          · have HVV : Hid (V0 = false) := Lib.hid (by rw [← HV.out]; simp [h1, h2])
            go_wp2_with fail
            go_roundg (gk - 1)
            case measure => omega
            case rel => exact ⟨k + 1, by omega, by simp, by rw [HNX.out, HVV.out]; rfl, HBB.out⟩
    · have hke : k = l.length := by omega
      subst hke
      have hlt' : ¬ ((l.length : Nat) : Int) < (l.length : Int) := by omega
      go_wp2_with fail
      go_ret
      exact ⟨rfl, HB.out⟩
end Go.Proofs.Ytdppdjiigecjoaa
