/- Layer 1 (nat): slices.Reverse of bytes. -/
import Derived.Test.YtnfehhblmoliaaaNatB
namespace Go.Proofs.Ytnfehhblmoliaaa
open Go.RowKit Go.Maps Go.WideMaps
set_option maxRecDepth 100000
set_option linter.unusedVariables false
set_option linter.unusedSimpArgs false

def u8V (x : Nat) : Value := .int .u8 (x : Int)
theorem info_u8 : (Try.prog.info? 5).map (fun i => (i.zero, i.size, i.bytes)) = some (some (.int .u8 0), 1, 1) := by kernel_rfl
theorem own_cells {w : World} {base n cap g : Nat} {e : TypeId} {size : Nat} {xs : List Value} (h : w.ownsRow base e size (.slice (some ⟨g, 0, none⟩) n cap) n xs) (hn : 0 < n) (j : Nat) (hj : j < n * size) : (∃ v, w.cell? ⟨g, j, none⟩ = some v) ∧ w.frozen? ⟨g, j, none⟩ = false := by
  obtain ⟨g', cap', e1, _, _, hc⟩ := own_open h hn
  injection e1 with e1 e2 e3
  injection e1 with e1
  injection e1 with e1
  subst e1
  have hl := h.1
  obtain ⟨h1, h2⟩ := hc j xs[j] (List.getElem?_eq_getElem (by omega))
  exact ⟨⟨_, h1⟩, h2⟩
theorem gen_set1 {K : Act → World → Prop} {a : Act} {W V : World} (hV : W = V) (h : ∀ W', W' = V → K a W') : K a W := by subst hV; exact h _ rfl
/-- the first k and the last k of xs have changed places -/
structure RevK (xs out : List Nat) (k : Nat) : Prop where
  len : out.length = xs.length
  at' : ∀ t, t < xs.length → atL out t = if t < k ∨ xs.length - k ≤ t then atL xs (xs.length - 1 - t) else atL xs t
theorem RevK.start (xs : List Nat) : RevK xs xs 0 := ⟨rfl, fun t ht => by rw [if_neg (by omega)]⟩
theorem atL_set (l : List Nat) (i x t : Nat) (hi : i < l.length) : atL (l.set i x) t = if t = i then x else atL l t := by
  unfold atL
  rw [List.getElem?_set]
  by_cases h : i = t
  · subst h; simp [hi]
  · rw [if_neg h, if_neg (fun e => h e.symm)]
theorem RevK.next {xs out : List Nat} {k : Nat} (h : RevK xs out k) (hk : k + 1 + k < xs.length) : RevK xs ((out.set k (atL out (xs.length - 1 - k))).set (xs.length - 1 - k) (atL out k)) (k + 1) := by
  refine ⟨by rw [List.length_set, List.length_set, h.len], fun t ht => ?_⟩
  have hl := h.len
  rw [atL_set _ _ _ _ (by rw [List.length_set]; omega), atL_set _ _ _ _ (by omega)]
  by_cases h1 : t = xs.length - 1 - k
  · rw [if_pos h1, if_pos (by omega), h.at' k (by omega), if_neg (by omega)]
    congr 1
    omega
  · rw [if_neg h1]
    by_cases h2 : t = k
    · rw [if_pos h2, if_pos (by omega), h.at' (xs.length - 1 - k) (by omega), if_neg (by omega)]
      congr 1
      omega
    · rw [if_neg h2, h.at' t ht]
      by_cases h3 : t < k ∨ xs.length - k ≤ t
      · rw [if_pos h3, if_pos (by omega)]
      · rw [if_neg h3, if_neg (by omega)]
theorem RevK.done {xs out : List Nat} {k : Nat} (h : RevK xs out k) (hk : xs.length ≤ k + 1 + k) (hk2 : k ≤ xs.length) : out = xs.reverse := by
  apply List.ext_getElem
  · rw [h.len, List.length_reverse]
  · intro t h1 h2
    have h3 : t < xs.length := by rw [← h.len]; exact h1
    have := h.at' t h3
    rw [atL_get h1] at this
    rw [this, List.getElem_reverse, atL_get (by omega)]
    split
    · rfl
    · rw [atL_get (by omega)]
      congr 1
      omega

set_option maxHeartbeats 4000000 in
theorem reverse_any (xs : List Nat) (base g c : Nat) (w : World) (h : w.ownsRow base 5 1 (.slice (some ⟨g, 0, none⟩) xs.length c) xs.length (xs.map u8V)) (hg : base ≤ g) (hlen : xs.length < 1000000000000000000) :
    Calls Try.prog 38 #[.slice (some ⟨g, 0, none⟩) xs.length c] w fun e w' => e = .returned (.tuple #[]) ∧ w'.ownsRow base 5 1 (.slice (some ⟨g, 0, none⟩) xs.length c) xs.length (xs.reverse.map u8V) ∧ Keep (fun x => x = g) w w' := by
  have HO := Lib.hid h
  clear h
  have wl : IntKind.i64.wrap ((xs.length : Int) - 1) = (xs.length : Int) - 1 := IntWalk.i64_in _ (by omega)
  go_enter Try.func38, Try.ntmps38
  go_wp2_with fail
  clear wl
  go_loopg [2, 3] xs.length (fun n v2 v3 W => ∃ (k : Nat) (out : List Nat), k + n = xs.length ∧ v2 = .int .i64 (k : Int) ∧ v3 = .int .i64 ((xs.length : Int) - 1 - (k : Int)) ∧ RevK xs out k ∧ W.ownsRow base 5 1 (.slice (some ⟨g, 0, none⟩) xs.length c) xs.length (out.map u8V) ∧ Keep (fun x => x = g) w W)
  case atStart => exact ⟨0, xs, by omega, rfl, by simp, RevK.start xs, HO.out, Keep.refl _ _⟩
  case round =>
    obtain ⟨k, out, hk, rfl, rfl, hR, hO, hK⟩ := hrel
    rename World => W
    have HRV := Lib.hid hR
    have HROW := Lib.hid (own_drew hO)
    have HK := Lib.hid hK.drew
    have HROW0 := Lib.hid hO
    have HK0 := Lib.hid hK
    clear HO hR hO hK
    by_cases hlt : k + 1 + k < xs.length
    · obtain ⟨j, hj⟩ : ∃ j, xs.length - 1 - k = j := ⟨_, rfl⟩
      rw [show (xs.length : Int) - 1 - (k : Int) = (j : Int) by omega]
      have hlt' : (k : Int) < (j : Int) := by omega
      have p0 : (0 : Int) ≤ (k : Int) := by omega
      have p1 : (k : Int) < (xs.length : Int) := by omega
      have p2 : (0 : Int) ≤ (j : Int) := by omega
      have p3 : (j : Int) < (xs.length : Int) := by omega
      have hkl : k < xs.length := by omega
      have hjl : j < xs.length := by omega
      have HNX := HRV.out.next hlt
      rw [hj] at HNX
      have hl := HRV.out.len
      obtain ⟨x, hx⟩ : ∃ x, atL out k = x := ⟨_, rfl⟩
      obtain ⟨y, hy⟩ : ∃ y, atL out j = y := ⟨_, rfl⟩
      rw [hx, hy] at HNX
      obtain ⟨a0, a1⟩ := own_at HROW.out k (u8V x) (by rw [List.getElem?_map, List.getElem?_eq_getElem (by omega), ← hx, atL_get (by omega)]; rfl)
      obtain ⟨b0, b1⟩ := own_at HROW.out j (u8V y) (by rw [List.getElem?_map, List.getElem?_eq_getElem (by omega), ← hy, atL_get (by omega)]; rfl)
      unfold u8V at a0 b0
      have HNXT := Lib.hid HNX
      have w1 : IntKind.i64.wrap ((k : Int) + 1) = (k : Int) + 1 := IntWalk.i64_in _ (by omega)
      have w2 : IntKind.i64.wrap ((j : Int) - 1) = (xs.length : Int) - 1 - ((k : Int) + 1) := by rw [IntWalk.i64_in _ (by omega)]; omega
      have HJ := Lib.hid hj
      clear hx hy hl HNX hj
      have hkj : k < j := by omega
      go_wp2_with fail
      refine wp_region_D (Ds := [13, 15]) (S := fun V => V.cell? ⟨g, k, none⟩ = some (.int .u8 (x : Int)) ∧ V.cell? ⟨g, j, none⟩ = some (.int .u8 (y : Int))) (by kernel_rfl) (by exact ⟨a0, b0⟩) (fun hHeld => ?_)
      clear a0 a1 b0 b1
      generalize W.drew = W0 at *
      refine wpAnyD_takeP (i := 0) (oi := { dst := some 14, op := Op.move (Operand.tmp 0), type := 29, pos := "slices.go:485", after := #[], guard := none }) (d := 14) (v := ?_) rfl rfl (by kernel_rfl) (by kernel_rfl) (by kernel_rfl) (fun _ _ _ h => h) (Or.inl ⟨by rfl, ?_⟩) ?_
      rotate_left
      · (intro w' _; go_simp; (try with_reducible rfl))
      simp only [List.setIfInBounds_toArray, List.set_cons_zero, List.set_cons_succ]
      refine wpAnyD_takeP (i := 1) (oi := { dst := some 15, op := Op.move (Operand.tmp 2), type := 3, pos := "slices.go:485", after := #[], guard := none }) (d := 15) (v := ?_) rfl rfl (by kernel_rfl) (by kernel_rfl) (by kernel_rfl) (fun _ _ _ h => h) (Or.inl ⟨by rfl, ?_⟩) ?_
      rotate_left
      · (intro w' _; go_simp; (try with_reducible rfl))
      simp only [List.setIfInBounds_toArray, List.set_cons_zero, List.set_cons_succ]
      refine wpAnyD_takeP (i := 2) (oi := { dst := some 16, op := Op.move (Operand.tmp 0), type := 29, pos := "slices.go:485", after := #[{ on := 13, ground := Ground.gcOnly Departure.lateStores }], guard := none }) (d := 16) (v := ?_) rfl rfl (by kernel_rfl) (by kernel_rfl) (by kernel_rfl) (fun _ _ _ h => h) (Or.inl ⟨by rfl, ?_⟩) ?_
      rotate_left
      · (intro w' _; go_simp; (try with_reducible rfl))
      simp only [List.setIfInBounds_toArray, List.set_cons_zero, List.set_cons_succ]
      refine wpAnyD_takeP (i := 3) (oi := { dst := some 17, op := Op.move (Operand.tmp 3), type := 3, pos := "slices.go:485", after := #[{ on := 13, ground := Ground.gcOnly Departure.lateStores }], guard := none }) (d := 17) (v := ?_) rfl rfl (by kernel_rfl) (by kernel_rfl) (by kernel_rfl) (fun _ _ _ h => h) (Or.inl ⟨by rfl, ?_⟩) ?_
      rotate_left
      · (intro w' _; go_simp; (try with_reducible rfl))
      simp only [List.setIfInBounds_toArray, List.set_cons_zero, List.set_cons_succ]
      refine wpAnyD_takeP (i := 4) (oi := { dst := some 18, op := Op.move (Operand.tmp 0), type := 29, pos := "slices.go:485", after := #[], guard := none }) (d := 18) (v := ?_) rfl rfl (by kernel_rfl) (by kernel_rfl) (by kernel_rfl) (fun _ _ _ h => h) (Or.inl ⟨by rfl, ?_⟩) ?_
      rotate_left
      · (intro w' _; go_simp; (try with_reducible rfl))
      simp only [List.setIfInBounds_toArray, List.set_cons_zero, List.set_cons_succ]
      refine wpAnyD_takeP (i := 5) (oi := { dst := some 19, op := Op.move (Operand.tmp 3), type := 3, pos := "slices.go:485", after := #[], guard := none }) (d := 19) (v := ?_) rfl rfl (by kernel_rfl) (by kernel_rfl) (by kernel_rfl) (fun _ _ _ h => h) (Or.inl ⟨by rfl, ?_⟩) ?_
      rotate_left
      · (intro w' _; go_simp; (try with_reducible rfl))
      simp only [List.setIfInBounds_toArray, List.set_cons_zero, List.set_cons_succ]
      refine wpAnyD_takeP (i := 6) (oi := { dst := some 20, op := Op.indexAddr 29 (Operand.tmp 18) (Operand.tmp 19), type := 0, pos := "slices.go:485", after := #[{ on := 4, ground := Ground.data }, { on := 5, ground := Ground.data }], guard := none }) (d := 20) (v := ?_) rfl rfl (by kernel_rfl) (by kernel_rfl) (by kernel_rfl) (fun _ _ _ h => h) (Or.inl ⟨by rfl, ?_⟩) ?_
      rotate_left
      · (intro w' _; go_simp; (try with_reducible rfl))
      simp only [List.setIfInBounds_toArray, List.set_cons_zero, List.set_cons_succ]
      refine wpAnyD_takeP (i := 8) (oi := { dst := some 22, op := Op.move (Operand.tmp 0), type := 29, pos := "slices.go:485", after := #[], guard := none }) (d := 22) (v := ?_) rfl rfl (by kernel_rfl) (by kernel_rfl) (by kernel_rfl) (fun _ _ _ h => h) (Or.inl ⟨by rfl, ?_⟩) ?_
      rotate_left
      · (intro w' _; go_simp; (try with_reducible rfl))
      simp only [List.setIfInBounds_toArray, List.set_cons_zero, List.set_cons_succ]
      refine wpAnyD_takeP (i := 9) (oi := { dst := some 23, op := Op.move (Operand.tmp 2), type := 3, pos := "slices.go:485", after := #[], guard := none }) (d := 23) (v := ?_) rfl rfl (by kernel_rfl) (by kernel_rfl) (by kernel_rfl) (fun _ _ _ h => h) (Or.inl ⟨by rfl, ?_⟩) ?_
      rotate_left
      · (intro w' _; go_simp; (try with_reducible rfl))
      simp only [List.setIfInBounds_toArray, List.set_cons_zero, List.set_cons_succ]
      refine wpAnyD_takeP (i := 10) (oi := { dst := some 24, op := Op.indexAddr 29 (Operand.tmp 22) (Operand.tmp 23), type := 0, pos := "slices.go:485", after := #[{ on := 8, ground := Ground.data }, { on := 9, ground := Ground.data }], guard := none }) (d := 24) (v := ?_) rfl rfl (by kernel_rfl) (by kernel_rfl) (by kernel_rfl) (fun _ _ _ h => h) (Or.inl ⟨by rfl, ?_⟩) ?_
      rotate_left
      · (intro w' _; go_simp; (try with_reducible rfl))
      simp only [List.setIfInBounds_toArray, List.set_cons_zero, List.set_cons_succ]
      refine wpAnyD_takeD (i := 7) (oi := { dst := some 21, op := Op.load 5 (Operand.tmp 20), type := 5, pos := "slices.go:485", after := #[{ on := 6, ground := Ground.data }], guard := none }) (d := 21) (v := ?_) rfl rfl (by kernel_rfl) (by kernel_rfl) (by kernel_rfl) (by kernel_rfl) (fun _ _ _ h => h) (Or.inl ⟨by rfl, ?_⟩) hHeld ?_
      rotate_left
      · (intro w' hSw; (try dsimp only at hSw); go_simp; (try with_reducible rfl))
      simp only [List.setIfInBounds_toArray, List.set_cons_zero, List.set_cons_succ]
      refine wpAnyD_takeD (i := 11) (oi := { dst := some 25, op := Op.load 5 (Operand.tmp 24), type := 5, pos := "slices.go:485", after := #[{ on := 10, ground := Ground.data }], guard := none }) (d := 25) (v := ?_) rfl rfl (by kernel_rfl) (by kernel_rfl) (by kernel_rfl) (by kernel_rfl) (fun _ _ _ h => h) (Or.inl ⟨by rfl, ?_⟩) hHeld ?_
      rotate_left
      · (intro w' hSw; (try dsimp only at hSw); go_simp; (try with_reducible rfl))
      simp only [List.setIfInBounds_toArray, List.set_cons_zero, List.set_cons_succ]
      refine wpAnyD_takeP (i := 12) (oi := { dst := some 26, op := Op.indexAddr 29 (Operand.tmp 14) (Operand.tmp 15), type := 0, pos := "slices.go:485", after := #[{ on := 0, ground := Ground.data }, { on := 1, ground := Ground.data }, { on := 0, ground := Ground.phase }, { on := 1, ground := Ground.phase }, { on := 2, ground := Ground.textOnly Departure.lateStores }, { on := 3, ground := Ground.textOnly Departure.lateStores }, { on := 4, ground := Ground.phase }, { on := 5, ground := Ground.phase }, { on := 6, ground := Ground.phase }, { on := 7, ground := Ground.phase }, { on := 8, ground := Ground.textOnly Departure.lateStores }, { on := 9, ground := Ground.textOnly Departure.lateStores }, { on := 10, ground := Ground.textOnly Departure.lateStoresUnsure }, { on := 11, ground := Ground.phase }], guard := none }) (d := 26) (v := ?_) rfl rfl (by kernel_rfl) (by kernel_rfl) (by kernel_rfl) (fun _ _ _ h => h) (Or.inl ⟨by rfl, ?_⟩) ?_
      rotate_left
      · (intro w' _; go_simp; (try with_reducible rfl))
      simp only [List.setIfInBounds_toArray, List.set_cons_zero, List.set_cons_succ]
      refine wpAnyD_last (D := 13) (by decide) (o := { dst := none, op := Op.store 5 (Operand.tmp 26) (Operand.tmp 21), type := 0, pos := "slices.go:485", after := #[{ on := 12, ground := Ground.data }, { on := 7, ground := Ground.data }, { on := 0, ground := Ground.phase }, { on := 1, ground := Ground.phase }, { on := 2, ground := Ground.textOnly Departure.lateStores }, { on := 3, ground := Ground.textOnly Departure.lateStores }, { on := 4, ground := Ground.phase }, { on := 5, ground := Ground.phase }, { on := 6, ground := Ground.phase }, { on := 7, ground := Ground.phase }, { on := 8, ground := Ground.textOnly Departure.lateStores }, { on := 9, ground := Ground.textOnly Departure.lateStores }, { on := 10, ground := Ground.textOnly Departure.lateStoresUnsure }, { on := 11, ground := Ground.phase }], guard := none }) (by kernel_rfl) rfl (by rfl) (fun K hK => ?_)
      have q0 := own_cells HROW.out (by omega) k (by omega); obtain ⟨⟨v0, c0⟩, f0⟩ := q0; clear hHeld; go_simp; have HROW := Lib.hid (own_set HROW.out k (.int .u8 (y : Int))); have HK := Lib.hid (HK.out.setCell (p := ⟨g, k, none⟩) (.inl rfl) (.int .u8 (y : Int))); refine gen_set1 rfl (fun W' hW' => ?_); rw [← hW'] at HROW HK; clear hW' c0 f0
      refine hK.out _ _ ?_
      clear hK K
      try simp only [Act.put, List.setIfInBounds_toArray, List.set_cons_zero, List.set_cons_succ]
      refine wpAnyD_takeP (i := 14) (oi := { dst := some 27, op := Op.indexAddr 29 (Operand.tmp 16) (Operand.tmp 17), type := 0, pos := "slices.go:485", after := #[{ on := 2, ground := Ground.data }, { on := 3, ground := Ground.data }, { on := 0, ground := Ground.phase }, { on := 1, ground := Ground.phase }, { on := 2, ground := Ground.phase }, { on := 3, ground := Ground.phase }, { on := 4, ground := Ground.phase }, { on := 5, ground := Ground.phase }, { on := 6, ground := Ground.phase }, { on := 7, ground := Ground.phase }, { on := 8, ground := Ground.phase }, { on := 9, ground := Ground.phase }, { on := 10, ground := Ground.phase }, { on := 11, ground := Ground.phase }, { on := 12, ground := Ground.phase }, { on := 13, ground := Ground.phase }], guard := none }) (d := 27) (v := ?_) rfl rfl (by kernel_rfl) (by kernel_rfl) (by kernel_rfl) (fun _ _ _ h => h) (Or.inl ⟨by rfl, ?_⟩) ?_
      rotate_left
      · (intro w' _; go_simp; (try with_reducible rfl))
      simp only [List.setIfInBounds_toArray, List.set_cons_zero, List.set_cons_succ]
      refine wpAnyD_last (D := 15) (by decide) (o := { dst := none, op := Op.store 5 (Operand.tmp 27) (Operand.tmp 25), type := 0, pos := "slices.go:485", after := #[{ on := 14, ground := Ground.data }, { on := 11, ground := Ground.data }, { on := 13, ground := Ground.chain }, { on := 0, ground := Ground.phase }, { on := 1, ground := Ground.phase }, { on := 2, ground := Ground.phase }, { on := 3, ground := Ground.phase }, { on := 4, ground := Ground.phase }, { on := 5, ground := Ground.phase }, { on := 6, ground := Ground.phase }, { on := 7, ground := Ground.phase }, { on := 8, ground := Ground.phase }, { on := 9, ground := Ground.phase }, { on := 10, ground := Ground.phase }, { on := 11, ground := Ground.phase }, { on := 12, ground := Ground.phase }, { on := 13, ground := Ground.phase }], guard := none }) (by kernel_rfl) rfl (by rfl) (fun K hK => ?_)
      have q0 := own_cells HROW.out (by omega) j (by omega); obtain ⟨⟨v0, c0⟩, f0⟩ := q0; go_simp; have HROW := Lib.hid (own_set HROW.out j (.int .u8 (x : Int))); have HK := Lib.hid (HK.out.setCell (p := ⟨g, j, none⟩) (.inl rfl) (.int .u8 (x : Int))); refine gen_set1 rfl (fun W' hW' => ?_); rw [← hW'] at HROW HK; clear hW' c0 f0
      refine hK.out _ _ ?_
      clear hK K
      try simp only [Act.put, List.setIfInBounds_toArray, List.set_cons_zero, List.set_cons_succ]
      refine wpAnyD_done (by kernel_rfl) ?_ _
      go_wp2_with fail
      go_roundg (gk - 1)
      case measure => omega
      case rel => exact ⟨k + 1, _, by omega, by simp, by simp, HNXT.out, by rw [List.map_set, List.map_set]; exact HROW.out, HK.out⟩
    · have hlt' : ¬ ((k : Int) < (xs.length : Int) - 1 - (k : Int)) := by omega
      have hd := HRV.out.done (by omega) (by omega)
      subst hd
      clear HROW HK
      go_wp2_with fail
      go_end0
      exact ⟨rfl, by rw [← List.map_reverse]; exact HROW0.out, HK0.out⟩
end Go.Proofs.Ytnfehhblmoliaaa
