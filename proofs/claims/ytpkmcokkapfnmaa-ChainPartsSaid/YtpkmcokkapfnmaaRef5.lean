/- Layer 4 (token): the document's answer: Add, where it adds. -/
import Derived.Test.YtpkmcokkapfnmaaRef4
namespace Go.Proofs.Ytpkmcokkapfnmaa
open Go.RowKit Go.Maps Go.WideMaps
set_option maxRecDepth 100000
set_option linter.unusedVariables false
set_option linter.unusedSimpArgs false

theorem gen_below {K : Act → World → Prop} {a : Act} {W V w0 : World} {b : Nat} (hb : Below b w0 V) (hV : W = V) (h : ∀ W', W' = V → K a W') : K a W := by subst hV; exact h _ rfl
theorem gen_world {K : Act → World → Prop} {a : Act} {W : World} (h : ∀ W', W' = W → K a W') : K a W := h W rfl

theorem bel_new {w0 W : World} (h : Below w0.heap.size w0 W) (o : Obj) : (W.alloc o).heap[W.heap.size]? = some o := blk_new W o
theorem bel_alloc {w0 W : World} (h : Below w0.heap.size w0 W) (o : Obj) : Below w0.heap.size w0 (W.alloc o) := h.trans (((Below.refl W.heap.size W).alloc (Nat.le_refl _) o).mono h.size)
theorem row_alloc {W : World} {base n : Nat} {e : TypeId} {size : Nat} {v : Value} {xs : List Value} (h : W.ownsRow base e size v n xs) (o : Obj) : (W.alloc o).ownsRow base e size v n xs := own_below h ((Below.refl W.heap.size W).alloc (Nat.le_refl _) o) (Nat.le_refl _)

theorem radd_fin {w W4 W : World} {base : Nat} {T : List Ent} {A : Option Addr} {c : Nat} {A2 : Option Addr} {c2 : Nat} {a b : Int} {r0 r1 r2 : Nat} {A7 A8 : Option Addr} {c7 c8 : Nat} {z : ByteArray} {Z : List UInt8}
    (h : RAdd w W4 base T A c A2 c2 a b r0 r1 r2) (hb : Below W4.heap.size W4 W)
    (ho1 : W.ownsRow W4.heap.size 9 1 (.slice A7 (T.length + 1) c7) (T.length + 1) ((bytsT T).map strV ++ [.string z]))
    (ho2 : W.ownsRow W4.heap.size 71 2 (.slice A8 ((mrgsT T).length + 1) c8) ((mrgsT T).length + 1) ((mrgsT T).flatMap encM ++ [.int .i64 a, .int .i64 b]))
    (hz : strV Z = .string z) (hadd : addT T a b = ((T.length : Int), 0, T ++ [(Z, a, b)])) (hbase : base ≤ w.heap.size) (h256 : 256 ≤ T.length) :
    ((W.setCell ⟨r2, 0, none⟩ (.slice A7 (T.length + 1) c7)).setCell ⟨r2, 1, none⟩ (.slice A8 ((mrgsT T).length + 1) c8)).heap[r2]? = some (.cells #[.slice A7 (T.length + 1) c7, .slice A8 ((mrgsT T).length + 1) c8] 28) ∧
    RAddOk w base T a b (.returned (.tuple #[.agg #[.slice A7 (T.length + 1) c7, .slice A8 ((mrgsT T).length + 1) c8], .int .i64 0])) ((W.setCell ⟨r2, 0, none⟩ (.slice A7 (T.length + 1) c7)).setCell ⟨r2, 1, none⟩ (.slice A8 ((mrgsT T).length + 1) c8)) := by
  have h' := h.step hb
  have K3 : ∀ (W : World) (i : Nat) (u : Value), Keep (fun g => g = r2) W (W.setCell ⟨r2, i, none⟩ u) := fun W i u => Keep.setCell (F := fun g => g = r2) (p := ⟨r2, i, none⟩) (Keep.refl _ _) (Or.inl rfl) _
  have hle : base ≤ W4.heap.size := Nat.le_trans hbase h.below.size
  have e1 : bytsT (T ++ [(Z, a, b)]) = bytsT T ++ [Z] := by simp [bytsT]
  have e2 : mrgsT (T ++ [(Z, a, b)]) = mrgsT T ++ [(a, b)] := by
    unfold mrgsT
    rw [List.drop_append_of_le_length h256]
    simp
  refine ⟨by simpa using blk_set (blk_set h'.r 0 _) 1 _, (h'.below.setCell (p := ⟨r2, 0, none⟩) h.le.2.2 _).setCell (p := ⟨r2, 1, none⟩) h.le.2.2 _, _, _, _, _, _, _, by rw [hadd], ?_⟩
  rw [hadd]
  refine ⟨?_, ?_, ?_⟩
  · simp only [List.length_append, List.length_singleton, e1, List.map_append, List.map_cons, List.map_nil, hz]
    exact own_less (own_keep (own_keep ho1 (K3 _ 0 _) (fun g hg e => row_ne ho1 h'.r (by decide) (by rw [hg, e]))) (K3 _ 1 _) (fun g hg e => row_ne ho1 h'.r (by decide) (by rw [hg, e]))) hle
  · simp only [e2, List.length_append, List.length_singleton, List.flatMap_append]
    have e3 : [((a, b) : Int × Int)].flatMap encM = [.int .i64 a, .int .i64 b] := by simp [encM]
    rw [e3]
    exact own_less (own_keep (own_keep ho2 (K3 _ 0 _) (fun g hg e => row_ne ho2 h'.r (by decide) (by rw [hg, e]))) (K3 _ 1 _) (fun g hg e => row_ne ho2 h'.r (by decide) (by rw [hg, e]))) hle
  · intro e
    simp [e2] at e

set_option maxHeartbeats 2000000 in
theorem radd_ok {w : World} {base : Nat} {T : List Ent} {A : Option Addr} {c : Nat} {A2 : Option Addr} {c2 : Nat} (a b : Int) (h : RefIs w base T (.slice A T.length c) (.slice A2 (mrgsT T).length c2)) (hT : OkT T) (he : (addT T a b).2.1 = 0) (hbase : base ≤ w.heap.size) :
    Calls Try.prog 49 #[.agg #[.slice A T.length c, .slice A2 (mrgsT T).length c2], .agg #[.int .i64 a, .int .i64 b]] w (RAddOk w base T a b) := by
  have HS := Lib.hid (radd_start a b h)
  have HOK := Lib.hid hT
  have HE := Lib.hid he
  have HBASE := Lib.hid hbase
  obtain ⟨t0, t1, m0, m1, _, _, _, _⟩ := HS.out.cells
  clear h hT he hbase
  go_enter Try.func49, Try.ntmps49
  go_wp2_with fail
  generalize hW : ((w.alloc (.cells #[.slice A T.length c, .slice A2 (mrgsT T).length c2] 28)).alloc (.cells #[.int .i64 a, .int .i64 b] 71)).alloc (.cells #[.slice none 0 0, .slice none 0 0] 28) = W at *
  clear hW
  obtain ⟨r2, hr2⟩ : ∃ r2, w.heap.size + 1 + 1 = r2 := ⟨_, rfl⟩
  obtain ⟨r1, hr1⟩ : ∃ r1, w.heap.size + 1 = r1 := ⟨_, rfl⟩
  obtain ⟨r0, hr0⟩ : ∃ r0, w.heap.size = r0 := ⟨_, rfl⟩
  have HS1 : Hid (RAdd w W base T A c A2 c2 a b r0 r1 r2) := Lib.hid (by rw [← hr2, ← hr1, ← hr0]; exact HS.out)
  rw [hr2, hr1, hr0]
  clear HS hr2 hr1 hr0 t0 t1 m0 m1
  refine (rhas_any a HS1.out.ref).mono ?_
  rintro e W1 ⟨rfl, hb1⟩
  have HS2 := Lib.hid (HS1.out.step hb1)
  obtain ⟨t0, t1, m0, m1, d0, d1, z0, z1⟩ := HS2.out.cells
  clear hb1 HS1
  cases ha : hasT T a with
  | false => exact absurd HE.out (by simp [addT, ha])
  | true =>
    have HA := Lib.hid ha
    clear ha
    go_wp2_with fail
    refine (rhas_any b HS2.out.ref).mono ?_
    rintro e W2 ⟨rfl, hb2⟩
    have HS3 := Lib.hid (HS2.out.step hb2)
    clear t0 t1 m0 m1 d0 d1 z0 z1 hb2 HS2
    obtain ⟨t0, t1, m0, m1, d0, d1, z0, z1⟩ := HS3.out.cells
    cases hb : hasT T b with
    | false => exact absurd HE.out (by simp [addT, hb])
    | true =>
      have HAB := Lib.hid hb
      obtain ⟨k, rfl, hk, ek⟩ := hasT_at HA.out
      obtain ⟨l, rfl, hl, el⟩ := hasT_at hb
      obtain ⟨ba, o, rfl, g0⟩ := (own_sl1 HS3.out.ref.row).at k (by simpa [bytsT] using hk)
      obtain ⟨ba', o', e', g1⟩ := (own_sl1 HS3.out.ref.row).at l (by simpa [bytsT] using hl)
      cases e'
      simp only [bytsT, List.getElem_map, strV] at g0 g1
      have hX := HOK.out.len T[k] (List.getElem_mem hk)
      have hY := HOK.out.len T[l] (List.getElem_mem hl)
      have EK := Lib.hid ek
      have EL := Lib.hid el
      have HSM := Lib.hid HOK.out.small
      obtain ⟨X, hXe⟩ : ∃ X, T[k].1 = X := ⟨_, rfl⟩
      obtain ⟨Y, hYe⟩ : ∃ Y, T[l].1 = Y := ⟨_, rfl⟩
      rw [hXe] at g0 hX
      rw [hYe] at g1 hY
      have HXE := Lib.hid hXe
      have HYE := Lib.hid hYe
      have hbig : (9223372036854775807 < (bs X).size + (bs Y).size) = False := by rw [eq_iff_iff, iff_false, bs_size, bs_size]; omega
      have HX := Lib.hid hX
      have HY := Lib.hid hY
      have q0 : 0 ≤ (k : Int) := by omega
      have q1 : (k : Int) < (T.length : Int) := by omega
      have q2 : 0 ≤ (l : Int) := by omega
      have q3 : (l : Int) < (T.length : Int) := by omega
      clear hb ek el hXe hYe hX hY
      go_wp2_with fail
      go_quiet (fail)
      rw [bs_append]
      obtain ⟨z, hz⟩ : ∃ z, bs (X ++ Y) = z := ⟨_, rfl⟩
      have hzs : z.size = (X ++ Y).length := by rw [← hz, bs_size]
      have HZ := Lib.hid hz
      have HZS := Lib.hid hzs
      rw [hz]
      clear hz hbig g0 g1 q0 q1 q2 q3 hzs
      have HS4 := Lib.hid (HS3.out.drewN nq)
      clear t0 t1 m0 m1 d0 d1 z0 z1 HS3
      generalize W2.drewN nq = W3 at *
      obtain ⟨t0, t1, m0, m1, d0, d1, z0, z1⟩ := HS4.out.cells
      by_cases h64 : (64 : Int) < (z.size : Int)
      · exact absurd HE.out (by rw [addT_long HA.out HAB.out (by rw [EK.out, HXE.out]) (by rw [EL.out, HYE.out]) (by have := HZS.out; omega)]; simp)
      · by_cases h1000 : (1000 : Int) ≤ (T.length : Int)
        · exact absurd HE.out (by rw [addT_full HA.out HAB.out (by rw [EK.out, HXE.out]) (by rw [EL.out, HYE.out]) (by have := HZS.out; omega) (by omega)]; simp)
        · have HRF := Lib.hid (rfind_any (X ++ Y) HS4.out.ref HSM.out)
          unfold strV at HRF
          rw [HZ.out] at HRF
          go_wp2_with fail
          refine HRF.out.mono ?_
          rintro e W4 ⟨rfl, hb4⟩
          have HS5 := Lib.hid (HS4.out.step hb4)
          clear t0 t1 m0 m1 d0 d1 z0 z1 HS4 HRF hb4
          obtain ⟨t0, t1, m0, m1, d0, d1, z0, z1⟩ := HS5.out.cells
          cases hf : findT T (X ++ Y) with
          | some i => exact absurd HE.out (by rw [addT_twice HA.out HAB.out (by rw [EK.out, HXE.out]) (by rw [EL.out, HYE.out]) (by have := HZS.out; omega) (by omega) (by rw [hf]; rfl)]; simp)
          | none =>
            have HADD := Lib.hid (addT_ok HA.out HAB.out (by rw [EK.out, HXE.out]) (by rw [EL.out, HYE.out]) (by have := HZS.out; omega) (by omega) (by rw [hf]; rfl))
            have hi : findI T (X ++ Y) = -1 := by unfold findI; rw [hf]
            rw [hi]
            clear hf hi
            have hsm := HSM.out
            have hml : (mrgsT T).length ≤ 1000 := by unfold mrgsT; simp; omega
            go_wp2_with (at_builtin; refine app_copy (W4.heap.size) base 25 9 (.string ⟨#[]⟩) 1 16 _ _ rfl rfl Try.underlying25 info_str4 rfl (by decide) _ _ _ rfl rfl (by intro u hu; obtain ⟨y, _, rfl⟩ := List.mem_map.1 hu; rfl) (fun e => absurd e (by omega)) HS5.out.ref.row (by omega) (by omega) (Nat.le_refl _) ?_)
            intro v1 W5 ho1 hb5 _
            obtain ⟨A5, c5, rfl⟩ := own_slice ho1
            have HS6 := Lib.hid (HS5.out.step hb5)
            have HB5 := Lib.hid hb5
            have HO1 := Lib.hid ho1
            clear t0 t1 m0 m1 d0 d1 z0 z1 ho1 hb5
            obtain ⟨t0, t1, m0, m1, d0, d1, z0, z1⟩ := HS6.out.cells
            go_wp2_with (at_builtin; refine app_copy (W4.heap.size) base 26 71 (.agg #[.int .i64 0, .int .i64 0]) 2 16 _ _ rfl rfl Try.underlying26 info_mrg rfl (by decide) _ _ _ rfl rfl (by intro u hu; obtain ⟨y, _, hy⟩ := List.mem_flatMap.1 hu; simp [encM] at hy; rcases hy with rfl | rfl <;> rfl) HS6.out.ref.nil HS6.out.ref.mrg (by omega) (by omega) HB5.out.size ?_)
            intro v2 W6 ho2 hb6 _
            obtain ⟨A6, c6, rfl⟩ := own_slice ho2
            have HBB := Lib.hid (HB5.out.trans (hb6.mono HB5.out.size))
            have HO1 := Lib.hid (own_below HO1.out hb6 (Nat.le_refl _))
            have HO2 := Lib.hid ho2
            clear t0 t1 m0 m1 d0 d1 z0 z1 ho2 hb6
            obtain ⟨t0, t1, m0, m1, d0, d1, z0, z1⟩ := (HS5.out.step HBB.out).cells
            go_upto_region 14 with fail
            have HBB := Lib.hid (HBB.out.trans ((Below.refl W6.heap.size W6).drew.mono HBB.out.size))
            have HO1 := Lib.hid (own_drew HO1.out)
            have HO2 := Lib.hid (own_drew HO2.out)
            have HKZ := Lib.hid (show strV (X ++ Y) = .string z by unfold strV; rw [HZ.out])
            have H256 := Lib.hid (show 256 ≤ T.length by obtain ⟨M, hM⟩ := HOK.out.base; rw [hM, List.length_append, base_len]; omega)
            have HNE := Lib.hid (show r1 ≠ r2 by
              intro e
              have h1 := HS5.out.m
              rw [e, HS5.out.r] at h1
              simp at h1)
            refine wp_region_G (D := 9) (S := fun V => V.cell? ⟨r1, 0, none⟩ = some (.int .i64 (k : Int)) ∧ V.cell? ⟨r1, 1, none⟩ = some (.int .i64 (l : Int))) (by kernel_rfl) (by exact ⟨m0, m1⟩) (fun hHeld => ?_)
            refine wpAnyG_takeD (i := 0) (oi := { dst := some 60, op := Op.move (Operand.tmp 7), type := 25, pos := "ref.go:52", after := #[], guard := none }) (d := 60) (v := ?_) rfl rfl (by kernel_rfl) (by kernel_rfl) (by kernel_rfl) (by kernel_rfl) (fun _ _ _ h => h) (Or.inl ⟨by rfl, ?_⟩) hHeld ?_
            rotate_left
            · (intro w' hSw; (try dsimp only at hSw); go_simp; (try with_reducible rfl))
            simp only [List.setIfInBounds_toArray, List.set_cons_zero, List.set_cons_succ]
            refine wpAnyG_takeD (i := 1) (oi := { dst := some 61, op := Op.move (Operand.tmp 6), type := 9, pos := "ref.go:52", after := #[], guard := none }) (d := 61) (v := ?_) rfl rfl (by kernel_rfl) (by kernel_rfl) (by kernel_rfl) (by kernel_rfl) (fun _ _ _ h => h) (Or.inl ⟨by rfl, ?_⟩) hHeld ?_
            rotate_left
            · (intro w' hSw; (try dsimp only at hSw); go_simp; (try with_reducible rfl))
            simp only [List.setIfInBounds_toArray, List.set_cons_zero, List.set_cons_succ]
            refine wpAnyG_takeD (i := 4) (oi := { dst := some 64, op := Op.move (Operand.tmp 8), type := 26, pos := "ref.go:52", after := #[], guard := none }) (d := 64) (v := ?_) rfl rfl (by kernel_rfl) (by kernel_rfl) (by kernel_rfl) (by kernel_rfl) (fun _ _ _ h => h) (Or.inl ⟨by rfl, ?_⟩) hHeld ?_
            rotate_left
            · (intro w' hSw; (try dsimp only at hSw); go_simp; (try with_reducible rfl))
            simp only [List.setIfInBounds_toArray, List.set_cons_zero, List.set_cons_succ]
            refine wpAnyG_takeD (i := 5) (oi := { dst := some 65, op := Op.load 71 (Operand.tmp 3), type := 71, pos := "ref.go:52", after := #[], guard := none }) (d := 65) (v := ?_) rfl rfl (by kernel_rfl) (by kernel_rfl) (by kernel_rfl) (by kernel_rfl) (fun _ _ _ h => h) (Or.inl ⟨by rfl, ?_⟩) hHeld ?_
            rotate_left
            · (intro w' hSw; (try dsimp only at hSw); go_simp; (try with_reducible rfl))
            simp only [List.setIfInBounds_toArray, List.set_cons_zero, List.set_cons_succ]
            refine wpAnyG_two (i := 2) (j := 6) (oi := { dst := some 62, op := Op.buildSlice 25 1 #[(0, Operand.tmp 61)], type := 25, pos := "ref.go:52", after := #[{ on := 1, ground := Ground.data }], guard := none }) (oj := { dst := some 66, op := Op.buildSlice 26 1 #[(0, Operand.tmp 65)], type := 26, pos := "ref.go:52", after := #[{ on := 5, ground := Ground.data }], guard := none }) (by kernel_rfl) rfl rfl (by rfl) (by rfl) (fun K hK => ?_) (fun K hK => ?_)
            ·
              go_simp; have HE1 := Lib.hid (bel_new HBB.out (.cells #[.string z] 9)); (try have HE2 := Lib.hid (blk_alloc HE2.out (.cells #[.string z] 9))); have HO1 := Lib.hid (row_alloc HO1.out (.cells #[.string z] 9)); have HO2 := Lib.hid (row_alloc HO2.out (.cells #[.string z] 9)); have HBB := Lib.hid (bel_alloc HBB.out (.cells #[.string z] 9)); refine gen_below HBB.out rfl (fun W' hW' => ?_); rw [← hW'] at HBB HO1 HO2 HE1; (try rw [← hW'] at HE2); clear hW'; have h := And.intro (HS5.out.step HBB.out).cells.2.2.1 (HS5.out.step HBB.out).cells.2.2.2.1
              refine hK.out _ _ h (fun hHeld => ?_)
              clear hK K
              try simp only [Act.put, List.setIfInBounds_toArray, List.set_cons_zero, List.set_cons_succ]
              refine wpAnyG_two (i := 3) (j := 6) (oi := { dst := some 63, op := Op.call { callee := Callee.builtin Builtin.append, args := #[Operand.tmp 60, Operand.tmp 62], argTypes := #[25, 25] }, type := 25, pos := "ref.go:52", after := #[{ on := 0, ground := Ground.data }, { on := 2, ground := Ground.data }], guard := none }) (oj := { dst := some 66, op := Op.buildSlice 26 1 #[(0, Operand.tmp 65)], type := 26, pos := "ref.go:52", after := #[{ on := 5, ground := Ground.data }], guard := none }) (by kernel_rfl) rfl rfl (by rfl) (by rfl) (fun K hK => ?_) (fun K hK => ?_)
              ·
                refine wp_app_at (W4.heap.size) 25 9 (.string ⟨#[]⟩) 1 16 [_] 1 _ _ _ rfl Try.underlying25 info_str4 rfl (by decide) _ _ _ rfl rfl rfl (by intro u hu; simp at hu; subst hu; rfl) HE1.out HO1.out (by omega) (by omega) HBB.out.size ?_; intro v' W' hown' hg' _; obtain ⟨A7, c7, rfl⟩ := own_slice hown'; have hk' : Keep (fun g => (Value.slice A5 T.length c5).ownBlock = some g) _ W' := Keep.of_grown hg' (fun g hg => hg); (try have HE2 := Lib.hid (hk'.blk HE2.out (row_ne HO1.out HE2.out (by decide)))); have HO2 := Lib.hid (own_keep HO2.out hk' (fun g hg e => row_row_ne HO1.out HO2.out (by decide) g e hg)); have HBB := Lib.hid (HBB.out.trans (hk'.below HBB.out.size (own_base HO1.out))); have HO1 := Lib.hid hown'; clear hown' hg' hk'; have h := And.intro (HS5.out.step HBB.out).cells.2.2.1 (HS5.out.step HBB.out).cells.2.2.2.1
                refine hK.out _ _ h (fun hHeld => ?_)
                clear hK K
                try simp only [Act.put, List.setIfInBounds_toArray, List.set_cons_zero, List.set_cons_succ]
                refine wpAnyG_one (i := 6) (o := { dst := some 66, op := Op.buildSlice 26 1 #[(0, Operand.tmp 65)], type := 26, pos := "ref.go:52", after := #[{ on := 5, ground := Ground.data }], guard := none }) (by kernel_rfl) rfl (by rfl) (fun K hK => ?_)
                go_simp; have HE2 := Lib.hid (bel_new HBB.out (.cells #[.int .i64 (k : Int), .int .i64 (l : Int)] 71)); (try have HE1 := Lib.hid (blk_alloc HE1.out (.cells #[.int .i64 (k : Int), .int .i64 (l : Int)] 71))); have HO1 := Lib.hid (row_alloc HO1.out (.cells #[.int .i64 (k : Int), .int .i64 (l : Int)] 71)); have HO2 := Lib.hid (row_alloc HO2.out (.cells #[.int .i64 (k : Int), .int .i64 (l : Int)] 71)); have HBB := Lib.hid (bel_alloc HBB.out (.cells #[.int .i64 (k : Int), .int .i64 (l : Int)] 71)); refine gen_below HBB.out rfl (fun W' hW' => ?_); rw [← hW'] at HBB HO1 HO2 HE2; (try rw [← hW'] at HE1); clear hW'; have h := And.intro (HS5.out.step HBB.out).cells.2.2.1 (HS5.out.step HBB.out).cells.2.2.2.1
                refine hK.out _ _ h (fun hHeld => ?_)
                clear hK K
                try simp only [Act.put, List.setIfInBounds_toArray, List.set_cons_zero, List.set_cons_succ]
                refine wpAnyG_one (i := 7) (o := { dst := some 67, op := Op.call { callee := Callee.builtin Builtin.append, args := #[Operand.tmp 64, Operand.tmp 66], argTypes := #[26, 26] }, type := 26, pos := "ref.go:52", after := #[{ on := 4, ground := Ground.data }, { on := 6, ground := Ground.data }, { on := 3, ground := Ground.chain }], guard := none }) (by kernel_rfl) rfl (by rfl) (fun K hK => ?_)
                refine wp_app_at (W4.heap.size) 26 71 (.agg #[.int .i64 0, .int .i64 0]) 2 16 [_, _] 1 _ _ _ rfl Try.underlying26 info_mrg rfl (by decide) _ _ _ rfl rfl rfl (by intro u hu; simp at hu; rcases hu with rfl | rfl <;> rfl) HE2.out HO2.out (by omega) (by omega) HBB.out.size ?_; intro v' W' hown' hg' _; obtain ⟨A8, c8, rfl⟩ := own_slice hown'; have hk' : Keep (fun g => (Value.slice A6 (mrgsT T).length c6).ownBlock = some g) _ W' := Keep.of_grown hg' (fun g hg => hg); (try have HE1 := Lib.hid (hk'.blk HE1.out (row_ne HO2.out HE1.out (by decide)))); have HO1 := Lib.hid (own_keep HO1.out hk' (fun g hg e => row_row_ne HO2.out HO1.out (by decide) g e hg)); have HBB := Lib.hid (HBB.out.trans (hk'.below HBB.out.size (own_base HO2.out))); have HO2 := Lib.hid hown'; clear hown' hg' hk'; have h := And.intro (HS5.out.step HBB.out).cells.2.2.1 (HS5.out.step HBB.out).cells.2.2.2.1
                refine hK.out _ _ h (fun hHeld => ?_)
                clear hK K
                try simp only [Act.put, List.setIfInBounds_toArray, List.set_cons_zero, List.set_cons_succ]
                refine wpAnyG_takeD (i := 8) (oi := { dst := some 68, op := Op.build 28 #[(0, Operand.tmp 63), (1, Operand.tmp 67)], type := 28, pos := "ref.go:52", after := #[{ on := 3, ground := Ground.data }, { on := 7, ground := Ground.data }], guard := none }) (d := 68) (v := ?_) rfl rfl (by kernel_rfl) (by kernel_rfl) (by kernel_rfl) (by kernel_rfl) (fun _ _ _ h => h) (Or.inl ⟨by rfl, ?_⟩) hHeld ?_
                rotate_left
                · (intro w' hSw; (try dsimp only at hSw); go_simp; (try with_reducible rfl))
                simp only [List.setIfInBounds_toArray, List.set_cons_zero, List.set_cons_succ]
                refine wpAnyG_last (o := { dst := none, op := Op.store 28 (Operand.tmp 4) (Operand.tmp 68), type := 0, pos := "ref.go:52", after := #[{ on := 8, ground := Ground.data }, { on := 7, ground := Ground.chain }, { on := 0, ground := Ground.phase }, { on := 1, ground := Ground.phase }, { on := 2, ground := Ground.phase }, { on := 3, ground := Ground.phase }, { on := 4, ground := Ground.phase }, { on := 5, ground := Ground.phase }, { on := 6, ground := Ground.phase }, { on := 7, ground := Ground.phase }, { on := 8, ground := Ground.phase }], guard := none }) (by kernel_rfl) rfl (by rfl) (fun K hK => ?_)
                obtain ⟨_, _, _, _, d0, d1, z0, z1⟩ := (HS5.out.step HBB.out).cells; go_simp
                refine hK.out _ _ ?_
                clear hK K
                try simp only [Act.put, List.setIfInBounds_toArray, List.set_cons_zero, List.set_cons_succ]
                refine wpAnyG_one (i := 10) (o := { dst := some 5, op := Op.assign (Operand.const (Value.int IntKind.i64 0)), type := 3, pos := "ref.go:52", after := #[{ on := 9, ground := Ground.chain }, { on := 0, ground := Ground.phase }, { on := 1, ground := Ground.phase }, { on := 2, ground := Ground.phase }, { on := 3, ground := Ground.phase }, { on := 4, ground := Ground.phase }, { on := 5, ground := Ground.phase }, { on := 6, ground := Ground.phase }, { on := 7, ground := Ground.phase }, { on := 8, ground := Ground.phase }, { on := 9, ground := Ground.phase }], guard := none }) (by kernel_rfl) rfl (by rfl) (fun K hK => ?_)
                go_simp; have mm := blk_far (p := ⟨r2, 1, none⟩) (blk_far (p := ⟨r2, 0, none⟩) (HS5.out.step HBB.out).m HNE.out (.slice A7 (T.length + 1) c7)) HNE.out (.slice A8 ((mrgsT T).length + 1) c8); have h := And.intro (blk_cell mm 0) (blk_cell mm 1)
                refine hK.out _ _ h (fun hHeld => ?_)
                clear hK K
                try simp only [Act.put, List.setIfInBounds_toArray, List.set_cons_zero, List.set_cons_succ]
                refine wpAnyG_done (by kernel_rfl) ?_ _
                go_wp2_with fail; have FIN := radd_fin HS5.out HBB.out HO1.out HO2.out HKZ.out HADD.out HBASE.out H256.out; refine ret_ref (r := r2) rfl rfl rfl FIN.1 FIN.2
              ·
                go_simp; have HE2 := Lib.hid (bel_new HBB.out (.cells #[.int .i64 (k : Int), .int .i64 (l : Int)] 71)); (try have HE1 := Lib.hid (blk_alloc HE1.out (.cells #[.int .i64 (k : Int), .int .i64 (l : Int)] 71))); have HO1 := Lib.hid (row_alloc HO1.out (.cells #[.int .i64 (k : Int), .int .i64 (l : Int)] 71)); have HO2 := Lib.hid (row_alloc HO2.out (.cells #[.int .i64 (k : Int), .int .i64 (l : Int)] 71)); have HBB := Lib.hid (bel_alloc HBB.out (.cells #[.int .i64 (k : Int), .int .i64 (l : Int)] 71)); refine gen_below HBB.out rfl (fun W' hW' => ?_); rw [← hW'] at HBB HO1 HO2 HE2; (try rw [← hW'] at HE1); clear hW'; have h := And.intro (HS5.out.step HBB.out).cells.2.2.1 (HS5.out.step HBB.out).cells.2.2.2.1
                refine hK.out _ _ h (fun hHeld => ?_)
                clear hK K
                try simp only [Act.put, List.setIfInBounds_toArray, List.set_cons_zero, List.set_cons_succ]
                refine wpAnyG_one (i := 3) (o := { dst := some 63, op := Op.call { callee := Callee.builtin Builtin.append, args := #[Operand.tmp 60, Operand.tmp 62], argTypes := #[25, 25] }, type := 25, pos := "ref.go:52", after := #[{ on := 0, ground := Ground.data }, { on := 2, ground := Ground.data }], guard := none }) (by kernel_rfl) rfl (by rfl) (fun K hK => ?_)
                refine wp_app_at (W4.heap.size) 25 9 (.string ⟨#[]⟩) 1 16 [_] 1 _ _ _ rfl Try.underlying25 info_str4 rfl (by decide) _ _ _ rfl rfl rfl (by intro u hu; simp at hu; subst hu; rfl) HE1.out HO1.out (by omega) (by omega) HBB.out.size ?_; intro v' W' hown' hg' _; obtain ⟨A7, c7, rfl⟩ := own_slice hown'; have hk' : Keep (fun g => (Value.slice A5 T.length c5).ownBlock = some g) _ W' := Keep.of_grown hg' (fun g hg => hg); (try have HE2 := Lib.hid (hk'.blk HE2.out (row_ne HO1.out HE2.out (by decide)))); have HO2 := Lib.hid (own_keep HO2.out hk' (fun g hg e => row_row_ne HO1.out HO2.out (by decide) g e hg)); have HBB := Lib.hid (HBB.out.trans (hk'.below HBB.out.size (own_base HO1.out))); have HO1 := Lib.hid hown'; clear hown' hg' hk'; have h := And.intro (HS5.out.step HBB.out).cells.2.2.1 (HS5.out.step HBB.out).cells.2.2.2.1
                refine hK.out _ _ h (fun hHeld => ?_)
                clear hK K
                try simp only [Act.put, List.setIfInBounds_toArray, List.set_cons_zero, List.set_cons_succ]
                refine wpAnyG_one (i := 7) (o := { dst := some 67, op := Op.call { callee := Callee.builtin Builtin.append, args := #[Operand.tmp 64, Operand.tmp 66], argTypes := #[26, 26] }, type := 26, pos := "ref.go:52", after := #[{ on := 4, ground := Ground.data }, { on := 6, ground := Ground.data }, { on := 3, ground := Ground.chain }], guard := none }) (by kernel_rfl) rfl (by rfl) (fun K hK => ?_)
                refine wp_app_at (W4.heap.size) 26 71 (.agg #[.int .i64 0, .int .i64 0]) 2 16 [_, _] 1 _ _ _ rfl Try.underlying26 info_mrg rfl (by decide) _ _ _ rfl rfl rfl (by intro u hu; simp at hu; rcases hu with rfl | rfl <;> rfl) HE2.out HO2.out (by omega) (by omega) HBB.out.size ?_; intro v' W' hown' hg' _; obtain ⟨A8, c8, rfl⟩ := own_slice hown'; have hk' : Keep (fun g => (Value.slice A6 (mrgsT T).length c6).ownBlock = some g) _ W' := Keep.of_grown hg' (fun g hg => hg); (try have HE1 := Lib.hid (hk'.blk HE1.out (row_ne HO2.out HE1.out (by decide)))); have HO1 := Lib.hid (own_keep HO1.out hk' (fun g hg e => row_row_ne HO2.out HO1.out (by decide) g e hg)); have HBB := Lib.hid (HBB.out.trans (hk'.below HBB.out.size (own_base HO2.out))); have HO2 := Lib.hid hown'; clear hown' hg' hk'; have h := And.intro (HS5.out.step HBB.out).cells.2.2.1 (HS5.out.step HBB.out).cells.2.2.2.1
                refine hK.out _ _ h (fun hHeld => ?_)
                clear hK K
                try simp only [Act.put, List.setIfInBounds_toArray, List.set_cons_zero, List.set_cons_succ]
                refine wpAnyG_takeD (i := 8) (oi := { dst := some 68, op := Op.build 28 #[(0, Operand.tmp 63), (1, Operand.tmp 67)], type := 28, pos := "ref.go:52", after := #[{ on := 3, ground := Ground.data }, { on := 7, ground := Ground.data }], guard := none }) (d := 68) (v := ?_) rfl rfl (by kernel_rfl) (by kernel_rfl) (by kernel_rfl) (by kernel_rfl) (fun _ _ _ h => h) (Or.inl ⟨by rfl, ?_⟩) hHeld ?_
                rotate_left
                · (intro w' hSw; (try dsimp only at hSw); go_simp; (try with_reducible rfl))
                simp only [List.setIfInBounds_toArray, List.set_cons_zero, List.set_cons_succ]
                refine wpAnyG_last (o := { dst := none, op := Op.store 28 (Operand.tmp 4) (Operand.tmp 68), type := 0, pos := "ref.go:52", after := #[{ on := 8, ground := Ground.data }, { on := 7, ground := Ground.chain }, { on := 0, ground := Ground.phase }, { on := 1, ground := Ground.phase }, { on := 2, ground := Ground.phase }, { on := 3, ground := Ground.phase }, { on := 4, ground := Ground.phase }, { on := 5, ground := Ground.phase }, { on := 6, ground := Ground.phase }, { on := 7, ground := Ground.phase }, { on := 8, ground := Ground.phase }], guard := none }) (by kernel_rfl) rfl (by rfl) (fun K hK => ?_)
                obtain ⟨_, _, _, _, d0, d1, z0, z1⟩ := (HS5.out.step HBB.out).cells; go_simp
                refine hK.out _ _ ?_
                clear hK K
                try simp only [Act.put, List.setIfInBounds_toArray, List.set_cons_zero, List.set_cons_succ]
                refine wpAnyG_one (i := 10) (o := { dst := some 5, op := Op.assign (Operand.const (Value.int IntKind.i64 0)), type := 3, pos := "ref.go:52", after := #[{ on := 9, ground := Ground.chain }, { on := 0, ground := Ground.phase }, { on := 1, ground := Ground.phase }, { on := 2, ground := Ground.phase }, { on := 3, ground := Ground.phase }, { on := 4, ground := Ground.phase }, { on := 5, ground := Ground.phase }, { on := 6, ground := Ground.phase }, { on := 7, ground := Ground.phase }, { on := 8, ground := Ground.phase }, { on := 9, ground := Ground.phase }], guard := none }) (by kernel_rfl) rfl (by rfl) (fun K hK => ?_)
                go_simp; have mm := blk_far (p := ⟨r2, 1, none⟩) (blk_far (p := ⟨r2, 0, none⟩) (HS5.out.step HBB.out).m HNE.out (.slice A7 (T.length + 1) c7)) HNE.out (.slice A8 ((mrgsT T).length + 1) c8); have h := And.intro (blk_cell mm 0) (blk_cell mm 1)
                refine hK.out _ _ h (fun hHeld => ?_)
                clear hK K
                try simp only [Act.put, List.setIfInBounds_toArray, List.set_cons_zero, List.set_cons_succ]
                refine wpAnyG_done (by kernel_rfl) ?_ _
                go_wp2_with fail; have FIN := radd_fin HS5.out HBB.out HO1.out HO2.out HKZ.out HADD.out HBASE.out H256.out; refine ret_ref (r := r2) rfl rfl rfl FIN.1 FIN.2
            ·
              go_simp; have HE2 := Lib.hid (bel_new HBB.out (.cells #[.int .i64 (k : Int), .int .i64 (l : Int)] 71)); (try have HE1 := Lib.hid (blk_alloc HE1.out (.cells #[.int .i64 (k : Int), .int .i64 (l : Int)] 71))); have HO1 := Lib.hid (row_alloc HO1.out (.cells #[.int .i64 (k : Int), .int .i64 (l : Int)] 71)); have HO2 := Lib.hid (row_alloc HO2.out (.cells #[.int .i64 (k : Int), .int .i64 (l : Int)] 71)); have HBB := Lib.hid (bel_alloc HBB.out (.cells #[.int .i64 (k : Int), .int .i64 (l : Int)] 71)); refine gen_below HBB.out rfl (fun W' hW' => ?_); rw [← hW'] at HBB HO1 HO2 HE2; (try rw [← hW'] at HE1); clear hW'; have h := And.intro (HS5.out.step HBB.out).cells.2.2.1 (HS5.out.step HBB.out).cells.2.2.2.1
              refine hK.out _ _ h (fun hHeld => ?_)
              clear hK K
              try simp only [Act.put, List.setIfInBounds_toArray, List.set_cons_zero, List.set_cons_succ]
              refine wpAnyG_one (i := 2) (o := { dst := some 62, op := Op.buildSlice 25 1 #[(0, Operand.tmp 61)], type := 25, pos := "ref.go:52", after := #[{ on := 1, ground := Ground.data }], guard := none }) (by kernel_rfl) rfl (by rfl) (fun K hK => ?_)
              go_simp; have HE1 := Lib.hid (bel_new HBB.out (.cells #[.string z] 9)); (try have HE2 := Lib.hid (blk_alloc HE2.out (.cells #[.string z] 9))); have HO1 := Lib.hid (row_alloc HO1.out (.cells #[.string z] 9)); have HO2 := Lib.hid (row_alloc HO2.out (.cells #[.string z] 9)); have HBB := Lib.hid (bel_alloc HBB.out (.cells #[.string z] 9)); refine gen_below HBB.out rfl (fun W' hW' => ?_); rw [← hW'] at HBB HO1 HO2 HE1; (try rw [← hW'] at HE2); clear hW'; have h := And.intro (HS5.out.step HBB.out).cells.2.2.1 (HS5.out.step HBB.out).cells.2.2.2.1
              refine hK.out _ _ h (fun hHeld => ?_)
              clear hK K
              try simp only [Act.put, List.setIfInBounds_toArray, List.set_cons_zero, List.set_cons_succ]
              refine wpAnyG_one (i := 3) (o := { dst := some 63, op := Op.call { callee := Callee.builtin Builtin.append, args := #[Operand.tmp 60, Operand.tmp 62], argTypes := #[25, 25] }, type := 25, pos := "ref.go:52", after := #[{ on := 0, ground := Ground.data }, { on := 2, ground := Ground.data }], guard := none }) (by kernel_rfl) rfl (by rfl) (fun K hK => ?_)
              refine wp_app_at (W4.heap.size) 25 9 (.string ⟨#[]⟩) 1 16 [_] 1 _ _ _ rfl Try.underlying25 info_str4 rfl (by decide) _ _ _ rfl rfl rfl (by intro u hu; simp at hu; subst hu; rfl) HE1.out HO1.out (by omega) (by omega) HBB.out.size ?_; intro v' W' hown' hg' _; obtain ⟨A7, c7, rfl⟩ := own_slice hown'; have hk' : Keep (fun g => (Value.slice A5 T.length c5).ownBlock = some g) _ W' := Keep.of_grown hg' (fun g hg => hg); (try have HE2 := Lib.hid (hk'.blk HE2.out (row_ne HO1.out HE2.out (by decide)))); have HO2 := Lib.hid (own_keep HO2.out hk' (fun g hg e => row_row_ne HO1.out HO2.out (by decide) g e hg)); have HBB := Lib.hid (HBB.out.trans (hk'.below HBB.out.size (own_base HO1.out))); have HO1 := Lib.hid hown'; clear hown' hg' hk'; have h := And.intro (HS5.out.step HBB.out).cells.2.2.1 (HS5.out.step HBB.out).cells.2.2.2.1
              refine hK.out _ _ h (fun hHeld => ?_)
              clear hK K
              try simp only [Act.put, List.setIfInBounds_toArray, List.set_cons_zero, List.set_cons_succ]
              refine wpAnyG_one (i := 7) (o := { dst := some 67, op := Op.call { callee := Callee.builtin Builtin.append, args := #[Operand.tmp 64, Operand.tmp 66], argTypes := #[26, 26] }, type := 26, pos := "ref.go:52", after := #[{ on := 4, ground := Ground.data }, { on := 6, ground := Ground.data }, { on := 3, ground := Ground.chain }], guard := none }) (by kernel_rfl) rfl (by rfl) (fun K hK => ?_)
              refine wp_app_at (W4.heap.size) 26 71 (.agg #[.int .i64 0, .int .i64 0]) 2 16 [_, _] 1 _ _ _ rfl Try.underlying26 info_mrg rfl (by decide) _ _ _ rfl rfl rfl (by intro u hu; simp at hu; rcases hu with rfl | rfl <;> rfl) HE2.out HO2.out (by omega) (by omega) HBB.out.size ?_; intro v' W' hown' hg' _; obtain ⟨A8, c8, rfl⟩ := own_slice hown'; have hk' : Keep (fun g => (Value.slice A6 (mrgsT T).length c6).ownBlock = some g) _ W' := Keep.of_grown hg' (fun g hg => hg); (try have HE1 := Lib.hid (hk'.blk HE1.out (row_ne HO2.out HE1.out (by decide)))); have HO1 := Lib.hid (own_keep HO1.out hk' (fun g hg e => row_row_ne HO2.out HO1.out (by decide) g e hg)); have HBB := Lib.hid (HBB.out.trans (hk'.below HBB.out.size (own_base HO2.out))); have HO2 := Lib.hid hown'; clear hown' hg' hk'; have h := And.intro (HS5.out.step HBB.out).cells.2.2.1 (HS5.out.step HBB.out).cells.2.2.2.1
              refine hK.out _ _ h (fun hHeld => ?_)
              clear hK K
              try simp only [Act.put, List.setIfInBounds_toArray, List.set_cons_zero, List.set_cons_succ]
              refine wpAnyG_takeD (i := 8) (oi := { dst := some 68, op := Op.build 28 #[(0, Operand.tmp 63), (1, Operand.tmp 67)], type := 28, pos := "ref.go:52", after := #[{ on := 3, ground := Ground.data }, { on := 7, ground := Ground.data }], guard := none }) (d := 68) (v := ?_) rfl rfl (by kernel_rfl) (by kernel_rfl) (by kernel_rfl) (by kernel_rfl) (fun _ _ _ h => h) (Or.inl ⟨by rfl, ?_⟩) hHeld ?_
              rotate_left
              · (intro w' hSw; (try dsimp only at hSw); go_simp; (try with_reducible rfl))
              simp only [List.setIfInBounds_toArray, List.set_cons_zero, List.set_cons_succ]
              refine wpAnyG_last (o := { dst := none, op := Op.store 28 (Operand.tmp 4) (Operand.tmp 68), type := 0, pos := "ref.go:52", after := #[{ on := 8, ground := Ground.data }, { on := 7, ground := Ground.chain }, { on := 0, ground := Ground.phase }, { on := 1, ground := Ground.phase }, { on := 2, ground := Ground.phase }, { on := 3, ground := Ground.phase }, { on := 4, ground := Ground.phase }, { on := 5, ground := Ground.phase }, { on := 6, ground := Ground.phase }, { on := 7, ground := Ground.phase }, { on := 8, ground := Ground.phase }], guard := none }) (by kernel_rfl) rfl (by rfl) (fun K hK => ?_)
              obtain ⟨_, _, _, _, d0, d1, z0, z1⟩ := (HS5.out.step HBB.out).cells; go_simp
              refine hK.out _ _ ?_
              clear hK K
              try simp only [Act.put, List.setIfInBounds_toArray, List.set_cons_zero, List.set_cons_succ]
              refine wpAnyG_one (i := 10) (o := { dst := some 5, op := Op.assign (Operand.const (Value.int IntKind.i64 0)), type := 3, pos := "ref.go:52", after := #[{ on := 9, ground := Ground.chain }, { on := 0, ground := Ground.phase }, { on := 1, ground := Ground.phase }, { on := 2, ground := Ground.phase }, { on := 3, ground := Ground.phase }, { on := 4, ground := Ground.phase }, { on := 5, ground := Ground.phase }, { on := 6, ground := Ground.phase }, { on := 7, ground := Ground.phase }, { on := 8, ground := Ground.phase }, { on := 9, ground := Ground.phase }], guard := none }) (by kernel_rfl) rfl (by rfl) (fun K hK => ?_)
              go_simp; have mm := blk_far (p := ⟨r2, 1, none⟩) (blk_far (p := ⟨r2, 0, none⟩) (HS5.out.step HBB.out).m HNE.out (.slice A7 (T.length + 1) c7)) HNE.out (.slice A8 ((mrgsT T).length + 1) c8); have h := And.intro (blk_cell mm 0) (blk_cell mm 1)
              refine hK.out _ _ h (fun hHeld => ?_)
              clear hK K
              try simp only [Act.put, List.setIfInBounds_toArray, List.set_cons_zero, List.set_cons_succ]
              refine wpAnyG_done (by kernel_rfl) ?_ _
              go_wp2_with fail; have FIN := radd_fin HS5.out HBB.out HO1.out HO2.out HKZ.out HADD.out HBASE.out H256.out; refine ret_ref (r := r2) rfl rfl rfl FIN.1 FIN.2
end Go.Proofs.Ytpkmcokkapfnmaa
