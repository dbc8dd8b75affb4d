/- Texts of several layers, one behind the other: Ref5, Grow0, Grow1, Grow2, Chain4, Chain7, Chain9, ChainA, Ref6, ChainC, ChainD, Trie4, RevI, Spine0, ChainG, ChainH, ChainI, Lat0, Bound0, Bound1, Open, Open2, Right0, Right1, GrowG, Right2. -/
import Derived.Test.YtkkcekgbnloegaaGreatZZH1
import Derived.WalkKit
import Derived.KernelRfl
import Derived.Lib.Hide
import Derived.Deep.QuietTactic
import Derived.BigQuiet
import Derived.OwnWalk
import Derived.Lib.Strings
import Derived.Deep.DeepCutAuto
import Derived.Deep.RegionHeld3
import Derived.StillTailTactics
import Derived.Maps.OwnSet
import Derived.Maps.OwnOps
import Derived.DeepKeys4
import Derived.WideKeyEntry
import Derived.Maps.AppendAt
import Derived.Test.YtkkcekgbnloegaaGreatProg
import Derived.Laws.ResultCell
import Derived.Laws.AppendOwnNone
import Derived.Laws.IdiomStrings
import Derived.Lib.AppendStr
import Derived.Deep.Slices
import Derived.Deep.Fields
import Derived.ChangeSame
import Derived.SliceStrings
import Derived.OpenShut
import Derived.Laws.LoneSync
import Derived.Laws.OwnMore
import Derived.Laws.MakeOwn
import Derived.Laws.Bits64b
import Derived.Laws.BitsAllLaws
import Derived.Tactics
import Derived.Tactics2
import Derived.Defers
import Derived.Laws.Pointers
import Derived.RegionTactic
import Derived.RegionCalls
import Derived.ChangeAlike
import Derived.Test.YtkkcekgbnloegaaGreatRows
import Derived.ProofKit
import Derived.ShutString
import Derived.ChangeOld
import Derived.Below
import Derived.Lib.SmallJoins
set_option maxRecDepth 100000
set_option linter.unusedVariables false
set_option linter.unusedSimpArgs false
namespace Go.Proofs.YtkkcekgbnloegaaGreat
open Go.RowKit Go.Maps Go.WideMaps
theorem gen_below {K : Act → World → Prop} {a : Act} {W V w0 : World} {b : Nat} (hb : Below b w0 V) (hV : W = V) (h : ∀ W', W' = V → K a W') : K a W := by subst hV; exact h _ rfl
theorem bel_new {w0 W : World} (h : Below w0.heap.size w0 W) (o : Obj) : (W.alloc o).heap[W.heap.size]? = some o := blk_new W o
theorem bel_alloc {w0 W : World} (h : Below w0.heap.size w0 W) (o : Obj) : Below w0.heap.size w0 (W.alloc o) := h.trans (((Below.refl W.heap.size W).alloc (Nat.le_refl _) o).mono h.size)
theorem row_alloc {W : World} {base n : Nat} {e : TypeId} {size : Nat} {v : Value} {xs : List Value} (h : W.ownsRow base e size v n xs) (o : Obj) : (W.alloc o).ownsRow base e size v n xs := own_below h ((Below.refl W.heap.size W).alloc (Nat.le_refl _) o) (Nat.le_refl _)
theorem radd_fin {w W4 W : World} {base : Nat} {T : List Ent} {A : Option Addr} {c : Nat} {A2 : Option Addr} {c2 : Nat} {a b : Int} {r0 r1 r2 : Nat} {A7 A8 : Option Addr} {c7 c8 : Nat} {z : ByteArray} {Z : List UInt8}
    (h : RAdd w W4 base T A c A2 c2 a b r0 r1 r2) (hb : Below W4.heap.size W4 W)
    (ho1 : W.ownsRow W4.heap.size 9 1 (.slice A7 (T.length + 1) c7) (T.length + 1) ((bytsT T).map strV ++ [.string z]))
    (ho2 : W.ownsRow W4.heap.size 113 2 (.slice A8 ((mrgsT T).length + 1) c8) ((mrgsT T).length + 1) ((mrgsT T).flatMap encM ++ [.int .i64 a, .int .i64 b]))
    (hz : strV Z = .string z) (hadd : addT T a b = ((T.length : Int), 0, T ++ [(Z, a, b)])) (hbase : base ≤ w.heap.size) (h256 : 256 ≤ T.length) :
    ((W.setCell ⟨r2, 0, none⟩ (.slice A7 (T.length + 1) c7)).setCell ⟨r2, 1, none⟩ (.slice A8 ((mrgsT T).length + 1) c8)).heap[r2]? = some (.cells #[.slice A7 (T.length + 1) c7, .slice A8 ((mrgsT T).length + 1) c8] 34) ∧
    RAddOk w base T a b (.returned (.tuple #[.agg #[.slice A7 (T.length + 1) c7, .slice A8 ((mrgsT T).length + 1) c8], .int .i64 0])) ((W.setCell ⟨r2, 0, none⟩ (.slice A7 (T.length + 1) c7)).setCell ⟨r2, 1, none⟩ (.slice A8 ((mrgsT T).length + 1) c8)) := by
  have h' := h.step hb
  have K3 : ∀ (W : World) (i : Nat) (u : Value), Keep (fun g => g = r2) W (W.setCell ⟨r2, i, none⟩ u) := fun W i u => Keep.setCell (F := fun g => g = r2) (p := ⟨r2, i, none⟩) (Keep.refl _ _) (Or.inl rfl) _
  have hle : base ≤ W4.heap.size := Nat.le_trans hbase h.below.size
  have e1 : bytsT (T ++ [(Z, a, b)]) = bytsT T ++ [Z] := by simp [bytsT]
  have e2 : mrgsT (T ++ [(Z, a, b)]) = mrgsT T ++ [(a, b)] := by
    unfold mrgsT
    rw [List.drop_append_of_le_length h256]
    simp
  refine ⟨by simpa using blk_set (blk_set h'.r 0 _) 1 _, (h'.below.setCell (p := ⟨r2, 0, none⟩) h.le.2.2 _).setCell (p := ⟨r2, 1, none⟩) h.le.2.2 _, _, _, _, _, _, _, by rw [hadd], ?_⟩
  rw [hadd]
  refine ⟨?_, ?_, ?_⟩
  · simp only [List.length_append, List.length_singleton, e1, List.map_append, List.map_cons, List.map_nil, hz]
    exact own_less (own_keep (own_keep ho1 (K3 _ 0 _) (fun g hg e => row_ne ho1 h'.r (by decide) (by rw [hg, e]))) (K3 _ 1 _) (fun g hg e => row_ne ho1 h'.r (by decide) (by rw [hg, e]))) hle
  · simp only [e2, List.length_append, List.length_singleton, List.flatMap_append]
    have e3 : [((a, b) : Int × Int)].flatMap encM = [.int .i64 a, .int .i64 b] := by simp [encM]
    rw [e3]
    exact own_less (own_keep (own_keep ho2 (K3 _ 0 _) (fun g hg e => row_ne ho2 h'.r (by decide) (by rw [hg, e]))) (K3 _ 1 _) (fun g hg e => row_ne ho2 h'.r (by decide) (by rw [hg, e]))) hle
  · intro e
    simp [e2] at e
set_option maxHeartbeats 2000000 in
theorem radd_ok {w : World} {base : Nat} {T : List Ent} {A : Option Addr} {c : Nat} {A2 : Option Addr} {c2 : Nat} (a b : Int) (h : RefIs w base T (.slice A T.length c) (.slice A2 (mrgsT T).length c2)) (hT : OkT T) (he : (addT T a b).2.1 = 0) (hbase : base ≤ w.heap.size) :
    Calls Tryz.prog 134 #[.agg #[.slice A T.length c, .slice A2 (mrgsT T).length c2], .agg #[.int .i64 a, .int .i64 b]] w (RAddOk w base T a b) := by
  have HS := Lib.hid (radd_start a b h)
  have HOK := Lib.hid hT
  have HE := Lib.hid he
  have HBASE := Lib.hid hbase
  obtain ⟨t0, t1, m0, m1, _, _, _, _⟩ := HS.out.cells
  clear h hT he hbase
  go_enter Tryz.func134, Tryz.ntmps134
  go_wp2_with fail
  generalize hW : ((w.alloc (.cells #[.slice A T.length c, .slice A2 (mrgsT T).length c2] 34)).alloc (.cells #[.int .i64 a, .int .i64 b] 113)).alloc (.cells #[.slice none 0 0, .slice none 0 0] 34) = W at *
  clear hW
  obtain ⟨r2, hr2⟩ : ∃ r2, w.heap.size + 1 + 1 = r2 := ⟨_, rfl⟩
  obtain ⟨r1, hr1⟩ : ∃ r1, w.heap.size + 1 = r1 := ⟨_, rfl⟩
  obtain ⟨r0, hr0⟩ : ∃ r0, w.heap.size = r0 := ⟨_, rfl⟩
  have HS1 : Hid (RAdd w W base T A c A2 c2 a b r0 r1 r2) := Lib.hid (by rw [← hr2, ← hr1, ← hr0]; exact HS.out)
  rw [hr2, hr1, hr0]
  clear HS hr2 hr1 hr0 t0 t1 m0 m1
  refine (rhas_any a HS1.out.ref).mono ?_
  rintro e W1 ⟨rfl, hb1⟩
  have HS2 := Lib.hid (HS1.out.step hb1)
  obtain ⟨t0, t1, m0, m1, d0, d1, z0, z1⟩ := HS2.out.cells
  clear hb1 HS1
  cases ha : hasT T a with
  | false => exact absurd HE.out (by simp [addT, ha])
  | true =>
    have HA := Lib.hid ha
    clear ha
    go_wp2_with fail
    refine (rhas_any b HS2.out.ref).mono ?_
    rintro e W2 ⟨rfl, hb2⟩
    have HS3 := Lib.hid (HS2.out.step hb2)
    clear t0 t1 m0 m1 d0 d1 z0 z1 hb2 HS2
    obtain ⟨t0, t1, m0, m1, d0, d1, z0, z1⟩ := HS3.out.cells
    cases hb : hasT T b with
    | false => exact absurd HE.out (by simp [addT, hb])
    | true =>
      have HAB := Lib.hid hb
      obtain ⟨k, rfl, hk, ek⟩ := hasT_at HA.out
      obtain ⟨l, rfl, hl, el⟩ := hasT_at hb
      obtain ⟨ba, o, rfl, g0⟩ := (own_sl1 HS3.out.ref.row).at k (by simpa [bytsT] using hk)
      obtain ⟨ba', o', e', g1⟩ := (own_sl1 HS3.out.ref.row).at l (by simpa [bytsT] using hl)
      cases e'
      simp only [bytsT, List.getElem_map, strV] at g0 g1
      have hX := HOK.out.len T[k] (List.getElem_mem hk)
      have hY := HOK.out.len T[l] (List.getElem_mem hl)
      have EK := Lib.hid ek
      have EL := Lib.hid el
      have HSM := Lib.hid HOK.out.small
      obtain ⟨X, hXe⟩ : ∃ X, T[k].1 = X := ⟨_, rfl⟩
      obtain ⟨Y, hYe⟩ : ∃ Y, T[l].1 = Y := ⟨_, rfl⟩
      rw [hXe] at g0 hX
      rw [hYe] at g1 hY
      have HXE := Lib.hid hXe
      have HYE := Lib.hid hYe
      have hbig : (9223372036854775807 < (bs X).size + (bs Y).size) = False := by rw [eq_iff_iff, iff_false, bs_size, bs_size]; omega
      have HX := Lib.hid hX
      have HY := Lib.hid hY
      have q0 : 0 ≤ (k : Int) := by omega
      have q1 : (k : Int) < (T.length : Int) := by omega
      have q2 : 0 ≤ (l : Int) := by omega
      have q3 : (l : Int) < (T.length : Int) := by omega
      clear hb ek el hXe hYe hX hY
      go_wp2_with fail
      go_quiet (fail)
      rw [bs_append]
      obtain ⟨z, hz⟩ : ∃ z, bs (X ++ Y) = z := ⟨_, rfl⟩
      have hzs : z.size = (X ++ Y).length := by rw [← hz, bs_size]
      have HZ := Lib.hid hz
      have HZS := Lib.hid hzs
      rw [hz]
      clear hz hbig g0 g1 q0 q1 q2 q3 hzs
      have HS4 := Lib.hid (HS3.out.drewN nq)
      clear t0 t1 m0 m1 d0 d1 z0 z1 HS3
      generalize W2.drewN nq = W3 at *
      obtain ⟨t0, t1, m0, m1, d0, d1, z0, z1⟩ := HS4.out.cells
      by_cases h64 : (64 : Int) < (z.size : Int)
      · exact absurd HE.out (by rw [addT_long HA.out HAB.out (by rw [EK.out, HXE.out]) (by rw [EL.out, HYE.out]) (by have := HZS.out; omega)]; simp)
      · by_cases h1000 : (1000 : Int) ≤ (T.length : Int)
        · exact absurd HE.out (by rw [addT_full HA.out HAB.out (by rw [EK.out, HXE.out]) (by rw [EL.out, HYE.out]) (by have := HZS.out; omega) (by omega)]; simp)
        · have HRF := Lib.hid (rfind_any (X ++ Y) HS4.out.ref HSM.out)
          unfold strV at HRF
          rw [HZ.out] at HRF
          go_wp2_with fail
          refine HRF.out.mono ?_
          rintro e W4 ⟨rfl, hb4⟩
          have HS5 := Lib.hid (HS4.out.step hb4)
          clear t0 t1 m0 m1 d0 d1 z0 z1 HS4 HRF hb4
          obtain ⟨t0, t1, m0, m1, d0, d1, z0, z1⟩ := HS5.out.cells
          cases hf : findT T (X ++ Y) with
          | some i => exact absurd HE.out (by rw [addT_twice HA.out HAB.out (by rw [EK.out, HXE.out]) (by rw [EL.out, HYE.out]) (by have := HZS.out; omega) (by omega) (by rw [hf]; rfl)]; simp)
          | none =>
            have HADD := Lib.hid (addT_ok HA.out HAB.out (by rw [EK.out, HXE.out]) (by rw [EL.out, HYE.out]) (by have := HZS.out; omega) (by omega) (by rw [hf]; rfl))
            have hi : findI T (X ++ Y) = -1 := by unfold findI; rw [hf]
            rw [hi]
            clear hf hi
            have hsm := HSM.out
            have hml : (mrgsT T).length ≤ 1000 := by unfold mrgsT; simp; omega
            go_wp2_with (at_builtin; refine app_copy (W4.heap.size) base 31 9 (.string ⟨#[]⟩) 1 16 _ _ rfl rfl Tryz.underlying31 info_str4 rfl (by decide) _ _ _ rfl rfl (by intro u hu; obtain ⟨y, _, rfl⟩ := List.mem_map.1 hu; rfl) (fun e => absurd e (by omega)) HS5.out.ref.row (by omega) (by omega) (Nat.le_refl _) ?_)
            intro v1 W5 ho1 hb5 _
            obtain ⟨A5, c5, rfl⟩ := own_slice ho1
            have HS6 := Lib.hid (HS5.out.step hb5)
            have HB5 := Lib.hid hb5
            have HO1 := Lib.hid ho1
            clear t0 t1 m0 m1 d0 d1 z0 z1 ho1 hb5
            obtain ⟨t0, t1, m0, m1, d0, d1, z0, z1⟩ := HS6.out.cells
            go_wp2_with (at_builtin; refine app_copy (W4.heap.size) base 32 113 (.agg #[.int .i64 0, .int .i64 0]) 2 16 _ _ rfl rfl Tryz.underlying32 info_mrg rfl (by decide) _ _ _ rfl rfl (by intro u hu; obtain ⟨y, _, hy⟩ := List.mem_flatMap.1 hu; simp [encM] at hy; rcases hy with rfl | rfl <;> rfl) HS6.out.ref.nil HS6.out.ref.mrg (by omega) (by omega) HB5.out.size ?_)
            intro v2 W6 ho2 hb6 _
            obtain ⟨A6, c6, rfl⟩ := own_slice ho2
            have HBB := Lib.hid (HB5.out.trans (hb6.mono HB5.out.size))
            have HO1 := Lib.hid (own_below HO1.out hb6 (Nat.le_refl _))
            have HO2 := Lib.hid ho2
            clear t0 t1 m0 m1 d0 d1 z0 z1 ho2 hb6
            obtain ⟨t0, t1, m0, m1, d0, d1, z0, z1⟩ := (HS5.out.step HBB.out).cells
            go_upto_region 14 with fail
            have HBB := Lib.hid (HBB.out.trans ((Below.refl W6.heap.size W6).drew.mono HBB.out.size))
            have HO1 := Lib.hid (own_drew HO1.out)
            have HO2 := Lib.hid (own_drew HO2.out)
            have HKZ := Lib.hid (show strV (X ++ Y) = .string z by unfold strV; rw [HZ.out])
            have H256 := Lib.hid (show 256 ≤ T.length by obtain ⟨M, hM⟩ := HOK.out.base; rw [hM, List.length_append, base_len]; omega)
            have HNE := Lib.hid (show r1 ≠ r2 by
              intro e
              have h1 := HS5.out.m
              rw [e, HS5.out.r] at h1
              simp at h1)
            refine wp_region_G (D := 9) (S := fun V => V.cell? ⟨r1, 0, none⟩ = some (.int .i64 (k : Int)) ∧ V.cell? ⟨r1, 1, none⟩ = some (.int .i64 (l : Int))) (by kernel_rfl) (by exact ⟨m0, m1⟩) (fun hHeld => ?_)
            refine tkG (oi := { dst := some 60, op := Op.move (Operand.tmp 7), type := 31, pos := "ref.go:52", after := #[], guard := none }) 0 60 ?_ rfl hHeld (.inl ⟨by rfl, ?_⟩) ?_; rotate_left; focus (intro w' hSw; (try dsimp only at hSw); go_simp; (try with_reducible rfl))
            try simp only [sIB, sC0, sCS]
            refine tkG (oi := { dst := some 61, op := Op.move (Operand.tmp 6), type := 9, pos := "ref.go:52", after := #[], guard := none }) 1 61 ?_ rfl hHeld (.inl ⟨by rfl, ?_⟩) ?_; rotate_left; focus (intro w' hSw; (try dsimp only at hSw); go_simp; (try with_reducible rfl))
            try simp only [sIB, sC0, sCS]
            refine tkG (oi := { dst := some 64, op := Op.move (Operand.tmp 8), type := 32, pos := "ref.go:52", after := #[], guard := none }) 4 64 ?_ rfl hHeld (.inl ⟨by rfl, ?_⟩) ?_; rotate_left; focus (intro w' hSw; (try dsimp only at hSw); go_simp; (try with_reducible rfl))
            try simp only [sIB, sC0, sCS]
            refine tkG (oi := { dst := some 65, op := Op.load 113 (Operand.tmp 3), type := 113, pos := "ref.go:52", after := #[], guard := none }) 5 65 ?_ rfl hHeld (.inl ⟨by rfl, ?_⟩) ?_; rotate_left; focus (intro w' hSw; (try dsimp only at hSw); go_simp; (try with_reducible rfl))
            try simp only [sIB, sC0, sCS]
            refine wpAnyG_two (i := 2) (j := 6) (oi := { dst := some 62, op := Op.buildSlice 31 1 #[(0, Operand.tmp 61)], type := 31, pos := "ref.go:52", after := #[{ on := 1, ground := Ground.data }], guard := none }) (oj := { dst := some 66, op := Op.buildSlice 32 1 #[(0, Operand.tmp 65)], type := 32, pos := "ref.go:52", after := #[{ on := 5, ground := Ground.data }], guard := none }) (by kernel_rfl) rfl rfl (by rfl) (by rfl) (fun K hK => ?_) (fun K hK => ?_)
            ·
              go_simp; have HE1 := Lib.hid (bel_new HBB.out (.cells #[.string z] 9)); (try have HE2 := Lib.hid (blk_alloc HE2.out (.cells #[.string z] 9))); have HO1 := Lib.hid (row_alloc HO1.out (.cells #[.string z] 9)); have HO2 := Lib.hid (row_alloc HO2.out (.cells #[.string z] 9)); have HBB := Lib.hid (bel_alloc HBB.out (.cells #[.string z] 9)); refine gen_below HBB.out rfl (fun W' hW' => ?_); rw [← hW'] at HBB HO1 HO2 HE1; (try rw [← hW'] at HE2); clear hW'; have h := And.intro (HS5.out.step HBB.out).cells.2.2.1 (HS5.out.step HBB.out).cells.2.2.2.1
              refine hK.out _ _ h (fun hHeld => ?_)
              clear hK K
              try simp only [Act.put, sIB, sC0, sCS]
              refine wpAnyG_two (i := 3) (j := 6) (oi := { dst := some 63, op := Op.call { callee := Callee.builtin Builtin.append, args := #[Operand.tmp 60, Operand.tmp 62], argTypes := #[31, 31] }, type := 31, pos := "ref.go:52", after := #[{ on := 0, ground := Ground.data }, { on := 2, ground := Ground.data }], guard := none }) (oj := { dst := some 66, op := Op.buildSlice 32 1 #[(0, Operand.tmp 65)], type := 32, pos := "ref.go:52", after := #[{ on := 5, ground := Ground.data }], guard := none }) (by kernel_rfl) rfl rfl (by rfl) (by rfl) (fun K hK => ?_) (fun K hK => ?_)
              ·
                refine wp_app_at (W4.heap.size) 31 9 (.string ⟨#[]⟩) 1 16 [_] 1 _ _ _ rfl Tryz.underlying31 info_str4 rfl (by decide) _ _ _ rfl rfl rfl (by intro u hu; simp at hu; subst hu; rfl) HE1.out HO1.out (by omega) (by omega) HBB.out.size ?_; intro v' W' hown' hg' _; obtain ⟨A7, c7, rfl⟩ := own_slice hown'; have hk' : Keep (fun g => (Value.slice A5 T.length c5).ownBlock = some g) _ W' := Keep.of_grown hg' (fun g hg => hg); (try have HE2 := Lib.hid (hk'.blk HE2.out (row_ne HO1.out HE2.out (by decide)))); have HO2 := Lib.hid (own_keep HO2.out hk' (fun g hg e => row_row_ne HO1.out HO2.out (by decide) g e hg)); have HBB := Lib.hid (HBB.out.trans (hk'.below HBB.out.size (own_base HO1.out))); have HO1 := Lib.hid hown'; clear hown' hg' hk'; have h := And.intro (HS5.out.step HBB.out).cells.2.2.1 (HS5.out.step HBB.out).cells.2.2.2.1
                refine hK.out _ _ h (fun hHeld => ?_)
                clear hK K
                try simp only [Act.put, sIB, sC0, sCS]
                refine wpAnyG_one (i := 6) (o := { dst := some 66, op := Op.buildSlice 32 1 #[(0, Operand.tmp 65)], type := 32, pos := "ref.go:52", after := #[{ on := 5, ground := Ground.data }], guard := none }) (by kernel_rfl) rfl (by rfl) (fun K hK => ?_)
                go_simp; have HE2 := Lib.hid (bel_new HBB.out (.cells #[.int .i64 (k : Int), .int .i64 (l : Int)] 113)); (try have HE1 := Lib.hid (blk_alloc HE1.out (.cells #[.int .i64 (k : Int), .int .i64 (l : Int)] 113))); have HO1 := Lib.hid (row_alloc HO1.out (.cells #[.int .i64 (k : Int), .int .i64 (l : Int)] 113)); have HO2 := Lib.hid (row_alloc HO2.out (.cells #[.int .i64 (k : Int), .int .i64 (l : Int)] 113)); have HBB := Lib.hid (bel_alloc HBB.out (.cells #[.int .i64 (k : Int), .int .i64 (l : Int)] 113)); refine gen_below HBB.out rfl (fun W' hW' => ?_); rw [← hW'] at HBB HO1 HO2 HE2; (try rw [← hW'] at HE1); clear hW'; have h := And.intro (HS5.out.step HBB.out).cells.2.2.1 (HS5.out.step HBB.out).cells.2.2.2.1
                refine hK.out _ _ h (fun hHeld => ?_)
                clear hK K
                try simp only [Act.put, sIB, sC0, sCS]
                refine wpAnyG_one (i := 7) (o := { dst := some 67, op := Op.call { callee := Callee.builtin Builtin.append, args := #[Operand.tmp 64, Operand.tmp 66], argTypes := #[32, 32] }, type := 32, pos := "ref.go:52", after := #[{ on := 4, ground := Ground.data }, { on := 6, ground := Ground.data }, { on := 3, ground := Ground.chain }], guard := none }) (by kernel_rfl) rfl (by rfl) (fun K hK => ?_)
                refine wp_app_at (W4.heap.size) 32 113 (.agg #[.int .i64 0, .int .i64 0]) 2 16 [_, _] 1 _ _ _ rfl Tryz.underlying32 info_mrg rfl (by decide) _ _ _ rfl rfl rfl (by intro u hu; simp at hu; rcases hu with rfl | rfl <;> rfl) HE2.out HO2.out (by omega) (by omega) HBB.out.size ?_; intro v' W' hown' hg' _; obtain ⟨A8, c8, rfl⟩ := own_slice hown'; have hk' : Keep (fun g => (Value.slice A6 (mrgsT T).length c6).ownBlock = some g) _ W' := Keep.of_grown hg' (fun g hg => hg); (try have HE1 := Lib.hid (hk'.blk HE1.out (row_ne HO2.out HE1.out (by decide)))); have HO1 := Lib.hid (own_keep HO1.out hk' (fun g hg e => row_row_ne HO2.out HO1.out (by decide) g e hg)); have HBB := Lib.hid (HBB.out.trans (hk'.below HBB.out.size (own_base HO2.out))); have HO2 := Lib.hid hown'; clear hown' hg' hk'; have h := And.intro (HS5.out.step HBB.out).cells.2.2.1 (HS5.out.step HBB.out).cells.2.2.2.1
                refine hK.out _ _ h (fun hHeld => ?_)
                clear hK K
                try simp only [Act.put, sIB, sC0, sCS]
                refine tkG (oi := { dst := some 68, op := Op.build 34 #[(0, Operand.tmp 63), (1, Operand.tmp 67)], type := 34, pos := "ref.go:52", after := #[{ on := 3, ground := Ground.data }, { on := 7, ground := Ground.data }], guard := none }) 8 68 ?_ rfl hHeld (.inl ⟨by rfl, ?_⟩) ?_; rotate_left; focus (intro w' hSw; (try dsimp only at hSw); go_simp; (try with_reducible rfl))
                try simp only [sIB, sC0, sCS]
                refine wpAnyG_last (o := { dst := none, op := Op.store 34 (Operand.tmp 4) (Operand.tmp 68), type := 0, pos := "ref.go:52", after := #[{ on := 8, ground := Ground.data }, { on := 7, ground := Ground.chain }, { on := 0, ground := Ground.phase }, { on := 1, ground := Ground.phase }, { on := 2, ground := Ground.phase }, { on := 3, ground := Ground.phase }, { on := 4, ground := Ground.phase }, { on := 5, ground := Ground.phase }, { on := 6, ground := Ground.phase }, { on := 7, ground := Ground.phase }, { on := 8, ground := Ground.phase }], guard := none }) (by kernel_rfl) rfl (by rfl) (fun K hK => ?_)
                obtain ⟨_, _, _, _, d0, d1, z0, z1⟩ := (HS5.out.step HBB.out).cells; go_simp
                refine hK.out _ _ ?_
                clear hK K
                try simp only [Act.put, sIB, sC0, sCS]
                refine wpAnyG_one (i := 10) (o := { dst := some 5, op := Op.assign (Operand.const (Value.int IntKind.i64 0)), type := 3, pos := "ref.go:52", after := #[{ on := 9, ground := Ground.chain }, { on := 0, ground := Ground.phase }, { on := 1, ground := Ground.phase }, { on := 2, ground := Ground.phase }, { on := 3, ground := Ground.phase }, { on := 4, ground := Ground.phase }, { on := 5, ground := Ground.phase }, { on := 6, ground := Ground.phase }, { on := 7, ground := Ground.phase }, { on := 8, ground := Ground.phase }, { on := 9, ground := Ground.phase }], guard := none }) (by kernel_rfl) rfl (by rfl) (fun K hK => ?_)
                go_simp; have mm := blk_far (p := ⟨r2, 1, none⟩) (blk_far (p := ⟨r2, 0, none⟩) (HS5.out.step HBB.out).m HNE.out (.slice A7 (T.length + 1) c7)) HNE.out (.slice A8 ((mrgsT T).length + 1) c8); have h := And.intro (blk_cell mm 0) (blk_cell mm 1)
                refine hK.out _ _ h (fun hHeld => ?_)
                clear hK K
                try simp only [Act.put, sIB, sC0, sCS]
                refine wpAnyG_done (by kernel_rfl) ?_ _
                go_wp2_with fail; have FIN := radd_fin HS5.out HBB.out HO1.out HO2.out HKZ.out HADD.out HBASE.out H256.out; refine ret_ref (r := r2) rfl rfl rfl FIN.1 FIN.2
              ·
                go_simp; have HE2 := Lib.hid (bel_new HBB.out (.cells #[.int .i64 (k : Int), .int .i64 (l : Int)] 113)); (try have HE1 := Lib.hid (blk_alloc HE1.out (.cells #[.int .i64 (k : Int), .int .i64 (l : Int)] 113))); have HO1 := Lib.hid (row_alloc HO1.out (.cells #[.int .i64 (k : Int), .int .i64 (l : Int)] 113)); have HO2 := Lib.hid (row_alloc HO2.out (.cells #[.int .i64 (k : Int), .int .i64 (l : Int)] 113)); have HBB := Lib.hid (bel_alloc HBB.out (.cells #[.int .i64 (k : Int), .int .i64 (l : Int)] 113)); refine gen_below HBB.out rfl (fun W' hW' => ?_); rw [← hW'] at HBB HO1 HO2 HE2; (try rw [← hW'] at HE1); clear hW'; have h := And.intro (HS5.out.step HBB.out).cells.2.2.1 (HS5.out.step HBB.out).cells.2.2.2.1
                refine hK.out _ _ h (fun hHeld => ?_)
                clear hK K
                try simp only [Act.put, sIB, sC0, sCS]
                refine wpAnyG_one (i := 3) (o := { dst := some 63, op := Op.call { callee := Callee.builtin Builtin.append, args := #[Operand.tmp 60, Operand.tmp 62], argTypes := #[31, 31] }, type := 31, pos := "ref.go:52", after := #[{ on := 0, ground := Ground.data }, { on := 2, ground := Ground.data }], guard := none }) (by kernel_rfl) rfl (by rfl) (fun K hK => ?_)
                refine wp_app_at (W4.heap.size) 31 9 (.string ⟨#[]⟩) 1 16 [_] 1 _ _ _ rfl Tryz.underlying31 info_str4 rfl (by decide) _ _ _ rfl rfl rfl (by intro u hu; simp at hu; subst hu; rfl) HE1.out HO1.out (by omega) (by omega) HBB.out.size ?_; intro v' W' hown' hg' _; obtain ⟨A7, c7, rfl⟩ := own_slice hown'; have hk' : Keep (fun g => (Value.slice A5 T.length c5).ownBlock = some g) _ W' := Keep.of_grown hg' (fun g hg => hg); (try have HE2 := Lib.hid (hk'.blk HE2.out (row_ne HO1.out HE2.out (by decide)))); have HO2 := Lib.hid (own_keep HO2.out hk' (fun g hg e => row_row_ne HO1.out HO2.out (by decide) g e hg)); have HBB := Lib.hid (HBB.out.trans (hk'.below HBB.out.size (own_base HO1.out))); have HO1 := Lib.hid hown'; clear hown' hg' hk'; have h := And.intro (HS5.out.step HBB.out).cells.2.2.1 (HS5.out.step HBB.out).cells.2.2.2.1
                refine hK.out _ _ h (fun hHeld => ?_)
                clear hK K
                try simp only [Act.put, sIB, sC0, sCS]
                refine wpAnyG_one (i := 7) (o := { dst := some 67, op := Op.call { callee := Callee.builtin Builtin.append, args := #[Operand.tmp 64, Operand.tmp 66], argTypes := #[32, 32] }, type := 32, pos := "ref.go:52", after := #[{ on := 4, ground := Ground.data }, { on := 6, ground := Ground.data }, { on := 3, ground := Ground.chain }], guard := none }) (by kernel_rfl) rfl (by rfl) (fun K hK => ?_)
                refine wp_app_at (W4.heap.size) 32 113 (.agg #[.int .i64 0, .int .i64 0]) 2 16 [_, _] 1 _ _ _ rfl Tryz.underlying32 info_mrg rfl (by decide) _ _ _ rfl rfl rfl (by intro u hu; simp at hu; rcases hu with rfl | rfl <;> rfl) HE2.out HO2.out (by omega) (by omega) HBB.out.size ?_; intro v' W' hown' hg' _; obtain ⟨A8, c8, rfl⟩ := own_slice hown'; have hk' : Keep (fun g => (Value.slice A6 (mrgsT T).length c6).ownBlock = some g) _ W' := Keep.of_grown hg' (fun g hg => hg); (try have HE1 := Lib.hid (hk'.blk HE1.out (row_ne HO2.out HE1.out (by decide)))); have HO1 := Lib.hid (own_keep HO1.out hk' (fun g hg e => row_row_ne HO2.out HO1.out (by decide) g e hg)); have HBB := Lib.hid (HBB.out.trans (hk'.below HBB.out.size (own_base HO2.out))); have HO2 := Lib.hid hown'; clear hown' hg' hk'; have h := And.intro (HS5.out.step HBB.out).cells.2.2.1 (HS5.out.step HBB.out).cells.2.2.2.1
                refine hK.out _ _ h (fun hHeld => ?_)
                clear hK K
                try simp only [Act.put, sIB, sC0, sCS]
                refine tkG (oi := { dst := some 68, op := Op.build 34 #[(0, Operand.tmp 63), (1, Operand.tmp 67)], type := 34, pos := "ref.go:52", after := #[{ on := 3, ground := Ground.data }, { on := 7, ground := Ground.data }], guard := none }) 8 68 ?_ rfl hHeld (.inl ⟨by rfl, ?_⟩) ?_; rotate_left; focus (intro w' hSw; (try dsimp only at hSw); go_simp; (try with_reducible rfl))
                try simp only [sIB, sC0, sCS]
                refine wpAnyG_last (o := { dst := none, op := Op.store 34 (Operand.tmp 4) (Operand.tmp 68), type := 0, pos := "ref.go:52", after := #[{ on := 8, ground := Ground.data }, { on := 7, ground := Ground.chain }, { on := 0, ground := Ground.phase }, { on := 1, ground := Ground.phase }, { on := 2, ground := Ground.phase }, { on := 3, ground := Ground.phase }, { on := 4, ground := Ground.phase }, { on := 5, ground := Ground.phase }, { on := 6, ground := Ground.phase }, { on := 7, ground := Ground.phase }, { on := 8, ground := Ground.phase }], guard := none }) (by kernel_rfl) rfl (by rfl) (fun K hK => ?_)
                obtain ⟨_, _, _, _, d0, d1, z0, z1⟩ := (HS5.out.step HBB.out).cells; go_simp
                refine hK.out _ _ ?_
                clear hK K
                try simp only [Act.put, sIB, sC0, sCS]
                refine wpAnyG_one (i := 10) (o := { dst := some 5, op := Op.assign (Operand.const (Value.int IntKind.i64 0)), type := 3, pos := "ref.go:52", after := #[{ on := 9, ground := Ground.chain }, { on := 0, ground := Ground.phase }, { on := 1, ground := Ground.phase }, { on := 2, ground := Ground.phase }, { on := 3, ground := Ground.phase }, { on := 4, ground := Ground.phase }, { on := 5, ground := Ground.phase }, { on := 6, ground := Ground.phase }, { on := 7, ground := Ground.phase }, { on := 8, ground := Ground.phase }, { on := 9, ground := Ground.phase }], guard := none }) (by kernel_rfl) rfl (by rfl) (fun K hK => ?_)
                go_simp; have mm := blk_far (p := ⟨r2, 1, none⟩) (blk_far (p := ⟨r2, 0, none⟩) (HS5.out.step HBB.out).m HNE.out (.slice A7 (T.length + 1) c7)) HNE.out (.slice A8 ((mrgsT T).length + 1) c8); have h := And.intro (blk_cell mm 0) (blk_cell mm 1)
                refine hK.out _ _ h (fun hHeld => ?_)
                clear hK K
                try simp only [Act.put, sIB, sC0, sCS]
                refine wpAnyG_done (by kernel_rfl) ?_ _
                go_wp2_with fail; have FIN := radd_fin HS5.out HBB.out HO1.out HO2.out HKZ.out HADD.out HBASE.out H256.out; refine ret_ref (r := r2) rfl rfl rfl FIN.1 FIN.2
            ·
              go_simp; have HE2 := Lib.hid (bel_new HBB.out (.cells #[.int .i64 (k : Int), .int .i64 (l : Int)] 113)); (try have HE1 := Lib.hid (blk_alloc HE1.out (.cells #[.int .i64 (k : Int), .int .i64 (l : Int)] 113))); have HO1 := Lib.hid (row_alloc HO1.out (.cells #[.int .i64 (k : Int), .int .i64 (l : Int)] 113)); have HO2 := Lib.hid (row_alloc HO2.out (.cells #[.int .i64 (k : Int), .int .i64 (l : Int)] 113)); have HBB := Lib.hid (bel_alloc HBB.out (.cells #[.int .i64 (k : Int), .int .i64 (l : Int)] 113)); refine gen_below HBB.out rfl (fun W' hW' => ?_); rw [← hW'] at HBB HO1 HO2 HE2; (try rw [← hW'] at HE1); clear hW'; have h := And.intro (HS5.out.step HBB.out).cells.2.2.1 (HS5.out.step HBB.out).cells.2.2.2.1
              refine hK.out _ _ h (fun hHeld => ?_)
              clear hK K
              try simp only [Act.put, sIB, sC0, sCS]
              refine wpAnyG_one (i := 2) (o := { dst := some 62, op := Op.buildSlice 31 1 #[(0, Operand.tmp 61)], type := 31, pos := "ref.go:52", after := #[{ on := 1, ground := Ground.data }], guard := none }) (by kernel_rfl) rfl (by rfl) (fun K hK => ?_)
              go_simp; have HE1 := Lib.hid (bel_new HBB.out (.cells #[.string z] 9)); (try have HE2 := Lib.hid (blk_alloc HE2.out (.cells #[.string z] 9))); have HO1 := Lib.hid (row_alloc HO1.out (.cells #[.string z] 9)); have HO2 := Lib.hid (row_alloc HO2.out (.cells #[.string z] 9)); have HBB := Lib.hid (bel_alloc HBB.out (.cells #[.string z] 9)); refine gen_below HBB.out rfl (fun W' hW' => ?_); rw [← hW'] at HBB HO1 HO2 HE1; (try rw [← hW'] at HE2); clear hW'; have h := And.intro (HS5.out.step HBB.out).cells.2.2.1 (HS5.out.step HBB.out).cells.2.2.2.1
              refine hK.out _ _ h (fun hHeld => ?_)
              clear hK K
              try simp only [Act.put, sIB, sC0, sCS]
              refine wpAnyG_one (i := 3) (o := { dst := some 63, op := Op.call { callee := Callee.builtin Builtin.append, args := #[Operand.tmp 60, Operand.tmp 62], argTypes := #[31, 31] }, type := 31, pos := "ref.go:52", after := #[{ on := 0, ground := Ground.data }, { on := 2, ground := Ground.data }], guard := none }) (by kernel_rfl) rfl (by rfl) (fun K hK => ?_)
              refine wp_app_at (W4.heap.size) 31 9 (.string ⟨#[]⟩) 1 16 [_] 1 _ _ _ rfl Tryz.underlying31 info_str4 rfl (by decide) _ _ _ rfl rfl rfl (by intro u hu; simp at hu; subst hu; rfl) HE1.out HO1.out (by omega) (by omega) HBB.out.size ?_; intro v' W' hown' hg' _; obtain ⟨A7, c7, rfl⟩ := own_slice hown'; have hk' : Keep (fun g => (Value.slice A5 T.length c5).ownBlock = some g) _ W' := Keep.of_grown hg' (fun g hg => hg); (try have HE2 := Lib.hid (hk'.blk HE2.out (row_ne HO1.out HE2.out (by decide)))); have HO2 := Lib.hid (own_keep HO2.out hk' (fun g hg e => row_row_ne HO1.out HO2.out (by decide) g e hg)); have HBB := Lib.hid (HBB.out.trans (hk'.below HBB.out.size (own_base HO1.out))); have HO1 := Lib.hid hown'; clear hown' hg' hk'; have h := And.intro (HS5.out.step HBB.out).cells.2.2.1 (HS5.out.step HBB.out).cells.2.2.2.1
              refine hK.out _ _ h (fun hHeld => ?_)
              clear hK K
              try simp only [Act.put, sIB, sC0, sCS]
              refine wpAnyG_one (i := 7) (o := { dst := some 67, op := Op.call { callee := Callee.builtin Builtin.append, args := #[Operand.tmp 64, Operand.tmp 66], argTypes := #[32, 32] }, type := 32, pos := "ref.go:52", after := #[{ on := 4, ground := Ground.data }, { on := 6, ground := Ground.data }, { on := 3, ground := Ground.chain }], guard := none }) (by kernel_rfl) rfl (by rfl) (fun K hK => ?_)
              refine wp_app_at (W4.heap.size) 32 113 (.agg #[.int .i64 0, .int .i64 0]) 2 16 [_, _] 1 _ _ _ rfl Tryz.underlying32 info_mrg rfl (by decide) _ _ _ rfl rfl rfl (by intro u hu; simp at hu; rcases hu with rfl | rfl <;> rfl) HE2.out HO2.out (by omega) (by omega) HBB.out.size ?_; intro v' W' hown' hg' _; obtain ⟨A8, c8, rfl⟩ := own_slice hown'; have hk' : Keep (fun g => (Value.slice A6 (mrgsT T).length c6).ownBlock = some g) _ W' := Keep.of_grown hg' (fun g hg => hg); (try have HE1 := Lib.hid (hk'.blk HE1.out (row_ne HO2.out HE1.out (by decide)))); have HO1 := Lib.hid (own_keep HO1.out hk' (fun g hg e => row_row_ne HO2.out HO1.out (by decide) g e hg)); have HBB := Lib.hid (HBB.out.trans (hk'.below HBB.out.size (own_base HO2.out))); have HO2 := Lib.hid hown'; clear hown' hg' hk'; have h := And.intro (HS5.out.step HBB.out).cells.2.2.1 (HS5.out.step HBB.out).cells.2.2.2.1
              refine hK.out _ _ h (fun hHeld => ?_)
              clear hK K
              try simp only [Act.put, sIB, sC0, sCS]
              refine tkG (oi := { dst := some 68, op := Op.build 34 #[(0, Operand.tmp 63), (1, Operand.tmp 67)], type := 34, pos := "ref.go:52", after := #[{ on := 3, ground := Ground.data }, { on := 7, ground := Ground.data }], guard := none }) 8 68 ?_ rfl hHeld (.inl ⟨by rfl, ?_⟩) ?_; rotate_left; focus (intro w' hSw; (try dsimp only at hSw); go_simp; (try with_reducible rfl))
              try simp only [sIB, sC0, sCS]
              refine wpAnyG_last (o := { dst := none, op := Op.store 34 (Operand.tmp 4) (Operand.tmp 68), type := 0, pos := "ref.go:52", after := #[{ on := 8, ground := Ground.data }, { on := 7, ground := Ground.chain }, { on := 0, ground := Ground.phase }, { on := 1, ground := Ground.phase }, { on := 2, ground := Ground.phase }, { on := 3, ground := Ground.phase }, { on := 4, ground := Ground.phase }, { on := 5, ground := Ground.phase }, { on := 6, ground := Ground.phase }, { on := 7, ground := Ground.phase }, { on := 8, ground := Ground.phase }], guard := none }) (by kernel_rfl) rfl (by rfl) (fun K hK => ?_)
              obtain ⟨_, _, _, _, d0, d1, z0, z1⟩ := (HS5.out.step HBB.out).cells; go_simp
              refine hK.out _ _ ?_
              clear hK K
              try simp only [Act.put, sIB, sC0, sCS]
              refine wpAnyG_one (i := 10) (o := { dst := some 5, op := Op.assign (Operand.const (Value.int IntKind.i64 0)), type := 3, pos := "ref.go:52", after := #[{ on := 9, ground := Ground.chain }, { on := 0, ground := Ground.phase }, { on := 1, ground := Ground.phase }, { on := 2, ground := Ground.phase }, { on := 3, ground := Ground.phase }, { on := 4, ground := Ground.phase }, { on := 5, ground := Ground.phase }, { on := 6, ground := Ground.phase }, { on := 7, ground := Ground.phase }, { on := 8, ground := Ground.phase }, { on := 9, ground := Ground.phase }], guard := none }) (by kernel_rfl) rfl (by rfl) (fun K hK => ?_)
              go_simp; have mm := blk_far (p := ⟨r2, 1, none⟩) (blk_far (p := ⟨r2, 0, none⟩) (HS5.out.step HBB.out).m HNE.out (.slice A7 (T.length + 1) c7)) HNE.out (.slice A8 ((mrgsT T).length + 1) c8); have h := And.intro (blk_cell mm 0) (blk_cell mm 1)
              refine hK.out _ _ h (fun hHeld => ?_)
              clear hK K
              try simp only [Act.put, sIB, sC0, sCS]
              refine wpAnyG_done (by kernel_rfl) ?_ _
              go_wp2_with fail; have FIN := radd_fin HS5.out HBB.out HO1.out HO2.out HKZ.out HADD.out HBASE.out H256.out; refine ret_ref (r := r2) rfl rfl rfl FIN.1 FIN.2
def foldT (T : List Ent) (x : Nat) : Nat := if x % (T.length + (T.length - 256)) ≥ T.length then 256 + x % (T.length + (T.length - 256)) - T.length else x % (T.length + (T.length - 256))
def growStep (T : List Ent) (x y : Nat) : List Ent := if (addT T (foldT T x : Nat) (foldT T y : Nat)).2.1 = 0 then (addT T (foldT T x : Nat) (foldT T y : Nat)).2.2 else T
def growT (l : List Nat) : Nat → List Ent
  | 0 => baseT
  | j + 1 => growStep (growT l j) (l.getD (2 * j) 0) (l.getD (2 * j + 1) 0)
theorem okT_step {T : List Ent} (h : OkT T) (x y : Nat) : OkT (growStep T x y) := by
  unfold growStep
  split
  · rename_i h0; exact okT_add h _ _ h0
  · exact h
theorem okT_grow (l : List Nat) : ∀ j, OkT (growT l j)
  | 0 => okT_base
  | j + 1 => okT_step (okT_grow l j) _ _
theorem okT_256 {T : List Ent} (h : OkT T) : 256 ≤ T.length := by
  obtain ⟨M, hM⟩ := h.base
  rw [hM, List.length_append, base_len]
  omega
theorem mrgs_len {T : List Ent} : (mrgsT T).length = T.length - 256 := by simp [mrgsT]
theorem radd_any {w : World} {base : Nat} {T : List Ent} {A : Option Addr} {c : Nat} {A2 : Option Addr} {c2 : Nat} (a b : Int) (h : RefIs w base T (.slice A T.length c) (.slice A2 (mrgsT T).length c2)) (hT : OkT T) (hbase : base ≤ w.heap.size) :
    Calls Tryz.prog 134 #[.agg #[.slice A T.length c, .slice A2 (mrgsT T).length c2], .agg #[.int .i64 a, .int .i64 b]] w (RAddOk w base T a b) := by
  by_cases he : (addT T a b).2.1 = 0
  · exact radd_ok a b h hT he hbase
  · exact radd_err a b h hT he
structure GrowIs (w W : World) (l : List Nat) (r tb j : Nat) : Prop where
  ex : ∃ A c A2 c2, W.heap[tb]? = some (.cells #[.slice A (growT l j).length c, .slice A2 (mrgsT (growT l j)).length c2] 34) ∧ RefIs W w.heap.size (growT l j) (.slice A (growT l j).length c) (.slice A2 (mrgsT (growT l j)).length c2)
  res : W.heap[r]? = some (.cells #[.slice none 0 0, .slice none 0 0] 34)
  below : Below w.heap.size w W
  le : w.heap.size ≤ r ∧ w.heap.size ≤ tb
  ne : r ≠ tb
theorem grow_start {w w1 : World} {l : List Nat} {A1 : Option Addr} {c1 : Nat} (hr : RefIs w1 (w.alloc (.cells #[.slice none 0 0, .slice none 0 0] 34)).heap.size baseT (.slice A1 baseT.length c1) (.slice none 0 0))
    (hb : Below (w.alloc (.cells #[.slice none 0 0, .slice none 0 0] 34)).heap.size (w.alloc (.cells #[.slice none 0 0, .slice none 0 0] 34)) w1) :
    GrowIs w (w1.alloc (.cells #[.slice A1 baseT.length c1, .slice none 0 0] 34)) l w.heap.size w1.heap.size 0 := by
  have e0 : (mrgsT (growT l 0)).length = 0 := by rw [mrgs_len]; simp [growT, base_len]
  have hb2 := (Below.refl w1.heap.size w1).alloc (Nat.le_refl _) (.cells #[.slice A1 baseT.length c1, .slice none 0 0] 34)
  have hr2 := (hr.below hb2 (Nat.le_refl _)).less (base := w.heap.size) (by simp)
  have hsz := hb.size
  rw [size_alloc] at hsz
  refine ⟨⟨A1, c1, none, 0, ?_, ?_⟩, blk_alloc (blk_below hb (by simp) (blk_new w _)) _, ?_, ⟨Nat.le_refl _, by omega⟩, by omega⟩
  · rw [e0]; exact blk_new w1 _
  · rw [e0]; exact hr2
  · exact (((Below.refl w.heap.size w).alloc (Nat.le_refl _) _).trans (hb.mono (by simp))).alloc (by omega) _
theorem GrowIs.err {w W w2 : World} {l : List Nat} {r tb j : Nat} (h : GrowIs w W l r tb j) (hb : Below W.heap.size W w2) (he : growT l (j + 1) = growT l j) (o : Obj) : GrowIs w (w2.alloc o) l r tb (j + 1) := by
  obtain ⟨A, c, A2, c2, hbk, href⟩ := h.ex
  have hb2 := hb.alloc hb.size o
  refine ⟨⟨A, c, A2, c2, ?_, ?_⟩, blk_below hb2 (blk_lt h.res) h.res, h.below.trans (hb2.mono h.below.size), h.le, h.ne⟩
  · rw [he]; exact blk_below hb2 (blk_lt hbk) hbk
  · rw [he]; exact href.below hb2 (Nat.le_refl _)
theorem GrowIs.ok {w W w2 : World} {l : List Nat} {r tb j n m c c2 : Nat} {A A2 : Option Addr} (h : GrowIs w W l r tb j) (hb : Below W.heap.size W w2) (href : RefIs w2 w.heap.size (growT l (j + 1)) (.slice A n c) (.slice A2 m c2)) (o : Obj) :
    GrowIs w (((w2.alloc o).setCell ⟨tb, 0, none⟩ (.slice A n c)).setCell ⟨tb, 1, none⟩ (.slice A2 m c2)) l r tb (j + 1) := by
  obtain ⟨A0, c0, A20, c20, hbk, _⟩ := h.ex
  have hb2 := hb.alloc hb.size o
  have en : n = (growT l (j + 1)).length := by obtain ⟨_, _, e⟩ := own_slice href.row; injection e
  have em : m = (mrgsT (growT l (j + 1))).length := by obtain ⟨_, _, e⟩ := own_slice href.mrg; injection e
  subst en; subst em
  have hr1 := href.below ((Below.refl w2.heap.size w2).alloc (Nat.le_refl _) o) (Nat.le_refl _)
  have b1 := blk_set (blk_set (blk_below hb2 (blk_lt hbk) hbk) 0 (.slice A (growT l (j + 1)).length c)) 1 (.slice A2 (mrgsT (growT l (j + 1))).length c2)
  simp only [List.setIfInBounds_toArray, List.set_cons_zero, List.set_cons_succ] at b1
  have K3 : ∀ (W : World) (i : Nat) (u : Value), Keep (fun g => g = tb) W (W.setCell ⟨tb, i, none⟩ u) := fun W i u => Keep.setCell (F := fun g => g = tb) (p := ⟨tb, i, none⟩) (Keep.refl _ _) (Or.inl rfl) _
  have hk1 := blk_below hb2 (blk_lt hbk) hbk
  refine ⟨⟨A, c, A2, c2, b1, ?_, ?_, hr1.nil⟩, blk_far (p := ⟨tb, 1, none⟩) (blk_far (p := ⟨tb, 0, none⟩) (blk_below hb2 (blk_lt h.res) h.res) h.ne _) h.ne _, ((h.below.trans (hb2.mono h.below.size)).setCell (p := ⟨tb, 0, none⟩) h.le.2 _).setCell (p := ⟨tb, 1, none⟩) h.le.2 _, h.le, h.ne⟩
  · exact own_keep (own_keep hr1.row (K3 _ 0 _) (fun g hg e => row_ne hr1.row hk1 (by decide) (by rw [hg, e]))) (K3 _ 1 _) (fun g hg e => row_ne hr1.row hk1 (by decide) (by rw [hg, e]))
  · exact own_keep (own_keep hr1.mrg (K3 _ 0 _) (fun g hg e => row_ne hr1.mrg hk1 (by decide) (by rw [hg, e]))) (K3 _ 1 _) (fun g hg e => row_ne hr1.mrg hk1 (by decide) (by rw [hg, e]))
theorem GrowIs.fin {w W : World} {l : List Nat} {r tb j n m c c2 : Nat} {A A2 : Option Addr} (h : GrowIs w W l r tb j) (href : RefIs W w.heap.size (growT l j) (.slice A n c) (.slice A2 m c2)) :
    ((W.setCell ⟨r, 0, none⟩ (.slice A n c)).setCell ⟨r, 1, none⟩ (.slice A2 m c2)).heap[r]? = some (.cells #[.slice A n c, .slice A2 m c2] 34) ∧ Below w.heap.size w ((W.setCell ⟨r, 0, none⟩ (.slice A n c)).setCell ⟨r, 1, none⟩ (.slice A2 m c2)) ∧
      RefIs ((W.setCell ⟨r, 0, none⟩ (.slice A n c)).setCell ⟨r, 1, none⟩ (.slice A2 m c2)) w.heap.size (growT l j) (.slice A n c) (.slice A2 m c2) := by
  have b1 := blk_set (blk_set h.res 0 (.slice A n c)) 1 (.slice A2 m c2)
  simp only [List.setIfInBounds_toArray, List.set_cons_zero, List.set_cons_succ] at b1
  have K3 : ∀ (W : World) (i : Nat) (u : Value), Keep (fun g => g = r) W (W.setCell ⟨r, i, none⟩ u) := fun W i u => Keep.setCell (F := fun g => g = r) (p := ⟨r, i, none⟩) (Keep.refl _ _) (Or.inl rfl) _
  have n1 := blk_set h.res 0 (.slice A n c)
  refine ⟨b1, (h.below.setCell (p := ⟨r, 0, none⟩) h.le.1 _).setCell (p := ⟨r, 1, none⟩) h.le.1 _, ?_, ?_, href.nil⟩
  · exact own_keep (own_keep href.row (K3 _ 0 _) (fun g hg e => row_ne href.row h.res (by decide) (by rw [hg, e]))) (K3 _ 1 _) (fun g hg e => row_ne href.row h.res (by decide) (by rw [hg, e]))
  · exact own_keep (own_keep href.mrg (K3 _ 0 _) (fun g hg e => row_ne href.mrg h.res (by decide) (by rw [hg, e]))) (K3 _ 1 _) (fun g hg e => row_ne href.mrg h.res (by decide) (by rw [hg, e]))
theorem GrowIs.drewN {w W : World} {l : List Nat} {r tb j : Nat} (h : GrowIs w W l r tb j) (n : Nat) : GrowIs w (W.drewN n) l r tb j := by
  obtain ⟨A, c, A2, c2, hbk, href⟩ := h.ex
  exact ⟨⟨A, c, A2, c2, hbk, href.row, href.mrg, href.nil⟩, h.res, below_drewN h.below n, h.le, h.ne⟩
set_option maxHeartbeats 2000000 in
theorem grow_any (l : List Nat) (A : Option Addr) (c : Nat) (w : World) (hl : Sl1 w A (fun x : Nat => .int .u16 (x : Int)) l) (hsm : ∀ x ∈ l, x < 65536) (hlen : l.length < 9000000000000000000) :
    Calls Tryz.prog 101 #[.slice A l.length c] w fun e w' => Below w.heap.size w w' ∧ ∃ A1 n1 c1 A2 n2 c2, e = .returned (.agg #[.slice A1 n1 c1, .slice A2 n2 c2]) ∧
      RefIs w' w.heap.size (growT l (min (l.length / 2) 30)) (.slice A1 n1 c1) (.slice A2 n2 c2) := by
  have HL := Lib.hid hl
  clear hl
  go_enter Tryz.func101, Tryz.ntmps101
  go_wp2_with fail
  refine (rbegin_any _).mono ?_
  rintro e w1 ⟨vb, rfl, hr, hb⟩
  obtain ⟨A1, c1, rfl⟩ := own_slice hr.row
  go_wp2_with fail
  have HS := Lib.hid (grow_start (l := l) hr hb)
  clear hr hb
  generalize hW : w1.alloc (.cells #[.slice A1 baseT.length c1, .slice none 0 0] 34) = W0 at *
  obtain ⟨r, hr⟩ : ∃ r, w.heap.size = r := ⟨_, rfl⟩
  obtain ⟨tb, ht⟩ : ∃ tb, w1.heap.size = tb := ⟨_, rfl⟩
  have HS1 : Hid (GrowIs w W0 l r tb 0) := Lib.hid (by rw [← hr, ← ht]; exact HS.out)
  rw [hr, ht]
  clear HS hr ht hW
  go_loopg [4] 30 (fun n i W => ∃ j : Nat, j + n = 30 ∧ 2 * j ≤ l.length + 1 ∧ j ≤ l.length / 2 ∧ i = .int .i64 ((2 * j : Nat) : Int) ∧ GrowIs w W l r tb j)
  case atStart => exact ⟨0, by omega, by omega, by omega, rfl, HS1.out⟩
  case round =>
    obtain ⟨j, hj, hj2, hj3, rfl, hW⟩ := hrel
    have HW := Lib.hid hW
    clear HS1
    rename World => W
    by_cases hgo : 2 * j + 1 < l.length ∧ j < 30
    · obtain ⟨A3, c3, A4, c4, hbk, href⟩ := hW.ex
      have c0 := blk_cell hbk 0
      have c1' := blk_cell hbk 1
      simp only [List.getElem?_toArray, List.getElem?_cons_zero, List.getElem?_cons_succ] at c0 c1'
      have hT := okT_grow l j
      have hn1 := okT_256 hT
      have hn2 := hT.small
      have hm1 := mrgs_len (T := growT l j)
      have hLW := HL.out.below hW.below (Nat.le_refl _)
      obtain ⟨b, o, hA, x0⟩ := hLW.at (2 * j) (by omega)
      obtain ⟨_, _, hA', x1⟩ := hLW.at (2 * j + 1) hgo.1
      rw [hA] at hA'
      injection hA' with hA'
      injection hA' with e1 e2
      subst e1; subst e2
      have hx0 := hsm _ (List.getElem_mem (l := l) (n := 2 * j) (by omega))
      have hx1 := hsm _ (List.getElem_mem (l := l) (n := 2 * j + 1) hgo.1)
      have eX : l.getD (2 * j) 0 = l[2 * j]'(by omega) := by rw [List.getD_eq_getElem?_getD, List.getElem?_eq_getElem (by omega)]; rfl
      have eY : l.getD (2 * j + 1) 0 = l[2 * j + 1]'hgo.1 := by rw [List.getD_eq_getElem?_getD, List.getElem?_eq_getElem hgo.1]; rfl
      generalize hX : l[2 * j]'(by omega) = x at *
      generalize hY : l[2 * j + 1]'hgo.1 = y at *
      obtain ⟨n, hn⟩ : ∃ n, (growT l j).length = n := ⟨_, rfl⟩
      obtain ⟨m, hm⟩ : ∃ m, (mrgsT (growT l j)).length = m := ⟨_, rfl⟩
      have HREF := Lib.hid href
      have HEX := Lib.hid eX
      have HEY := Lib.hid eY
      have HN := Lib.hid hn
      have HM := Lib.hid hm
      have HOKT := Lib.hid hT
      rw [hn] at c0
      rw [hm] at c1'
      rw [hn] at hn1 hn2 hm1
      rw [hm] at hm1
      have g1 : (2 * (j : Int) + 1) < (l.length : Int) := by omega
      have g2 : (2 * (j : Int)) < 60 := by omega
      have g3 : (0 : Int) ≤ 2 * (j : Int) := by omega
      have g4 : (0 : Int) ≤ 2 * (j : Int) + 1 := by omega
      have g5 : (2 * (j : Int)) < (l.length : Int) := by omega
      have w1' : IntKind.i64.wrap (x : Int) = x := IntWalk.i64_in _ (by omega)
      have w2 : IntKind.i64.wrap (y : Int) = y := IntWalk.i64_in _ (by omega)
      have w3 : IntKind.i64.wrap ((n : Int) + m) = (n : Int) + m := IntWalk.i64_in _ (by omega)
      have w4 : IntKind.i64.wrap (2 * (j : Int) + 1) = 2 * (j : Int) + 1 := IntWalk.i64_in _ (by omega)
      have t1 : (2 * (j : Int)).toNat = 2 * j := by omega
      have t2 : (2 * (j : Int) + 1).toNat = 2 * j + 1 := by omega
      have hnm : ¬ ((n : Int) + m = 0) := by omega
      have HW2 := HW
      subst hA
      clear hW hbk href eX eY hn hm hLW hT
      go_wp2_with fail
      go_quiet (fail)
      have ex : (x : Int) % ((n : Int) + ((n - 256 : Nat) : Int)) = ((x % (n + (n - 256)) : Nat) : Int) := by push_cast; rfl
      have ey : (y : Int) % ((n : Int) + ((n - 256 : Nat) : Int)) = ((y % (n + (n - 256)) : Nat) : Int) := by push_cast; rfl
      rw [ex, ey]
      have hp := Nat.mod_lt x (show n + (n - 256) > 0 by omega)
      have hq := Nat.mod_lt y (show n + (n - 256) > 0 by omega)
      have fx : foldT (growT l j) x = if x % (n + (n - 256)) ≥ n then 256 + x % (n + (n - 256)) - n else x % (n + (n - 256)) := by unfold foldT; rw [HN.out]
      have fy : foldT (growT l j) y = if y % (n + (n - 256)) ≥ n then 256 + y % (n + (n - 256)) - n else y % (n + (n - 256)) := by unfold foldT; rw [HN.out]
      generalize x % (n + (n - 256)) = p at *
      generalize y % (n + (n - 256)) = q at *
      have HFX := Lib.hid fx
      have HFY := Lib.hid fy
      have HW3 := Lib.hid (HW2.out.drewN nq)
      have HREF3 : Hid (RefIs (W.drewN nq) w.heap.size (growT l j) (.slice A3 (growT l j).length c3) (.slice A4 (mrgsT (growT l j)).length c4)) := Lib.hid ⟨HREF.out.row, HREF.out.mrg, HREF.out.nil⟩
      have d0 : (W.drewN nq).cell? ⟨tb, 0, none⟩ = some (Value.slice A3 n c3) := c0
      have d1 : (W.drewN nq).cell? ⟨tb, 1, none⟩ = some (Value.slice A4 (n - 256) c4) := by rw [← hm1]; exact c1'
      clear fx fy c0 c1' HREF HW HW2 x0 x1 ex ey
      obtain ⟨W3, hW3⟩ : ∃ W3, W.drewN nq = W3 := ⟨_, rfl⟩
      rw [hW3] at HW3 HREF3 d0 d1
      rw [hW3]
      clear hW3
      have hstep : ∀ T' : List Ent, ∀ a' b' : Int, a' = (foldT (growT l j) x : Nat) → b' = (foldT (growT l j) y : Nat) → growT l (j + 1) = if (addT (growT l j) a' b').2.1 = 0 then (addT (growT l j) a' b').2.2 else growT l j := by
        intro _ a' b' ha hb
        subst ha; subst hb
        simp only [growT, growStep, HEX.out, HEY.out]
      have HSTEP := Lib.hid hstep
      clear hstep
      have HADD : Hid (∀ a b : Int, Calls Tryz.prog 134 #[.agg #[.slice A3 n c3, .slice A4 (n - 256) c4], .agg #[.int .i64 a, .int .i64 b]] W3 (RAddOk W3 w.heap.size (growT l j) a b)) := Lib.hid (fun a b => by
        have h := radd_any a b HREF3.out HOKT.out HW3.out.below.size
        rw [HM.out, HN.out, hm1] at h
        exact h)
      have w5 : IntKind.i64.wrap (2 * (j : Int) + 2) = 2 * (j : Int) + 2 := IntWalk.i64_in _ (by omega)
      by_cases hpn : n ≤ p
      · by_cases hqn : n ≤ q
        · have fpn : foldT (growT l j) x = 256 + p - n := by rw [HFX.out]; exact if_pos hpn
          have wp1 : IntKind.i64.wrap (256 + (p : Int)) = 256 + (p : Int) := IntWalk.i64_in _ (by omega)
          have wp2 : IntKind.i64.wrap (256 + (p : Int) - n) = 256 + (p : Int) - n := IntWalk.i64_in _ (by omega)
          have fqn : foldT (growT l j) y = 256 + q - n := by rw [HFY.out]; exact if_pos hqn
          have wq1 : IntKind.i64.wrap (256 + (q : Int)) = 256 + (q : Int) := IntWalk.i64_in _ (by omega)
          have wq2 : IntKind.i64.wrap (256 + (q : Int) - n) = 256 + (q : Int) - n := IntWalk.i64_in _ (by omega)
          go_wp2_with fail
          refine (HADD.out _ _).mono ?_
          rintro e w4 ⟨hb, A5, n5, c5, A6, n6, c6, rfl, href⟩
          have hst := HSTEP.out [] _ _ (show 256 + (p : Int) - n = _ by rw [fpn]; omega) (show 256 + (q : Int) - n = _ by rw [fqn]; omega)
          have HB := Lib.hid hb
          have HR := Lib.hid href
          clear hb href d0 d1
          rcases Decidable.em ((addT (growT l j) (256 + (p : Int) - n) (256 + (q : Int) - n)).2.1 = 0) with he | he
          · rw [if_pos he] at hst
            rw [← hst] at HR
            have HG := Lib.hid (HW3.out.ok HB.out HR.out (.cells #[.slice A5 n5 c5, .slice A6 n6 c6] 34))
            obtain ⟨_, _, _, _, hbk, _⟩ := HW3.out.ex
            have hb4 := HB.out.alloc HB.out.size (.cells #[.slice A5 n5 c5, .slice A6 n6 c6] 34)
            have e0 := blk_cell (blk_below hb4 (blk_lt hbk) hbk) 0
            have e1 := blk_cell (blk_below hb4 (blk_lt hbk) hbk) 1
            have z0 := blk_froz (blk_below hb4 (blk_lt hbk) hbk) 0
            have z1 := blk_froz (blk_below hb4 (blk_lt hbk) hbk) 1
            have f0 := blk_cell (blk_new w4 (.cells #[.slice A5 n5 c5, .slice A6 n6 c6] 34)) 0
            have f1 := blk_cell (blk_new w4 (.cells #[.slice A5 n5 c5, .slice A6 n6 c6] 34)) 1
            simp only [List.getElem?_toArray, List.getElem?_cons_zero, List.getElem?_cons_succ] at e0 e1 f0 f1
            clear hbk hb4 hst
            go_wp2_with fail
            go_roundg (gk - 1)
            case measure => omega
            case rel => exact ⟨j + 1, by omega, by omega, by omega, by simp [Int.mul_add], HG.out⟩
          · rw [if_neg he] at hst
            have HG := Lib.hid (HW3.out.err HB.out hst (.cells #[.slice A5 n5 c5, .slice A6 n6 c6] 34))
            clear hst
            go_wp2_with fail
            go_roundg (gk - 1)
            case measure => omega
            case rel => exact ⟨j + 1, by omega, by omega, by omega, by simp [Int.mul_add], HG.out⟩
        · have fpn : foldT (growT l j) x = 256 + p - n := by rw [HFX.out]; exact if_pos hpn
          have wp1 : IntKind.i64.wrap (256 + (p : Int)) = 256 + (p : Int) := IntWalk.i64_in _ (by omega)
          have wp2 : IntKind.i64.wrap (256 + (p : Int) - n) = 256 + (p : Int) - n := IntWalk.i64_in _ (by omega)
          have fqn : foldT (growT l j) y = q := by rw [HFY.out]; exact if_neg hqn
          go_wp2_with fail
          refine (HADD.out _ _).mono ?_
          rintro e w4 ⟨hb, A5, n5, c5, A6, n6, c6, rfl, href⟩
          have hst := HSTEP.out [] _ _ (show 256 + (p : Int) - n = _ by rw [fpn]; omega) (show (q : Int) = _ by rw [fqn])
          have HB := Lib.hid hb
          have HR := Lib.hid href
          clear hb href d0 d1
          rcases Decidable.em ((addT (growT l j) (256 + (p : Int) - n) ((q : Int))).2.1 = 0) with he | he
          · rw [if_pos he] at hst
            rw [← hst] at HR
            have HG := Lib.hid (HW3.out.ok HB.out HR.out (.cells #[.slice A5 n5 c5, .slice A6 n6 c6] 34))
            obtain ⟨_, _, _, _, hbk, _⟩ := HW3.out.ex
            have hb4 := HB.out.alloc HB.out.size (.cells #[.slice A5 n5 c5, .slice A6 n6 c6] 34)
            have e0 := blk_cell (blk_below hb4 (blk_lt hbk) hbk) 0
            have e1 := blk_cell (blk_below hb4 (blk_lt hbk) hbk) 1
            have z0 := blk_froz (blk_below hb4 (blk_lt hbk) hbk) 0
            have z1 := blk_froz (blk_below hb4 (blk_lt hbk) hbk) 1
            have f0 := blk_cell (blk_new w4 (.cells #[.slice A5 n5 c5, .slice A6 n6 c6] 34)) 0
            have f1 := blk_cell (blk_new w4 (.cells #[.slice A5 n5 c5, .slice A6 n6 c6] 34)) 1
            simp only [List.getElem?_toArray, List.getElem?_cons_zero, List.getElem?_cons_succ] at e0 e1 f0 f1
            clear hbk hb4 hst
            go_wp2_with fail
            go_roundg (gk - 1)
            case measure => omega
            case rel => exact ⟨j + 1, by omega, by omega, by omega, by simp [Int.mul_add], HG.out⟩
          · rw [if_neg he] at hst
            have HG := Lib.hid (HW3.out.err HB.out hst (.cells #[.slice A5 n5 c5, .slice A6 n6 c6] 34))
            clear hst
            go_wp2_with fail
            go_roundg (gk - 1)
            case measure => omega
            case rel => exact ⟨j + 1, by omega, by omega, by omega, by simp [Int.mul_add], HG.out⟩
      · by_cases hqn : n ≤ q
        · have fpn : foldT (growT l j) x = p := by rw [HFX.out]; exact if_neg hpn
          have fqn : foldT (growT l j) y = 256 + q - n := by rw [HFY.out]; exact if_pos hqn
          have wq1 : IntKind.i64.wrap (256 + (q : Int)) = 256 + (q : Int) := IntWalk.i64_in _ (by omega)
          have wq2 : IntKind.i64.wrap (256 + (q : Int) - n) = 256 + (q : Int) - n := IntWalk.i64_in _ (by omega)
          go_wp2_with fail
          refine (HADD.out _ _).mono ?_
          rintro e w4 ⟨hb, A5, n5, c5, A6, n6, c6, rfl, href⟩
          have hst := HSTEP.out [] _ _ (show (p : Int) = _ by rw [fpn]) (show 256 + (q : Int) - n = _ by rw [fqn]; omega)
          have HB := Lib.hid hb
          have HR := Lib.hid href
          clear hb href d0 d1
          rcases Decidable.em ((addT (growT l j) ((p : Int)) (256 + (q : Int) - n)).2.1 = 0) with he | he
          · rw [if_pos he] at hst
            rw [← hst] at HR
            have HG := Lib.hid (HW3.out.ok HB.out HR.out (.cells #[.slice A5 n5 c5, .slice A6 n6 c6] 34))
            obtain ⟨_, _, _, _, hbk, _⟩ := HW3.out.ex
            have hb4 := HB.out.alloc HB.out.size (.cells #[.slice A5 n5 c5, .slice A6 n6 c6] 34)
            have e0 := blk_cell (blk_below hb4 (blk_lt hbk) hbk) 0
            have e1 := blk_cell (blk_below hb4 (blk_lt hbk) hbk) 1
            have z0 := blk_froz (blk_below hb4 (blk_lt hbk) hbk) 0
            have z1 := blk_froz (blk_below hb4 (blk_lt hbk) hbk) 1
            have f0 := blk_cell (blk_new w4 (.cells #[.slice A5 n5 c5, .slice A6 n6 c6] 34)) 0
            have f1 := blk_cell (blk_new w4 (.cells #[.slice A5 n5 c5, .slice A6 n6 c6] 34)) 1
            simp only [List.getElem?_toArray, List.getElem?_cons_zero, List.getElem?_cons_succ] at e0 e1 f0 f1
            clear hbk hb4 hst
            go_wp2_with fail
            go_roundg (gk - 1)
            case measure => omega
            case rel => exact ⟨j + 1, by omega, by omega, by omega, by simp [Int.mul_add], HG.out⟩
          · rw [if_neg he] at hst
            have HG := Lib.hid (HW3.out.err HB.out hst (.cells #[.slice A5 n5 c5, .slice A6 n6 c6] 34))
            clear hst
            go_wp2_with fail
            go_roundg (gk - 1)
            case measure => omega
            case rel => exact ⟨j + 1, by omega, by omega, by omega, by simp [Int.mul_add], HG.out⟩
        · have fpn : foldT (growT l j) x = p := by rw [HFX.out]; exact if_neg hpn
          have fqn : foldT (growT l j) y = q := by rw [HFY.out]; exact if_neg hqn
          go_wp2_with fail
          refine (HADD.out _ _).mono ?_
          rintro e w4 ⟨hb, A5, n5, c5, A6, n6, c6, rfl, href⟩
          have hst := HSTEP.out [] _ _ (show (p : Int) = _ by rw [fpn]) (show (q : Int) = _ by rw [fqn])
          have HB := Lib.hid hb
          have HR := Lib.hid href
          clear hb href d0 d1
          rcases Decidable.em ((addT (growT l j) ((p : Int)) ((q : Int))).2.1 = 0) with he | he
          · rw [if_pos he] at hst
            rw [← hst] at HR
            have HG := Lib.hid (HW3.out.ok HB.out HR.out (.cells #[.slice A5 n5 c5, .slice A6 n6 c6] 34))
            obtain ⟨_, _, _, _, hbk, _⟩ := HW3.out.ex
            have hb4 := HB.out.alloc HB.out.size (.cells #[.slice A5 n5 c5, .slice A6 n6 c6] 34)
            have e0 := blk_cell (blk_below hb4 (blk_lt hbk) hbk) 0
            have e1 := blk_cell (blk_below hb4 (blk_lt hbk) hbk) 1
            have z0 := blk_froz (blk_below hb4 (blk_lt hbk) hbk) 0
            have z1 := blk_froz (blk_below hb4 (blk_lt hbk) hbk) 1
            have f0 := blk_cell (blk_new w4 (.cells #[.slice A5 n5 c5, .slice A6 n6 c6] 34)) 0
            have f1 := blk_cell (blk_new w4 (.cells #[.slice A5 n5 c5, .slice A6 n6 c6] 34)) 1
            simp only [List.getElem?_toArray, List.getElem?_cons_zero, List.getElem?_cons_succ] at e0 e1 f0 f1
            clear hbk hb4 hst
            go_wp2_with fail
            go_roundg (gk - 1)
            case measure => omega
            case rel => exact ⟨j + 1, by omega, by omega, by omega, by simp [Int.mul_add], HG.out⟩
          · rw [if_neg he] at hst
            have HG := Lib.hid (HW3.out.err HB.out hst (.cells #[.slice A5 n5 c5, .slice A6 n6 c6] 34))
            clear hst
            go_wp2_with fail
            go_roundg (gk - 1)
            case measure => omega
            case rel => exact ⟨j + 1, by omega, by omega, by omega, by simp [Int.mul_add], HG.out⟩
    · have hmin : min (l.length / 2) 30 = j := by omega
      obtain ⟨A3, c3, A4, c4, hbk, href⟩ := hW.ex
      have c0 := blk_cell hbk 0
      have c1' := blk_cell hbk 1
      have d0 := blk_cell hW.res 0
      have d1 := blk_cell hW.res 1
      have z0 := blk_froz hW.res 0
      have z1 := blk_froz hW.res 1
      simp only [List.getElem?_toArray, List.getElem?_cons_zero, List.getElem?_cons_succ] at c0 c1' d0 d1
      have hfin := hW.fin href
      have HFIN := Lib.hid hfin
      have HMIN := Lib.hid hmin
      clear hW hbk href hmin hfin
      by_cases h1 : 2 * j + 1 < l.length
      · have h2 : j = 30 := by omega
        subst h2
        have h3 : (2 * 30 + 1 : Int) < (l.length : Int) := by omega
        go_wp2_with fail
        refine ret_cell1 (r := r) rfl rfl (load_ref HFIN.out.1) ⟨HFIN.out.2.1, _, _, _, _, _, _, rfl, ?_⟩
        rw [HMIN.out]; exact HFIN.out.2.2
      · have h3 : ¬ ((2 * j : Nat) : Int) + 1 < (l.length : Int) := by omega
        go_wp2_with fail
        refine ret_cell1 (r := r) rfl rfl (load_ref HFIN.out.1) ⟨HFIN.out.2.1, _, _, _, _, _, _, rfl, ?_⟩
        rw [HMIN.out]; exact HFIN.out.2.2
theorem addT_fine {T : List Ent} {a b : Int} (he : (addT T a b).2.1 = 0) : hasT T a = true ∧ hasT T b = true ∧ (addT T a b).2.2 = T ++ [((entT T a).1 ++ (entT T b).1, a, b)] ∧ T.length < 1000 := by
  unfold addT at *
  by_cases h1 : (!(hasT T a && hasT T b)) = true
  · rw [if_pos h1] at he; simp at he
  rw [if_neg h1] at he ⊢
  by_cases h2 : ((entT T a).1 ++ (entT T b).1).length > 64
  · rw [if_pos h2] at he; simp at he
  rw [if_neg h2] at he ⊢
  by_cases h3 : T.length ≥ 1000
  · rw [if_pos h3] at he; simp at he
  rw [if_neg h3] at he ⊢
  by_cases h4 : (findT T ((entT T a).1 ++ (entT T b).1)).isSome = true
  · rw [if_pos h4] at he; simp at he
  rw [if_neg h4]
  simp only [Bool.not_eq_true, Bool.not_eq_eq_eq_not, Bool.not_false, Bool.and_eq_true] at h1
  simp only [Bool.not_true, Bool.and_eq_false_imp, Bool.not_eq_false] at h1
  have : hasT T a = true ∧ hasT T b = true := by
    revert h1; cases hasT T a <;> cases hasT T b <;> simp
  exact ⟨this.1, this.2, rfl, by omega⟩
def AddsT (T : List Ent) : Prop := OkT T ∧ addsT baseT (mrgsT T) = some T
theorem addsT_base : AddsT baseT := by
  refine ⟨okT_base, ?_⟩
  have : mrgsT baseT = [] := by
    apply List.eq_nil_of_length_eq_zero
    rw [mrgs_len, base_len]
  rw [this]; rfl
theorem addsT_add {T : List Ent} (h : AddsT T) (a b : Int) (he : (addT T a b).2.1 = 0) : AddsT (addT T a b).2.2 := by
  refine ⟨okT_add h.1 a b he, ?_⟩
  obtain ⟨ha, hb, e, _⟩ := addT_fine he
  have h256 := okT_256 h.1
  have em : mrgsT (addT T a b).2.2 = mrgsT T ++ [(a, b)] := by
    rw [e]
    unfold mrgsT
    rw [List.drop_append_of_le_length h256]
    simp
  rw [em, addsT_snoc, h.2]
  simp [he]
theorem addsT_grow (l : List Nat) : ∀ j, AddsT (growT l j)
  | 0 => addsT_base
  | j + 1 => by
    show AddsT (growStep (growT l j) (l.getD (2 * j) 0) (l.getD (2 * j + 1) 0))
    unfold growStep
    split
    · rename_i h0; exact addsT_add (addsT_grow l j) _ _ h0
    · exact addsT_grow l j
theorem base_ent {T : List Ent} (h : OkT T) {i : Nat} (hi : i < 256) : entT T (i : Int) = ([UInt8.ofNat i], -1, -1) := by
  obtain ⟨M, hM⟩ := h.base
  have h2 := okT_256 h
  rw [entT_nat _ _ (by omega)]
  have h0 : (baseT ++ M)[i]? = some ([UInt8.ofNat i], -1, -1) := by
    rw [List.getElem?_append_left (by rw [base_len]; exact hi), List.getElem?_eq_getElem (by rw [base_len]; exact hi), base_at i hi]
  rw [← hM, List.getElem?_eq_getElem (by omega)] at h0
  exact Option.some.inj h0
theorem made_all {T : List Ent} (h : OkT T) {i : Nat} (h1 : 256 ≤ i) (h2 : i < T.length) :
    bornT T (i : Int) = true ∧ hasT T (parT T (i : Int)).1 = true ∧ hasT T (parT T (i : Int)).2 = true ∧ hasT T (i : Int) = true ∧
    bytesT T (i : Int) = bytesT T (parT T (i : Int)).1 ++ bytesT T (parT T (i : Int)).2 ∧ pairT T (parT T (i : Int)) = some i ∧
    0 ≤ (parT T (i : Int)).1 ∧ 0 ≤ (parT T (i : Int)).2 ∧ (parT T (i : Int)).1 < i ∧ (parT T (i : Int)).2 < i := by
  obtain ⟨q1, q2, q3, q4, q5⟩ := h.made i h1 h2
  have hi : hasT T (i : Int) = true := by simp [hasT]; omega
  have hne : (entT T (i : Int)).2 ≠ (-1, -1) := by intro e; rw [e] at q1; simp at q1
  have hborn : bornT T (i : Int) = true := by
    unfold bornT
    rw [hi]
    simpa using hne
  have hpar : parT T (i : Int) = (entT T (i : Int)).2 := by unfold parT; rw [if_pos hborn]
  rw [hpar]
  have ha : hasT T (entT T (i : Int)).2.1 = true := by simp [hasT]; omega
  have hb : hasT T (entT T (i : Int)).2.2 = true := by simp [hasT]; omega
  refine ⟨hborn, ha, hb, hi, ?_, ?_, q1, q3, q2, q4⟩
  · unfold bytesT
    rw [if_pos hi, if_pos ha, if_pos hb]
    exact q5
  · unfold pairT
    rw [List.findIdx?_eq_some_iff_getElem]
    refine ⟨h2, ?_, ?_⟩
    · rw [entT_nat _ _ h2] at hne ⊢
      simpa using hne
    · intro j hj
      rw [Bool.not_eq_true, Bool.eq_false_iff]
      intro hh
      simp only [Bool.and_eq_true, beq_iff_eq] at hh
      have hjl : j < T.length := by omega
      by_cases hj2 : j < 256
      · have := base_ent h hj2
        rw [entT_nat _ _ hjl] at this
        rw [this] at hh
        exact hne hh.1.symm
      · obtain ⟨p1, p2, p3, p4, p5⟩ := h.made j (by omega) hjl
        have e2 : (entT T (j : Int)).2 = (entT T (i : Int)).2 := by rw [entT_nat _ _ hjl]; exact hh.1
        rw [e2, ← q5] at p5
        have := h.nodup j i hjl h2 p5
        omega
theorem nats_of {w : World} {A : Option Addr} {xs : List Int} (hw : ∀ y ∈ xs, (Lit.int .u16 y).wf = true) (hs : Sl1 w A (Value.int .u16) xs) :
    ∃ l : List Nat, l.length = xs.length ∧ (∀ x ∈ l, x < 65536) ∧ Sl1 w A (fun x : Nat => .int .u16 (x : Int)) l := by
  have hr : ∀ y ∈ xs, 0 ≤ y ∧ y < 65536 := by
    intro y hy
    have := hw y hy
    have e1 : IntKind.u16.min = 0 := by decide
    have e2 : IntKind.u16.max = 65535 := by decide
    simp only [Lit.wf, e1, e2, Bool.and_eq_true, decide_eq_true_eq] at this
    omega
  refine ⟨xs.map Int.toNat, by simp, ?_, ?_⟩
  · intro x hx
    obtain ⟨y, hy, rfl⟩ := List.mem_map.1 hx
    have := hr y hy
    omega
  · intro i x hx
    rw [List.getElem?_map, Option.map_eq_some_iff] at hx
    obtain ⟨y, hy, rfl⟩ := hx
    obtain ⟨b, o, e, hc⟩ := hs i y hy
    have := hr y (List.mem_of_getElem? hy)
    refine ⟨b, o, e, ?_⟩
    show w.cell? _ = some (Value.int .u16 (y.toNat : Int))
    rw [hc, Int.toNat_of_nonneg this.1]
def encN (x : Node) : List Value := [.int .i64 x.1, .int .i64 x.2.1, .int .i64 x.2.2]
theorem encN_len (x : Node) : (encN x).length = 3 := rfl
structure LinkIs (w : World) (base cb tb qb : Nat) (N : List Node) (bel steps : Int) (A : Option Addr) (c : Nat) : Prop where
  blk : w.heap[cb]? = some (.cells #[.pointer (some ⟨tb, 0, none⟩), .slice A N.length c, .pointer (some ⟨qb, 0, none⟩), .int .i64 bel, .int .i64 steps] 315)
  row : w.ownsRow base 317 3 (.slice A N.length c) N.length (N.flatMap encN)
  le : base ≤ cb
theorem LinkIs.below {B : Nat} {w w' : World} {base cb tb qb : Nat} {N : List Node} {bel steps : Int} {A : Option Addr} {c : Nat} (h : LinkIs w base cb tb qb N bel steps A c) (hb : Below B w w') (hB : w.heap.size ≤ B) : LinkIs w' base cb tb qb N bel steps A c :=
  ⟨blk_below hb (Nat.lt_of_lt_of_le (blk_lt h.blk) hB) h.blk, own_below h.row hb hB, h.le⟩
theorem LinkIs.keep {F : Nat → Prop} {w w' : World} {base cb tb qb : Nat} {N : List Node} {bel steps : Int} {A : Option Addr} {c : Nat} (h : LinkIs w base cb tb qb N bel steps A c) (k : Keep F w w') (hF : ¬ F cb) (hA : ∀ g, A = some ⟨g, 0, none⟩ → ¬ F g) : LinkIs w' base cb tb qb N bel steps A c :=
  ⟨k.blk h.blk hF, own_keep h.row k (fun g hg => hA g (hw.own_addr h.row g hg)), h.le⟩
theorem LinkIs.at {w : World} {base cb tb qb : Nat} {N : List Node} {bel steps : Int} {A : Option Addr} {c : Nat} (h : LinkIs w base cb tb qb N bel steps A c) (i : Nat) (x : Node) (hi : N[i]? = some x) :
    ∃ g, A = some ⟨g, 0, none⟩ ∧ w.cell? ⟨g, i * 3, none⟩ = some (.int .i64 x.1) ∧ w.cell? ⟨g, i * 3 + 1, none⟩ = some (.int .i64 x.2.1) ∧ w.cell? ⟨g, i * 3 + 2, none⟩ = some (.int .i64 x.2.2) := by
  have hlt := (List.getElem?_eq_some_iff.1 hi).1
  obtain ⟨g, cap, e, _, _, _⟩ := own_open h.row (by omega)
  injection e with e1 e2 e3
  subst e1
  obtain ⟨b, o, e2, hc⟩ := (own_sl encN_len h.row (by decide)) i x hi
  injection e2 with e2
  injection e2 with e2 e3
  subst e2; subst e3
  refine ⟨_, rfl, ?_, ?_, ?_⟩
  · have := hc 0 _ rfl; simpa using this
  · have := hc 1 _ rfl; simpa using this
  · have := hc 2 _ rfl; simpa using this
theorem row_ne2 {w : World} {b1 n1 s1 c1 : Nat} {e1 e2 : TypeId} {A1 : Option Addr} {x1 : List Value} {g : Nat} {cs : Array Value} {fz : Nat × Nat} (h1 : w.ownsRow b1 e1 s1 (.slice A1 n1 c1) n1 x1) (h2 : w.heap[g]? = some (.cells cs e2 fz)) (hne : e1 ≠ e2) : A1 ≠ some ⟨g, 0, none⟩ := by
  intro hg1
  rcases h1.2 with ⟨q1, _⟩ | ⟨g1, cap1, cur1, q1, _, hb1, _⟩
  · injection q1 with q1; rw [hg1] at q1; cases q1
  · injection q1 with q1; rw [hg1] at q1; injection q1 with q1; injection q1 with q1; subst q1
    rw [hb1] at h2
    injection h2 with h2
    injection h2 with _ h2 _
    exact hne h2
theorem blk_ne {w : World} {e1 e2 : TypeId} {g1 g2 : Nat} {c1 c2 : Array Value} {f1 f2 : Nat × Nat} (h1 : w.heap[g1]? = some (.cells c1 e1 f1)) (h2 : w.heap[g2]? = some (.cells c2 e2 f2)) (hne : e1 ≠ e2) : g1 ≠ g2 := by
  rintro rfl
  rw [h1] at h2
  injection h2 with h2
  injection h2 with _ h2 _
  exact hne h2
structure ChainIs (w : World) (base tbase tb : Nat) (T : List Ent) (sv : Value) (mb mp cb qb : Nat) (N : List Node) (bel steps : Int) (A : Option Addr) (c : Nat) (Q : List (Th Wt)) (turn : Int) (Aq : Option Addr) (cq : Nat) : Prop where
  lk : LinkIs w base cb tb qb N bel steps A c
  hp : hw.HeapWs w base qb Q turn Aq cq
  tab : TabIs w tbase tb T sv mb mp
  tlt : ∀ x, tabF tb sv mb mp x → x < base
section
variable {w w' : World} {base tbase tb : Nat} {T : List Ent} {sv : Value} {mb mp cb qb : Nat} {N : List Node} {bel steps : Int} {A : Option Addr} {c : Nat} {Q : List (Th Wt)} {turn : Int} {Aq : Option Addr} {cq : Nat}
theorem ChainIs.below {B : Nat} (h : ChainIs w base tbase tb T sv mb mp cb qb N bel steps A c Q turn Aq cq) (hb : Below B w w') (hB : w.heap.size ≤ B) : ChainIs w' base tbase tb T sv mb mp cb qb N bel steps A c Q turn Aq cq :=
  ⟨h.lk.below hb hB, h.hp.below hb hB, h.tab.below hb hB, h.tlt⟩
theorem ChainIs.drew (h : ChainIs w base tbase tb T sv mb mp cb qb N bel steps A c Q turn Aq cq) : ChainIs w.drew base tbase tb T sv mb mp cb qb N bel steps A c Q turn Aq cq :=
  h.below (B := w.heap.size) ⟨rfl, rfl, rfl, Nat.le_refl _, fun _ _ => rfl⟩ (Nat.le_refl _)
end
section
variable {w w' : World} {base tbase tb : Nat} {T : List Ent} {sv : Value} {mb mp cb qb : Nat} {N : List Node} {bel steps : Int} {A : Option Addr} {c g : Nat} {Q : List (Th Wt)} {turn : Int} {Aq : Option Addr} {cq : Nat}
theorem LinkIs.set (h : LinkIs w base cb tb qb N bel steps (some ⟨g, 0, none⟩) c) {N' : List Node} {j : Nat} {u : Int} (hl : N'.length = N.length) (hf : N'.flatMap encN = (N.flatMap encN).set j (.int .i64 u)) : LinkIs (w.setCell ⟨g, j, none⟩ (.int .i64 u)) base cb tb qb N' bel steps (some ⟨g, 0, none⟩) c := by
  refine ⟨?_, ?_, h.le⟩
  · rw [hl]
    exact blk_far h.blk (fun e => row_ne2 h.row h.blk (by decide) (by rw [show cb = g from e])) _
  · rw [hl, hf]
    exact own_set h.row j _
end
theorem info_int5 : (Tryz.prog.info? 3).map (fun i => (i.zero, i.size, i.bytes)) = some (some (.int .i64 0), 1, 8) := by kernel_rfl
def IntsIs (w : World) (base : Nat) (v : Value) (l : List Int) : Prop := ∃ A c, v = .slice A l.length c ∧ w.ownsRow base 3 1 (.slice A l.length c) l.length (l.map (Value.int .i64))
def bysI (s : List UInt8) : List Int := s.map fun c => (c.toNat : Int)
theorem results_cell_tmp2 {fn : Func} {p u v : Tmp} {ty : TypeId} (h : fn.results = #[.cell p ty, .tmp u, .tmp v]) (tmps : Array Value) (P : Program) (w : World) :
    (results fn tmps).run P w = ((asAddr (tmps.getD p undef)).run P w).andThen fun a w₁ => ((loadVar ty a).run P w₁).andThen fun x w₂ => .ok (.tuple #[x, tmps.getD u undef, tmps.getD v undef]) w₂ := by
  simp only [results, h]
  simp [Sem.run_bind, Result.andThen]
theorem ret_ref2 {fn : Func} {R : Ending → World → Prop} {tmps : Array Value} {w : World} {r : Nat} {A B : Option Addr} {n m c d : Nat} {x y : Int} {p q q' : Tmp}
    (h : fn.results = #[.cell p 34, .tmp q, .tmp q']) (hp : tmps.getD p undef = .pointer (some ⟨r, 0, none⟩)) (hq : tmps.getD q undef = .int .i64 x) (hq' : tmps.getD q' undef = .int .i64 y)
    (hl : w.heap[r]? = some (.cells #[.slice A n c, .slice B m d] 34))
    (hR : R (.returned (.tuple #[.agg #[.slice A n c, .slice B m d], .int .i64 x, .int .i64 y])) w) : bodyPost Tryz.prog fn R .ret ⟨tmps, []⟩ w := by
  refine bodyPost_ret (v := .tuple #[.agg #[.slice A n c, .slice B m d], .int .i64 x, .int .i64 y]) ?_ rfl hR
  rw [results_cell_tmp2 h, hp, hq, hq']
  simp [asAddr, load_ref hl, Result.andThen]
theorem ref_put {V : World} {base nb n m c c2 : Nat} {T' : List Ent} {A A2 : Option Addr} {u v : Value} (href : RefIs V base T' (.slice A n c) (.slice A2 m c2)) (hnb : V.heap[nb]? = some (.cells #[u, v] 34)) :
    ((V.setCell ⟨nb, 0, none⟩ (.slice A n c)).setCell ⟨nb, 1, none⟩ (.slice A2 m c2)).heap[nb]? = some (.cells #[.slice A n c, .slice A2 m c2] 34) ∧
      RefIs ((V.setCell ⟨nb, 0, none⟩ (.slice A n c)).setCell ⟨nb, 1, none⟩ (.slice A2 m c2)) base T' (.slice A n c) (.slice A2 m c2) := by
  have b1 := blk_set (blk_set hnb 0 (.slice A n c)) 1 (.slice A2 m c2)
  simp only [List.setIfInBounds_toArray, List.set_cons_zero, List.set_cons_succ] at b1
  have K3 : ∀ (W : World) (i : Nat) (u : Value), Keep (fun g => g = nb) W (W.setCell ⟨nb, i, none⟩ u) := fun W i u => Keep.setCell (F := fun g => g = nb) (p := ⟨nb, i, none⟩) (Keep.refl _ _) (Or.inl rfl) _
  refine ⟨b1, ?_, ?_, href.nil⟩
  · exact own_keep (own_keep href.row (K3 _ 0 _) (fun g hg e => row_ne href.row hnb (by decide) (by rw [hg, e]))) (K3 _ 1 _) (fun g hg e => row_ne href.row hnb (by decide) (by rw [hg, e]))
  · exact own_keep (own_keep href.mrg (K3 _ 0 _) (fun g hg e => row_ne href.mrg hnb (by decide) (by rw [hg, e]))) (K3 _ 1 _) (fun g hg e => row_ne href.mrg hnb (by decide) (by rw [hg, e]))
theorem bel_put {W V : World} {nb : Nat} (hb : Below W.heap.size W V) (h : W.heap.size ≤ nb) (u v : Value) : Below W.heap.size W ((V.setCell ⟨nb, 0, none⟩ u).setCell ⟨nb, 1, none⟩ v) := (hb.setCell (p := ⟨nb, 0, none⟩) h _).setCell (p := ⟨nb, 1, none⟩) h _
structure RVar (w W : World) (r tb : Nat) (T : List Ent) : Prop where
  ex : ∃ A c A2 c2, W.heap[tb]? = some (.cells #[.slice A T.length c, .slice A2 (mrgsT T).length c2] 34) ∧ RefIs W w.heap.size T (.slice A T.length c) (.slice A2 (mrgsT T).length c2)
  res : W.heap[r]? = some (.cells #[.slice none 0 0, .slice none 0 0] 34)
  below : Below w.heap.size w W
  le : w.heap.size ≤ r ∧ w.heap.size ≤ tb
  ne : r ≠ tb
theorem RVar.start {w w1 : World} {A1 : Option Addr} {c1 : Nat} (hr : RefIs w1 (w.alloc (.cells #[.slice none 0 0, .slice none 0 0] 34)).heap.size baseT (.slice A1 baseT.length c1) (.slice none 0 0))
    (hb : Below (w.alloc (.cells #[.slice none 0 0, .slice none 0 0] 34)).heap.size (w.alloc (.cells #[.slice none 0 0, .slice none 0 0] 34)) w1) :
    RVar w (w1.alloc (.cells #[.slice A1 baseT.length c1, .slice none 0 0] 34)) w.heap.size w1.heap.size baseT := by
  have h := grow_start (l := []) hr hb
  exact ⟨h.ex, h.res, h.below, h.le, h.ne⟩
theorem RVar.step {w W w2 : World} {r tb : Nat} {T : List Ent} (h : RVar w W r tb T) (hb : Below W.heap.size W w2) : RVar w w2 r tb T := by
  obtain ⟨A, c, A2, c2, hbk, href⟩ := h.ex
  exact ⟨⟨A, c, A2, c2, blk_below hb (blk_lt hbk) hbk, href.below hb (Nat.le_refl _)⟩, blk_below hb (blk_lt h.res) h.res, h.below.trans (hb.mono h.below.size), h.le, h.ne⟩
theorem RVar.put {w W : World} {r tb n m c c2 : Nat} {T T' : List Ent} {A A2 : Option Addr} (h : RVar w W r tb T) (href : RefIs W w.heap.size T' (.slice A n c) (.slice A2 m c2)) :
    RVar w ((W.setCell ⟨tb, 0, none⟩ (.slice A n c)).setCell ⟨tb, 1, none⟩ (.slice A2 m c2)) r tb T' := by
  obtain ⟨A0, c0, A20, c20, hbk, _⟩ := h.ex
  have en : n = T'.length := by obtain ⟨_, _, e⟩ := own_slice href.row; injection e
  have em : m = (mrgsT T').length := by obtain ⟨_, _, e⟩ := own_slice href.mrg; injection e
  subst en; subst em
  have b1 := blk_set (blk_set hbk 0 (.slice A T'.length c)) 1 (.slice A2 (mrgsT T').length c2)
  simp only [List.setIfInBounds_toArray, List.set_cons_zero, List.set_cons_succ] at b1
  have K3 : ∀ (W : World) (i : Nat) (u : Value), Keep (fun g => g = tb) W (W.setCell ⟨tb, i, none⟩ u) := fun W i u => Keep.setCell (F := fun g => g = tb) (p := ⟨tb, i, none⟩) (Keep.refl _ _) (Or.inl rfl) _
  refine ⟨⟨A, c, A2, c2, b1, ?_, ?_, href.nil⟩, blk_far (p := ⟨tb, 1, none⟩) (blk_far (p := ⟨tb, 0, none⟩) h.res h.ne _) h.ne _, (h.below.setCell (p := ⟨tb, 0, none⟩) h.le.2 _).setCell (p := ⟨tb, 1, none⟩) h.le.2 _, h.le, h.ne⟩
  · exact own_keep (own_keep href.row (K3 _ 0 _) (fun g hg e => row_ne href.row hbk (by decide) (by rw [hg, e]))) (K3 _ 1 _) (fun g hg e => row_ne href.row hbk (by decide) (by rw [hg, e]))
  · exact own_keep (own_keep href.mrg (K3 _ 0 _) (fun g hg e => row_ne href.mrg hbk (by decide) (by rw [hg, e]))) (K3 _ 1 _) (fun g hg e => row_ne href.mrg hbk (by decide) (by rw [hg, e]))
theorem RVar.fin {w W : World} {r tb n m c c2 : Nat} {T : List Ent} {A A2 : Option Addr} (h : RVar w W r tb T) (href : RefIs W w.heap.size T (.slice A n c) (.slice A2 m c2)) :
    ((W.setCell ⟨r, 0, none⟩ (.slice A n c)).setCell ⟨r, 1, none⟩ (.slice A2 m c2)).heap[r]? = some (.cells #[.slice A n c, .slice A2 m c2] 34) ∧ Below w.heap.size w ((W.setCell ⟨r, 0, none⟩ (.slice A n c)).setCell ⟨r, 1, none⟩ (.slice A2 m c2)) ∧
      RefIs ((W.setCell ⟨r, 0, none⟩ (.slice A n c)).setCell ⟨r, 1, none⟩ (.slice A2 m c2)) w.heap.size T (.slice A n c) (.slice A2 m c2) := by
  have b1 := blk_set (blk_set h.res 0 (.slice A n c)) 1 (.slice A2 m c2)
  simp only [List.setIfInBounds_toArray, List.set_cons_zero, List.set_cons_succ] at b1
  have K3 : ∀ (W : World) (i : Nat) (u : Value), Keep (fun g => g = r) W (W.setCell ⟨r, i, none⟩ u) := fun W i u => Keep.setCell (F := fun g => g = r) (p := ⟨r, i, none⟩) (Keep.refl _ _) (Or.inl rfl) _
  refine ⟨b1, (h.below.setCell (p := ⟨r, 0, none⟩) h.le.1 _).setCell (p := ⟨r, 1, none⟩) h.le.1 _, ?_, ?_, href.nil⟩
  · exact own_keep (own_keep href.row (K3 _ 0 _) (fun g hg e => row_ne href.row h.res (by decide) (by rw [hg, e]))) (K3 _ 1 _) (fun g hg e => row_ne href.row h.res (by decide) (by rw [hg, e]))
  · exact own_keep (own_keep href.mrg (K3 _ 0 _) (fun g hg e => row_ne href.mrg h.res (by decide) (by rw [hg, e]))) (K3 _ 1 _) (fun g hg e => row_ne href.mrg h.res (by decide) (by rw [hg, e]))
structure RNew (w W : World) (l : List (Int × Int)) (r tb k : Nat) (T : List Ent) : Prop where
  adds : addsT baseT (l.take k) = some T
  ok : OkT T
  var : RVar w W r tb T
set_option maxHeartbeats 4000000 in
theorem rnew_any (l : List (Int × Int)) (A : Option Addr) (c : Nat) (w : World) (hl : Sl w A encM 2 l) (hlen : l.length < 9000000000000000000) :
    Calls Tryz.prog 164 #[.slice A l.length c] w fun e w' => Below w.heap.size w w' ∧ ∃ (k : Nat) (T : List Ent) (A1 : Option Addr) (n1 c1 : Nat) (A2 : Option Addr) (n2 c2 : Nat) (no : Int), e = .returned (.tuple #[.agg #[.slice A1 n1 c1, .slice A2 n2 c2], .int .i64 (k : Nat), .int .i64 no]) ∧
      RefIs w' w.heap.size T (.slice A1 n1 c1) (.slice A2 n2 c2) ∧ OkT T ∧ addsT baseT (l.take k) = some T ∧ ((k = l.length ∧ no = 0) ∨ ∃ hk : k < l.length, no = (addT T l[k].1 l[k].2).2.1 ∧ no ≠ 0) := by
  have HL := Lib.hid hl
  clear hl
  go_enter Tryz.func164, Tryz.ntmps164
  go_wp2_with fail
  refine (rbegin_any _).mono ?_
  rintro e w1 ⟨vb, rfl, hr, hb⟩
  obtain ⟨A1, c1, rfl⟩ := own_slice hr.row
  go_wp2_with fail
  have HS := Lib.hid (RVar.start hr hb)
  clear hr hb
  generalize hW : w1.alloc (.cells #[.slice A1 baseT.length c1, .slice none 0 0] 34) = W0 at *
  obtain ⟨r, hr⟩ : ∃ r, w.heap.size = r := ⟨_, rfl⟩
  obtain ⟨tb, ht⟩ : ∃ tb, w1.heap.size = tb := ⟨_, rfl⟩
  have HS1 : Hid (RVar w W0 r tb baseT) := Lib.hid (by rw [← hr, ← ht]; exact HS.out)
  rw [hr, ht]
  clear HS hr ht hW
  go_loopg [6] l.length (fun n i W => ∃ k T, k + n = l.length ∧ i = .int .i64 ((k : Nat) : Int) ∧ RNew w W l r tb k T)
  case atStart => exact ⟨0, baseT, by omega, rfl, by simp [addsT], okT_base, HS1.out⟩
  case round =>
    obtain ⟨k, T, hk, rfl, hW⟩ := hrel
    clear HS1
    rename World => W
    obtain ⟨A3, c3, A4, c4, hbk, href⟩ := hW.var.ex
    have c0 := blk_cell hbk 0
    have c1' := blk_cell hbk 1
    simp only [List.getElem?_toArray, List.getElem?_cons_zero, List.getElem?_cons_succ] at c0 c1'
    have HREF := Lib.hid href
    by_cases hlt : k < l.length
    · have hlt' : (k : Int) < (l.length : Int) := by omega
      obtain ⟨ba, o, rfl, hc0⟩ := (HL.out.below hW.var.below (Nat.le_refl _)).at k hlt
      have g0 : W.cell? ⟨ba, o + k * 2, none⟩ = some (.int .i64 l[k].1) := hc0 0 _ rfl
      have g1 : W.cell? ⟨ba, o + k * 2 + 1, none⟩ = some (.int .i64 l[k].2) := hc0 1 _ rfl
      obtain ⟨x, hx⟩ : ∃ x, l[k].1 = x := ⟨_, rfl⟩
      obtain ⟨y, hy⟩ : ∃ y, l[k].2 = y := ⟨_, rfl⟩
      rw [hx] at g0
      rw [hy] at g1
      have HX := Lib.hid hx
      have HY := Lib.hid hy
      have HW := Lib.hid hW
      clear hx hy hc0 hW href hbk
      have p0 : (0 : Int) ≤ k := by omega
      have HADD : Hid (∀ V, Below W.heap.size W V → Calls Tryz.prog 134 #[.agg #[.slice A3 T.length c3, .slice A4 (mrgsT T).length c4], .agg #[.int .i64 x, .int .i64 y]] V (RAddOk V w.heap.size T x y)) := Lib.hid (fun V hV => radd_any x y (HREF.out.below hV (Nat.le_refl _)) HW.out.ok (Nat.le_trans HW.out.var.below.size hV.size))
      have HSC : Hid (∀ V, Below W.heap.size W V → V.cell? ⟨tb, 0, none⟩ = some (.slice A3 T.length c3) ∧ V.cell? ⟨tb, 1, none⟩ = some (.slice A4 (mrgsT T).length c4) ∧ V.cell? ⟨ba, o + k * 2, none⟩ = some (.int .i64 x) ∧ V.cell? ⟨ba, o + k * 2 + 1, none⟩ = some (.int .i64 y)) := Lib.hid (fun V hV => ⟨below_cell hV (Nat.le_refl _) c0, below_cell hV (Nat.le_refl _) c1', below_cell hV (Nat.le_refl _) g0, below_cell hV (Nat.le_refl _) g1⟩)
      have HBB : Hid (Below W.heap.size W W.drew) := Lib.hid ⟨rfl, rfl, rfl, Nat.le_refl _, fun _ _ => rfl⟩
      go_wp2_with fail
      refine wp_region_G (D := 11) (S := fun V => V.cell? ⟨tb, 0, none⟩ = some (.slice A3 T.length c3) ∧ V.cell? ⟨tb, 1, none⟩ = some (.slice A4 (mrgsT T).length c4) ∧ V.cell? ⟨ba, o + k * 2, none⟩ = some (.int .i64 x) ∧ V.cell? ⟨ba, o + k * 2 + 1, none⟩ = some (.int .i64 y)) (by kernel_rfl) (by exact HSC.out _ HBB.out) (fun hHeld => ?_)
      refine tkG 0 17 ?_ rfl hHeld (.inl ⟨by rfl, ?_⟩) ?_; rotate_left; focus (intro w' hSw; (try dsimp only at hSw); go_simp; (try with_reducible rfl))
      try simp only [sIB, sC0, sCS]
      refine tkG 1 18 ?_ rfl hHeld (.inl ⟨by rfl, ?_⟩) ?_; rotate_left; focus (intro w' hSw; (try dsimp only at hSw); go_simp; (try with_reducible rfl))
      try simp only [sIB, sC0, sCS]
      refine tkG 2 19 ?_ rfl hHeld (.inl ⟨by rfl, ?_⟩) ?_; rotate_left; focus (intro w' hSw; (try dsimp only at hSw); go_simp; (try with_reducible rfl))
      try simp only [sIB, sC0, sCS]
      refine tkG 3 20 ?_ rfl hHeld (.inl ⟨by rfl, ?_⟩) ?_; rotate_left; focus (intro w' hSw; (try dsimp only at hSw); go_simp; (try with_reducible rfl))
      try simp only [sIB, sC0, sCS]
      refine tkG 4 21 ?_ rfl hHeld (.inl ⟨by rfl, ?_⟩) ?_; rotate_left; focus (intro w' hSw; (try dsimp only at hSw); go_simp; (try with_reducible rfl))
      try simp only [sIB, sC0, sCS]
      refine wpAnyG_two (i := 5) (j := 9) (by kernel_rfl) rfl rfl (by rfl) (by rfl) (fun K hK => ?_) (fun K hK => ?_)
      ·
        go_simp; refine (HADD.out _ HBB.out).mono ?_; rintro e W' ⟨hb, A5, n5, c5, A6, n6, c6, rfl, href⟩; (try have HNB := Lib.hid (And.intro (blk_below hb (blk_lt HNB.out.1) HNB.out.1) HNB.out.2)); have HBB := Lib.hid (HBB.out.trans (hb.mono HBB.out.size)); have HR := Lib.hid href; have h := HSC.out _ HBB.out; clear hb href; go_simp
        refine hK.out _ _ h (fun hHeld => ?_)
        clear hK K
        try simp only [Act.put, sIB, sC0, sCS]
        refine tkG 6 16 ?_ rfl hHeld (.inl ⟨by rfl, ?_⟩) ?_; rotate_left; focus (intro w' hSw; (try dsimp only at hSw); go_simp; (try with_reducible rfl))
        try simp only [sIB, sC0, sCS]
        refine tkG 7 23 ?_ rfl hHeld (.inl ⟨by rfl, ?_⟩) ?_; rotate_left; focus (intro w' hSw; (try dsimp only at hSw); go_simp; (try with_reducible rfl))
        try simp only [sIB, sC0, sCS]
        refine tkG 8 24 ?_ rfl hHeld (.inl ⟨by rfl, ?_⟩) ?_; rotate_left; focus (intro w' hSw; (try dsimp only at hSw); go_simp; (try with_reducible rfl))
        try simp only [sIB, sC0, sCS]
        refine wpAnyG_one (i := 9) (by kernel_rfl) rfl (by rfl) (fun K hK => ?_)
        go_simp; have HNB := Lib.hid (And.intro (bel_new HBB.out (.cells #[.slice none 0 0, .slice none 0 0] 34)) HBB.out.size); (try have HR := Lib.hid (HR.out.below ((Below.refl _ _).alloc (Nat.le_refl _) (.cells #[.slice none 0 0, .slice none 0 0] 34)) (Nat.le_refl _))); have HBB := Lib.hid (bel_alloc HBB.out (.cells #[.slice none 0 0, .slice none 0 0] 34)); refine gen_below HBB.out rfl (fun W' hW' => ?_); rw [← hW'] at HBB HNB; (try rw [← hW'] at HR); (try rw [show W.drew.heap.size = W.heap.size from rfl] at HNB); clear hW'; have h := HSC.out _ HBB.out
        refine hK.out _ _ h (fun hHeld => ?_)
        clear hK K
        try simp only [Act.put, sIB, sC0, sCS]
        refine wpAnyG_one (i := 10) (by kernel_rfl) rfl (by rfl) (fun K hK => ?_)
        have d0 := blk_cell HNB.out.1 0; have d1 := blk_cell HNB.out.1 1; have z0 := blk_froz HNB.out.1 0; have z1 := blk_froz HNB.out.1 1; simp only [List.getElem?_toArray, List.getElem?_cons_zero, List.getElem?_cons_succ] at d0 d1; go_simp; have HNB2 := Lib.hid (And.intro (ref_put HR.out HNB.out.1).1 HNB.out.2); have HR := Lib.hid (ref_put HR.out HNB.out.1).2; have HBB := Lib.hid (bel_put HBB.out HNB.out.2 (.slice A5 n5 c5) (.slice A6 n6 c6)); refine gen_below HBB.out rfl (fun W' hW' => ?_); rw [← hW'] at HBB HNB2 HR; clear hW' d0 d1 z0 z1; have h := HSC.out _ HBB.out
        refine hK.out _ _ h (fun hHeld => ?_)
        clear hK K
        try simp only [Act.put, sIB, sC0, sCS]
        refine wpAnyG_last (by kernel_rfl) rfl (by rfl) (fun K hK => ?_)
        go_simp
        refine hK.out _ _ ?_
        clear hK K
        try simp only [Act.put, sIB, sC0, sCS]
        refine wpAnyG_done (by kernel_rfl) ?_ _
        have HV := Lib.hid (HW.out.var.step HBB.out)
        have e0 := blk_cell HNB2.out.1 0
        have e1 := blk_cell HNB2.out.1 1
        simp only [List.getElem?_toArray, List.getElem?_cons_zero, List.getElem?_cons_succ] at e0 e1
        obtain ⟨_, _, _, _, hbk9, href9⟩ := HV.out.ex
        have t0 := blk_cell hbk9 0
        have t1 := blk_cell hbk9 1
        simp only [List.getElem?_toArray, List.getElem?_cons_zero, List.getElem?_cons_succ] at t0 t1
        clear hHeld h c0 c1' g0 g1
        rcases Decidable.em ((addT T x y).2.1 = 0) with he | he
        · have f0 := blk_froz hbk9 0
          have f1 := blk_froz hbk9 1
          have HPUT := Lib.hid (HV.out.put HR.out)
          have HE := Lib.hid he
          clear hbk9 href9
          go_wp2_with fail
          go_roundg (gk - 1)
          case measure => omega
          case rel =>
            refine ⟨k + 1, _, by omega, by simp, ?_, okT_add HW.out.ok _ _ HE.out, HPUT.out⟩
            rw [take_snoc hlt, addsT_snoc, HW.out.adds]
            simp only [Option.bind_some, HX.out, HY.out, HE.out, if_true]
        · have f0 := blk_froz HV.out.res 0
          have f1 := blk_froz HV.out.res 1
          have d0 := blk_cell HV.out.res 0
          have d1 := blk_cell HV.out.res 1
          simp only [List.getElem?_toArray, List.getElem?_cons_zero, List.getElem?_cons_succ] at d0 d1
          have HFIN := Lib.hid (HV.out.fin href9)
          have HE := Lib.hid he
          clear hbk9 href9
          go_wp2_with fail
          refine ret_ref2 (r := r) rfl rfl rfl rfl HFIN.out.1 ⟨HFIN.out.2.1, _, _, _, _, _, _, _, _, _, rfl, HFIN.out.2.2, HW.out.ok, HW.out.adds, .inr ⟨hlt, ?_, HE.out⟩⟩
          rw [HX.out, HY.out]
      ·
        go_simp; have HNB := Lib.hid (And.intro (bel_new HBB.out (.cells #[.slice none 0 0, .slice none 0 0] 34)) HBB.out.size); (try have HR := Lib.hid (HR.out.below ((Below.refl _ _).alloc (Nat.le_refl _) (.cells #[.slice none 0 0, .slice none 0 0] 34)) (Nat.le_refl _))); have HBB := Lib.hid (bel_alloc HBB.out (.cells #[.slice none 0 0, .slice none 0 0] 34)); refine gen_below HBB.out rfl (fun W' hW' => ?_); rw [← hW'] at HBB HNB; (try rw [← hW'] at HR); (try rw [show W.drew.heap.size = W.heap.size from rfl] at HNB); clear hW'; have h := HSC.out _ HBB.out
        refine hK.out _ _ h (fun hHeld => ?_)
        clear hK K
        try simp only [Act.put, sIB, sC0, sCS]
        refine wpAnyG_one (i := 5) (by kernel_rfl) rfl (by rfl) (fun K hK => ?_)
        go_simp; refine (HADD.out _ HBB.out).mono ?_; rintro e W' ⟨hb, A5, n5, c5, A6, n6, c6, rfl, href⟩; (try have HNB := Lib.hid (And.intro (blk_below hb (blk_lt HNB.out.1) HNB.out.1) HNB.out.2)); have HBB := Lib.hid (HBB.out.trans (hb.mono HBB.out.size)); have HR := Lib.hid href; have h := HSC.out _ HBB.out; clear hb href; go_simp
        refine hK.out _ _ h (fun hHeld => ?_)
        clear hK K
        try simp only [Act.put, sIB, sC0, sCS]
        refine tkG 6 16 ?_ rfl hHeld (.inl ⟨by rfl, ?_⟩) ?_; rotate_left; focus (intro w' hSw; (try dsimp only at hSw); go_simp; (try with_reducible rfl))
        try simp only [sIB, sC0, sCS]
        refine tkG 7 23 ?_ rfl hHeld (.inl ⟨by rfl, ?_⟩) ?_; rotate_left; focus (intro w' hSw; (try dsimp only at hSw); go_simp; (try with_reducible rfl))
        try simp only [sIB, sC0, sCS]
        refine tkG 8 24 ?_ rfl hHeld (.inl ⟨by rfl, ?_⟩) ?_; rotate_left; focus (intro w' hSw; (try dsimp only at hSw); go_simp; (try with_reducible rfl))
        try simp only [sIB, sC0, sCS]
        refine wpAnyG_one (i := 10) (by kernel_rfl) rfl (by rfl) (fun K hK => ?_)
        have d0 := blk_cell HNB.out.1 0; have d1 := blk_cell HNB.out.1 1; have z0 := blk_froz HNB.out.1 0; have z1 := blk_froz HNB.out.1 1; simp only [List.getElem?_toArray, List.getElem?_cons_zero, List.getElem?_cons_succ] at d0 d1; go_simp; have HNB2 := Lib.hid (And.intro (ref_put HR.out HNB.out.1).1 HNB.out.2); have HR := Lib.hid (ref_put HR.out HNB.out.1).2; have HBB := Lib.hid (bel_put HBB.out HNB.out.2 (.slice A5 n5 c5) (.slice A6 n6 c6)); refine gen_below HBB.out rfl (fun W' hW' => ?_); rw [← hW'] at HBB HNB2 HR; clear hW' d0 d1 z0 z1; have h := HSC.out _ HBB.out
        refine hK.out _ _ h (fun hHeld => ?_)
        clear hK K
        try simp only [Act.put, sIB, sC0, sCS]
        refine wpAnyG_last (by kernel_rfl) rfl (by rfl) (fun K hK => ?_)
        go_simp
        refine hK.out _ _ ?_
        clear hK K
        try simp only [Act.put, sIB, sC0, sCS]
        refine wpAnyG_done (by kernel_rfl) ?_ _
        have HV := Lib.hid (HW.out.var.step HBB.out)
        have e0 := blk_cell HNB2.out.1 0
        have e1 := blk_cell HNB2.out.1 1
        simp only [List.getElem?_toArray, List.getElem?_cons_zero, List.getElem?_cons_succ] at e0 e1
        obtain ⟨_, _, _, _, hbk9, href9⟩ := HV.out.ex
        have t0 := blk_cell hbk9 0
        have t1 := blk_cell hbk9 1
        simp only [List.getElem?_toArray, List.getElem?_cons_zero, List.getElem?_cons_succ] at t0 t1
        clear hHeld h c0 c1' g0 g1
        rcases Decidable.em ((addT T x y).2.1 = 0) with he | he
        · have f0 := blk_froz hbk9 0
          have f1 := blk_froz hbk9 1
          have HPUT := Lib.hid (HV.out.put HR.out)
          have HE := Lib.hid he
          clear hbk9 href9
          go_wp2_with fail
          go_roundg (gk - 1)
          case measure => omega
          case rel =>
            refine ⟨k + 1, _, by omega, by simp, ?_, okT_add HW.out.ok _ _ HE.out, HPUT.out⟩
            rw [take_snoc hlt, addsT_snoc, HW.out.adds]
            simp only [Option.bind_some, HX.out, HY.out, HE.out, if_true]
        · have f0 := blk_froz HV.out.res 0
          have f1 := blk_froz HV.out.res 1
          have d0 := blk_cell HV.out.res 0
          have d1 := blk_cell HV.out.res 1
          simp only [List.getElem?_toArray, List.getElem?_cons_zero, List.getElem?_cons_succ] at d0 d1
          have HFIN := Lib.hid (HV.out.fin href9)
          have HE := Lib.hid he
          clear hbk9 href9
          go_wp2_with fail
          refine ret_ref2 (r := r) rfl rfl rfl rfl HFIN.out.1 ⟨HFIN.out.2.1, _, _, _, _, _, _, _, _, _, rfl, HFIN.out.2.2, HW.out.ok, HW.out.adds, .inr ⟨hlt, ?_, HE.out⟩⟩
          rw [HX.out, HY.out]
    · have hke : k = l.length := by omega
      subst hke
      have hlt' : ¬ ((l.length : Nat) : Int) < (l.length : Int) := by omega
      have d0 := blk_cell hW.var.res 0
      have d1 := blk_cell hW.var.res 1
      have z0 := blk_froz hW.var.res 0
      have z1 := blk_froz hW.var.res 1
      simp only [List.getElem?_toArray, List.getElem?_cons_zero, List.getElem?_cons_succ] at d0 d1
      have HFIN := Lib.hid (hW.var.fin href)
      have HW := Lib.hid hW
      clear hW hbk href
      go_wp2_with fail
      refine ret_ref2 (r := r) rfl rfl rfl rfl HFIN.out.1 ⟨HFIN.out.2.1, _, _, _, _, _, _, _, _, _, rfl, HFIN.out.2.2, HW.out.ok, HW.out.adds, .inl ⟨rfl, rfl⟩⟩
theorem mrgs_at {T : List Ent} {k : Nat} {m : Int × Int} (h : (mrgsT T)[k]? = some m) : 256 + k < T.length ∧ (entT T ((256 + k : Nat) : Int)).2 = m := by
  unfold mrgsT at h
  rw [List.getElem?_map, Option.map_eq_some_iff] at h
  obtain ⟨e, he, rfl⟩ := h
  rw [List.getElem?_drop] at he
  obtain ⟨hlt, he⟩ := List.getElem?_eq_some_iff.1 he
  exact ⟨hlt, by rw [entT_nat _ _ hlt, he]⟩
theorem mrgs_ok {T : List Ent} (hT : OkT T) {k : Nat} {m : Int × Int} (h : (mrgsT T)[k]? = some m) : pairT T m = some (256 + k) ∧ 0 ≤ m.1 ∧ 0 ≤ m.2 ∧ m.1 < 256 + (k : Int) ∧ m.2 < 256 + (k : Int) := by
  obtain ⟨h1, h2⟩ := mrgs_at h
  obtain ⟨q1, _, _, _, _, q2, q3, q4, q5, q6⟩ := made_all hT (i := 256 + k) (by omega) h1
  have e : parT T ((256 + k : Nat) : Int) = m := by unfold parT; rw [if_pos q1]; exact h2
  rw [e] at q2 q3 q4 q5 q6
  exact ⟨q2, q3, q4, by omega, by omega⟩
def mrgsB (T : List Ent) (bel : Int) : List (Int × Int) := (mrgsT T).take (bel - 256).toNat
def encT (T : List Ent) (bel : Int) (s : List UInt8) : List Int := seqE (mrgsB T bel) 256 (bysI s)
section
variable {w w' : World} {tbase tb : Nat} {T : List Ent} {sv : Value} {mb mp : Nat}
theorem ints_less {w : World} {b base : Nat} {v : Value} {l : List Int} (h : IntsIs w b v l) (hle : base ≤ b) : IntsIs w base v l := by
  obtain ⟨A, c, e, hr⟩ := h
  exact ⟨A, c, e, own_less hr hle⟩
theorem ints_below {B : Nat} {base : Nat} {v : Value} {l : List Int} (h : IntsIs w base v l) (hb : Below B w w') (hB : w.heap.size ≤ B) : IntsIs w' base v l := by
  obtain ⟨A, c, e, hr⟩ := h
  exact ⟨A, c, e, own_below hr hb hB⟩
end
theorem eq_drop_ne {l m : List Int} {k : Nat} (h1 : k < l.length) (h2 : k < m.length) (h : l[k] ≠ m[k]) : l ≠ m := by rintro rfl; exact h rfl
set_option maxHeartbeats 2000000 in
theorem ints_any (l m : List Int) (A B : Option Addr) (c d : Nat) (w : World) (hl : Sl1 w A (Value.int .i64) l) (hm : Sl1 w B (Value.int .i64) m) (hz : l.length < 1000000000000) :
    Calls Tryz.prog 40 #[.slice A l.length c, .slice B m.length d] w fun e w' => e = .returned (.bool (decide (l = m))) ∧ Below w.heap.size w w' := by
  obtain ⟨R, hR⟩ : ∃ R, decide (l = m) = R := ⟨_, rfl⟩
  rw [hR]
  have HR := Lib.hid hR
  have HL := Lib.hid hl
  have HM := Lib.hid hm
  clear hl hm hR
  by_cases hlen : l.length = m.length
  · have HLEN := Lib.hid hlen
    rw [← hlen]
    clear hlen
    go_enter Tryz.func40, Tryz.ntmps40
    go_wp2_with fail
    go_loopg [5] l.length (fun n i W => ∃ k : Nat, k + n = l.length ∧ i = .int .i64 (k : Int) ∧ l.take k = m.take k ∧ Below w.heap.size w W)
    case atStart => exact ⟨0, by omega, rfl, rfl, Below.refl _ _⟩
    case round =>
      obtain ⟨k, hk, rfl, ht, hb⟩ := hrel
      have HT := Lib.hid ht
      have HB := Lib.hid hb
      have HK := Lib.hid hk
      clear ht hb
      rename World => W
      by_cases hlt : k < l.length
      · have hlt2 : k < m.length := by rw [← HLEN.out]; exact hlt
        have p0 : (0 : Int) ≤ (k : Int) := by omega
        have p1 : (k : Int) < (l.length : Int) := by omega
        obtain ⟨b1, o1, rfl, c1⟩ := (HL.out.below HB.out (Nat.le_refl _)).at k hlt
        obtain ⟨b2, o2, rfl, c2⟩ := (HM.out.below HB.out (Nat.le_refl _)).at k hlt2
        have HNX : Hid (l[k] = m[k] → l.take (k + 1) = m.take (k + 1)) := Lib.hid (fun e => by rw [take_snoc hlt, take_snoc hlt2, HT.out, e])
        have HNE := Lib.hid (fun e => eq_drop_ne hlt hlt2 e)
        have wk : IntKind.i64.wrap ((k : Int) + 1) = (k : Int) + 1 := IntWalk.i64_in _ (by omega)
        generalize l[k] = x at *
        generalize m[k] = y at *
        clear hk
        go_upto_region 6 with fail
        refine wp_region_held_drew (S := fun V => V.cell? ⟨b1, o1 + k, none⟩ = some (.int .i64 x) ∧ V.cell? ⟨b2, o2 + k, none⟩ = some (.int .i64 y)) (by kernel_rfl) (by exact ⟨c1, c2⟩) (fun hHeld => ?_)
        refine tkH 0 17 ?_ rfl hHeld (.inl ⟨by rfl, ?_⟩) ?_; rotate_left; focus (intro w' hSw; (try dsimp only at hSw); go_simp; (try with_reducible rfl))
        try simp only [sIB, sC0, sCS]
        refine tkH 1 18 ?_ rfl hHeld (.inl ⟨by rfl, ?_⟩) ?_; rotate_left; focus (intro w' hSw; (try dsimp only at hSw); go_simp; (try with_reducible rfl))
        try simp only [sIB, sC0, sCS]
        refine tkH 2 19 ?_ rfl hHeld (.inl ⟨by rfl, ?_⟩) ?_; rotate_left; focus (intro w' hSw; (try dsimp only at hSw); go_simp; (try with_reducible rfl))
        try simp only [sIB, sC0, sCS]
        refine tkH 3 20 ?_ rfl hHeld (.inl ⟨by rfl, ?_⟩) ?_; rotate_left; focus (intro w' hSw; (try dsimp only at hSw); go_simp; (try with_reducible rfl))
        try simp only [sIB, sC0, sCS]
        refine tkH 4 21 ?_ rfl hHeld (.inl ⟨by rfl, ?_⟩) ?_; rotate_left; focus (intro w' hSw; (try dsimp only at hSw); go_simp; (try with_reducible rfl))
        try simp only [sIB, sC0, sCS]
        refine tkH 5 22 ?_ rfl hHeld (.inl ⟨by rfl, ?_⟩) ?_; rotate_left; focus (intro w' hSw; (try dsimp only at hSw); go_simp; (try with_reducible rfl))
        try simp only [sIB, sC0, sCS]
        refine tkH 6 23 ?_ rfl hHeld (.inl ⟨by rfl, ?_⟩) ?_; rotate_left; focus (intro w' hSw; (try dsimp only at hSw); go_simp; (try with_reducible rfl))
        try simp only [sIB, sC0, sCS]
        refine tkH 7 24 ?_ rfl hHeld (.inl ⟨by rfl, ?_⟩) ?_; rotate_left; focus (intro w' hSw; (try dsimp only at hSw); go_simp; (try with_reducible rfl))
        try simp only [sIB, sC0, sCS]
        refine tkH 8 25 ?_ rfl hHeld (.inl ⟨by rfl, ?_⟩) ?_; rotate_left; focus (intro w' hSw; (try dsimp only at hSw); go_simp; (try with_reducible rfl))
        try simp only [sIB, sC0, sCS]
        refine wpAnyH_done (by kernel_rfl) ?_ _
        replace HB := Lib.hid HB.out.drew
        clear c1 c2 hHeld
        by_cases hxy : x = y
        · have HN := Lib.hid (HNX.out hxy)
          have hn : (x != y) = false := by simpa using hxy
          clear hxy HNX HNE
          go_wp2_with fail
          go_roundg (gk - 1)
          case measure => have := HK.out; omega
          case rel => exact ⟨k + 1, by have := HK.out; omega, by go_num, HN.out, HB.out⟩
        · have hn : (x != y) = true := by simpa using hxy
          have HF : Hid (R = false) := Lib.hid (by rw [← HR.out]; simpa using HNE.out hxy)
          clear hxy HNX HNE
          go_wp2_with fail
          go_ret
          exact ⟨ret_bool HF.out.symm, HB.out⟩
      · have hke : k = l.length := by omega
        have HF : Hid (R = true) := Lib.hid (by
          rw [← HR.out]
          have := HT.out
          rw [hke, List.take_length, HLEN.out, List.take_length] at this
          simpa using this)
        have hlt' : ¬ (k : Int) < (l.length : Int) := by omega
        clear hke hk HK
        go_wp2_with fail
        go_ret
        exact ⟨ret_bool HF.out.symm, HB.out⟩
  · have HF : Hid (R = false) := Lib.hid (by rw [← HR.out]; simp; rintro rfl; exact hlen rfl)
    have hn : (l.length != m.length) = true := by simpa using hlen
    have hn2 : ((l.length : Int) != (m.length : Int)) = true := by simp; omega
    clear hlen
    go_enter Tryz.func40, Tryz.ntmps40
    go_wp2_with fail
    go_ret
    exact ⟨ret_bool HF.out.symm, Below.refl _ _⟩
theorem ints_same (l : List Int) (A B : Option Addr) (c d : Nat) (w : World) (hl : Sl1 w A (Value.int .i64) l) (hm : Sl1 w B (Value.int .i64) l) (hz : l.length < 1000000000000) :
    Calls Tryz.prog 40 #[.slice A l.length c, .slice B l.length d] w fun e w' => e = .returned (.bool true) ∧ Below w.heap.size w w' :=
  (ints_any l l A B c d w hl hm hz).mono fun e w' ⟨h, hb⟩ => ⟨by rw [h]; exact ret_bool (decide_eq_true rfl), hb⟩
theorem bytesT_le {T : List Ent} (h : OkT T) (i : Int) : (bytesT T i).length ≤ 64 := by
  unfold bytesT
  split
  · rename_i hi
    obtain ⟨j, rfl, hj, e⟩ := hasT_at hi
    rw [e]
    exact (h.len _ (List.getElem_mem hj)).2
  · simp
theorem TrieIs.keepX {w w' : World} {base b0 rb n : Nat} {N : List TN} {B : List (Nat × Nat)} {v : Value} {xs : List Value} (h : TrieIs w base rb N B) (k : Keep (fun g => v.ownBlock = some g) w w') (ho : w.ownsRow b0 3 1 v n xs) : TrieIs w' base rb N B := by
  have key : ∀ g, v.ownBlock = some g → ∃ cs fz, w.heap[g]? = some (.cells cs 3 fz) := by
    intro g hg
    rcases ho.2 with ⟨h1, _⟩ | ⟨g', cap, cur, h1, h2, h3, _⟩
    · rw [h1] at hg; simp [Value.ownBlock] at hg
    · rw [h1] at hg
      simp only [Value.ownBlock, Option.some.injEq] at hg
      subst hg
      exact ⟨_, _, h3⟩
  obtain ⟨r0, m0, h1, h2⟩ := h.top
  refine ⟨h.ok, h.len, ⟨r0, m0, h1, k.blk h2 (fun hf => ?_)⟩, fun i x b m hx hb => ?_, h.lo, h.inj⟩
  · obtain ⟨cs, fz, e⟩ := key _ hf
    rw [h2] at e
    injection e with e
    injection e with _ e _
    exact absurd e (by decide)
  · obtain ⟨h3, h4⟩ := h.nod i x b m hx hb
    refine ⟨k.blk h3 (fun hf => ?_), h4.keep k (fun hf => ?_)⟩
    · obtain ⟨cs, fz, e⟩ := key _ hf
      rw [h3] at e
      injection e with e
      injection e with _ e _
      exact absurd e (by decide)
    · obtain ⟨cs, fz, e⟩ := key _ hf
      obtain ⟨es, cl, e3⟩ := h4.isMap
      rw [e] at e3
      cases e3
theorem trie_root {w W : World} {rb g : Nat} (hb : Below w.heap.size w W) (h1 : W.heap[rb]? = some (.cells #[.pointer (some ⟨g + 1, 0, none⟩), .int .i64 1] 189)) (h2 : W.heap[g + 1]? = some (.cells #[.map (some g), .int .i64 (-1)] 210))
    (h3 : MapP Tryz.prog 5 kvB W g 0 (fun _ => none)) (hrb : w.heap.size ≤ rb) (hg : w.heap.size ≤ g) : TrieIs W w.heap.size rb [([], -1)] [(g + 1, g)] := by
  refine ⟨okN_root, rfl, ⟨_, _, rfl, h1⟩, ?_, ⟨hrb, ?_⟩, ?_⟩
  · intro i x b m hx hB
    have hi := (List.getElem?_eq_some_iff.1 hx).1
    simp at hi
    subst hi
    simp at hx hB
    obtain ⟨rfl, rfl⟩ := hB
    subst hx
    refine ⟨h2, (h3.less (Nat.zero_le _)).congr (fun c => ?_)⟩
    symm
    refine nxtB_none ?_
    unfold idxN
    rw [List.findIdx?_eq_none_iff]
    intro x hx
    simp at hx
    subst hx
    simp
  · intro i b m hB
    have hi := (List.getElem?_eq_some_iff.1 hB).1
    simp at hi
    subst hi
    simp at hB
    omega
  · intro i j b m b' m' hi hj _
    have h1 := (List.getElem?_eq_some_iff.1 hi).1
    have h2 := (List.getElem?_eq_some_iff.1 hj).1
    simp at h1 h2
    omega
theorem root_made {w w1 w2 : World} {rb : Nat} (hb : Below w.heap.size w w1) (hrb : w.heap.size = rb) (h1 : w1.heap[rb]? = some (.cells #[.pointer none, .int .i64 0] 189))
    (hw2 : w2 = ((w1.setCell ⟨rb, 1, none⟩ (.int .i64 ((0 + 1 : Nat) : Int))).alloc (.map #[] 0)).alloc (.cells #[.map (some w1.heap.size), .int .i64 (-1)] 210)) :
    w2.cell? ⟨rb, 0, none⟩ = some (.pointer none) ∧ w2.frozen? ⟨rb, 0, none⟩ = false ∧ TrieIs (w2.setCell ⟨rb, 0, none⟩ (.pointer (some ⟨w1.heap.size + 1, 0, none⟩))) w.heap.size rb [([], -1)] [(w1.heap.size + 1, w1.heap.size)] ∧ Below w.heap.size w (w2.setCell ⟨rb, 0, none⟩ (.pointer (some ⟨w1.heap.size + 1, 0, none⟩))) := by
  have hlt := blk_lt h1
  have b1 := blk_alloc (blk_alloc (blk_set h1 1 (.int .i64 ((0 + 1 : Nat) : Int))) (.map #[] 0)) (.cells #[.map (some w1.heap.size), .int .i64 (-1)] 210)
  simp only [List.setIfInBounds_toArray, List.set_cons_zero, List.set_cons_succ] at b1
  have b2 := blk_new ((w1.setCell ⟨rb, 1, none⟩ (.int .i64 ((0 + 1 : Nat) : Int))).alloc (.map #[] 0)) (.cells #[.map (some w1.heap.size), .int .i64 (-1)] 210)
  have sz : (w1.setCell ⟨rb, 1, none⟩ (.int .i64 ((0 + 1 : Nat) : Int))).heap.size = w1.heap.size := by simp [World.setCell]
  rw [size_alloc, sz] at b2
  have b3 : MapP Tryz.prog 5 kvB w2 w1.heap.size 0 (fun _ => none) := by
    have := MapP.made (w1.setCell ⟨rb, 1, none⟩ (.int .i64 ((0 + 1 : Nat) : Int))) Tryz.prog 5 kvB
    rw [sz] at this
    rw [hw2]
    exact this.keep (F := fun _ => False) ((Keep.refl _ _).alloc _) (fun h => h)
  have hB2 : Below w.heap.size w w2 := by
    rw [hw2]
    exact ((hb.setCell (Nat.le_of_eq hrb) _).alloc (by rw [sz]; exact hb.size) _).alloc (by rw [size_alloc, sz]; have := hb.size; omega) _
  rw [← hw2] at b1 b2
  have hk : Keep (fun y => y = rb) w2 (w2.setCell ⟨rb, 0, none⟩ (.pointer (some ⟨w1.heap.size + 1, 0, none⟩))) := (Keep.refl (fun y => y = rb) w2).setCell (p := ⟨rb, 0, none⟩) (.inl rfl) _
  have hB3 : Below w.heap.size w (w2.setCell ⟨rb, 0, none⟩ (.pointer (some ⟨w1.heap.size + 1, 0, none⟩))) := hB2.setCell (Nat.le_of_eq hrb) _
  have b4 := blk_set b1 0 (.pointer (some ⟨w1.heap.size + 1, 0, none⟩))
  simp only [List.setIfInBounds_toArray, List.set_cons_zero, List.set_cons_succ] at b4
  refine ⟨?_, blk_froz b1 0, trie_root hB3 b4 (hk.blk b2 (by omega)) (b3.keep hk (by omega)) (Nat.le_of_eq hrb) hb.size, hB3⟩
  have := blk_cell b1 0
  simpa using this
section
variable {w w' : World} {tbase tb : Nat} {T : List Ent} {sv : Value} {mb mp : Nat}
set_option maxHeartbeats 4000000 in
theorem tnew_any (h : TabIs w tbase tb T sv mb mp) (hT : OkT T) :
    Calls Tryz.prog 67 #[.pointer (some ⟨tb, 0, none⟩)] w fun e w' => (∃ rb B, e = .returned (.pointer (some ⟨rb, 0, none⟩)) ∧ TrieIs w' w.heap.size rb (trieT T T.length) B) ∧ Below w.heap.size w w' := by
  have HT := Lib.hid hT
  have HSM := Lib.hid hT.small
  have HTAB : Hid (∀ V, Below w.heap.size w V → TabIs V tbase tb T sv mb mp) := Lib.hid (fun V hV => h.below hV (Nat.le_refl _))
  clear h hT
  go_enter Tryz.func67, Tryz.ntmps67
  go_upto_region 4 with fail
  have HN0 := Lib.hid (blk_new w (.cells #[.pointer none, .int .i64 0] 189))
  have HB0 := Lib.hid ((Below.refl w.heap.size w).alloc (Nat.le_refl _) (.cells #[.pointer none, .int .i64 0] 189))
  have HSZ : Hid ((w.alloc (.cells #[.pointer none, .int .i64 0] 189)).heap.size = w.heap.size + 1) := Lib.hid (by simp)
  obtain ⟨rb, hrb⟩ : ∃ r, w.heap.size = r := ⟨_, rfl⟩
  have HRB := Lib.hid hrb
  rw [hrb] at HN0 HSZ ⊢
  clear hrb
  generalize w.alloc (.cells #[.pointer none, .int .i64 0] 189) = w1 at *
  have HND := Lib.hid (tnode_any rb 0 (.pointer none) w1 HN0.out (by omega))
  have c0 := blk_cell HN0.out 0
  simp only [List.getElem?_toArray, List.getElem?_cons_zero, List.getElem?_cons_succ] at c0
  have HRM := Lib.hid (fun w2 hw2 => root_made (w2 := w2) HB0.out HRB.out HN0.out hw2)
  go_upto_region 5 with (go_at_call 105; refine HND.out.mono ?_; rintro e w2 ⟨rfl, hw2⟩; (have HW2 := Lib.hid (HRM.out w2 hw2)); clear hw2; (have c2 := HW2.out.1); (have z2 := HW2.out.2.1); clear c0)
  have HT3 := Lib.hid HW2.out.2.2.1
  have HB3 := Lib.hid HW2.out.2.2.2
  clear HW2 HRM HND HN0 HB0 HSZ c2 z2
  generalize w2.setCell ⟨rb, 0, none⟩ (.pointer (some ⟨w1.heap.size + 1, 0, none⟩)) = w3 at *
  generalize w1.heap.size = g at *
  have HLEN := Lib.hid (len_tab (HTAB.out _ HB3.out))
  go_wp2_with (go_at_call 106; refine HLEN.out.mono ?_; rintro e w4 ⟨rfl, rfl⟩)
  clear HLEN
  obtain ⟨N, hN⟩ : ∃ N, T.length = N := ⟨_, rfl⟩
  have HN := Lib.hid hN
  rw [hN]
  clear hN
  go_loopg [18] N (fun n i W => ∃ (k : Nat) (B : List (Nat × Nat)), k + n = N ∧ i = .int .i64 (k : Int) ∧ TrieIs W w.heap.size rb (trieT T k) B ∧ Below w.heap.size w W)
  case atStart => exact ⟨0, _, by omega, rfl, HT3.out, HB3.out⟩
  case round =>
    obtain ⟨k, B, hk, rfl, ht, hb⟩ := hrel
    clear HT3 HB3
    rename World => W
    have HK := Lib.hid hk
    have HTR := Lib.hid ht
    have HB := Lib.hid hb
    clear hk ht hb
    by_cases hlt : k < N
    · have p1 : (k : Int) < (N : Int) := by omega
      have ws : IntKind.i64.wrap ((k : Int) + 1) = (k : Int) + 1 := IntWalk.i64_in _ (by have := HSM.out; have := HN.out; omega)
      have hkt : k < T.length := by rw [HN.out]; exact hlt
      have hbt : bytesT T (k : Int) = T[k].1 := by
        unfold bytesT
        rw [if_pos (by simp [hasT]; omega), entT_nat _ _ hkt]
      have HBY := Lib.hid (bytes_tab (k : Int) (HTAB.out _ HB.out))
      have hadd := tadd_any HTR.out HB.out.size (bytesT T (k : Int)) (bytesT_le HT.out _) (k : Int) (by have := trieT_len T HT.out k (by omega); have := HSM.out; omega)
      have hst : setN (extN (trieT T k) (bytesT T (k : Int)) (bytesT T (k : Int)).length) (bytesT T (k : Int)) (k : Int) = trieT T (k + 1) := by
        rw [trieT, hbt]
        simp [List.getD_eq_getElem?_getD, hkt]
      rw [hst] at hadd
      have HADD := Lib.hid hadd
      unfold strV at HBY
      clear hst hadd hbt hkt
      go_wp2_with (first | (go_at_call 76; refine HBY.out.mono ?_; rintro e W1 ⟨rfl, rfl⟩) | (go_at_call 107; refine HADD.out.mono ?_; rintro e W2 ⟨rfl, ⟨B2, ht2⟩, hb2⟩; (have HT2 := Lib.hid ht2); (have HB2 := Lib.hid (HB.out.trans hb2)); clear ht2 hb2))
      go_roundg (gk - 1)
      case measure => have := HK.out; omega
      case rel => exact ⟨k + 1, B2, by have := HK.out; omega, by simp, HT2.out, HB2.out⟩
    · have hke : k = T.length := by have := HK.out; have := HN.out; omega
      have p1 : ¬ (k : Int) < (N : Int) := by omega
      have HKE := Lib.hid hke
      clear hke
      go_wp2_with fail
      go_ret
      have ht := HTR.out
      rw [HKE.out] at ht
      first | exact ⟨⟨rb, B, rfl, ht⟩, HB.out⟩ | exact ⟨⟨rb, rfl, B, ht⟩, HB.out⟩
structure TBegIs (w W : World) (base rb : Nat) (T : List Ent) (B : List (Nat × Nat)) (s : List UInt8) (k a : Nat) (v : Value) : Prop where
  tri : TrieIs W base rb (trieT T T.length) B
  at_ : ∃ j m, idxN (trieT T T.length) (s.take k) = some j ∧ B[j]? = some (a, m)
  row : W.ownsRow w.heap.size 3 1 v (begT T s k).length ((begT T s k).map (Value.int .i64))
  blw : Below w.heap.size w W
theorem TBegIs.drew {w W : World} {base rb : Nat} {T : List Ent} {B : List (Nat × Nat)} {s : List UInt8} {k a : Nat} {v : Value} (h : TBegIs w W base rb T B s k a v) : TBegIs w W.drew base rb T B s k a v :=
  ⟨h.tri.keep (F := fun _ => False) ⟨rfl, rfl, rfl, Nat.le_refl _, fun _ _ _ => rfl⟩ (fun x hx => hx.elim), h.at_, h.row, h.blw.drew⟩
set_option maxHeartbeats 4000000 in
theorem tbegin_any {base rb : Nat} {B : List (Nat × Nat)} (h : TrieIs w base rb (trieT T T.length) B) (hT : OkT T) (s : List UInt8) (hs : s.length ≤ 1000000) :
    Calls Tryz.prog 70 #[.pointer (some ⟨rb, 0, none⟩), .string (bs s)] w fun e w' => (∃ v, e = .returned v ∧ IntsIs w' w.heap.size v (begT T s s.length)) ∧ Below w.heap.size w w' := by
  obtain ⟨r0, m0, hB0, htop⟩ := h.top
  have c0 := blk_cell htop 0
  simp only [List.getElem?_toArray, List.getElem?_cons_zero, List.getElem?_cons_succ] at c0
  have HST : Hid (TBegIs w w base rb T B s 0 r0 (.slice none 0 0)) := Lib.hid ⟨h, ⟨0, m0, by rw [List.take_zero]; exact h.ok.root, hB0⟩, own_nil _ _ _ _, Below.refl _ _⟩
  have HT := Lib.hid hT
  have HSL := Lib.hid hs
  have HDZ : Hid ((bs s).size = s.length) := Lib.hid (bs_size s)
  have HDL : Hid ((bs s).data.toList = s) := Lib.hid rfl
  obtain ⟨Z, hZ⟩ : ∃ Z, bs s = Z := ⟨_, rfl⟩
  rw [hZ] at HDZ HDL ⊢
  clear h htop hB0 hs hZ hT
  go_enter Tryz.func70, Tryz.ntmps70
  go_wp2_with fail
  clear c0
  go_loopg [5, 6, 16] Z.size (fun n v u i W => ∃ (k a : Nat), k + n = Z.size ∧ i = .int .i64 (k : Int) ∧ u = .pointer (some ⟨a, 0, none⟩) ∧ TBegIs w W base rb T B s k a v)
  case atStart => exact ⟨0, r0, by omega, rfl, rfl, HST.out⟩
  case round =>
    obtain ⟨k, a, hk, rfl, rfl, hst⟩ := hrel
    clear HST
    rename World => W
    rename Value => v
    obtain ⟨A3, c3, rfl⟩ := own_slice hst.row
    have HK := Lib.hid hk
    have HST := Lib.hid hst
    clear hk hst
    by_cases hlt : k < Z.size
    · have p0 : (0 : Int) ≤ (k : Int) := by omega
      have p1 : (k : Int) < (Z.size : Int) := by omega
      have w2 : IntKind.i64.wrap ((k : Int) + 1) = (k : Int) + 1 := IntWalk.i64_in _ (by have := HSL.out; have := HDZ.out; omega)
      have hks : k < s.length := by rw [← HDZ.out]; exact hlt
      have HKS := Lib.hid hks
      have hc8 : s[k] = Z[k]'hlt := by
        have h9 := HDL.out
        subst h9
        rfl
      obtain ⟨c, hc⟩ : ∃ c, Z[k]'hlt = c := ⟨_, rfl⟩
      have HTK : Hid (s.take (k + 1) = s.take k ++ [c]) := Lib.hid ((take_snoc hks).trans (congrArg (fun z => s.take k ++ [z]) (hc8.trans hc)))
      have hix : (Z[k]'hlt).toNat = c.toNat := by rw [hc]
      obtain ⟨j, m, hj, hBj⟩ := HST.out.at_
      obtain ⟨x, b', m', hx, ex, hb', hblk, hmp⟩ := HST.out.tri.at hj
      rw [hBj] at hb'
      injection hb' with hb'
      injection hb' with hb1 hb2
      subst hb1
      subst hb2
      obtain ⟨o, ho⟩ : ∃ o, nxtB (trieT T T.length) B (s.take k) c = o := ⟨_, rfl⟩
      have HO := Lib.hid ho
      have e0 : W.drew.cell? ⟨a, 0, none⟩ = some (.map (some m)) := by
        have := blk_cell hblk 0
        simpa using this
      have e1 : (Instr.lookup 208 (.map (some m)) (.int .u8 ((Z[k]'hlt).toNat : Int)) false).run Tryz.prog W.drew = .ok (ptrV o) W.drew := by
        rw [hix, ← ho]
        exact (MapP.keep (w' := W.drew) (F := fun _ => False) hmp ⟨rfl, rfl, rfl, Nat.le_refl _, fun _ _ _ => rfl⟩ (fun h => h)).get keyed_u8 Tryz.underlying208 (zero_node _) c (key_u8 c)
      have HST5 := Lib.hid HST.out.drew
      have HBL : Hid ((begT T s k).length ≤ 1000000) := Lib.hid (by have := begT_le T s k; have := HSL.out; omega)
      clear hc8 hc hix hks hj hBj hx ex hblk hmp ho HST
      cases hq : idxN (trieT T T.length) (s.take k ++ [c]) with
      | none =>
        have hon : o = none := by rw [← HO.out]; exact nxtB_none hq
        subst hon
        have HQ := Lib.hid hq
        clear hq
        go_upto_region 8 with fail
        refine wp_region_held_drew (S := fun V => V.cell? ⟨a, 0, none⟩ = some (.map (some m)) ∧ (Instr.lookup 208 (.map (some m)) (.int .u8 ((Z[k]'hlt).toNat : Int)) false).run Tryz.prog V = .ok (ptrV none) V) (by kernel_rfl) (by exact ⟨e0, e1⟩) (fun hHeld => ?_)
        refine tkH 0 19 ?_ rfl hHeld (.inl ⟨by rfl, ?_⟩) ?_; rotate_left; focus (intro w' hSw; (try dsimp only at hSw); go_simp; (try with_reducible rfl))
        try simp only [sIB, sC0, sCS]
        refine tkH 1 20 ?_ rfl hHeld (.inl ⟨by rfl, ?_⟩) ?_; rotate_left; focus (intro w' hSw; (try dsimp only at hSw); go_simp; (try with_reducible rfl))
        try simp only [sIB, sC0, sCS]
        refine tkH 2 21 ?_ rfl hHeld (.inl ⟨by rfl, ?_⟩) ?_; rotate_left; focus (intro w' hSw; (try dsimp only at hSw); go_simp; (try with_reducible rfl))
        try simp only [sIB, sC0, sCS]
        refine tkH 3 22 ?_ rfl hHeld (.inl ⟨by rfl, ?_⟩) ?_; rotate_left; focus (intro w' hSw; (try dsimp only at hSw); go_simp; (try with_reducible rfl))
        try simp only [sIB, sC0, sCS]
        refine tkH 4 23 ?_ rfl hHeld (.inl ⟨by rfl, ?_⟩) ?_; rotate_left; focus (intro w' hSw; (try dsimp only at hSw); go_simp; (try with_reducible rfl))
        try simp only [sIB, sC0, sCS]
        refine tkH 5 24 ?_ rfl hHeld (.inl ⟨by rfl, ?_⟩) ?_; rotate_left; focus (intro w' hSw; (try dsimp only at hSw); go_simp; (try with_reducible rfl))
        try simp only [sIB, sC0, sCS]
        refine tkH 6 25 ?_ rfl hHeld (.inl ⟨by rfl, ?_⟩) ?_; rotate_left; focus (intro w' hSw; (try dsimp only at hSw); go_simp; (try with_reducible rfl))
        try simp only [sIB, sC0, sCS]
        refine tkH 7 26 ?_ rfl hHeld (.inl ⟨by rfl, ?_⟩) ?_; rotate_left; focus (intro w' hSw; (try dsimp only at hSw); go_simp; (try with_reducible rfl))
        try simp only [sIB, sC0, sCS]
        refine tkH 8 6 ?_ rfl hHeld (.inl ⟨by rfl, ?_⟩) ?_; rotate_left; focus (intro w' hSw; (try dsimp only at hSw); go_simp; (try with_reducible rfl))
        try simp only [sIB, sC0, sCS]
        refine wpAnyH_done (by kernel_rfl) ?_ _
        clear hHeld e0 e1
        unfold ptrV
        have HFIN : Hid (IntsIs W.drew w.heap.size (.slice A3 (begT T s k).length c3) (begT T s s.length)) := Lib.hid (by
          rw [begT_stop HT.out HKS.out (by rw [HTK.out]; exact HQ.out) s.length (by have := HKS.out; omega) (Nat.le_refl _)]
          exact ⟨A3, c3, rfl, HST5.out.row⟩)
        go_wp2_with fail
        go_ret
        exact ⟨⟨_, rfl, HFIN.out⟩, HST5.out.blw⟩
      | some j2 =>
        obtain ⟨b2, m2, hB2, hnx⟩ := nxtB_some HST5.out.tri hq
        have hon : o = some b2 := by rw [← HO.out]; exact hnx
        subst hon
        obtain ⟨x2, b3, m3, hx2, ex2, hb3, hblk2, _⟩ := HST5.out.tri.at hq
        rw [hB2] at hb3
        injection hb3 with hb3
        injection hb3 with hb3 _
        subst hb3
        have HBK := Lib.hid hblk2
        have hid := node_tok HT.out (s := s.take k ++ [c]) (by simp) hq hx2
        rw [← HTK.out] at hid
        have HID := Lib.hid hid
        have HSU := Lib.hid (begT_succ T s k)
        have HQ := Lib.hid hq
        have HB2 := Lib.hid hB2
        clear hq hnx hB2 hx2 ex2 hblk2 hid
        obtain ⟨y, hy⟩ : ∃ y, x2.2 = y := ⟨_, rfl⟩
        rw [hy] at HBK HID
        clear hy
        go_upto_region 8 with fail
        refine wp_region_held_drew (S := fun V => V.cell? ⟨a, 0, none⟩ = some (.map (some m)) ∧ (Instr.lookup 208 (.map (some m)) (.int .u8 ((Z[k]'hlt).toNat : Int)) false).run Tryz.prog V = .ok (ptrV (some b2)) V) (by kernel_rfl) (by exact ⟨e0, e1⟩) (fun hHeld => ?_)
        refine tkH 0 19 ?_ rfl hHeld (.inl ⟨by rfl, ?_⟩) ?_; rotate_left; focus (intro w' hSw; (try dsimp only at hSw); go_simp; (try with_reducible rfl))
        try simp only [sIB, sC0, sCS]
        refine tkH 1 20 ?_ rfl hHeld (.inl ⟨by rfl, ?_⟩) ?_; rotate_left; focus (intro w' hSw; (try dsimp only at hSw); go_simp; (try with_reducible rfl))
        try simp only [sIB, sC0, sCS]
        refine tkH 2 21 ?_ rfl hHeld (.inl ⟨by rfl, ?_⟩) ?_; rotate_left; focus (intro w' hSw; (try dsimp only at hSw); go_simp; (try with_reducible rfl))
        try simp only [sIB, sC0, sCS]
        refine tkH 3 22 ?_ rfl hHeld (.inl ⟨by rfl, ?_⟩) ?_; rotate_left; focus (intro w' hSw; (try dsimp only at hSw); go_simp; (try with_reducible rfl))
        try simp only [sIB, sC0, sCS]
        refine tkH 4 23 ?_ rfl hHeld (.inl ⟨by rfl, ?_⟩) ?_; rotate_left; focus (intro w' hSw; (try dsimp only at hSw); go_simp; (try with_reducible rfl))
        try simp only [sIB, sC0, sCS]
        refine tkH 5 24 ?_ rfl hHeld (.inl ⟨by rfl, ?_⟩) ?_; rotate_left; focus (intro w' hSw; (try dsimp only at hSw); go_simp; (try with_reducible rfl))
        try simp only [sIB, sC0, sCS]
        refine tkH 6 25 ?_ rfl hHeld (.inl ⟨by rfl, ?_⟩) ?_; rotate_left; focus (intro w' hSw; (try dsimp only at hSw); go_simp; (try with_reducible rfl))
        try simp only [sIB, sC0, sCS]
        refine tkH 7 26 ?_ rfl hHeld (.inl ⟨by rfl, ?_⟩) ?_; rotate_left; focus (intro w' hSw; (try dsimp only at hSw); go_simp; (try with_reducible rfl))
        try simp only [sIB, sC0, sCS]
        refine tkH 8 6 ?_ rfl hHeld (.inl ⟨by rfl, ?_⟩) ?_; rotate_left; focus (intro w' hSw; (try dsimp only at hSw); go_simp; (try with_reducible rfl))
        try simp only [sIB, sC0, sCS]
        refine wpAnyH_done (by kernel_rfl) ?_ _
        clear hHeld e0 e1
        unfold ptrV
        generalize W.drew = W5 at *
        have c1 := blk_cell HBK.out 1
        simp only [List.getElem?_toArray, List.getElem?_cons_zero, List.getElem?_cons_succ] at c1
        cases hf : findT T (s.take (k + 1)) with
        | none =>
          rw [hf] at HID HSU
          have hyn : y = -1 := HID.out
          subst hyn
          have HST6 : Hid (TBegIs w W5 base rb T B s (k + 1) b2 (.slice A3 (begT T s k).length c3)) := Lib.hid ⟨HST5.out.tri, ⟨j2, m2, by rw [HTK.out]; exact HQ.out, HB2.out⟩, by rw [HSU.out]; simpa using HST5.out.row, HST5.out.blw⟩
          clear hf
          go_wp2_with fail
          go_roundg (gk - 1)
          case measure => have := HK.out; omega
          case rel => exact ⟨k + 1, b2, by have := HK.out; omega, by simp, rfl, HST6.out⟩
        | some j3 =>
          rw [hf] at HID HSU
          have hyn : y = (j3 : Int) := HID.out
          subst hyn
          have hne : ¬ (j3 : Int) = -1 := by omega
          clear hf
          have hbl : (begT T s k).length ≤ 1000000 := HBL.out
          have hsz : w.heap.size ≤ W5.heap.size := HST5.out.blw.size
          go_wp2_with (at_builtin; refine app_new w.heap.size 48 3 (.int .i64 0) 1 8 [_] 1 _ _ rfl rfl Tryz.underlying48 info_int5 rfl (by decide) _ _ _ rfl rfl rfl (by intro u hu; simp at hu; subst hu; rfl) HST5.out.row (by omega) (by omega) (by exact hsz) ?_)
          intro v' w6 hown hg6 hnew
          have hk6 : Keep (fun g => (Value.slice A3 (begT T s k).length c3).ownBlock = some g) W5 w6 := Keep.of_grown hg6 (fun g hg => hg)
          have hb6 : Below w.heap.size W5 w6 := hk6.below hsz (fun x hx => own_base HST5.out.row x hx)
          have HST6 : Hid (TBegIs w w6 base rb T B s (k + 1) b2 v') := Lib.hid ⟨TrieIs.keepX (v := .slice A3 (begT T s k).length c3) HST5.out.tri hk6 HST5.out.row, ⟨j2, m2, by rw [HTK.out]; exact HQ.out, HB2.out⟩, by rw [HSU.out, List.length_append, List.map_append]; exact hown, HST5.out.blw.trans hb6⟩
          obtain ⟨A4, c4, rfl⟩ := own_slice hown
          clear hown hg6 hnew hk6 hb6 hbl hsz
          go_wp2_with fail
          go_roundg (gk - 1)
          case measure => have := HK.out; omega
          case rel => exact ⟨k + 1, b2, by have := HK.out; omega, by simp, rfl, HST6.out⟩
    · have hke : k = s.length := by have := HK.out; have := HDZ.out; omega
      have p1 : ¬ (k : Int) < (Z.size : Int) := by have := HK.out; omega
      have HFIN : Hid (IntsIs W w.heap.size (.slice A3 (begT T s k).length c3) (begT T s s.length)) := Lib.hid (by rw [← hke]; exact ⟨A3, c3, rfl, HST.out.row⟩)
      clear hke
      go_wp2_with fail
      go_ret
      exact ⟨⟨_, rfl, HFIN.out⟩, HST.out.blw⟩
end
theorem rown_at {w : World} {base n c g : Nat} {e : TypeId} {size : Nat} {xs : List Value} (h : w.ownsRow base e size (.slice (some ⟨g, 0, none⟩) n c) n xs) (j : Nat) (u : Value) (hj : xs[j]? = some u) : w.cell? ⟨g, j, none⟩ = some u ∧ w.frozen? ⟨g, j, none⟩ = false := by
  have hn : 0 < n := by
    cases n with
    | zero =>
      have := h.1
      have h2 := (List.getElem?_eq_some_iff.1 hj).1
      omega
    | succ n => omega
  obtain ⟨g', cap', e1, _, _, hc⟩ := own_open h hn
  injection e1 with e1 e2 e3
  injection e1 with e1
  injection e1 with e1
  subst e1
  exact hc j u hj
theorem rown_cells {w : World} {base n cap g : Nat} {e : TypeId} {size : Nat} {xs : List Value} (h : w.ownsRow base e size (.slice (some ⟨g, 0, none⟩) n cap) n xs) (hn : 0 < n) (j : Nat) (hj : j < n * size) : (∃ v, w.cell? ⟨g, j, none⟩ = some v) ∧ w.frozen? ⟨g, j, none⟩ = false := by
  have hl := h.1
  obtain ⟨h1, h2⟩ := rown_at h j xs[j] (List.getElem?_eq_getElem (by omega))
  exact ⟨⟨_, h1⟩, h2⟩
theorem rgen_set1 {K : Act → World → Prop} {a : Act} {W V : World} (hV : W = V) (h : ∀ W', W' = V → K a W') : K a W := by subst hV; exact h _ rfl
def atZ (l : List Int) (i : Nat) : Int := (l[i]?).getD 0
theorem atZ_get {l : List Int} {i : Nat} (h : i < l.length) : atZ l i = l[i] := by unfold atZ; rw [List.getElem?_eq_getElem h]; rfl
structure RevZ (xs out : List Int) (k : Nat) : Prop where
  len : out.length = xs.length
  at' : ∀ t, t < xs.length → atZ out t = if t < k ∨ xs.length - k ≤ t then atZ xs (xs.length - 1 - t) else atZ xs t
theorem RevZ.start (xs : List Int) : RevZ xs xs 0 := ⟨rfl, fun t ht => by rw [if_neg (by omega)]⟩
theorem atZ_set (l : List Int) (i : Nat) (x : Int) (t : Nat) (hi : i < l.length) : atZ (l.set i x) t = if t = i then x else atZ l t := by
  unfold atZ
  rw [List.getElem?_set]
  by_cases h : i = t
  · subst h; simp [hi]
  · rw [if_neg h, if_neg (fun e => h e.symm)]
theorem RevZ.next {xs out : List Int} {k : Nat} (h : RevZ xs out k) (hk : k + 1 + k < xs.length) : RevZ xs ((out.set k (atZ out (xs.length - 1 - k))).set (xs.length - 1 - k) (atZ out k)) (k + 1) := by
  refine ⟨by rw [List.length_set, List.length_set, h.len], fun t ht => ?_⟩
  have hl := h.len
  rw [atZ_set _ _ _ _ (by rw [List.length_set]; omega), atZ_set _ _ _ _ (by omega)]
  by_cases h1 : t = xs.length - 1 - k
  · rw [if_pos h1, if_pos (by omega), h.at' k (by omega), if_neg (by omega)]
    congr 1
    omega
  · rw [if_neg h1]
    by_cases h2 : t = k
    · rw [if_pos h2, if_pos (by omega), h.at' (xs.length - 1 - k) (by omega), if_neg (by omega)]
      congr 1
      omega
    · rw [if_neg h2, h.at' t ht]
      by_cases h3 : t < k ∨ xs.length - k ≤ t
      · rw [if_pos h3, if_pos (by omega)]
      · rw [if_neg h3, if_neg (by omega)]
theorem RevZ.done {xs out : List Int} {k : Nat} (h : RevZ xs out k) (hk : xs.length ≤ k + 1 + k) (hk2 : k ≤ xs.length) : out = xs.reverse := by
  apply List.ext_getElem
  · rw [h.len, List.length_reverse]
  · intro t h1 h2
    have h3 : t < xs.length := by rw [← h.len]; exact h1
    have := h.at' t h3
    rw [atZ_get h1] at this
    rw [this, List.getElem_reverse, atZ_get (by omega)]
    split
    · rfl
    · rw [atZ_get (by omega)]
      congr 1
      omega
set_option maxHeartbeats 4000000 in
theorem revI_any (xs : List Int) (base g c : Nat) (w : World) (h : w.ownsRow base 3 1 (.slice (some ⟨g, 0, none⟩) xs.length c) xs.length (xs.map (Value.int .i64))) (hg : base ≤ g) (hlen : xs.length < 1000000000000000000) :
    Calls Tryz.prog 71 #[.slice (some ⟨g, 0, none⟩) xs.length c] w fun e w' => e = .returned (.tuple #[]) ∧ w'.ownsRow base 3 1 (.slice (some ⟨g, 0, none⟩) xs.length c) xs.length (xs.reverse.map (Value.int .i64)) ∧ Keep (fun x => x = g) w w' := by
  have HO := Lib.hid h
  clear h
  have wl : IntKind.i64.wrap ((xs.length : Int) - 1) = (xs.length : Int) - 1 := IntWalk.i64_in _ (by omega)
  go_enter Tryz.func71, Tryz.ntmps71
  go_wp2_with fail
  clear wl
  go_loopg [2, 3] xs.length (fun n v2 v3 W => ∃ (k : Nat) (out : List Int), k + n = xs.length ∧ v2 = .int .i64 (k : Int) ∧ v3 = .int .i64 ((xs.length : Int) - 1 - (k : Int)) ∧ RevZ xs out k ∧ W.ownsRow base 3 1 (.slice (some ⟨g, 0, none⟩) xs.length c) xs.length (out.map (Value.int .i64)) ∧ Keep (fun x => x = g) w W)
  case atStart => exact ⟨0, xs, by omega, rfl, by simp, RevZ.start xs, HO.out, Keep.refl _ _⟩
  case round =>
    obtain ⟨k, out, hk, rfl, rfl, hR, hO, hK⟩ := hrel
    rename World => W
    have HRV := Lib.hid hR
    have HROW := Lib.hid (own_drew hO)
    have HK := Lib.hid hK.drew
    have HROW0 := Lib.hid hO
    have HK0 := Lib.hid hK
    clear HO hR hO hK
    by_cases hlt : k + 1 + k < xs.length
    · obtain ⟨j, hj⟩ : ∃ j, xs.length - 1 - k = j := ⟨_, rfl⟩
      rw [show (xs.length : Int) - 1 - (k : Int) = (j : Int) by omega]
      have hlt' : (k : Int) < (j : Int) := by omega
      have p0 : (0 : Int) ≤ (k : Int) := by omega
      have p1 : (k : Int) < (xs.length : Int) := by omega
      have p2 : (0 : Int) ≤ (j : Int) := by omega
      have p3 : (j : Int) < (xs.length : Int) := by omega
      have hkl : k < xs.length := by omega
      have hjl : j < xs.length := by omega
      have HNX := HRV.out.next hlt
      rw [hj] at HNX
      have hl := HRV.out.len
      obtain ⟨x, hx⟩ : ∃ x, atZ out k = x := ⟨_, rfl⟩
      obtain ⟨y, hy⟩ : ∃ y, atZ out j = y := ⟨_, rfl⟩
      rw [hx, hy] at HNX
      obtain ⟨a0, a1⟩ := rown_at HROW.out k (.int .i64 x) (by rw [List.getElem?_map, List.getElem?_eq_getElem (by omega), ← hx, atZ_get (by omega)]; rfl)
      obtain ⟨b0, b1⟩ := rown_at HROW.out j (.int .i64 y) (by rw [List.getElem?_map, List.getElem?_eq_getElem (by omega), ← hy, atZ_get (by omega)]; rfl)
      have HNXT := Lib.hid HNX
      have w1 : IntKind.i64.wrap ((k : Int) + 1) = (k : Int) + 1 := IntWalk.i64_in _ (by omega)
      have w2 : IntKind.i64.wrap ((j : Int) - 1) = (xs.length : Int) - 1 - ((k : Int) + 1) := by rw [IntWalk.i64_in _ (by omega)]; omega
      have HJ := Lib.hid hj
      clear hx hy hl HNX hj
      have hkj : k < j := by omega
      go_wp2_with fail
      refine wp_region_D (Ds := [13, 15]) (S := fun V => V.cell? ⟨g, k, none⟩ = some (.int .i64 x) ∧ V.cell? ⟨g, j, none⟩ = some (.int .i64 y)) (by kernel_rfl) (by exact ⟨a0, b0⟩) (fun hHeld => ?_)
      clear a0 a1 b0 b1
      generalize W.drew = W0 at *
      refine tkP 0 14 ?_ rfl (.inl ⟨by rfl, ?_⟩) ?_; rotate_left; focus (intro w' _; go_simp; (try with_reducible rfl))
      try simp only [sIB, sC0, sCS]
      refine tkP 1 15 ?_ rfl (.inl ⟨by rfl, ?_⟩) ?_; rotate_left; focus (intro w' _; go_simp; (try with_reducible rfl))
      try simp only [sIB, sC0, sCS]
      refine tkP 2 16 ?_ rfl (.inl ⟨by rfl, ?_⟩) ?_; rotate_left; focus (intro w' _; go_simp; (try with_reducible rfl))
      try simp only [sIB, sC0, sCS]
      refine tkP 3 17 ?_ rfl (.inl ⟨by rfl, ?_⟩) ?_; rotate_left; focus (intro w' _; go_simp; (try with_reducible rfl))
      try simp only [sIB, sC0, sCS]
      refine tkP 4 18 ?_ rfl (.inl ⟨by rfl, ?_⟩) ?_; rotate_left; focus (intro w' _; go_simp; (try with_reducible rfl))
      try simp only [sIB, sC0, sCS]
      refine tkP 5 19 ?_ rfl (.inl ⟨by rfl, ?_⟩) ?_; rotate_left; focus (intro w' _; go_simp; (try with_reducible rfl))
      try simp only [sIB, sC0, sCS]
      refine tkP 6 20 ?_ rfl (.inl ⟨by rfl, ?_⟩) ?_; rotate_left; focus (intro w' _; go_simp; (try with_reducible rfl))
      try simp only [sIB, sC0, sCS]
      refine tkP 8 22 ?_ rfl (.inl ⟨by rfl, ?_⟩) ?_; rotate_left; focus (intro w' _; go_simp; (try with_reducible rfl))
      try simp only [sIB, sC0, sCS]
      refine tkP 9 23 ?_ rfl (.inl ⟨by rfl, ?_⟩) ?_; rotate_left; focus (intro w' _; go_simp; (try with_reducible rfl))
      try simp only [sIB, sC0, sCS]
      refine tkP 10 24 ?_ rfl (.inl ⟨by rfl, ?_⟩) ?_; rotate_left; focus (intro w' _; go_simp; (try with_reducible rfl))
      try simp only [sIB, sC0, sCS]
      refine tkD 7 21 ?_ rfl hHeld (.inl ⟨by rfl, ?_⟩) ?_; rotate_left; focus (intro w' hSw; (try dsimp only at hSw); go_simp; (try with_reducible rfl))
      try simp only [sIB, sC0, sCS]
      refine tkD 11 25 ?_ rfl hHeld (.inl ⟨by rfl, ?_⟩) ?_; rotate_left; focus (intro w' hSw; (try dsimp only at hSw); go_simp; (try with_reducible rfl))
      try simp only [sIB, sC0, sCS]
      refine tkP 12 26 ?_ rfl (.inl ⟨by rfl, ?_⟩) ?_; rotate_left; focus (intro w' _; go_simp; (try with_reducible rfl))
      try simp only [sIB, sC0, sCS]
      refine wpAnyD_last (D := 13) (by decide) (by kernel_rfl) rfl (by rfl) (fun K hK => ?_)
      have q0 := rown_cells HROW.out (by omega) k (by omega); obtain ⟨⟨v0, c0⟩, f0⟩ := q0; clear hHeld; go_simp; have HROW := Lib.hid (own_set HROW.out k (.int .i64 y)); have HK := Lib.hid (HK.out.setCell (p := ⟨g, k, none⟩) (.inl rfl) (.int .i64 y)); refine rgen_set1 rfl (fun W' hW' => ?_); rw [← hW'] at HROW HK; clear hW' c0 f0
      refine hK.out _ _ ?_
      clear hK K
      try simp only [Act.put, sIB, sC0, sCS]
      refine tkP 14 27 ?_ rfl (.inl ⟨by rfl, ?_⟩) ?_; rotate_left; focus (intro w' _; go_simp; (try with_reducible rfl))
      try simp only [sIB, sC0, sCS]
      refine wpAnyD_last (D := 15) (by decide) (by kernel_rfl) rfl (by rfl) (fun K hK => ?_)
      have q0 := rown_cells HROW.out (by omega) j (by omega); obtain ⟨⟨v0, c0⟩, f0⟩ := q0; go_simp; have HROW := Lib.hid (own_set HROW.out j (.int .i64 x)); have HK := Lib.hid (HK.out.setCell (p := ⟨g, j, none⟩) (.inl rfl) (.int .i64 x)); refine rgen_set1 rfl (fun W' hW' => ?_); rw [← hW'] at HROW HK; clear hW' c0 f0
      refine hK.out _ _ ?_
      clear hK K
      try simp only [Act.put, sIB, sC0, sCS]
      refine wpAnyD_done (by kernel_rfl) ?_ _
      go_wp2_with fail
      go_roundg (gk - 1)
      case measure => omega
      case rel => exact ⟨k + 1, _, by omega, by simp, by simp, HNXT.out, by rw [List.map_set, List.map_set]; exact HROW.out, HK.out⟩
    · have hlt' : ¬ ((k : Int) < (xs.length : Int) - 1 - (k : Int)) := by omega
      have hd := HRV.out.done (by omega) (by omega)
      subst hd
      clear HROW HK
      go_wp2_with fail
      go_end0
      exact ⟨rfl, by rw [← List.map_reverse]; exact HROW0.out, HK0.out⟩
theorem hasT_iff {T : List Ent} {a : Int} : hasT T a = true ↔ 0 ≤ a ∧ a < T.length := by simp [hasT]
theorem adds_take (l : List (Int × Int)) : ∀ (T T' : List Ent) (k : Nat) (hk : k < l.length) (Tk : List Ent), addsT T l = some T' → addsT T (l.take k) = some Tk → (addT Tk l[k].1 l[k].2).2.1 = 0 := by
  induction l with
  | nil => intro T T' k hk; exact absurd hk (by simp)
  | cons a l ih =>
    intro T T' k hk Tk h1 h2
    simp only [addsT] at h1
    split at h1
    · rename_i h0
      match k, hk, h2 with
      | 0, _, h2 => simp only [List.take_zero, addsT, Option.some.injEq] at h2; subst h2; exact h0
      | k + 1, hk, h2 =>
        simp only [List.take_succ_cons, addsT, if_pos h0] at h2
        exact ih _ _ k (by simpa using hk) _ h1 h2
    · cases h1
structure BothIs (w w' : World) (T : List Ent) (tb : Nat) (sv : Value) (mb mp : Nat) (vb vm : Value) : Prop where
  tab : TabIs w' w.heap.size tb T sv mb mp
  ref : RefIs w' w.heap.size T vb vm
  bl : Below w.heap.size w w'
theorem BothIs.step {w w' w2 : World} {T : List Ent} {tb : Nat} {sv : Value} {mb mp : Nat} {vb vm : Value} (h : BothIs w w' T tb sv mb mp vb vm) (hb : Below w'.heap.size w' w2) : BothIs w w2 T tb sv mb mp vb vm :=
  ⟨h.tab.below hb (Nat.le_refl _), h.ref.below hb (Nat.le_refl _), h.bl.trans (hb.mono h.bl.size)⟩
theorem TabIs.less {w : World} {b base tb : Nat} {T : List Ent} {sv : Value} {mb mp : Nat} (h : TabIs w b tb T sv mb mp) (hle : base ≤ b) : TabIs w base tb T sv mb mp :=
  ⟨h.blk, own_less h.row hle, h.bys, h.prs, h.ne, by have := h.lt; omega⟩
theorem new_ok {l : List (Int × Int)} {T : List Ent} (hT : addsT baseT l = some T) (A : Option Addr) (c : Nat) (w : World) (hl : Sl w A encM 2 l) (hlen : l.length < 9000000000000000000) :
    Calls Tryz.prog 154 #[.slice A l.length c] w fun e w' => ∃ tb sv mb mp, e = .returned (.tuple #[.pointer (some ⟨tb, 0, none⟩), .int .i64 (l.length : Nat), .int .i64 0]) ∧ OkT T ∧ TabIs w' w.heap.size tb T sv mb mp ∧ Below w.heap.size w w' := by
  refine (new_any l A c w hl hlen).mono ?_
  rintro e w' ⟨hb, (⟨T', tb, sv, mb, mp, rfl, ha, hok, ht⟩ | ⟨k, hk, T', ha, hok, he, rfl⟩)⟩
  · rw [hT] at ha
    injection ha with ha
    subst ha
    exact ⟨tb, sv, mb, mp, rfl, hok, ht, hb⟩
  · exact absurd (adds_take l baseT T k hk T' hT ha) he
theorem sl_mrg {w : World} {g : Nat} {l : List (Int × Int)} (h : w.heap[g]? = some (.cells (l.flatMap encM).toArray 113)) : Sl w (some ⟨g, 0, none⟩) encM 2 l := by
  intro i x hx
  refine ⟨g, 0, rfl, fun j v hv => ?_⟩
  rw [blk_cell h, List.getElem?_toArray, Nat.zero_add]
  have key : ∀ (l : List (Int × Int)) (i : Nat), l[i]? = some x → (l.flatMap encM)[i * 2 + j]? = some v := by
    intro l
    induction l with
    | nil => intro i h; simp at h
    | cons y ys ih =>
      intro i hx
      have hj : j < 2 := (List.getElem?_eq_some_iff.1 hv).1
      cases i with
      | zero =>
        simp at hx
        subst hx
        rw [List.flatMap_cons, List.getElem?_append_left (by show 0 * 2 + j < 2; omega)]
        simpa using hv
      | succ i =>
        simp at hx
        rw [List.flatMap_cons, List.getElem?_append_right (by show 2 ≤ _; omega)]
        have := ih i hx
        rw [show (i + 1) * 2 + j - (encM y).length = i * 2 + j by show (i + 1) * 2 + j - 2 = _; omega]
        exact this
  exact key l i hx
theorem byte_has {T : List Ent} (hT : OkT T) {i : Nat} (hi : i < 256) : hasT T (i : Int) = true ∧ bytesT T (i : Int) = [UInt8.ofNat i] := by
  have h2 := okT_256 hT
  have hh : hasT T (i : Int) = true := by simp [hasT]; omega
  refine ⟨hh, ?_⟩
  unfold bytesT
  rw [if_pos hh, base_ent hT hi]
def atA (T : List Ent) (s : List UInt8) : List Int := (begT T s s.length).reverse
def lenT (T : List Ent) (id : Int) : Nat := (bytesT T id).length
def divL (T : List Ent) : Nat → List UInt8 → List (List Int)
  | 0, s => if s = [] then [[]] else []
  | f + 1, s => if s = [] then [[]] else (atA T s).flatMap (fun id => (divL T f (s.drop (lenT T id))).map (fun d => id :: d))
def divA (T : List Ent) (s : List UInt8) : List (List Int) := divL T s.length s
def cntA (T : List Ent) (s : List UInt8) : Nat := (divA T s).length
theorem findT_len {T : List Ent} (hT : OkT T) {s : List UInt8} {j : Nat} (h : findT T s = some j) : j < T.length ∧ hasT T (j : Int) = true ∧ bytesT T (j : Int) = s ∧ 0 < s.length ∧ s.length ≤ 64 := by
  obtain ⟨e, h1, h2⟩ := findT_at h
  obtain ⟨hlt, h3⟩ := List.getElem?_eq_some_iff.1 h1
  have hh : hasT T (j : Int) = true := hasT_iff.2 ⟨by omega, by omega⟩
  have hl := hT.len e (by rw [← h3]; exact List.getElem_mem hlt)
  rw [h2] at hl
  refine ⟨hlt, hh, ?_, hl⟩
  unfold bytesT
  rw [if_pos hh, entT_nat _ _ hlt, h3, h2]
theorem find_long {T : List Ent} (hT : OkT T) {s : List UInt8} (h : 64 < s.length ∨ s = []) : findT T s = none := by
  cases hf : findT T s with
  | none => rfl
  | some j =>
    have := findT_len hT hf
    rcases h with h | h
    · omega
    · subst h; simp at this
theorem begT_mem {T : List Ent} {s : List UInt8} {i : Nat} {x : Int} (h : x ∈ begT T s i) : ∃ n j, n < i ∧ findT T (s.take (n + 1)) = some j ∧ x = (j : Int) := by
  unfold begT at h
  obtain ⟨n, hn, hx⟩ := List.mem_filterMap.1 h
  rw [Option.map_eq_some_iff] at hx
  obtain ⟨j, hj, e⟩ := hx
  exact ⟨n, j, List.mem_range.1 hn, hj, e.symm⟩
theorem atA_has {T : List Ent} (hT : OkT T) {s : List UInt8} {x : Int} (h : x ∈ atA T s) : hasT T x = true ∧ 0 < lenT T x ∧ lenT T x ≤ s.length ∧ s.take (lenT T x) = bytesT T x := by
  unfold atA at h
  obtain ⟨n, j, hn, hf, rfl⟩ := begT_mem (List.mem_reverse.1 h)
  obtain ⟨h1, h2, h3, h4, h5⟩ := findT_len hT hf
  have hl : lenT T (j : Int) = n + 1 := by unfold lenT; rw [h3, List.length_take]; omega
  rw [hl]
  exact ⟨h2, by omega, by omega, h3.symm⟩
theorem find_tok {T : List Ent} (hT : OkT T) {x : Int} (hx : hasT T x = true) : findT T (bytesT T x) = some x.toNat := by
  obtain ⟨k, rfl, hk, _⟩ := hasT_at hx
  have hb : bytesT T (k : Int) = T[k].1 := by unfold bytesT; rw [if_pos hx, entT_nat _ _ hk]
  have : findT T (bytesT T (k : Int)) = some k := by
    unfold findT
    rw [List.findIdx?_eq_some_iff_getElem]
    refine ⟨hk, by simp [hb], fun j hj => ?_⟩
    have hne : T[j].1 ≠ T[k].1 := by
      intro e
      have := hT.nodup j k (by omega) hk (by rw [entT_nat _ _ (by omega), entT_nat _ _ hk, e])
      omega
    simp [hb, hne]
  rw [this]; simp
theorem fm_congr {α β : Type} {f g : α → Option β} : ∀ {l : List α}, (∀ x ∈ l, f x = g x) → l.filterMap f = l.filterMap g
  | [], _ => rfl
  | a :: l, h => by
    rw [List.filterMap_cons, List.filterMap_cons, h a (by simp), fm_congr (fun x hx => h x (by simp [hx]))]
theorem beg_long {T : List Ent} (hT : OkT T) (s : List UInt8) (L : Nat) (hL : ∀ e ∈ T, e.1.length ≤ L) : begT T (s.take L) (s.take L).length = begT T s s.length := by
  have h1 : ∀ n, n ≤ (s.take L).length → begT T (s.take L) n = begT T s n := by
    intro n hn
    rw [List.length_take] at hn
    unfold begT
    apply fm_congr
    intro x hx
    have := List.mem_range.1 hx
    rw [List.take_take, Nat.min_eq_left (by omega)]
  rw [h1 _ (Nat.le_refl _)]
  have h2 : ∀ m, (s.take L).length ≤ m → m ≤ s.length → begT T s m = begT T s (s.take L).length := by
    intro m
    induction m with
    | zero => intro h _; rw [Nat.le_zero.1 h]
    | succ m ih =>
      intro h hm
      by_cases e : (s.take L).length = m + 1
      · rw [e]
      · have hlt : (s.take L).length ≤ m := by omega
        rw [begT_succ, ih hlt (by omega)]
        have : findT T (s.take (m + 1)) = none := by
          cases hf : findT T (s.take (m + 1)) with
          | none => rfl
          | some j =>
            exfalso
            obtain ⟨e1, q1, q2⟩ := findT_at hf
            have := hL e1 (List.mem_of_getElem? q1)
            rw [q2, List.length_take] at this
            rw [List.length_take] at hlt
            omega
        rw [this]
        simp
  exact (h2 s.length (by rw [List.length_take]; omega) (Nat.le_refl _)).symm
theorem divL_more {T : List Ent} (hT : OkT T) : ∀ (f g : Nat) (s : List UInt8), s.length ≤ f → f ≤ g → divL T g s = divL T f s
  | 0, 0, s, _, _ => rfl
  | 0, g + 1, s, h, _ => by
    have : s = [] := List.eq_nil_of_length_eq_zero (by omega)
    subst this
    simp [divL]
  | f + 1, 0, s, _, h => by omega
  | f + 1, g + 1, s, h, hg => by
    rw [divL, divL]
    by_cases e : s = []
    · rw [if_pos e, if_pos e]
    · rw [if_neg e, if_neg e]
      have key : ∀ l : List Int, (∀ x ∈ l, x ∈ atA T s) → l.flatMap (fun id => (divL T g (s.drop (lenT T id))).map (fun d => id :: d)) = l.flatMap (fun id => (divL T f (s.drop (lenT T id))).map (fun d => id :: d)) := by
        intro l
        induction l with
        | nil => intro _; rfl
        | cons a l ih =>
          intro hl
          have := atA_has hT (hl a (by simp))
          rw [List.flatMap_cons, List.flatMap_cons, ih (fun x hx => hl x (by simp [hx])), divL_more hT f g _ (by rw [List.length_drop]; omega) (by omega)]
      exact key _ (fun x hx => hx)
theorem divA_rec {T : List Ent} (hT : OkT T) {s : List UInt8} (h : s ≠ []) : divA T s = (atA T s).flatMap (fun id => (divA T (s.drop (lenT T id))).map (fun d => id :: d)) := by
  unfold divA
  obtain ⟨n, hn⟩ : ∃ n, s.length = n + 1 := ⟨s.length - 1, by have := List.length_pos_iff.2 h; omega⟩
  rw [hn, divL, if_neg h]
  have key : ∀ l : List Int, (∀ x ∈ l, x ∈ atA T s) → l.flatMap (fun id => (divL T n (s.drop (lenT T id))).map (fun d => id :: d)) = l.flatMap (fun id => (divL T (s.drop (lenT T id)).length (s.drop (lenT T id))).map (fun d => id :: d)) := by
    intro l
    induction l with
    | nil => intro _; rfl
    | cons a l ih =>
      intro hl
      have := atA_has hT (hl a (by simp))
      rw [List.flatMap_cons, List.flatMap_cons, ih (fun x hx => hl x (by simp [hx])), divL_more hT _ n _ (Nat.le_refl _) (by rw [List.length_drop]; omega)]
  exact key _ (fun x hx => hx)
def sumA (T : List Ent) (s : List UInt8) (l : List Int) : Nat := l.foldr (fun id n => cntA T (s.drop (lenT T id)) + n) 0
theorem sumA_app (T : List Ent) (s : List UInt8) (a b : List Int) : sumA T s (a ++ b) = sumA T s a + sumA T s b := by
  unfold sumA
  induction a with
  | nil => simp
  | cons x a ih => rw [List.cons_append, List.foldr_cons, List.foldr_cons, ih]; omega
theorem sumA_one (T : List Ent) (s : List UInt8) (x : Int) : sumA T s [x] = cntA T (s.drop (lenT T x)) := rfl
theorem cntA_nil (T : List Ent) : cntA T [] = 1 := rfl
theorem cntA_rec {T : List Ent} (hT : OkT T) {s : List UInt8} (h : s ≠ []) : cntA T s = sumA T s (atA T s) := by
  unfold cntA
  rw [divA_rec hT h]
  have key : ∀ l : List Int, (l.flatMap (fun id => (divA T (s.drop (lenT T id))).map (fun d => id :: d))).length = sumA T s l := by
    intro l
    induction l with
    | nil => rfl
    | cons a l ih =>
      rw [List.flatMap_cons, List.length_append, List.length_map, ih]
      rfl
  exact key _
theorem at_byte {T : List Ent} (hT : OkT T) {s : List UInt8} (h : s ≠ []) : ∃ l, atA T s = l ++ [((s.head h).toNat : Int)] := by
  obtain ⟨n, hn⟩ : ∃ n, s.length = n + 1 := ⟨s.length - 1, by have := List.length_pos_iff.2 h; omega⟩
  have h1 : findT T (s.take 1) = some (s.head h).toNat := by
    have hb := byte_has hT (i := (s.head h).toNat) (by have := (s.head h).toNat_lt; omega)
    have h2 := find_tok hT hb.1
    rw [hb.2] at h2
    cases s with
    | nil => exact absurd rfl h
    | cons c s => simpa using h2
  unfold atA begT
  rw [hn, List.range_succ_eq_map, List.filterMap_cons, h1]
  simp only [Option.map_some, List.reverse_cons]
  exact ⟨_, rfl⟩
open Go.RowKit
structure Cls where
  lo : Int
  hi : Int
  n : Int
structure Jn where
  a : Int
  b : Int
def encCls (c : Cls) : List Value := [.int .i64 c.lo, .int .i64 c.hi, .int .i64 c.n]
def encJn (c : Jn) : List Value := [.int .i64 c.a, .int .i64 c.b]
def tabCell (C : Nat → Int) (J : Nat → Nat → Bool) (i : Nat) : Value := if i < 256 then .int .i64 (C i) else .bool (J ((i - 256) / 16) ((i - 256) % 16))
def tabArr (C : Nat → Int) (J : Nat → Nat → Bool) : Array Value := Array.ofFn (n := 512) fun i => tabCell C J i
theorem zero_tab : Tryz.zeroCells266 = tabArr (fun _ => 0) (fun _ _ => false) := by
  have : Tryz.zeroCells266.toList = (tabArr (fun _ => 0) (fun _ _ => false)).toList := by
    unfold tabArr
    rw [Array.toList_ofFn]
    kernel_rfl
  exact Array.toList_inj.1 this
theorem tab_get (C : Nat → Int) (J : Nat → Nat → Bool) (i : Nat) (h : i < 512) : (tabArr C J)[i]? = some (tabCell C J i) := by
  simp [tabArr, h]
theorem tab_cls (C : Nat → Int) (J : Nat → Nat → Bool) (i : Nat) (h : i < 256) : (tabArr C J)[i]? = some (.int .i64 (C i)) := by
  rw [tab_get _ _ _ (by omega), tabCell, if_pos h]
theorem tab_jn (C : Nat → Int) (J : Nat → Nat → Bool) (x y : Nat) (hx : x < 16) (hy : y < 16) : (tabArr C J)[256 + x * 16 + y]? = some (.bool (J x y)) := by
  rw [tab_get _ _ _ (by omega), tabCell, if_neg (by omega)]
  have e1 : (256 + x * 16 + y - 256) / 16 = x := by omega
  have e2 : (256 + x * 16 + y - 256) % 16 = y := by omega
  rw [e1, e2]
theorem tab_setC (C : Nat → Int) (J : Nat → Nat → Bool) (i : Nat) (n : Int) (h : i < 256) : (tabArr C J).setIfInBounds i (.int .i64 n) = tabArr (fun j => if j = i then n else C j) J := by
  apply Array.ext_getElem?
  intro j
  rw [Array.getElem?_setIfInBounds]
  by_cases hj : j < 512
  · by_cases e : i = j
    · subst e
      rw [if_pos rfl, if_pos (by simp [tabArr]; omega), tab_cls _ _ _ h, if_pos rfl]
    · rw [if_neg e, tab_get _ _ _ hj, tab_get _ _ _ hj]
      unfold tabCell
      simp only [Option.some.injEq]
      split
      · rw [if_neg (by omega)]
      · rfl
  · have e : i ≠ j := by omega
    rw [if_neg e]
    simp [tabArr, hj]
theorem tab_setJ (C : Nat → Int) (J : Nat → Nat → Bool) (x y : Nat) (u : Bool) (hx : x < 16) (hy : y < 16) : (tabArr C J).setIfInBounds (256 + x * 16 + y) (.bool u) = tabArr C (fun a b => if a = x ∧ b = y then u else J a b) := by
  apply Array.ext_getElem?
  intro j
  rw [Array.getElem?_setIfInBounds]
  by_cases hj : j < 512
  · by_cases e : 256 + x * 16 + y = j
    · subst e
      rw [if_pos rfl, if_pos (by simp [tabArr]; omega), tab_jn _ _ _ _ hx hy, if_pos ⟨rfl, rfl⟩]
    · rw [if_neg e, tab_get _ _ _ hj, tab_get _ _ _ hj]
      unfold tabCell
      simp only [Option.some.injEq]
      split
      · rfl
      · rw [if_neg (by omega)]
  · have e : 256 + x * 16 + y ≠ j := by omega
    rw [if_neg e]
    simp [tabArr, hj]
def clsB (n : Int) : Bool := decide (0 ≤ n ∧ n < 16)
def spanB (c : Cls) : Bool := decide (0 ≤ c.lo ∧ c.lo ≤ c.hi ∧ c.hi < 256 ∧ 0 ≤ c.n ∧ c.n < 16)
def jnB (j : Jn) : Bool := clsB j.a && clsB j.b
theorem class_any (n : Int) (w : World) : Calls Tryz.prog 157 #[.int .i64 n] w fun e w' => e = .returned (.bool (clsB n)) ∧ w = w' := by
  by_cases h : 0 ≤ n
  · by_cases h2 : n < 16
    · have e : clsB n = true := by simp [clsB, h, h2]
      rw [e]
      go_enter Tryz.func157, Tryz.ntmps157
      go_wp2
      go_ret
      exact ⟨by simp, rfl⟩
    · have e : clsB n = false := by simp [clsB, h, h2]
      rw [e]
      go_enter Tryz.func157, Tryz.ntmps157
      go_wp2
      go_ret
      exact ⟨by simp, rfl⟩
  · have e : clsB n = false := by simp [clsB, h]
    rw [e]
    go_enter Tryz.func157, Tryz.ntmps157
    go_wp2
    go_ret
    exact ⟨by simp, rfl⟩
theorem span_yes (lo hi n : Int) (w : World) (h0 : 0 ≤ lo) (h1 : lo ≤ hi) (h2 : hi < 256) : Calls Tryz.prog 156 #[.agg #[.int .i64 lo, .int .i64 hi, .int .i64 n]] w fun e w' => e = .returned (.bool (clsB n)) ∧ Below w.heap.size w w' := by
  go_enter Tryz.func156, Tryz.ntmps156
  go_wp2_with (go_at_call 157; refine (class_any _ _).mono ?_; rintro e w' ⟨rfl, rfl⟩)
  go_ret
  exact ⟨by simp, (Below.refl _ _).alloc (Nat.le_refl _) _⟩
theorem span_no (lo hi n : Int) (w : World) (h : ¬ (0 ≤ lo ∧ lo ≤ hi ∧ hi < 256)) : Calls Tryz.prog 156 #[.agg #[.int .i64 lo, .int .i64 hi, .int .i64 n]] w fun e w' => e = .returned (.bool false) ∧ Below w.heap.size w w' := by
  by_cases h0 : 0 ≤ lo
  · by_cases h1 : lo ≤ hi
    · have h2 : decide (hi < 256) = false := by simp; omega
      clear h
      go_enter Tryz.func156, Tryz.ntmps156
      go_wp2
      go_ret
      exact ⟨by simp, (Below.refl _ _).alloc (Nat.le_refl _) _⟩
    · have h2 : decide (lo ≤ hi) = false := by simp; omega
      clear h h1
      go_enter Tryz.func156, Tryz.ntmps156
      go_wp2
      go_ret
      exact ⟨by simp, (Below.refl _ _).alloc (Nat.le_refl _) _⟩
  · have h2 : decide (0 ≤ lo) = false := by simp; omega
    clear h h0
    go_enter Tryz.func156, Tryz.ntmps156
    go_wp2
    go_ret
    exact ⟨by simp, (Below.refl _ _).alloc (Nat.le_refl _) _⟩
theorem span_any (c : Cls) (w : World) : Calls Tryz.prog 156 #[.agg #[.int .i64 c.lo, .int .i64 c.hi, .int .i64 c.n]] w fun e w' => e = .returned (.bool (spanB c)) ∧ Below w.heap.size w w' := by
  by_cases h : 0 ≤ c.lo ∧ c.lo ≤ c.hi ∧ c.hi < 256
  · refine (span_yes c.lo c.hi c.n w h.1 h.2.1 h.2.2).mono ?_
    rintro e w' ⟨rfl, hb⟩
    refine ⟨?_, hb⟩
    congr 2
    simp only [spanB, clsB, h.1, h.2.1, h.2.2, true_and]
  · refine (span_no c.lo c.hi c.n w h).mono ?_
    rintro e w' ⟨rfl, hb⟩
    refine ⟨?_, hb⟩
    congr 2
    simp only [spanB]
    symm
    rw [decide_eq_false_iff_not]
    omega
def BTab (w : World) (bk : Nat) (C : Nat → Int) (J : Nat → Nat → Bool) : Prop :=
  w.heap[bk]? = some (.cells (tabArr C J) 266 (0, 0)) ∧ ∀ i, 0 ≤ C i ∧ C i < 16
theorem BTab.below {B : Nat} {w w' : World} {bk : Nat} {C : Nat → Int} {J : Nat → Nat → Bool} (h : BTab w bk C J) (hb : Below B w w') (hB : bk < B) : BTab w' bk C J := ⟨blk_below hb hB h.1, h.2⟩
def cutB (C : Nat → Int) (J : Nat → Nat → Bool) (a b : Nat) : Bool := decide (C a ≠ C b) && !J (C a).toNat (C b).toNat
def putC (C : Nat → Int) (c : Cls) : Nat → Int := fun j => if c.lo ≤ (j : Int) ∧ (j : Int) ≤ c.hi then c.n else C j
def putJ (J : Nat → Nat → Bool) (j : Jn) : Nat → Nat → Bool := fun x y => if (x : Int) = j.a ∧ (y : Int) = j.b then true else J x y
def Cof (l : List Cls) : Nat → Int := l.foldl putC (fun _ => 0)
def Jof (l : List Jn) : Nat → Nat → Bool := l.foldl putJ (fun _ _ => false)
theorem Cof_snoc (l : List Cls) (c : Cls) : Cof (l ++ [c]) = putC (Cof l) c := by simp [Cof]
theorem Jof_snoc (l : List Jn) (c : Jn) : Jof (l ++ [c]) = putJ (Jof l) c := by simp [Jof]
theorem all_snoc {α : Type} (p : α → Bool) (l : List α) (c : α) : (l ++ [c]).all p = (l.all p && p c) := by simp
theorem all_false {α : Type} {p : α → Bool} {l : List α} {c : α} {k : Nat} (h : l[k]? = some c) (hp : p c = false) : l.all p = false := by
  rw [List.all_eq_false]
  exact ⟨c, List.mem_of_getElem? h, by simp [hp]⟩
def NewPost (cs : List Cls) (js : List Jn) (w : World) (e : Ending) (w' : World) : Prop :=
  Below w.heap.size w w' ∧
  if cs.all spanB && js.all jnB then ∃ bk, w.heap.size ≤ bk ∧ e = .returned (.tuple #[.pointer (some ⟨bk, 0, none⟩), .int .i64 0]) ∧ BTab w' bk (Cof cs) (Jof js)
  else e = .returned (.tuple #[.pointer none, .int .i64 1])
theorem Cof_small0 (l : List Cls) : ∀ C : Nat → Int, (∀ i, 0 ≤ C i ∧ C i < 16) → l.all spanB = true → ∀ i, 0 ≤ l.foldl putC C i ∧ l.foldl putC C i < 16 := by
  induction l with
  | nil => intro C h _ i; exact h i
  | cons c l ih =>
    intro C h ha i
    rw [List.all_cons, Bool.and_eq_true] at ha
    rw [List.foldl_cons]
    refine ih _ (fun j => ?_) ha.2 i
    unfold putC
    split
    · have := ha.1
      simp only [spanB, decide_eq_true_eq] at this
      omega
    · exact h j
theorem Cof_small (l : List Cls) (h : l.all spanB = true) (i : Nat) : 0 ≤ Cof l i ∧ Cof l i < 16 := Cof_small0 l _ (fun _ => by simp) h i
theorem new_bad {cs : List Cls} {js : List Jn} {w w' : World} (hb : Below w.heap.size w w') (h : cs.all spanB = false ∨ js.all jnB = false) : NewPost cs js w (.returned (.tuple #[.pointer none, .int .i64 1])) w' := by
  refine ⟨hb, ?_⟩
  rw [if_neg (by rcases h with h | h <;> simp [h])]
theorem new_good {cs : List Cls} {js : List Jn} {w w' : World} {bk : Nat} (hb : Below w.heap.size w w') (h : cs.all spanB = true) (h' : js.all jnB = true) (hbk : w.heap.size ≤ bk)
    (ht : w'.heap[bk]? = some (.cells (tabArr (Cof cs) (Jof js)) 266 (0, 0))) : NewPost cs js w (.returned (.tuple #[.pointer (some ⟨bk, 0, none⟩), .int .i64 0])) w' := by
  refine ⟨hb, ?_⟩
  rw [if_pos (by simp [h, h'])]
  exact ⟨bk, hbk, rfl, ht, Cof_small cs h⟩
def Half (cs : List Cls) (js : List Jn) (w : World) (k : Nat) (wr : World) : Prop :=
  Below w.heap.size w wr ∧ w.heap.size < wr.heap.size ∧ (js.take k).all jnB = true ∧ wr.heap[w.heap.size]? = some (.cells (tabArr (Cof cs) (Jof (js.take k))) 266 (0, 0))
def HalfC (cs : List Cls) (w : World) (k : Nat) (wr : World) : Prop :=
  Below w.heap.size w wr ∧ w.heap.size < wr.heap.size ∧ (cs.take k).all spanB = true ∧ wr.heap[w.heap.size]? = some (.cells (tabArr (Cof (cs.take k)) (fun _ _ => false)) 266 (0, 0))
theorem fill_step (C : Nat → Int) (lo q : Nat) (n : Int) (h : lo ≤ q) : (fun j => if j = q then n else if lo ≤ j ∧ j < q then n else C j) = (fun j => if lo ≤ j ∧ j < q + 1 then n else C j) := by
  funext j
  by_cases e : j = q
  · rw [if_pos e, if_pos (by omega)]
  · rw [if_neg e]
    by_cases f : lo ≤ j ∧ j < q
    · rw [if_pos f, if_pos (by omega)]
    · rw [if_neg f, if_neg (by omega)]
set_option maxHeartbeats 1000000 in
theorem bnew_any (cs : List Cls) (js : List Jn) (A B : Option Addr) (cA cB : Nat) (w : World) (hA : Sl w A encCls 3 cs) (hB : Sl w B encJn 2 js) (hcs : cs.length < 9000000000000000000) (hjs : js.length < 9000000000000000000) :
  Calls Tryz.prog 131 #[.slice A cs.length cA, .slice B js.length cB] w (NewPost cs js w) := by
  have HB := Lib.hid hB
  have HSA := Lib.hid hA
  clear hB hA
  go_enter Tryz.func131, Tryz.ntmps131
  go_wp2
  go_loopw [16] (fun i wr => ∃ k : Nat, k ≤ cs.length ∧ i = .int .i64 k ∧ HalfC cs w k wr) (fun i wr => cs.length - (intOf i).toNat)
  case atStart =>
    refine ⟨0, by omega, rfl, (Below.refl _ _).alloc (Nat.le_refl _) _, by simp, rfl, ?_⟩
    simp only [List.take_zero, List.foldl_nil, Cof]; rw [← zero_tab]; exact blk_new _ _
  case round =>
   obtain ⟨k, hk, rfl, hb, hsz, hall, hblk⟩ := hrel
   by_cases hlt : k < cs.length
   · have hck : cs[k]? = some cs[k] := by simp
     obtain ⟨b, o, rfl, hc0⟩ := HSA.out.at k hlt
     have g0 : wr.cell? ⟨b, o + k * 3, none⟩ = some (.int .i64 cs[k].lo) := below_cell hb (Nat.le_refl _) (hc0 0 _ rfl)
     have g1 : wr.cell? ⟨b, o + k * 3 + 1, none⟩ = some (.int .i64 cs[k].hi) := below_cell hb (Nat.le_refl _) (hc0 1 _ rfl)
     have g2 : wr.cell? ⟨b, o + k * 3 + 2, none⟩ = some (.int .i64 cs[k].n) := below_cell hb (Nat.le_refl _) (hc0 2 _ rfl)
     have HT := Lib.hid (take_snoc hlt)
     have HCK := Lib.hid hck
     generalize cs[k] = c at *
     have HA := Lib.hid hall
     have HK := Lib.hid hblk
     have HBE := Lib.hid hb
     clear hc0 hck hall hblk hb
     go_wp2_with fail
     refine (span_any c _).mono ?_
     rintro e w1 ⟨rfl, hb1⟩
     have hs1 := hb1.size
     rw [size_alloc] at hs1 hb1
     have hw1 : w1.heap[wr.heap.size]? = some (.cells #[.int .i64 c.lo, .int .i64 c.hi, .int .i64 c.n] 181 (0, 0)) := blk_below hb1 (by omega) (blk_new _ _)
     have hw2 : w1.heap[w.heap.size]? = some (.cells (tabArr (Cof (cs.take k)) (fun _ _ => false)) 266 (0, 0)) := blk_below hb1 (by omega) (blk_alloc HK.out _)
     have hb2 : Below w.heap.size w w1 := below_then (HBE.out.alloc HBE.out.size _) (by omega) hb1
     have c0 : w1.cell? ⟨wr.heap.size, 0, none⟩ = some (.int .i64 c.lo) := blk_cell hw1 0
     have c1 : w1.cell? ⟨wr.heap.size, 1, none⟩ = some (.int .i64 c.hi) := blk_cell hw1 1
     have c2 : w1.cell? ⟨wr.heap.size, 2, none⟩ = some (.int .i64 c.n) := blk_cell hw1 2
     have HB2 := Lib.hid hb2
     have HW2 := Lib.hid hw2
     have HW1 := Lib.hid hw1
     clear hb1 hb2 hw1 hw2 HBE HK g0 g1 g2
     cases hs : spanB c with
     | false =>
       have HF := Lib.hid (all_false HCK.out hs)
       clear hs
       go_wp2_with fail
       go_ret2
       exact new_bad HB2.out (.inl HF.out)
     | true =>
       have hsb := hs
       simp only [spanB, decide_eq_true_eq] at hsb
       obtain ⟨s0, s1, s2, s3, s4⟩ := hsb
       have HS := Lib.hid hs
       clear hs
       obtain ⟨lo, hi, n⟩ := c
       simp only at *
       obtain ⟨lo, rfl⟩ := Int.eq_ofNat_of_zero_le s0
       obtain ⟨hi, rfl⟩ := Int.eq_ofNat_of_zero_le (show 0 ≤ hi by omega)
       have HT2 := Lib.hid (show lo ≤ hi from by omega)
       go_wp2_with fail
       go_loopw [9] (fun i wi => ∃ q : Nat, lo ≤ q ∧ q ≤ hi + 1 ∧ i = .int .i64 q ∧ Below w.heap.size w wi ∧ wr.heap.size < wi.heap.size ∧
          wi.heap[wr.heap.size]? = some (.cells #[.int .i64 (lo : Int), .int .i64 (hi : Int), .int .i64 n] 181 (0, 0)) ∧
          wi.heap[w.heap.size]? = some (.cells (tabArr (fun j => if lo ≤ j ∧ j < q then n else Cof (cs.take k) j) (fun _ _ => false)) 266 (0, 0))) (fun i _ => hi + 1 - (intOf i).toNat)
       case atStart =>
         refine ⟨lo, Nat.le_refl _, by omega, rfl, HB2.out, by omega, HW1.out, ?_⟩
         rw [HW2.out]
         congr 3
         funext j
         rw [if_neg (by omega)]
       case round =>
         obtain ⟨q, q1, q2, rfl, k1, k2, k3, k4⟩ := hrel
         have H1 := Lib.hid k1
         have H3 := Lib.hid k3
         have H4 := Lib.hid k4
         clear c0 c1 c2
         rename World => wi
         have c1 : wi.cell? ⟨wr.heap.size, 1, none⟩ = some (.int .i64 (hi : Int)) := blk_cell k3 1
         have c2 : wi.cell? ⟨wr.heap.size, 2, none⟩ = some (.int .i64 n) := blk_cell k3 2
         clear k1 k3 k4
         by_cases hq : q ≤ hi
         · have d1 := blk_cell H4.out q
           rw [tab_cls _ _ _ (by omega)] at d1
           have d2 := blk_froz H4.out q
           go_wp2_with fail
           go_region
           go_wp2_with fail
           go_roundw
           case rel =>
             refine ⟨q + 1, by omega, by omega, by go_num, ?_, ?_, ?_, ?_⟩
             · exact ((H1.out.drew).setCell (Nat.le_refl _) _)
             · simpa using k2
             · exact blk_far H3.out (by simp; omega) _
             · refine (blk_set (w := wi.drew) H4.out q _).trans ?_
               rw [tab_setC _ _ _ _ (by omega), fill_step _ _ _ _ q1]
           case measure => simp [intOf]; omega
         · obtain rfl : q = hi + 1 := by omega
           go_wp2_with fail
           go_roundw
           case rel =>
             refine ⟨k + 1, by omega, by go_num, H1.out, by omega, ?_, ?_⟩
             · rw [HT.out, all_snoc, HA.out, HS.out]; rfl
             · rw [H4.out, HT.out, Cof_snoc]
               congr 3
               funext j
               unfold putC
               simp only
               congr 1
               simp only [eq_iff_iff]
               omega
           case measure => simp [intOf]; omega
   · obtain rfl : k = cs.length := by omega
     rw [List.take_length] at hall hblk
     have HA := Lib.hid hall
     have HBE := Lib.hid hb
     have HK := Lib.hid hblk
     clear hall hb hblk
     go_wp2_with fail
     go_loopw [41] (fun i wr => ∃ k : Nat, k ≤ js.length ∧ i = .int .i64 k ∧ Half cs js w k wr) (fun i wr => js.length - (intOf i).toNat)
     case atStart => exact ⟨0, by omega, rfl, HBE.out, hsz, rfl, HK.out⟩
     case round =>
      obtain ⟨k, hk, rfl, hb, hsz, hall, hblk⟩ := hrel
      clear HK HBE
      rename World => wj
      by_cases hlt : k < js.length
      · have hck : js[k]? = some js[k] := by simp
        obtain ⟨b, o, rfl, hc0⟩ := HB.out.at k hlt
        have g0 : wj.cell? ⟨b, o + k * 2, none⟩ = some (.int .i64 js[k].a) := below_cell hb (Nat.le_refl _) (hc0 0 _ rfl)
        have g1 : wj.cell? ⟨b, o + k * 2 + 1, none⟩ = some (.int .i64 js[k].b) := below_cell hb (Nat.le_refl _) (hc0 1 _ rfl)
        have HT := Lib.hid (take_snoc hlt)
        have HCK := Lib.hid hck
        generalize js[k] = c at *
        have HAJ := Lib.hid hall
        have HK := Lib.hid hblk
        have HBE := Lib.hid hb
        clear hc0 hck hall hblk hb
        cases ha : clsB c.a with
        | false =>
          have HF := Lib.hid (all_false (p := jnB) HCK.out (by simp [jnB, ha]))
          have HNA := Lib.hid ha
          clear ha
          go_wp2_with (go_at_call 157; refine (class_any _ _).mono ?_; rw [HNA.out]; rintro e w' ⟨rfl, rfl⟩)
          go_ret2
          exact new_bad (HBE.out.alloc HBE.out.size _) (.inr HF.out)
        | true =>
          have HNA := Lib.hid ha
          clear ha
          cases hb' : clsB c.b with
          | false =>
            have HF := Lib.hid (all_false (p := jnB) HCK.out (by simp [jnB, hb']))
            have HNB := Lib.hid hb'
            clear hb'
            go_wp2_with (go_at_call 157; refine (class_any _ _).mono ?_; (first | rw [HNA.out] | rw [HNB.out]); rintro e w' ⟨rfl, rfl⟩)
            go_ret2
            exact new_bad (HBE.out.alloc HBE.out.size _) (.inr HF.out)
          | true =>
            have HJ := Lib.hid (show jnB c = true by simp [jnB, HNA.out, hb'])
            have HNB := Lib.hid hb'
            clear hb'
            obtain ⟨ja, jb⟩ := c
            simp only at *
            have ba := HNA.out
            have bb := HNB.out
            simp only [clsB, decide_eq_true_eq] at ba bb
            obtain ⟨ba0, ba1⟩ := ba
            obtain ⟨bb0, bb1⟩ := bb
            obtain ⟨ja, rfl⟩ := Int.eq_ofNat_of_zero_le ba0
            obtain ⟨jb, rfl⟩ := Int.eq_ofNat_of_zero_le bb0
            have d1 := blk_cell HK.out (256 + ja * 16 + jb)
            rw [tab_jn _ _ _ _ (by omega) (by omega)] at d1
            have d2 := blk_froz HK.out (256 + ja * 16 + jb)
            have d1' : (wj.alloc (.cells #[.int .i64 (ja : Int), .int .i64 (jb : Int)] 182)).cell? ⟨w.heap.size, 256 + ja * 16 + jb, none⟩ = _ := below_cell ((Below.refl wj.heap.size wj).alloc (Nat.le_refl _) _) (Nat.le_refl _) d1
            have d2' : (wj.alloc (.cells #[.int .i64 (ja : Int), .int .i64 (jb : Int)] 182)).frozen? ⟨w.heap.size, 256 + ja * 16 + jb, none⟩ = false := blk_froz (blk_alloc HK.out _) _
            go_wp2_with (go_at_call 157; refine (class_any _ _).mono ?_; (first | rw [HNA.out] | rw [HNB.out]); rintro e w' ⟨rfl, rfl⟩)
            go_region
            go_wp2_with fail
            go_roundw
            case rel =>
              refine ⟨k + 1, by omega, by go_num, ?_, ?_, ?_, ?_⟩
              · exact (((HBE.out.setCell (p := ⟨w.heap.size, _, none⟩) (Nat.le_refl _) _).alloc (by have := HBE.out.size; simp; omega) _).drew)
              · simp; omega
              · rw [HT.out, all_snoc, HAJ.out, HJ.out]; rfl
              · refine (blk_drew (blk_alloc (blk_set HK.out _ _) _)).trans ?_
                rw [tab_setJ _ _ _ _ _ (by omega) (by omega), HT.out, Jof_snoc]
                congr 3
                funext x y
                unfold putJ
                simp only
                congr 1
                simp only [eq_iff_iff]
                omega
            case measure => simp [intOf]; omega
      · obtain rfl : k = js.length := by omega
        rw [List.take_length] at hall hblk
        have HAJ := Lib.hid hall
        have HBE := Lib.hid hb
        have HK := Lib.hid hblk
        clear hall hb hblk
        go_wp2_with fail
        go_ret2
        exact new_good HBE.out HA.out HAJ.out (Nat.le_refl _) HK.out
open Go.ChangeShapes Go.WideShapes Go.Deep
def RetTrue (w : World) (e : Ending) (w' : World) : Prop := e = .returned (.bool true) ∧ Go.RowKit.Below w.heap.size w w'
theorem addr_plain {w : World} {a : Addr} {v : Value} (h : w.cell? a = some v) : a = ⟨a.block, a.off, none⟩ := by
  have := World.cell?_spot h
  cases a
  simp_all
def encInts (k : IntKind) (l : List Int) : List Value := l.map (Value.int k)
section
variable {H : Type} {enc : TypeId × Value → H} {P : Program} {w : World} {base : Nat} {spare : Nat → Bool} {held : Bool}
theorem arg_ints {t e : TypeId} {k : IntKind} {fuel : Nat} {A : Option Addr} {n c : Nat} {x : DataW H × List MemPlace} (ht : P.underlying t = some (.slice e)) (he : P.underlying e = some (.int k)) (hC : P.cellsOf e = 1)
    (h : DataW.trod enc P w base spare held fuel t [.slice A n c] = some x) :
    ∃ xs : List Int, xs.length = n ∧ n ≤ c ∧ c ≤ maxLen ∧ (∀ y ∈ xs, (Lit.int k y).wf = true) ∧ Sl1 w A (Value.int k) xs := by
  rcases open_slice1 ht hC h with ⟨h0, _⟩ | ⟨a, len, cap, m, f, V, D, Pl, hcs, hb, hl, hm, hmm, hx, hi⟩
  · cases h0
    exact ⟨[], rfl, Nat.le_refl _, Nat.zero_le _, by simp, Sl1.nil _ _ _⟩
  · cases hcs
    have hlm : n ≤ m := by rw [hmm]; split <;> omega
    obtain ⟨g, hg⟩ := choose_lt (α := Int) (p := fun i y => V i = .int k y ∧ (Lit.int k y).wf = true) (n := m) (fun i him => by
      obtain ⟨_, h2⟩ := hi i him
      obtain ⟨y, e1, _, e3⟩ := DataW.trod_int he h2
      exact ⟨y, by simpa using e1, e3⟩)
    refine ⟨(List.range n).map g, by simp, hl, hm, ?_, ?_⟩
    · intro y hy
      obtain ⟨i, hir, rfl⟩ := List.mem_map.1 hy
      rw [List.mem_range] at hir
      exact (hg i (by omega)).2
    · intro i y hy
      rw [List.getElem?_map, Option.map_eq_some_iff] at hy
      obtain ⟨i', hi', rfl⟩ := hy
      obtain ⟨hlt, hi''⟩ := List.getElem?_eq_some_iff.1 hi'
      rw [List.getElem_range] at hi''
      subst hi''
      rw [List.length_range] at hlt
      have hc := (hi i (by omega)).1
      rw [(hg i (by omega)).1] at hc
      have h0 := addr_plain (hi 0 (by omega)).1
      have ha : a = ⟨a.block, a.off, none⟩ := by
        have : a.add 0 = a := by unfold Addr.add; simp
        rwa [this] at h0
      refine ⟨a.block, a.off, by rw [← ha], ?_⟩
      rw [ha] at hc
      have hadd := add_plain a.block a.off i
      rwa [hadd] at hc
def allInts (P : Program) (fs : Array Field) : Prop := ∀ (j : Nat) (f : Field), fs[j]? = some f → P.underlying f.type = some (.int .i64)
theorem arg_structs {t e : TypeId} {fs : Array Field} {fuel : Nat} {A : Option Addr} {n c : Nat} {x : DataW H × List MemPlace} (ht : P.underlying t = some (.slice e)) (he : P.underlying e = some (.struct fs))
    (hone : oneCellFields P fs = true) (hC : P.cellsOf e = fs.size) (hint : allInts P fs) (h0s : 0 < fs.size)
    (h : DataW.trod enc P w base spare held fuel t [.slice A n c] = some x) :
    ∃ xs : List (List Int), xs.length = n ∧ n ≤ c ∧ c ≤ maxLen ∧ (∀ y ∈ xs, y.length = fs.size ∧ ∀ z ∈ y, (Lit.int .i64 z).wf = true) ∧ Sl w A (encInts .i64) fs.size xs := by
  rcases open_slice ht h with ⟨h0, _⟩ | ⟨a, len, cap, m, f, D, Pl, hcs, hb, hl, hm, hmm, hx, hi⟩
  · cases h0
    exact ⟨[], rfl, Nat.le_refl _, Nat.zero_le _, by simp, Sl.nil _ _ _ _⟩
  · cases hcs
    have hlm : n ≤ m := by rw [hmm]; split <;> omega
    obtain ⟨g, hg⟩ := choose_lt (α := List Int) (p := fun i y => y.length = fs.size ∧ (∀ z ∈ y, (Lit.int .i64 z).wf = true) ∧ ∀ j z, y[j]? = some z → w.cell? (a.add (i * fs.size + j)) = some (.int .i64 z)) (n := m) (fun i him => by
      obtain ⟨cs', hc, ht'⟩ := hi i him
      rw [hC] at hc
      obtain ⟨ys, n', hn', hy, hlen, hyl, hf⟩ := DataW.trod_struct he ht'
      obtain ⟨_, hcl, hat⟩ := World.cells?_some hc
      have key : ∀ j, j < fs.size → ∃ z, cs'[j]? = some (.int .i64 z) ∧ (Lit.int .i64 z).wf = true := by
        intro j hjl
        obtain ⟨fj, hj⟩ : ∃ fj, fs[j]? = some fj := ⟨fs[j], by simp [hjl]⟩
        obtain ⟨ho, hk⟩ := hone_of hone j fj hj
        have h1 := hf j fj hj
        rw [ho, hk] at h1
        have hone' : (cs'.drop j).take 1 = [cs'[j]'(by omega)] := by
          rw [List.drop_eq_getElem_cons (by omega)]
          rfl
        rw [hone'] at h1
        have hys : ys[j]? = some (ys[j]'(by omega)) := List.getElem?_eq_getElem (by omega)
        rw [hys] at h1
        obtain ⟨z, e1, _, e3⟩ := DataW.trod_int (hint j fj hj) h1
        refine ⟨z, ?_, e3⟩
        rw [List.getElem?_eq_getElem (by omega)]
        simpa using e1
      obtain ⟨q, hq⟩ := choose_lt (α := Int) key
      refine ⟨(List.range fs.size).map q, by simp, ?_, ?_⟩
      · intro z hz
        obtain ⟨j, hj, rfl⟩ := List.mem_map.1 hz
        exact (hq j (List.mem_range.1 hj)).2
      · intro j z hz
        rw [List.getElem?_map, Option.map_eq_some_iff] at hz
        obtain ⟨j', hj', rfl⟩ := hz
        obtain ⟨hlt, hj''⟩ := List.getElem?_eq_some_iff.1 hj'
        rw [List.getElem_range] at hj''
        subst hj''
        rw [List.length_range] at hlt
        rw [← Go.Deep.add_add, hat j hlt, (hq j hlt).1])
    refine ⟨(List.range n).map g, by simp, hl, hm, ?_, ?_⟩
    · intro y hy
      obtain ⟨i, hir, rfl⟩ := List.mem_map.1 hy
      rw [List.mem_range] at hir
      exact ⟨(hg i (by omega)).1, (hg i (by omega)).2.1⟩
    · intro i y hy
      rw [List.getElem?_map, Option.map_eq_some_iff] at hy
      obtain ⟨i', hi', rfl⟩ := hy
      obtain ⟨hlt, hi''⟩ := List.getElem?_eq_some_iff.1 hi'
      rw [List.getElem_range] at hi''
      subst hi''
      rw [List.length_range] at hlt
      obtain ⟨z0, hz0⟩ : ∃ z, (g 0)[0]? = some z := ⟨(g 0)[0]'(by rw [(hg 0 (by omega)).1]; exact h0s), by simp⟩
      have h0 := addr_plain ((hg 0 (by omega)).2.2 0 z0 hz0)
      have ha : a = ⟨a.block, a.off, none⟩ := by
        have : a.add (0 * fs.size + 0) = a := by unfold Addr.add; simp
        rwa [this] at h0
      refine ⟨a.block, a.off, by rw [← ha], fun j v hv => ?_⟩
      unfold encInts at hv
      rw [List.getElem?_map, Option.map_eq_some_iff] at hv
      obtain ⟨z, hz, rfl⟩ := hv
      have hc := (hg i (by omega)).2.2 j z hz
      rw [ha] at hc
      have hadd := add_plain a.block a.off
      rw [hadd, ← Nat.add_assoc] at hc
      exact hc
end
section
variable {H : Type} {enc : TypeId × Value → H} {P : Program} {w : World} {base : Nat} {spare : Nat → Bool} {held : Bool}
theorem open_fields {r : Reach} {b0 : Nat} {t : TypeId} {fs : Array Field} {v : Value} {d : DataW H} {p : List MemPlace} (hs : P.underlying t = some (.struct fs)) (hone : oneCellFields P fs = true) (hC : P.cellsOf t = fs.size)
    (hv : Value.okWide P w r b0 t v) (h : DataW.Trod enc P w base spare held t v d p) :
    ∃ (vs : List Value) (n : Nat), v = .agg vs.toArray ∧ vs.length = fs.size ∧ ∀ (j : Nat) (f : Field), fs[j]? = some f → ∃ x y, vs[j]? = some x ∧ DataW.trod enc P w base spare held n f.type [x] = some y := by
  obtain ⟨cs, rfl, hsz⟩ := okWide_struct hs hv
  obtain ⟨fuel, hf⟩ := h
  obtain ⟨ys, n, hn, hx, hlen, hyl, hfy⟩ := DataW.trod_struct hs hf
  have hcs : cs.size = fs.size := hsz.trans hC
  refine ⟨cs.toList, n, by simp, by simpa using hcs, ?_⟩
  intro j f hj
  obtain ⟨ho, hk⟩ := hone_of hone j f hj
  have hjl : j < fs.size := (Array.getElem?_eq_some_iff.1 hj).1
  have h1 := hfy j f hj
  rw [ho, hk] at h1
  have hjc : j < cs.toList.length := by rw [Array.length_toList, hcs]; exact hjl
  have hv1 : (Value.agg cs).cells.toList = cs.toList := rfl
  have hone' : (cs.toList.drop j).take 1 = [cs.toList[j]'hjc] := by
    rw [List.drop_eq_getElem_cons hjc]
    rfl
  have hys : ys[j]? = some (ys[j]'(by omega)) := List.getElem?_eq_getElem (by omega)
  rw [hv1, hone', hys] at h1
  exact ⟨_, _, List.getElem?_eq_getElem hjc, h1⟩
theorem list4 {α : Type} {l : List α} (h : l.length = 4) : ∃ a b c d, l = [a, b, c, d] := by
  match l, h with
  | [a, b, c, d], _ => exact ⟨a, b, c, d, rfl⟩
theorem arg_cells {t e : TypeId} {fs : Array Field} {fuel : Nat} {A : Option Addr} {n c : Nat} {x : DataW H × List MemPlace} (ht : P.underlying t = some (.slice e)) (he : P.underlying e = some (.struct fs))
    (hone : oneCellFields P fs = true) (hC : P.cellsOf e = fs.size) (h0s : 0 < fs.size)
    (h : DataW.trod enc P w base spare held fuel t [.slice A n c] = some x) :
    ∃ xs : List (List Value), xs.length = n ∧ n ≤ c ∧ c ≤ maxLen ∧ (∀ y ∈ xs, y.length = fs.size ∧ ∀ (j : Nat) (f : Field) (v : Value), fs[j]? = some f → y[j]? = some v → ∃ m d, DataW.trod enc P w base spare held m f.type [v] = some d) ∧ Sl w A (fun y => y) fs.size xs := by
  rcases open_slice ht h with ⟨h0, _⟩ | ⟨a, len, cap, m, f, D, Pl, hcs, hb, hl, hm, hmm, hx, hi⟩
  · cases h0
    exact ⟨[], rfl, Nat.le_refl _, Nat.zero_le _, by simp, Sl.nil _ _ _ _⟩
  · cases hcs
    have hlm : n ≤ m := by rw [hmm]; split <;> omega
    obtain ⟨g, hg⟩ := choose_lt (α := List Value) (p := fun i y => y.length = fs.size ∧ (∀ (j : Nat) (f : Field) (v : Value), fs[j]? = some f → y[j]? = some v → ∃ m d, DataW.trod enc P w base spare held m f.type [v] = some d) ∧ ∀ j z, y[j]? = some z → w.cell? (a.add (i * fs.size + j)) = some z) (n := m) (fun i him => by
      obtain ⟨cs', hc, ht'⟩ := hi i him
      rw [hC] at hc
      obtain ⟨ys, n', hn', hy, hlen, hyl, hf⟩ := DataW.trod_struct he ht'
      obtain ⟨_, hcl, hat⟩ := World.cells?_some hc
      have hcl2 : cs'.length = fs.size := by rw [hlen]; exact hC
      refine ⟨cs', hcl2, ?_, ?_⟩
      · intro j fj v hj hv
        obtain ⟨ho, hk⟩ := hone_of hone j fj hj
        have hjl : j < fs.size := (Array.getElem?_eq_some_iff.1 hj).1
        have h1 := hf j fj hj
        rw [ho, hk] at h1
        have hjc : j < cs'.length := by omega
        have hone' : (cs'.drop j).take 1 = [cs'[j]'hjc] := by
          rw [List.drop_eq_getElem_cons hjc]
          rfl
        rw [List.getElem?_eq_getElem hjc] at hv
        have hv := Option.some.inj hv
        rw [hone', hv] at h1
        have hys : ys[j]? = some (ys[j]'(by omega)) := List.getElem?_eq_getElem (by omega)
        rw [hys] at h1
        exact ⟨_, _, h1⟩
      · intro j z hz
        obtain ⟨hjc, hz⟩ := List.getElem?_eq_some_iff.1 hz
        rw [← Go.Deep.add_add, hat j (by omega), List.getElem?_eq_getElem hjc, hz])
    refine ⟨(List.range n).map g, by simp, hl, hm, ?_, ?_⟩
    · intro y hy
      obtain ⟨i, hir, rfl⟩ := List.mem_map.1 hy
      rw [List.mem_range] at hir
      exact ⟨(hg i (by omega)).1, (hg i (by omega)).2.1⟩
    · intro i y hy
      rw [List.getElem?_map, Option.map_eq_some_iff] at hy
      obtain ⟨i', hi', rfl⟩ := hy
      obtain ⟨hlt, hi''⟩ := List.getElem?_eq_some_iff.1 hi'
      rw [List.getElem_range] at hi''
      subst hi''
      rw [List.length_range] at hlt
      obtain ⟨z0, hz0⟩ : ∃ z, (g 0)[0]? = some z := ⟨(g 0)[0]'(by rw [(hg 0 (by omega)).1]; exact h0s), by simp⟩
      have h0 := addr_plain ((hg 0 (by omega)).2.2 0 z0 hz0)
      have ha : a = ⟨a.block, a.off, none⟩ := by
        have : a.add (0 * fs.size + 0) = a := by unfold Addr.add; simp
        rwa [this] at h0
      refine ⟨a.block, a.off, by rw [← ha], fun j v hv => ?_⟩
      have hc := (hg i (by omega)).2.2 j v hv
      rw [ha] at hc
      have hadd := add_plain a.block a.off
      rw [hadd, ← Nat.add_assoc] at hc
      exact hc
def encIS (x : Int × List UInt8) : List Value := [.int .i64 x.1, strV x.2]
theorem choose_list {α β : Type} {p : α → β → Prop} : ∀ (xs : List α), (∀ x ∈ xs, ∃ y, p x y) → ∃ ys : List β, ys.length = xs.length ∧ ∀ (i : Nat) (y : β), ys[i]? = some y → ∃ x, xs[i]? = some x ∧ p x y
  | [], _ => ⟨[], rfl, fun i y h => by simp at h⟩
  | x :: xs, h => by
    obtain ⟨y, hy⟩ := h x (by simp)
    obtain ⟨ys, hl, hys⟩ := choose_list xs (fun z hz => h z (by simp [hz]))
    refine ⟨y :: ys, by simp [hl], ?_⟩
    intro i z hz
    cases i with
    | zero => simp at hz; subst hz; exact ⟨x, rfl, hy⟩
    | succ i => simp at hz; obtain ⟨u, h1, h2⟩ := hys i z hz; exact ⟨u, by simpa using h1, h2⟩
theorem arg_pairs {t e : TypeId} {f0 f1 : Field} {fuel : Nat} {A : Option Addr} {n c : Nat} {x : DataW H × List MemPlace} (ht : P.underlying t = some (.slice e)) (he : P.underlying e = some (.struct #[f0, f1]))
    (hone : oneCellFields P #[f0, f1] = true) (hC : P.cellsOf e = 2) (h0 : P.underlying f0.type = some (.int .i64)) (h1 : P.underlying f1.type = some .string)
    (h : DataW.trod enc P w base spare held fuel t [.slice A n c] = some x) :
    ∃ xs : List (Int × List UInt8), xs.length = n ∧ n ≤ c ∧ c ≤ maxLen ∧ (∀ y ∈ xs, (Lit.int .i64 y.1).wf = true ∧ y.2.length ≤ maxLen) ∧ Sl w A encIS 2 xs := by
  obtain ⟨xs, hl, hn, hc, hw, hs⟩ := arg_cells ht he hone hC (by show 0 < 2; decide) h
  obtain ⟨ys, hyl, hys⟩ := choose_list (p := fun y (z : Int × List UInt8) => y = [.int .i64 z.1, strV z.2] ∧ (Lit.int .i64 z.1).wf = true ∧ z.2.length ≤ maxLen) xs (by
    intro y hy
    obtain ⟨h2, h3⟩ := hw y hy
    match y, h2 with
    | [a, b], _ =>
      obtain ⟨m0, d0, t0⟩ := h3 0 f0 a rfl rfl
      obtain ⟨m1, d1, t1⟩ := h3 1 f1 b rfl rfl
      obtain ⟨z, e0, _, w0⟩ := DataW.trod_int h0 t0
      obtain ⟨s, e1, _, w1⟩ := DataW.trod_string h1 t1
      simp at e0 e1
      subst e0; subst e1
      exact ⟨(z, s.data.toList), by simp [strV, bs_data], w0, by simpa using w1⟩)
  refine ⟨ys, by rw [hyl, hl], hn, hc, ?_, ?_⟩
  · intro y hy
    obtain ⟨i, hi, rfl⟩ := List.getElem_of_mem hy
    obtain ⟨x, _, _, h2⟩ := hys i _ (List.getElem?_eq_getElem hi)
    exact h2
  · intro i y hy
    obtain ⟨x, hx, h2, _⟩ := hys i y hy
    obtain ⟨b, o, e, hcc⟩ := hs i x hx
    exact ⟨b, o, e, fun j v hv => hcc j v (by rw [h2]; exact hv)⟩
end
def inR (n lo hi : Int) : Bool := decide (lo ≤ n) && decide (n ≤ hi)
def mrgR (x : Int × Int) : Bool := inR x.1 0 999 && inR x.2 0 999
def txtR (x : ByteArray) : Bool := inR x.size 2 64
def splR (x : Int × ByteArray) : Bool := inR x.1 0 1073741824 && inR x.2.size 1 64
def clsR (x : Cls) : Bool := inR x.lo 0 x.hi && decide (x.hi ≤ 255) && inR x.n 0 15
def jnR (x : Jn) : Bool := inR x.a 0 15 && inR x.b 0 15
theorem within_any (n lo hi : Int) (w : World) : Calls Tryz.prog 144 #[.int .i64 n, .int .i64 lo, .int .i64 hi] w fun e w' => e = .returned (.bool (inR n lo hi)) ∧ w' = w := by
  unfold inR
  by_cases h : lo ≤ n
  · rw [decide_eq_true h]
    go_enter Tryz.func144, Tryz.ntmps144
    go_wp2_with fail
    go_ret
    exact ⟨rfl, rfl⟩
  · rw [decide_eq_false h]
    go_enter Tryz.func144, Tryz.ntmps144
    go_wp2_with fail
    go_ret
    exact ⟨rfl, rfl⟩
theorem pred_Mrg (x : Int × Int) (w : World) : Calls Tryz.prog 118 #[.agg #[.int .i64 x.1, .int .i64 x.2]] w fun e w' => e = .returned (.bool (mrgR x)) ∧ Below w.heap.size w w' := by
  obtain ⟨x1, x2⟩ := x
  have HB := Lib.hid ((Below.refl w.heap.size w).alloc (Nat.le_refl _) (.cells #[.int .i64 x1, .int .i64 x2] 113))
  unfold mrgR
  (try simp only)
  obtain ⟨b0, hb0⟩ : ∃ b, (inR x1 0 999) = b := ⟨_, rfl⟩
  rw [hb0]
  have B0 := Lib.hid hb0
  clear hb0
  obtain ⟨b1, hb1⟩ : ∃ b, (inR x2 0 999) = b := ⟨_, rfl⟩
  rw [hb1]
  have B1 := Lib.hid hb1
  clear hb1
  rcases b0 with _ | _
  ·
    go_enter Tryz.func118, Tryz.ntmps118
    go_wp2_with (go_at_call 144; (refine (within_any _ _ _ _).mono ?_); (rintro e V1 ⟨rfl, rfl⟩); (try rw [B0.out]); (try rw [B1.out]))
    go_ret
    exact ⟨rfl, HB.out⟩
  ·
    rcases b1 with _ | _
    ·
      go_enter Tryz.func118, Tryz.ntmps118
      go_wp2_with (go_at_call 144; (refine (within_any _ _ _ _).mono ?_); (rintro e V1 ⟨rfl, rfl⟩); (try rw [B0.out]); (try rw [B1.out]))
      go_ret
      exact ⟨rfl, HB.out⟩
    ·
      go_enter Tryz.func118, Tryz.ntmps118
      go_wp2_with (go_at_call 144; (refine (within_any _ _ _ _).mono ?_); (rintro e V1 ⟨rfl, rfl⟩); (try rw [B0.out]); (try rw [B1.out]))
      go_ret
      exact ⟨rfl, HB.out⟩
theorem pred_Txt (x : ByteArray) (w : World) : Calls Tryz.prog 120 #[.string x] w fun e w' => e = .returned (.bool (txtR x)) ∧ Below w.heap.size w w' := by
  have HB := Lib.hid (Below.refl w.heap.size w)
  unfold txtR
  (try simp only)
  obtain ⟨b0, hb0⟩ : ∃ b, (inR x.size 2 64) = b := ⟨_, rfl⟩
  rw [hb0]
  have B0 := Lib.hid hb0
  clear hb0
  rcases b0 with _ | _
  ·
    go_enter Tryz.func120, Tryz.ntmps120
    go_wp2_with (go_at_call 144; (refine (within_any _ _ _ _).mono ?_); (rintro e V1 ⟨rfl, rfl⟩); (try rw [B0.out]))
    go_ret
    exact ⟨rfl, HB.out⟩
  ·
    go_enter Tryz.func120, Tryz.ntmps120
    go_wp2_with (go_at_call 144; (refine (within_any _ _ _ _).mono ?_); (rintro e V1 ⟨rfl, rfl⟩); (try rw [B0.out]))
    go_ret
    exact ⟨rfl, HB.out⟩
theorem pred_Spl (x : Int × ByteArray) (w : World) : Calls Tryz.prog 122 #[.agg #[.int .i64 x.1, .string x.2]] w fun e w' => e = .returned (.bool (splR x)) ∧ Below w.heap.size w w' := by
  obtain ⟨x1, x2⟩ := x
  have HB := Lib.hid ((Below.refl w.heap.size w).alloc (Nat.le_refl _) (.cells #[.int .i64 x1, .string x2] 170))
  unfold splR
  (try simp only)
  obtain ⟨b0, hb0⟩ : ∃ b, (inR x1 0 1073741824) = b := ⟨_, rfl⟩
  rw [hb0]
  have B0 := Lib.hid hb0
  clear hb0
  obtain ⟨b1, hb1⟩ : ∃ b, (inR x2.size 1 64) = b := ⟨_, rfl⟩
  rw [hb1]
  have B1 := Lib.hid hb1
  clear hb1
  rcases b0 with _ | _
  ·
    go_enter Tryz.func122, Tryz.ntmps122
    go_wp2_with (go_at_call 144; (refine (within_any _ _ _ _).mono ?_); (rintro e V1 ⟨rfl, rfl⟩); (try rw [B0.out]); (try rw [B1.out]))
    go_ret
    exact ⟨rfl, HB.out⟩
  ·
    rcases b1 with _ | _
    ·
      go_enter Tryz.func122, Tryz.ntmps122
      go_wp2_with (go_at_call 144; (refine (within_any _ _ _ _).mono ?_); (rintro e V1 ⟨rfl, rfl⟩); (try rw [B0.out]); (try rw [B1.out]))
      go_ret
      exact ⟨rfl, HB.out⟩
    ·
      go_enter Tryz.func122, Tryz.ntmps122
      go_wp2_with (go_at_call 144; (refine (within_any _ _ _ _).mono ?_); (rintro e V1 ⟨rfl, rfl⟩); (try rw [B0.out]); (try rw [B1.out]))
      go_ret
      exact ⟨rfl, HB.out⟩
theorem pred_Cls (x : Cls) (w : World) : Calls Tryz.prog 124 #[.agg #[.int .i64 x.lo, .int .i64 x.hi, .int .i64 x.n]] w fun e w' => e = .returned (.bool (clsR x)) ∧ Below w.heap.size w w' := by
  obtain ⟨x1, x2, x3⟩ := x
  have HB := Lib.hid ((Below.refl w.heap.size w).alloc (Nat.le_refl _) (.cells #[.int .i64 x1, .int .i64 x2, .int .i64 x3] 181))
  unfold clsR
  (try simp only)
  obtain ⟨b0, hb0⟩ : ∃ b, (inR x1 0 x2) = b := ⟨_, rfl⟩
  rw [hb0]
  have B0 := Lib.hid hb0
  clear hb0
  obtain ⟨b2, hb2⟩ : ∃ b, (inR x3 0 15) = b := ⟨_, rfl⟩
  rw [hb2]
  have B2 := Lib.hid hb2
  clear hb2
  rcases b0 with _ | _
  ·
    go_enter Tryz.func124, Tryz.ntmps124
    go_wp2_with (go_at_call 144; (refine (within_any _ _ _ _).mono ?_); (rintro e V1 ⟨rfl, rfl⟩); (try rw [B0.out]); (try rw [B2.out]))
    go_ret
    exact ⟨rfl, HB.out⟩
  ·
    by_cases g1 : x2 ≤ 255
    ·
      rw [decide_eq_true g1]
      rcases b2 with _ | _
      ·
        go_enter Tryz.func124, Tryz.ntmps124
        go_wp2_with (go_at_call 144; (refine (within_any _ _ _ _).mono ?_); (rintro e V1 ⟨rfl, rfl⟩); (try rw [B0.out]); (try rw [B2.out]))
        go_ret
        exact ⟨rfl, HB.out⟩
      ·
        go_enter Tryz.func124, Tryz.ntmps124
        go_wp2_with (go_at_call 144; (refine (within_any _ _ _ _).mono ?_); (rintro e V1 ⟨rfl, rfl⟩); (try rw [B0.out]); (try rw [B2.out]))
        go_ret
        exact ⟨rfl, HB.out⟩
    ·
      rw [decide_eq_false g1]
      go_enter Tryz.func124, Tryz.ntmps124
      go_wp2_with (go_at_call 144; (refine (within_any _ _ _ _).mono ?_); (rintro e V1 ⟨rfl, rfl⟩); (try rw [B0.out]); (try rw [B2.out]))
      go_ret
      exact ⟨rfl, HB.out⟩
theorem pred_Jns (x : Jn) (w : World) : Calls Tryz.prog 126 #[.agg #[.int .i64 x.a, .int .i64 x.b]] w fun e w' => e = .returned (.bool (jnR x)) ∧ Below w.heap.size w w' := by
  obtain ⟨x1, x2⟩ := x
  have HB := Lib.hid ((Below.refl w.heap.size w).alloc (Nat.le_refl _) (.cells #[.int .i64 x1, .int .i64 x2] 182))
  unfold jnR
  (try simp only)
  obtain ⟨b0, hb0⟩ : ∃ b, (inR x1 0 15) = b := ⟨_, rfl⟩
  rw [hb0]
  have B0 := Lib.hid hb0
  clear hb0
  obtain ⟨b1, hb1⟩ : ∃ b, (inR x2 0 15) = b := ⟨_, rfl⟩
  rw [hb1]
  have B1 := Lib.hid hb1
  clear hb1
  rcases b0 with _ | _
  ·
    go_enter Tryz.func126, Tryz.ntmps126
    go_wp2_with (go_at_call 144; (refine (within_any _ _ _ _).mono ?_); (rintro e V1 ⟨rfl, rfl⟩); (try rw [B0.out]); (try rw [B1.out]))
    go_ret
    exact ⟨rfl, HB.out⟩
  ·
    rcases b1 with _ | _
    ·
      go_enter Tryz.func126, Tryz.ntmps126
      go_wp2_with (go_at_call 144; (refine (within_any _ _ _ _).mono ?_); (rintro e V1 ⟨rfl, rfl⟩); (try rw [B0.out]); (try rw [B1.out]))
      go_ret
      exact ⟨rfl, HB.out⟩
    ·
      go_enter Tryz.func126, Tryz.ntmps126
      go_wp2_with (go_at_call 144; (refine (within_any _ _ _ _).mono ?_); (rintro e V1 ⟨rfl, rfl⟩); (try rw [B0.out]); (try rw [B1.out]))
      go_ret
      exact ⟨rfl, HB.out⟩
def txtL (x : List UInt8) : Bool := txtR (bs x)
def splL (x : Int × List UInt8) : Bool := splR (x.1, bs x.2)
theorem clo_Mrg (x : Int × Int) (w : World) (pb : Nat) (hp : w.cell? ⟨pb, 0, none⟩ = some (.func (.func 118) #[] #[])) : Calls Tryz.prog 143 #[.agg #[.int .i64 x.1, .int .i64 x.2], .pointer (some ⟨pb, 0, none⟩)] w fun e w' => e = .returned (.bool (!mrgR x)) ∧ Below w.heap.size w w' := by
  have P := Lib.hid (pred_Mrg x)
  obtain ⟨x1, x2⟩ := x
  obtain ⟨b, hb⟩ : ∃ b, mrgR ⟨x1, x2⟩ = b := ⟨_, rfl⟩
  (try simp only at P)
  skip
  skip
  rw [hb] at P ⊢
  have HB := Lib.hid ((Below.refl w.heap.size w).alloc (Nat.le_refl _) (.cells #[.int .i64 x1, .int .i64 x2] 113))
  have hp2 := below_cell HB.out (Nat.le_refl _) hp
  clear hb
  go_enter Tryz.func143, Tryz.ntmps143
  go_wp2_with (go_at_call 118; (refine (P.out (w.alloc (.cells #[.int .i64 x1, .int .i64 x2] 113))).mono ?_); (rintro e V1 ⟨rfl, hb⟩); (have HB1 := Lib.hid (HB.out.trans (hb.mono HB.out.size))); (clear hb))
  go_ret
  exact ⟨rfl, HB1.out⟩
set_option maxHeartbeats 1000000 in
theorem idx_Mrg (xs : List (Int × Int)) (A : Option Addr) (c pb : Nat) (w : World) (hA : Sl w A encM 2 xs) (hp : w.cell? ⟨pb, 0, none⟩ = some (.func (.func 118) #[] #[])) (hl : xs.length < 9000000000000000000) :
    Calls Tryz.prog 171 #[.slice A xs.length c, .func (.func 143) #[] #[.pointer (some ⟨pb, 0, none⟩)]] w fun e w' => (∃ r, e = .returned (.int .i64 r) ∧ decide (0 ≤ r) = !(xs.all mrgR)) ∧ Below w.heap.size w w' := by
  have HA := Lib.hid hA
  have HP := Lib.hid hp
  have HL := Lib.hid hl
  clear hA hp
  go_enter Tryz.func171, Tryz.ntmps171
  go_wp2_with fail
  go_loopg [8] xs.length (fun n i W => ∃ k : Nat, k + n = xs.length ∧ i = .int .i64 (k : Int) ∧ Below w.heap.size w W ∧ (xs.take k).all mrgR = true)
  case atStart => exact ⟨0, Nat.zero_add _, rfl, Below.refl _ _, rfl⟩
  case round =>
    obtain ⟨k, hk, rfl, hbl, hall⟩ := hrel
    rename World => W
    by_cases hlt : k < xs.length
    · have HT := Lib.hid (take_snoc hlt)
      have HG := Lib.hid (show xs[k]? = some xs[k] from by simp)
      have HC := Lib.hid (clo_Mrg xs[k] W pb (below_cell hbl (Nat.le_refl _) HP.out))
      obtain ⟨b, o, rfl, hc⟩ := HA.out.at k hlt
      have g0 : W.cell? ⟨b, o + k * 2, none⟩ = some (.int .i64 xs[k].1) := below_cell hbl (Nat.le_refl _) (hc 0 _ rfl)
      have g1 : W.cell? ⟨b, o + k * 2 + 1, none⟩ = some (.int .i64 xs[k].2) := below_cell hbl (Nat.le_refl _) (hc 1 _ rfl)
      generalize xs[k] = x at *
      have HK := Lib.hid hk
      have HBL := Lib.hid hbl
      have HALL := Lib.hid hall
      have w1 : IntKind.i64.wrap ((k : Int) + 1) = ((k + 1 : Nat) : Int) := IntWalk.i64_in _ (by omega)
      have k0 : (0 : Int) ≤ (k : Int) := by omega
      have k1 : (k : Int) < (xs.length : Int) := by omega
      obtain ⟨b2, hb2⟩ : ∃ b, mrgR x = b := ⟨_, rfl⟩
      rw [hb2] at HC
      have HB2 := Lib.hid hb2
      clear hk hbl hall hc hb2
      rcases b2 with _ | _
      · go_wp2_with (go_at_call 143; (refine HC.out.mono ?_); (rintro e V1 ⟨rfl, hb⟩); (have HB3 := Lib.hid (HBL.out.trans (hb.mono HBL.out.size))); (clear hb))
        go_ret
        refine ⟨⟨_, rfl, ?_⟩, HB3.out⟩
        rw [all_false HG.out HB2.out, decide_eq_true k0]
        rfl
      · go_wp2_with (go_at_call 143; (refine HC.out.mono ?_); (rintro e V1 ⟨rfl, hb⟩); (have HB3 := Lib.hid (HBL.out.trans (hb.mono HBL.out.size))); (clear hb))
        have hk := HK.out
        go_roundg (xs.length - (k + 1))
        · refine ⟨k + 1, by omega, rfl, HB3.out, ?_⟩
          rw [HT.out, all_snoc, HALL.out, HB2.out]
          rfl
        · omega
    · have hke : k = xs.length := by omega
      have HBL := Lib.hid hbl
      have HALL : Hid (xs.all mrgR = true) := Lib.hid (by rw [hke, List.take_length] at hall; exact hall)
      have k1 : ¬ (k : Int) < (xs.length : Int) := by omega
      clear hk hke hbl hall
      go_wp2_with fail
      go_ret
      exact ⟨⟨_, rfl, by rw [HALL.out]; rfl⟩, HBL.out⟩
theorem con_Mrg (xs : List (Int × Int)) (A : Option Addr) (c pb : Nat) (w : World) (hA : Sl w A encM 2 xs) (hp : w.cell? ⟨pb, 0, none⟩ = some (.func (.func 118) #[] #[])) (hl : xs.length < 9000000000000000000) :
    Calls Tryz.prog 142 #[.slice A xs.length c, .func (.func 143) #[] #[.pointer (some ⟨pb, 0, none⟩)]] w fun e w' => e = .returned (.bool (!(xs.all mrgR))) ∧ Below w.heap.size w w' := by
  have HI := Lib.hid (idx_Mrg xs A c pb w hA hp hl)
  clear hA hp hl
  go_enter Tryz.func142, Tryz.ntmps142
  go_wp2_with (go_at_call 171; (refine HI.out.mono ?_); (rintro e V1 ⟨⟨r, rfl, hr⟩, hb⟩); (have HR := Lib.hid hr); (have HB := Lib.hid hb); (clear hr hb))
  go_ret
  exact ⟨by first | rfl | (rw [HR.out]; rfl), HB.out⟩
theorem all_Mrg (xs : List (Int × Int)) (A : Option Addr) (c : Nat) (m : Int) (w : World) (hA : Sl w A encM 2 xs) (hl : xs.length < 9000000000000000000) :
    Calls Tryz.prog 117 #[.slice A xs.length c, .int .i64 m, .func (.func 118) #[] #[]] w fun e w' => e = .returned (.bool (decide ((xs.length : Int) ≤ m) && xs.all mrgR)) ∧ Below w.heap.size w w' := by
  obtain ⟨q, hq⟩ : ∃ q, (xs.all mrgR) = q := ⟨_, rfl⟩
  have HB := Lib.hid ((Below.refl w.heap.size w).alloc (Nat.le_refl _) (.cells #[.func (.func 118) #[] #[]] 220))
  have HC := Lib.hid (con_Mrg xs A c w.heap.size (w.alloc (.cells #[.func (.func 118) #[] #[]] 220)) (hA.below HB.out (Nat.le_refl _)) (blk_cell (blk_new w _) 0) hl)
  rw [hq] at HC ⊢
  clear hA hq
  by_cases g : (xs.length : Int) ≤ m
  · rw [decide_eq_true g]
    go_enter Tryz.func117, Tryz.ntmps117
    go_wp2_with (go_at_call 142; (refine HC.out.mono ?_); (rintro e V1 ⟨rfl, hb⟩); (have HB1 := Lib.hid (HB.out.trans (hb.mono HB.out.size))); (clear hb))
    go_ret
    exact ⟨by simp, HB1.out⟩
  · rw [decide_eq_false g]
    go_enter Tryz.func117, Tryz.ntmps117
    go_wp2_with fail
    go_ret
    exact ⟨by simp, HB.out⟩
theorem clo_Txt (x : List UInt8) (w : World) (pb : Nat) (hp : w.cell? ⟨pb, 0, none⟩ = some (.func (.func 120) #[] #[])) : Calls Tryz.prog 146 #[.string (bs x), .pointer (some ⟨pb, 0, none⟩)] w fun e w' => e = .returned (.bool (!txtL x)) ∧ Below w.heap.size w w' := by
  have P := Lib.hid (pred_Txt (bs x))
  obtain ⟨b, hb⟩ : ∃ b, txtL x = b := ⟨_, rfl⟩
  (try simp only at P)
  change txtR (bs x) = b at hb
  change Calls _ _ _ _ (fun e w1 => e = .returned (.bool (!txtR (bs x))) ∧ _)
  rw [hb] at P ⊢
  have HB := Lib.hid (Below.refl w.heap.size w)
  clear hb
  go_enter Tryz.func146, Tryz.ntmps146
  go_wp2_with (go_at_call 120; (refine (P.out w).mono ?_); (rintro e V1 ⟨rfl, hb⟩); (have HB1 := Lib.hid (HB.out.trans (hb.mono HB.out.size))); (clear hb))
  go_ret
  exact ⟨rfl, HB1.out⟩
set_option maxHeartbeats 1000000 in
theorem idx_Txt (xs : List (List UInt8)) (A : Option Addr) (c pb : Nat) (w : World) (hA : Sl1 w A strV xs) (hp : w.cell? ⟨pb, 0, none⟩ = some (.func (.func 120) #[] #[])) (hl : xs.length < 9000000000000000000) :
    Calls Tryz.prog 172 #[.slice A xs.length c, .func (.func 146) #[] #[.pointer (some ⟨pb, 0, none⟩)]] w fun e w' => (∃ r, e = .returned (.int .i64 r) ∧ decide (0 ≤ r) = !(xs.all txtL)) ∧ Below w.heap.size w w' := by
  have HA := Lib.hid hA
  have HP := Lib.hid hp
  have HL := Lib.hid hl
  clear hA hp
  go_enter Tryz.func172, Tryz.ntmps172
  go_wp2_with fail
  go_loopg [8] xs.length (fun n i W => ∃ k : Nat, k + n = xs.length ∧ i = .int .i64 (k : Int) ∧ Below w.heap.size w W ∧ (xs.take k).all txtL = true)
  case atStart => exact ⟨0, Nat.zero_add _, rfl, Below.refl _ _, rfl⟩
  case round =>
    obtain ⟨k, hk, rfl, hbl, hall⟩ := hrel
    rename World => W
    by_cases hlt : k < xs.length
    · have HT := Lib.hid (take_snoc hlt)
      have HG := Lib.hid (show xs[k]? = some xs[k] from by simp)
      have HC := Lib.hid (clo_Txt xs[k] W pb (below_cell hbl (Nat.le_refl _) HP.out))
      obtain ⟨b, o, rfl, hc⟩ := HA.out.at k hlt
      have g0 : W.cell? ⟨b, o + k, none⟩ = some (.string (bs xs[k])) := below_cell hbl (Nat.le_refl _) hc
      generalize xs[k] = x at *
      have HK := Lib.hid hk
      have HBL := Lib.hid hbl
      have HALL := Lib.hid hall
      have w1 : IntKind.i64.wrap ((k : Int) + 1) = ((k + 1 : Nat) : Int) := IntWalk.i64_in _ (by omega)
      have k0 : (0 : Int) ≤ (k : Int) := by omega
      have k1 : (k : Int) < (xs.length : Int) := by omega
      obtain ⟨b2, hb2⟩ : ∃ b, txtL x = b := ⟨_, rfl⟩
      rw [hb2] at HC
      have HB2 := Lib.hid hb2
      clear hk hbl hall hc hb2
      rcases b2 with _ | _
      · go_wp2_with (go_at_call 146; (refine HC.out.mono ?_); (rintro e V1 ⟨rfl, hb⟩); (have HB3 := Lib.hid (HBL.out.trans (hb.mono HBL.out.size))); (clear hb))
        go_ret
        refine ⟨⟨_, rfl, ?_⟩, HB3.out⟩
        rw [all_false HG.out HB2.out, decide_eq_true k0]
        rfl
      · go_wp2_with (go_at_call 146; (refine HC.out.mono ?_); (rintro e V1 ⟨rfl, hb⟩); (have HB3 := Lib.hid (HBL.out.trans (hb.mono HBL.out.size))); (clear hb))
        have hk := HK.out
        go_roundg (xs.length - (k + 1))
        · refine ⟨k + 1, by omega, rfl, HB3.out, ?_⟩
          rw [HT.out, all_snoc, HALL.out, HB2.out]
          rfl
        · omega
    · have hke : k = xs.length := by omega
      have HBL := Lib.hid hbl
      have HALL : Hid (xs.all txtL = true) := Lib.hid (by rw [hke, List.take_length] at hall; exact hall)
      have k1 : ¬ (k : Int) < (xs.length : Int) := by omega
      clear hk hke hbl hall
      go_wp2_with fail
      go_ret
      exact ⟨⟨_, rfl, by rw [HALL.out]; rfl⟩, HBL.out⟩
theorem con_Txt (xs : List (List UInt8)) (A : Option Addr) (c pb : Nat) (w : World) (hA : Sl1 w A strV xs) (hp : w.cell? ⟨pb, 0, none⟩ = some (.func (.func 120) #[] #[])) (hl : xs.length < 9000000000000000000) :
    Calls Tryz.prog 145 #[.slice A xs.length c, .func (.func 146) #[] #[.pointer (some ⟨pb, 0, none⟩)]] w fun e w' => e = .returned (.bool (!(xs.all txtL))) ∧ Below w.heap.size w w' := by
  have HI := Lib.hid (idx_Txt xs A c pb w hA hp hl)
  clear hA hp hl
  go_enter Tryz.func145, Tryz.ntmps145
  go_wp2_with (go_at_call 172; (refine HI.out.mono ?_); (rintro e V1 ⟨⟨r, rfl, hr⟩, hb⟩); (have HR := Lib.hid hr); (have HB := Lib.hid hb); (clear hr hb))
  go_ret
  exact ⟨by first | rfl | (rw [HR.out]; rfl), HB.out⟩
theorem all_Txt (xs : List (List UInt8)) (A : Option Addr) (c : Nat) (m : Int) (w : World) (hA : Sl1 w A strV xs) (hl : xs.length < 9000000000000000000) :
    Calls Tryz.prog 119 #[.slice A xs.length c, .int .i64 m, .func (.func 120) #[] #[]] w fun e w' => e = .returned (.bool (decide ((xs.length : Int) ≤ m) && xs.all txtL)) ∧ Below w.heap.size w w' := by
  obtain ⟨q, hq⟩ : ∃ q, (xs.all txtL) = q := ⟨_, rfl⟩
  have HB := Lib.hid ((Below.refl w.heap.size w).alloc (Nat.le_refl _) (.cells #[.func (.func 120) #[] #[]] 222))
  have HC := Lib.hid (con_Txt xs A c w.heap.size (w.alloc (.cells #[.func (.func 120) #[] #[]] 222)) (hA.below HB.out (Nat.le_refl _)) (blk_cell (blk_new w _) 0) hl)
  rw [hq] at HC ⊢
  clear hA hq
  by_cases g : (xs.length : Int) ≤ m
  · rw [decide_eq_true g]
    go_enter Tryz.func119, Tryz.ntmps119
    go_wp2_with (go_at_call 145; (refine HC.out.mono ?_); (rintro e V1 ⟨rfl, hb⟩); (have HB1 := Lib.hid (HB.out.trans (hb.mono HB.out.size))); (clear hb))
    go_ret
    exact ⟨by simp, HB1.out⟩
  · rw [decide_eq_false g]
    go_enter Tryz.func119, Tryz.ntmps119
    go_wp2_with fail
    go_ret
    exact ⟨by simp, HB.out⟩
theorem clo_Spl (x : Int × List UInt8) (w : World) (pb : Nat) (hp : w.cell? ⟨pb, 0, none⟩ = some (.func (.func 122) #[] #[])) : Calls Tryz.prog 148 #[.agg #[.int .i64 x.1, .string (bs x.2)], .pointer (some ⟨pb, 0, none⟩)] w fun e w' => e = .returned (.bool (!splL x)) ∧ Below w.heap.size w w' := by
  have P := Lib.hid (pred_Spl (x.1, bs x.2))
  obtain ⟨x1, x2⟩ := x
  obtain ⟨b, hb⟩ : ∃ b, splL ⟨x1, x2⟩ = b := ⟨_, rfl⟩
  (try simp only at P)
  change splR (x1, bs x2) = b at hb
  change Calls _ _ _ _ (fun e w1 => e = .returned (.bool (!splR (x1, bs x2))) ∧ _)
  rw [hb] at P ⊢
  have HB := Lib.hid ((Below.refl w.heap.size w).alloc (Nat.le_refl _) (.cells #[.int .i64 x1, .string (bs x2)] 170))
  have hp2 := below_cell HB.out (Nat.le_refl _) hp
  clear hb
  go_enter Tryz.func148, Tryz.ntmps148
  go_wp2_with (go_at_call 122; (refine (P.out (w.alloc (.cells #[.int .i64 x1, .string (bs x2)] 170))).mono ?_); (rintro e V1 ⟨rfl, hb⟩); (have HB1 := Lib.hid (HB.out.trans (hb.mono HB.out.size))); (clear hb))
  go_ret
  exact ⟨rfl, HB1.out⟩
set_option maxHeartbeats 1000000 in
theorem idx_Spl (xs : List (Int × List UInt8)) (A : Option Addr) (c pb : Nat) (w : World) (hA : Sl w A encIS 2 xs) (hp : w.cell? ⟨pb, 0, none⟩ = some (.func (.func 122) #[] #[])) (hl : xs.length < 9000000000000000000) :
    Calls Tryz.prog 129 #[.slice A xs.length c, .func (.func 148) #[] #[.pointer (some ⟨pb, 0, none⟩)]] w fun e w' => (∃ r, e = .returned (.int .i64 r) ∧ decide (0 ≤ r) = !(xs.all splL)) ∧ Below w.heap.size w w' := by
  have HA := Lib.hid hA
  have HP := Lib.hid hp
  have HL := Lib.hid hl
  clear hA hp
  go_enter Tryz.func129, Tryz.ntmps129
  go_wp2_with fail
  go_loopg [8] xs.length (fun n i W => ∃ k : Nat, k + n = xs.length ∧ i = .int .i64 (k : Int) ∧ Below w.heap.size w W ∧ (xs.take k).all splL = true)
  case atStart => exact ⟨0, Nat.zero_add _, rfl, Below.refl _ _, rfl⟩
  case round =>
    obtain ⟨k, hk, rfl, hbl, hall⟩ := hrel
    rename World => W
    by_cases hlt : k < xs.length
    · have HT := Lib.hid (take_snoc hlt)
      have HG := Lib.hid (show xs[k]? = some xs[k] from by simp)
      have HC := Lib.hid (clo_Spl xs[k] W pb (below_cell hbl (Nat.le_refl _) HP.out))
      obtain ⟨b, o, rfl, hc⟩ := HA.out.at k hlt
      have g0 : W.cell? ⟨b, o + k * 2, none⟩ = some (.int .i64 xs[k].1) := below_cell hbl (Nat.le_refl _) (hc 0 _ rfl)
      have g1 : W.cell? ⟨b, o + k * 2 + 1, none⟩ = some (.string (bs xs[k].2)) := below_cell hbl (Nat.le_refl _) (hc 1 _ rfl)
      generalize xs[k] = x at *
      have HK := Lib.hid hk
      have HBL := Lib.hid hbl
      have HALL := Lib.hid hall
      have w1 : IntKind.i64.wrap ((k : Int) + 1) = ((k + 1 : Nat) : Int) := IntWalk.i64_in _ (by omega)
      have k0 : (0 : Int) ≤ (k : Int) := by omega
      have k1 : (k : Int) < (xs.length : Int) := by omega
      obtain ⟨b2, hb2⟩ : ∃ b, splL x = b := ⟨_, rfl⟩
      rw [hb2] at HC
      have HB2 := Lib.hid hb2
      clear hk hbl hall hc hb2
      rcases b2 with _ | _
      · go_wp2_with (go_at_call 148; (refine HC.out.mono ?_); (rintro e V1 ⟨rfl, hb⟩); (have HB3 := Lib.hid (HBL.out.trans (hb.mono HBL.out.size))); (clear hb))
        go_ret
        refine ⟨⟨_, rfl, ?_⟩, HB3.out⟩
        rw [all_false HG.out HB2.out, decide_eq_true k0]
        rfl
      · go_wp2_with (go_at_call 148; (refine HC.out.mono ?_); (rintro e V1 ⟨rfl, hb⟩); (have HB3 := Lib.hid (HBL.out.trans (hb.mono HBL.out.size))); (clear hb))
        have hk := HK.out
        go_roundg (xs.length - (k + 1))
        · refine ⟨k + 1, by omega, rfl, HB3.out, ?_⟩
          rw [HT.out, all_snoc, HALL.out, HB2.out]
          rfl
        · omega
    · have hke : k = xs.length := by omega
      have HBL := Lib.hid hbl
      have HALL : Hid (xs.all splL = true) := Lib.hid (by rw [hke, List.take_length] at hall; exact hall)
      have k1 : ¬ (k : Int) < (xs.length : Int) := by omega
      clear hk hke hbl hall
      go_wp2_with fail
      go_ret
      exact ⟨⟨_, rfl, by rw [HALL.out]; rfl⟩, HBL.out⟩
theorem con_Spl (xs : List (Int × List UInt8)) (A : Option Addr) (c pb : Nat) (w : World) (hA : Sl w A encIS 2 xs) (hp : w.cell? ⟨pb, 0, none⟩ = some (.func (.func 122) #[] #[])) (hl : xs.length < 9000000000000000000) :
    Calls Tryz.prog 147 #[.slice A xs.length c, .func (.func 148) #[] #[.pointer (some ⟨pb, 0, none⟩)]] w fun e w' => e = .returned (.bool (!(xs.all splL))) ∧ Below w.heap.size w w' := by
  have HI := Lib.hid (idx_Spl xs A c pb w hA hp hl)
  clear hA hp hl
  go_enter Tryz.func147, Tryz.ntmps147
  go_wp2_with (go_at_call 129; (refine HI.out.mono ?_); (rintro e V1 ⟨⟨r, rfl, hr⟩, hb⟩); (have HR := Lib.hid hr); (have HB := Lib.hid hb); (clear hr hb))
  go_ret
  exact ⟨by first | rfl | (rw [HR.out]; rfl), HB.out⟩
theorem all_Spl (xs : List (Int × List UInt8)) (A : Option Addr) (c : Nat) (m : Int) (w : World) (hA : Sl w A encIS 2 xs) (hl : xs.length < 9000000000000000000) :
    Calls Tryz.prog 121 #[.slice A xs.length c, .int .i64 m, .func (.func 122) #[] #[]] w fun e w' => e = .returned (.bool (decide ((xs.length : Int) ≤ m) && xs.all splL)) ∧ Below w.heap.size w w' := by
  obtain ⟨q, hq⟩ : ∃ q, (xs.all splL) = q := ⟨_, rfl⟩
  have HB := Lib.hid ((Below.refl w.heap.size w).alloc (Nat.le_refl _) (.cells #[.func (.func 122) #[] #[]] 224))
  have HC := Lib.hid (con_Spl xs A c w.heap.size (w.alloc (.cells #[.func (.func 122) #[] #[]] 224)) (hA.below HB.out (Nat.le_refl _)) (blk_cell (blk_new w _) 0) hl)
  rw [hq] at HC ⊢
  clear hA hq
  by_cases g : (xs.length : Int) ≤ m
  · rw [decide_eq_true g]
    go_enter Tryz.func121, Tryz.ntmps121
    go_wp2_with (go_at_call 147; (refine HC.out.mono ?_); (rintro e V1 ⟨rfl, hb⟩); (have HB1 := Lib.hid (HB.out.trans (hb.mono HB.out.size))); (clear hb))
    go_ret
    exact ⟨by simp, HB1.out⟩
  · rw [decide_eq_false g]
    go_enter Tryz.func121, Tryz.ntmps121
    go_wp2_with fail
    go_ret
    exact ⟨by simp, HB.out⟩
theorem clo_Cls (x : Cls) (w : World) (pb : Nat) (hp : w.cell? ⟨pb, 0, none⟩ = some (.func (.func 124) #[] #[])) : Calls Tryz.prog 150 #[.agg #[.int .i64 x.lo, .int .i64 x.hi, .int .i64 x.n], .pointer (some ⟨pb, 0, none⟩)] w fun e w' => e = .returned (.bool (!clsR x)) ∧ Below w.heap.size w w' := by
  have P := Lib.hid (pred_Cls x)
  obtain ⟨x1, x2, x3⟩ := x
  obtain ⟨b, hb⟩ : ∃ b, clsR ⟨x1, x2, x3⟩ = b := ⟨_, rfl⟩
  (try simp only at P)
  skip
  skip
  rw [hb] at P ⊢
  have HB := Lib.hid ((Below.refl w.heap.size w).alloc (Nat.le_refl _) (.cells #[.int .i64 x1, .int .i64 x2, .int .i64 x3] 181))
  have hp2 := below_cell HB.out (Nat.le_refl _) hp
  clear hb
  go_enter Tryz.func150, Tryz.ntmps150
  go_wp2_with (go_at_call 124; (refine (P.out (w.alloc (.cells #[.int .i64 x1, .int .i64 x2, .int .i64 x3] 181))).mono ?_); (rintro e V1 ⟨rfl, hb⟩); (have HB1 := Lib.hid (HB.out.trans (hb.mono HB.out.size))); (clear hb))
  go_ret
  exact ⟨rfl, HB1.out⟩
set_option maxHeartbeats 1000000 in
theorem idx_Cls (xs : List (Cls)) (A : Option Addr) (c pb : Nat) (w : World) (hA : Sl w A encCls 3 xs) (hp : w.cell? ⟨pb, 0, none⟩ = some (.func (.func 124) #[] #[])) (hl : xs.length < 9000000000000000000) :
    Calls Tryz.prog 173 #[.slice A xs.length c, .func (.func 150) #[] #[.pointer (some ⟨pb, 0, none⟩)]] w fun e w' => (∃ r, e = .returned (.int .i64 r) ∧ decide (0 ≤ r) = !(xs.all clsR)) ∧ Below w.heap.size w w' := by
  have HA := Lib.hid hA
  have HP := Lib.hid hp
  have HL := Lib.hid hl
  clear hA hp
  go_enter Tryz.func173, Tryz.ntmps173
  go_wp2_with fail
  go_loopg [8] xs.length (fun n i W => ∃ k : Nat, k + n = xs.length ∧ i = .int .i64 (k : Int) ∧ Below w.heap.size w W ∧ (xs.take k).all clsR = true)
  case atStart => exact ⟨0, Nat.zero_add _, rfl, Below.refl _ _, rfl⟩
  case round =>
    obtain ⟨k, hk, rfl, hbl, hall⟩ := hrel
    rename World => W
    by_cases hlt : k < xs.length
    · have HT := Lib.hid (take_snoc hlt)
      have HG := Lib.hid (show xs[k]? = some xs[k] from by simp)
      have HC := Lib.hid (clo_Cls xs[k] W pb (below_cell hbl (Nat.le_refl _) HP.out))
      obtain ⟨b, o, rfl, hc⟩ := HA.out.at k hlt
      have g0 : W.cell? ⟨b, o + k * 3, none⟩ = some (.int .i64 xs[k].lo) := below_cell hbl (Nat.le_refl _) (hc 0 _ rfl)
      have g1 : W.cell? ⟨b, o + k * 3 + 1, none⟩ = some (.int .i64 xs[k].hi) := below_cell hbl (Nat.le_refl _) (hc 1 _ rfl)
      have g2 : W.cell? ⟨b, o + k * 3 + 2, none⟩ = some (.int .i64 xs[k].n) := below_cell hbl (Nat.le_refl _) (hc 2 _ rfl)
      generalize xs[k] = x at *
      have HK := Lib.hid hk
      have HBL := Lib.hid hbl
      have HALL := Lib.hid hall
      have w1 : IntKind.i64.wrap ((k : Int) + 1) = ((k + 1 : Nat) : Int) := IntWalk.i64_in _ (by omega)
      have k0 : (0 : Int) ≤ (k : Int) := by omega
      have k1 : (k : Int) < (xs.length : Int) := by omega
      obtain ⟨b2, hb2⟩ : ∃ b, clsR x = b := ⟨_, rfl⟩
      rw [hb2] at HC
      have HB2 := Lib.hid hb2
      clear hk hbl hall hc hb2
      rcases b2 with _ | _
      · go_wp2_with (go_at_call 150; (refine HC.out.mono ?_); (rintro e V1 ⟨rfl, hb⟩); (have HB3 := Lib.hid (HBL.out.trans (hb.mono HBL.out.size))); (clear hb))
        go_ret
        refine ⟨⟨_, rfl, ?_⟩, HB3.out⟩
        rw [all_false HG.out HB2.out, decide_eq_true k0]
        rfl
      · go_wp2_with (go_at_call 150; (refine HC.out.mono ?_); (rintro e V1 ⟨rfl, hb⟩); (have HB3 := Lib.hid (HBL.out.trans (hb.mono HBL.out.size))); (clear hb))
        have hk := HK.out
        go_roundg (xs.length - (k + 1))
        · refine ⟨k + 1, by omega, rfl, HB3.out, ?_⟩
          rw [HT.out, all_snoc, HALL.out, HB2.out]
          rfl
        · omega
    · have hke : k = xs.length := by omega
      have HBL := Lib.hid hbl
      have HALL : Hid (xs.all clsR = true) := Lib.hid (by rw [hke, List.take_length] at hall; exact hall)
      have k1 : ¬ (k : Int) < (xs.length : Int) := by omega
      clear hk hke hbl hall
      go_wp2_with fail
      go_ret
      exact ⟨⟨_, rfl, by rw [HALL.out]; rfl⟩, HBL.out⟩
theorem con_Cls (xs : List (Cls)) (A : Option Addr) (c pb : Nat) (w : World) (hA : Sl w A encCls 3 xs) (hp : w.cell? ⟨pb, 0, none⟩ = some (.func (.func 124) #[] #[])) (hl : xs.length < 9000000000000000000) :
    Calls Tryz.prog 149 #[.slice A xs.length c, .func (.func 150) #[] #[.pointer (some ⟨pb, 0, none⟩)]] w fun e w' => e = .returned (.bool (!(xs.all clsR))) ∧ Below w.heap.size w w' := by
  have HI := Lib.hid (idx_Cls xs A c pb w hA hp hl)
  clear hA hp hl
  go_enter Tryz.func149, Tryz.ntmps149
  go_wp2_with (go_at_call 173; (refine HI.out.mono ?_); (rintro e V1 ⟨⟨r, rfl, hr⟩, hb⟩); (have HR := Lib.hid hr); (have HB := Lib.hid hb); (clear hr hb))
  go_ret
  exact ⟨by first | rfl | (rw [HR.out]; rfl), HB.out⟩
theorem all_Cls (xs : List (Cls)) (A : Option Addr) (c : Nat) (m : Int) (w : World) (hA : Sl w A encCls 3 xs) (hl : xs.length < 9000000000000000000) :
    Calls Tryz.prog 123 #[.slice A xs.length c, .int .i64 m, .func (.func 124) #[] #[]] w fun e w' => e = .returned (.bool (decide ((xs.length : Int) ≤ m) && xs.all clsR)) ∧ Below w.heap.size w w' := by
  obtain ⟨q, hq⟩ : ∃ q, (xs.all clsR) = q := ⟨_, rfl⟩
  have HB := Lib.hid ((Below.refl w.heap.size w).alloc (Nat.le_refl _) (.cells #[.func (.func 124) #[] #[]] 226))
  have HC := Lib.hid (con_Cls xs A c w.heap.size (w.alloc (.cells #[.func (.func 124) #[] #[]] 226)) (hA.below HB.out (Nat.le_refl _)) (blk_cell (blk_new w _) 0) hl)
  rw [hq] at HC ⊢
  clear hA hq
  by_cases g : (xs.length : Int) ≤ m
  · rw [decide_eq_true g]
    go_enter Tryz.func123, Tryz.ntmps123
    go_wp2_with (go_at_call 149; (refine HC.out.mono ?_); (rintro e V1 ⟨rfl, hb⟩); (have HB1 := Lib.hid (HB.out.trans (hb.mono HB.out.size))); (clear hb))
    go_ret
    exact ⟨by simp, HB1.out⟩
  · rw [decide_eq_false g]
    go_enter Tryz.func123, Tryz.ntmps123
    go_wp2_with fail
    go_ret
    exact ⟨by simp, HB.out⟩
theorem clo_Jns (x : Jn) (w : World) (pb : Nat) (hp : w.cell? ⟨pb, 0, none⟩ = some (.func (.func 126) #[] #[])) : Calls Tryz.prog 152 #[.agg #[.int .i64 x.a, .int .i64 x.b], .pointer (some ⟨pb, 0, none⟩)] w fun e w' => e = .returned (.bool (!jnR x)) ∧ Below w.heap.size w w' := by
  have P := Lib.hid (pred_Jns x)
  obtain ⟨x1, x2⟩ := x
  obtain ⟨b, hb⟩ : ∃ b, jnR ⟨x1, x2⟩ = b := ⟨_, rfl⟩
  (try simp only at P)
  skip
  skip
  rw [hb] at P ⊢
  have HB := Lib.hid ((Below.refl w.heap.size w).alloc (Nat.le_refl _) (.cells #[.int .i64 x1, .int .i64 x2] 182))
  have hp2 := below_cell HB.out (Nat.le_refl _) hp
  clear hb
  go_enter Tryz.func152, Tryz.ntmps152
  go_wp2_with (go_at_call 126; (refine (P.out (w.alloc (.cells #[.int .i64 x1, .int .i64 x2] 182))).mono ?_); (rintro e V1 ⟨rfl, hb⟩); (have HB1 := Lib.hid (HB.out.trans (hb.mono HB.out.size))); (clear hb))
  go_ret
  exact ⟨rfl, HB1.out⟩
set_option maxHeartbeats 1000000 in
theorem idx_Jns (xs : List (Jn)) (A : Option Addr) (c pb : Nat) (w : World) (hA : Sl w A encJn 2 xs) (hp : w.cell? ⟨pb, 0, none⟩ = some (.func (.func 126) #[] #[])) (hl : xs.length < 9000000000000000000) :
    Calls Tryz.prog 174 #[.slice A xs.length c, .func (.func 152) #[] #[.pointer (some ⟨pb, 0, none⟩)]] w fun e w' => (∃ r, e = .returned (.int .i64 r) ∧ decide (0 ≤ r) = !(xs.all jnR)) ∧ Below w.heap.size w w' := by
  have HA := Lib.hid hA
  have HP := Lib.hid hp
  have HL := Lib.hid hl
  clear hA hp
  go_enter Tryz.func174, Tryz.ntmps174
  go_wp2_with fail
  go_loopg [8] xs.length (fun n i W => ∃ k : Nat, k + n = xs.length ∧ i = .int .i64 (k : Int) ∧ Below w.heap.size w W ∧ (xs.take k).all jnR = true)
  case atStart => exact ⟨0, Nat.zero_add _, rfl, Below.refl _ _, rfl⟩
  case round =>
    obtain ⟨k, hk, rfl, hbl, hall⟩ := hrel
    rename World => W
    by_cases hlt : k < xs.length
    · have HT := Lib.hid (take_snoc hlt)
      have HG := Lib.hid (show xs[k]? = some xs[k] from by simp)
      have HC := Lib.hid (clo_Jns xs[k] W pb (below_cell hbl (Nat.le_refl _) HP.out))
      obtain ⟨b, o, rfl, hc⟩ := HA.out.at k hlt
      have g0 : W.cell? ⟨b, o + k * 2, none⟩ = some (.int .i64 xs[k].a) := below_cell hbl (Nat.le_refl _) (hc 0 _ rfl)
      have g1 : W.cell? ⟨b, o + k * 2 + 1, none⟩ = some (.int .i64 xs[k].b) := below_cell hbl (Nat.le_refl _) (hc 1 _ rfl)
      generalize xs[k] = x at *
      have HK := Lib.hid hk
      have HBL := Lib.hid hbl
      have HALL := Lib.hid hall
      have w1 : IntKind.i64.wrap ((k : Int) + 1) = ((k + 1 : Nat) : Int) := IntWalk.i64_in _ (by omega)
      have k0 : (0 : Int) ≤ (k : Int) := by omega
      have k1 : (k : Int) < (xs.length : Int) := by omega
      obtain ⟨b2, hb2⟩ : ∃ b, jnR x = b := ⟨_, rfl⟩
      rw [hb2] at HC
      have HB2 := Lib.hid hb2
      clear hk hbl hall hc hb2
      rcases b2 with _ | _
      · go_wp2_with (go_at_call 152; (refine HC.out.mono ?_); (rintro e V1 ⟨rfl, hb⟩); (have HB3 := Lib.hid (HBL.out.trans (hb.mono HBL.out.size))); (clear hb))
        go_ret
        refine ⟨⟨_, rfl, ?_⟩, HB3.out⟩
        rw [all_false HG.out HB2.out, decide_eq_true k0]
        rfl
      · go_wp2_with (go_at_call 152; (refine HC.out.mono ?_); (rintro e V1 ⟨rfl, hb⟩); (have HB3 := Lib.hid (HBL.out.trans (hb.mono HBL.out.size))); (clear hb))
        have hk := HK.out
        go_roundg (xs.length - (k + 1))
        · refine ⟨k + 1, by omega, rfl, HB3.out, ?_⟩
          rw [HT.out, all_snoc, HALL.out, HB2.out]
          rfl
        · omega
    · have hke : k = xs.length := by omega
      have HBL := Lib.hid hbl
      have HALL : Hid (xs.all jnR = true) := Lib.hid (by rw [hke, List.take_length] at hall; exact hall)
      have k1 : ¬ (k : Int) < (xs.length : Int) := by omega
      clear hk hke hbl hall
      go_wp2_with fail
      go_ret
      exact ⟨⟨_, rfl, by rw [HALL.out]; rfl⟩, HBL.out⟩
theorem con_Jns (xs : List (Jn)) (A : Option Addr) (c pb : Nat) (w : World) (hA : Sl w A encJn 2 xs) (hp : w.cell? ⟨pb, 0, none⟩ = some (.func (.func 126) #[] #[])) (hl : xs.length < 9000000000000000000) :
    Calls Tryz.prog 151 #[.slice A xs.length c, .func (.func 152) #[] #[.pointer (some ⟨pb, 0, none⟩)]] w fun e w' => e = .returned (.bool (!(xs.all jnR))) ∧ Below w.heap.size w w' := by
  have HI := Lib.hid (idx_Jns xs A c pb w hA hp hl)
  clear hA hp hl
  go_enter Tryz.func151, Tryz.ntmps151
  go_wp2_with (go_at_call 174; (refine HI.out.mono ?_); (rintro e V1 ⟨⟨r, rfl, hr⟩, hb⟩); (have HR := Lib.hid hr); (have HB := Lib.hid hb); (clear hr hb))
  go_ret
  exact ⟨by first | rfl | (rw [HR.out]; rfl), HB.out⟩
theorem all_Jns (xs : List (Jn)) (A : Option Addr) (c : Nat) (m : Int) (w : World) (hA : Sl w A encJn 2 xs) (hl : xs.length < 9000000000000000000) :
    Calls Tryz.prog 125 #[.slice A xs.length c, .int .i64 m, .func (.func 126) #[] #[]] w fun e w' => e = .returned (.bool (decide ((xs.length : Int) ≤ m) && xs.all jnR)) ∧ Below w.heap.size w w' := by
  obtain ⟨q, hq⟩ : ∃ q, (xs.all jnR) = q := ⟨_, rfl⟩
  have HB := Lib.hid ((Below.refl w.heap.size w).alloc (Nat.le_refl _) (.cells #[.func (.func 126) #[] #[]] 228))
  have HC := Lib.hid (con_Jns xs A c w.heap.size (w.alloc (.cells #[.func (.func 126) #[] #[]] 228)) (hA.below HB.out (Nat.le_refl _)) (blk_cell (blk_new w _) 0) hl)
  rw [hq] at HC ⊢
  clear hA hq
  by_cases g : (xs.length : Int) ≤ m
  · rw [decide_eq_true g]
    go_enter Tryz.func125, Tryz.ntmps125
    go_wp2_with (go_at_call 151; (refine HC.out.mono ?_); (rintro e V1 ⟨rfl, hb⟩); (have HB1 := Lib.hid (HB.out.trans (hb.mono HB.out.size))); (clear hb))
    go_ret
    exact ⟨by simp, HB1.out⟩
  · rw [decide_eq_false g]
    go_enter Tryz.func125, Tryz.ntmps125
    go_wp2_with fail
    go_ret
    exact ⟨by simp, HB.out⟩
def specV (rk : Bool) (AM : Option Addr) (nM cM : Nat) (AT : Option Addr) (nT cT : Nat) (AX : Option Addr) (nX cX : Nat) (AC : Option Addr) (nC cC : Nat) (AJ : Option Addr) (nJ cJ : Nat) : Value :=
  .agg #[.bool rk, .slice AM nM cM, .slice AT nT cT, .slice AX nX cX, .slice AC nC cC, .slice AJ nJ cJ]
section
variable {w : World} {rk : Bool} {AM : Option Addr} {nM cM : Nat} {AT : Option Addr} {nT cT : Nat} {AX : Option Addr} {nX cX : Nat} {AC : Option Addr} {nC cC : Nat} {AJ : Option Addr} {nJ cJ : Nat}
theorem load_false {R : Value → Value → Value → World → Prop} (hR : rk = false) (h : ∀ W, Below w.heap.size w W → Calls Tryz.prog 154 #[.slice AM nM cM] W fun e w' => ∃ x y z, e = .returned (.tuple #[x, y, z]) ∧ R x y z w') :
    Calls Tryz.prog 127 #[specV rk AM nM cM AT nT cT AX nX cX AC nC cC AJ nJ cJ] w fun e w' => ∃ x y z, e = .returned (.tuple #[x, y, z]) ∧ R x y z w' := by
  subst hR
  have HI := Lib.hid (h _ ((Below.refl w.heap.size w).alloc (Nat.le_refl _) (.cells #[.bool false, .slice AM nM cM, .slice AT nT cT, .slice AX nX cX, .slice AC nC cC, .slice AJ nJ cJ] 115)))
  clear h
  unfold specV
  go_enter Tryz.func127, Tryz.ntmps127
  go_wp2_with fail
  refine HI.out.mono ?_
  rintro e w1 ⟨x, y, z, rfl, hr⟩
  have HRR := Lib.hid hr
  clear hr
  go_wp2_with fail
  exact bodyPost_ret (results_tmp3 rfl _ _ _) rfl ⟨x, y, z, rfl, HRR.out⟩
def RTab (F : Nat → List Ent → Int → Prop) (w : World) (e : Ending) (w' : World) : Prop :=
  Below w.heap.size w w' ∧ ∃ (k : Nat) (T : List Ent) (A1 : Option Addr) (n1 c1 : Nat) (A2 : Option Addr) (n2 c2 : Nat) (no : Int), e = .returned (.tuple #[.agg #[.slice A1 n1 c1, .slice A2 n2 c2], .int .i64 (k : Nat), .int .i64 no]) ∧
    RefIs w' w.heap.size T (.slice A1 n1 c1) (.slice A2 n2 c2) ∧ F k T no
set_option maxHeartbeats 1000000 in
theorem rload_false {F : Nat → List Ent → Int → Prop} (hR : rk = false) (h : ∀ W, Below w.heap.size w W → Calls Tryz.prog 164 #[.slice AM nM cM] W (RTab F W)) :
    Calls Tryz.prog 135 #[specV rk AM nM cM AT nT cT AX nX cX AC nC cC AJ nJ cJ] w (RTab F w) := by
  subst hR
  have hb1 := (Below.refl w.heap.size w).alloc (Nat.le_refl _) (.cells #[.bool false, .slice AM nM cM, .slice AT nT cT, .slice AX nX cX, .slice AC nC cC, .slice AJ nJ cJ] 115)
  have hb2 := hb1.alloc (by simp) (.cells #[.slice none 0 0, .slice none 0 0] 34)
  have HN := Lib.hid (blk_new (w.alloc (.cells #[.bool false, .slice AM nM cM, .slice AT nT cT, .slice AX nX cX, .slice AC nC cC, .slice AJ nJ cJ] 115)) (.cells #[.slice none 0 0, .slice none 0 0] 34))
  have bn := blk_alloc (blk_new w (.cells #[.bool false, .slice AM nM cM, .slice AT nT cT, .slice AX nX cX, .slice AC nC cC, .slice AJ nJ cJ] 115)) (.cells #[.slice none 0 0, .slice none 0 0] 34)
  have n0 := blk_cell bn 0
  have n1 := blk_cell bn 1
  have n2 := blk_cell bn 2
  simp only [List.getElem?_toArray, List.getElem?_cons_zero, List.getElem?_cons_succ] at n0 n1 n2
  have HI := Lib.hid (h _ hb2)
  have HB := Lib.hid hb2
  have HSZ : Hid (((w.alloc (.cells #[.bool false, .slice AM nM cM, .slice AT nT cT, .slice AX nX cX, .slice AC nC cC, .slice AJ nJ cJ] 115)).alloc (.cells #[.slice none 0 0, .slice none 0 0] 34)).heap.size = w.heap.size + 2) := Lib.hid (by simp)
  rw [size_alloc] at HN
  clear h hb1 hb2 bn
  unfold specV
  go_enter Tryz.func135, Tryz.ntmps135
  go_upto_region 1 with fail
  generalize (w.alloc (.cells #[.bool false, .slice AM nM cM, .slice AT nT cT, .slice AX nX cX, .slice AC nC cC, .slice AJ nJ cJ] 115)).alloc (.cells #[.slice none 0 0, .slice none 0 0] 34) = W1 at *
  go_wp2_with fail
  refine HI.out.mono ?_
  rintro e w2 ⟨hb, k, T, A1, n1', c1, A2, n2', c2, no, rfl, href, hF⟩
  have hn := blk_below hb (by rw [HSZ.out]; omega) HN.out
  have d0 := blk_cell hn 0
  have d1 := blk_cell hn 1
  have z0 := blk_froz hn 0
  have z1 := blk_froz hn 1
  simp only [List.getElem?_toArray, List.getElem?_cons_zero, List.getElem?_cons_succ] at d0 d1
  have KF : Keep (fun x => x = w.heap.size + 1) w2 ((w2.setCell ⟨w.heap.size + 1, 0, none⟩ (.slice A1 n1' c1)).setCell ⟨w.heap.size + 1, 1, none⟩ (.slice A2 n2' c2)) := ((Keep.refl (fun x => x = w.heap.size + 1) w2).setCell (p := ⟨w.heap.size + 1, 0, none⟩) (.inl rfl) _).setCell (p := ⟨w.heap.size + 1, 1, none⟩) (.inl rfl) _
  have hb3 := HB.out.trans (hb.mono HB.out.size)
  have hn5 := blk_set (blk_set hn 0 (.slice A1 n1' c1)) 1 (.slice A2 n2' c2)
  simp only [List.setIfInBounds_toArray, List.set_cons_zero, List.set_cons_succ] at hn5
  have HN5 := Lib.hid hn5
  have HR5 := Lib.hid ((href.keep KF (fun g hg => by rw [HSZ.out]; omega)).less (Nat.le_trans (Nat.le_add_right _ 2) (Nat.le_of_eq HSZ.out.symm)))
  have HB5 := Lib.hid (hb3.trans (KF.below (B := w.heap.size) hb3.size (fun x hx => by omega)))
  have HF := Lib.hid hF
  clear hb hn KF hb3 hn5 href hF n0 n1 n2
  go_wp2_with fail
  refine ret_ref2 (r := w.heap.size + 1) rfl rfl rfl rfl HN5.out ⟨HB5.out, k, T, A1, n1', c1, A2, n2', c2, no, rfl, HR5.out, HF.out⟩
end
structure SpecP where
  rk : Bool
  ms : List (Int × Int)
  ts : List (List UInt8)
  xs : List (Int × List UInt8)
  cs : List Cls
  js : List Jn
structure SpecAt (w : World) (s : SpecP) (AM AT AX AC AJ : Option Addr) : Prop where
  ms : Sl w AM encM 2 s.ms
  ts : Sl1 w AT strV s.ts
  xs : Sl w AX encIS 2 s.xs
  cs : Sl w AC encCls 3 s.cs
  js : Sl w AJ encJn 2 s.js
  len : s.ms.length < 9000000000000000000 ∧ s.ts.length < 9000000000000000000 ∧ s.xs.length < 9000000000000000000 ∧ s.cs.length < 9000000000000000000 ∧ s.js.length < 9000000000000000000
theorem SpecAt.below {w w' : World} {s : SpecP} {AM AT AX AC AJ : Option Addr} (h : SpecAt w s AM AT AX AC AJ) {B : Nat} (hb : Below B w w') (hB : w.heap.size ≤ B) : SpecAt w' s AM AT AX AC AJ :=
  ⟨h.ms.below hb hB, h.ts.below hb hB, h.xs.below hb hB, h.cs.below hb hB, h.js.below hb hB, h.len⟩
def headR (s : SpecP) : Bool := if s.rk = true then decide (s.ms.length = 0) else decide (s.ts.length = 0)
def rightS (s : SpecP) : Bool := headR s && (decide ((s.ms.length : Int) ≤ 744) && s.ms.all mrgR) && (decide ((s.ts.length : Int) ≤ 744) && s.ts.all txtL) && (decide ((s.xs.length : Int) ≤ 32) && s.xs.all splL) && (decide ((s.cs.length : Int) ≤ 64) && s.cs.all clsR) && (decide ((s.js.length : Int) ≤ 64) && s.js.all jnR)
def specW (s : SpecP) (AM AT AX AC AJ : Option Addr) (cM cT cX cC cJ : Nat) : Value := specV s.rk AM s.ms.length cM AT s.ts.length cT AX s.xs.length cX AC s.cs.length cC AJ s.js.length cJ
section
variable {w : World} {s : SpecP} {AM AT AX AC AJ : Option Addr} {cM cT cX cC cJ nM nT nX nC nJ : Nat}
theorem right_bad_t (hd : 0 < nM) : Calls Tryz.prog 97 #[specV true AM nM cM AT nT cT AX nX cX AC nC cC AJ nJ cJ] w fun e w' => e = .returned (.bool false) ∧ Below w.heap.size w w' := by
  unfold specV
  have HB0 := Lib.hid ((Below.refl w.heap.size w).alloc (Nat.le_refl _) (.cells #[.bool true, .slice AM nM cM, .slice AT nT cT, .slice AX nX cX, .slice AC nC cC, .slice AJ nJ cJ] 115))
  have hd2 : decide (0 < nM) = true := decide_eq_true hd
  go_enter Tryz.func97, Tryz.ntmps97
  go_wp2_with fail
  go_ret
  exact ⟨rfl, HB0.out⟩
theorem right_bad_f (hd : 0 < nT) : Calls Tryz.prog 97 #[specV false AM nM cM AT nT cT AX nX cX AC nC cC AJ nJ cJ] w fun e w' => e = .returned (.bool false) ∧ Below w.heap.size w w' := by
  unfold specV
  have HB0 := Lib.hid ((Below.refl w.heap.size w).alloc (Nat.le_refl _) (.cells #[.bool false, .slice AM nM cM, .slice AT nT cT, .slice AX nX cX, .slice AC nC cC, .slice AJ nJ cJ] 115))
  have hd2 : decide (0 < nT) = true := decide_eq_true hd
  go_enter Tryz.func97, Tryz.ntmps97
  go_wp2_with fail
  go_ret
  exact ⟨rfl, HB0.out⟩
set_option maxHeartbeats 1000000 in
theorem right_t (q0 q1 q2 q3 q4 : Bool)
    (h0 : ∀ V, Below w.heap.size w V → Calls Tryz.prog 117 #[.slice AM 0 cM, .int .i64 744, .func (.func 118) #[] #[]] V fun e w' => e = .returned (.bool q0) ∧ Below V.heap.size V w')
    (h1 : ∀ V, Below w.heap.size w V → Calls Tryz.prog 119 #[.slice AT nT cT, .int .i64 744, .func (.func 120) #[] #[]] V fun e w' => e = .returned (.bool q1) ∧ Below V.heap.size V w')
    (h2 : ∀ V, Below w.heap.size w V → Calls Tryz.prog 121 #[.slice AX nX cX, .int .i64 32, .func (.func 122) #[] #[]] V fun e w' => e = .returned (.bool q2) ∧ Below V.heap.size V w')
    (h3 : ∀ V, Below w.heap.size w V → Calls Tryz.prog 123 #[.slice AC nC cC, .int .i64 64, .func (.func 124) #[] #[]] V fun e w' => e = .returned (.bool q3) ∧ Below V.heap.size V w')
    (h4 : ∀ V, Below w.heap.size w V → Calls Tryz.prog 125 #[.slice AJ nJ cJ, .int .i64 64, .func (.func 126) #[] #[]] V fun e w' => e = .returned (.bool q4) ∧ Below V.heap.size V w')
    : Calls Tryz.prog 97 #[specV true AM 0 cM AT nT cT AX nX cX AC nC cC AJ nJ cJ] w fun e w' => e = .returned (.bool (q0 && q1 && q2 && q3 && q4)) ∧ Below w.heap.size w w' := by
  unfold specV
  have H0 := Lib.hid h0
  have H1 := Lib.hid h1
  have H2 := Lib.hid h2
  have H3 := Lib.hid h3
  have H4 := Lib.hid h4
  have HB0 := Lib.hid ((Below.refl w.heap.size w).alloc (Nat.le_refl _) (.cells #[.bool true, .slice AM 0 cM, .slice AT nT cT, .slice AX nX cX, .slice AC nC cC, .slice AJ nJ cJ] 115))
  have HO0 := Lib.hid (blk_new w (.cells #[.bool true, .slice AM 0 cM, .slice AT nT cT, .slice AX nX cX, .slice AC nC cC, .slice AJ nJ cJ] 115))
  clear h0 h1 h2 h3 h4
  rcases q0 with _ | _
  · go_enter Tryz.func97, Tryz.ntmps97
    go_wp2_with (go_at_call 117; (refine (H0.out _ HB0.out).mono ?_); (rintro e V1 ⟨rfl, hb⟩); (have HB1 := Lib.hid (HB0.out.trans (hb.mono HB0.out.size))); (have HO1 := Lib.hid (blk_below hb (blk_lt HO0.out) HO0.out)); (have c1 := blk_cell HO1.out 2); (simp only [List.getElem?_toArray, List.getElem?_cons_zero, List.getElem?_cons_succ] at c1); (clear hb))
    go_ret
    exact ⟨rfl, HB1.out⟩
  ·
    rcases q1 with _ | _
    · go_enter Tryz.func97, Tryz.ntmps97
      go_wp2_with (first | (go_at_call 117; (refine (H0.out _ HB0.out).mono ?_); (rintro e V1 ⟨rfl, hb⟩); (have HB1 := Lib.hid (HB0.out.trans (hb.mono HB0.out.size))); (have HO1 := Lib.hid (blk_below hb (blk_lt HO0.out) HO0.out)); (have c1 := blk_cell HO1.out 2); (simp only [List.getElem?_toArray, List.getElem?_cons_zero, List.getElem?_cons_succ] at c1); (clear hb)) | (go_at_call 119; (refine (H1.out _ HB1.out).mono ?_); (rintro e V2 ⟨rfl, hb⟩); (have HB2 := Lib.hid (HB1.out.trans (hb.mono HB1.out.size))); (have HO2 := Lib.hid (blk_below hb (blk_lt HO1.out) HO1.out)); (have c2 := blk_cell HO2.out 3); (simp only [List.getElem?_toArray, List.getElem?_cons_zero, List.getElem?_cons_succ] at c2); (clear hb)))
      go_ret
      exact ⟨rfl, HB2.out⟩
    ·
      rcases q2 with _ | _
      · go_enter Tryz.func97, Tryz.ntmps97
        go_wp2_with (first | (go_at_call 117; (refine (H0.out _ HB0.out).mono ?_); (rintro e V1 ⟨rfl, hb⟩); (have HB1 := Lib.hid (HB0.out.trans (hb.mono HB0.out.size))); (have HO1 := Lib.hid (blk_below hb (blk_lt HO0.out) HO0.out)); (have c1 := blk_cell HO1.out 2); (simp only [List.getElem?_toArray, List.getElem?_cons_zero, List.getElem?_cons_succ] at c1); (clear hb)) | (go_at_call 119; (refine (H1.out _ HB1.out).mono ?_); (rintro e V2 ⟨rfl, hb⟩); (have HB2 := Lib.hid (HB1.out.trans (hb.mono HB1.out.size))); (have HO2 := Lib.hid (blk_below hb (blk_lt HO1.out) HO1.out)); (have c2 := blk_cell HO2.out 3); (simp only [List.getElem?_toArray, List.getElem?_cons_zero, List.getElem?_cons_succ] at c2); (clear hb)) | (go_at_call 121; (refine (H2.out _ HB2.out).mono ?_); (rintro e V3 ⟨rfl, hb⟩); (have HB3 := Lib.hid (HB2.out.trans (hb.mono HB2.out.size))); (have HO3 := Lib.hid (blk_below hb (blk_lt HO2.out) HO2.out)); (have c3 := blk_cell HO3.out 4); (simp only [List.getElem?_toArray, List.getElem?_cons_zero, List.getElem?_cons_succ] at c3); (clear hb)))
        go_ret
        exact ⟨rfl, HB3.out⟩
      ·
        rcases q3 with _ | _
        · go_enter Tryz.func97, Tryz.ntmps97
          go_wp2_with (first | (go_at_call 117; (refine (H0.out _ HB0.out).mono ?_); (rintro e V1 ⟨rfl, hb⟩); (have HB1 := Lib.hid (HB0.out.trans (hb.mono HB0.out.size))); (have HO1 := Lib.hid (blk_below hb (blk_lt HO0.out) HO0.out)); (have c1 := blk_cell HO1.out 2); (simp only [List.getElem?_toArray, List.getElem?_cons_zero, List.getElem?_cons_succ] at c1); (clear hb)) | (go_at_call 119; (refine (H1.out _ HB1.out).mono ?_); (rintro e V2 ⟨rfl, hb⟩); (have HB2 := Lib.hid (HB1.out.trans (hb.mono HB1.out.size))); (have HO2 := Lib.hid (blk_below hb (blk_lt HO1.out) HO1.out)); (have c2 := blk_cell HO2.out 3); (simp only [List.getElem?_toArray, List.getElem?_cons_zero, List.getElem?_cons_succ] at c2); (clear hb)) | (go_at_call 121; (refine (H2.out _ HB2.out).mono ?_); (rintro e V3 ⟨rfl, hb⟩); (have HB3 := Lib.hid (HB2.out.trans (hb.mono HB2.out.size))); (have HO3 := Lib.hid (blk_below hb (blk_lt HO2.out) HO2.out)); (have c3 := blk_cell HO3.out 4); (simp only [List.getElem?_toArray, List.getElem?_cons_zero, List.getElem?_cons_succ] at c3); (clear hb)) | (go_at_call 123; (refine (H3.out _ HB3.out).mono ?_); (rintro e V4 ⟨rfl, hb⟩); (have HB4 := Lib.hid (HB3.out.trans (hb.mono HB3.out.size))); (have HO4 := Lib.hid (blk_below hb (blk_lt HO3.out) HO3.out)); (have c4 := blk_cell HO4.out 5); (simp only [List.getElem?_toArray, List.getElem?_cons_zero, List.getElem?_cons_succ] at c4); (clear hb)))
          go_ret
          exact ⟨rfl, HB4.out⟩
        ·
          rcases q4 with _ | _
          · go_enter Tryz.func97, Tryz.ntmps97
            go_wp2_with (first | (go_at_call 117; (refine (H0.out _ HB0.out).mono ?_); (rintro e V1 ⟨rfl, hb⟩); (have HB1 := Lib.hid (HB0.out.trans (hb.mono HB0.out.size))); (have HO1 := Lib.hid (blk_below hb (blk_lt HO0.out) HO0.out)); (have c1 := blk_cell HO1.out 2); (simp only [List.getElem?_toArray, List.getElem?_cons_zero, List.getElem?_cons_succ] at c1); (clear hb)) | (go_at_call 119; (refine (H1.out _ HB1.out).mono ?_); (rintro e V2 ⟨rfl, hb⟩); (have HB2 := Lib.hid (HB1.out.trans (hb.mono HB1.out.size))); (have HO2 := Lib.hid (blk_below hb (blk_lt HO1.out) HO1.out)); (have c2 := blk_cell HO2.out 3); (simp only [List.getElem?_toArray, List.getElem?_cons_zero, List.getElem?_cons_succ] at c2); (clear hb)) | (go_at_call 121; (refine (H2.out _ HB2.out).mono ?_); (rintro e V3 ⟨rfl, hb⟩); (have HB3 := Lib.hid (HB2.out.trans (hb.mono HB2.out.size))); (have HO3 := Lib.hid (blk_below hb (blk_lt HO2.out) HO2.out)); (have c3 := blk_cell HO3.out 4); (simp only [List.getElem?_toArray, List.getElem?_cons_zero, List.getElem?_cons_succ] at c3); (clear hb)) | (go_at_call 123; (refine (H3.out _ HB3.out).mono ?_); (rintro e V4 ⟨rfl, hb⟩); (have HB4 := Lib.hid (HB3.out.trans (hb.mono HB3.out.size))); (have HO4 := Lib.hid (blk_below hb (blk_lt HO3.out) HO3.out)); (have c4 := blk_cell HO4.out 5); (simp only [List.getElem?_toArray, List.getElem?_cons_zero, List.getElem?_cons_succ] at c4); (clear hb)) | (go_at_call 125; (refine (H4.out _ HB4.out).mono ?_); (rintro e V5 ⟨rfl, hb⟩); (have HB5 := Lib.hid (HB4.out.trans (hb.mono HB4.out.size))); (clear hb)))
            go_ret
            exact ⟨rfl, HB5.out⟩
          ·
            go_enter Tryz.func97, Tryz.ntmps97
            go_wp2_with (first | (go_at_call 117; (refine (H0.out _ HB0.out).mono ?_); (rintro e V1 ⟨rfl, hb⟩); (have HB1 := Lib.hid (HB0.out.trans (hb.mono HB0.out.size))); (have HO1 := Lib.hid (blk_below hb (blk_lt HO0.out) HO0.out)); (have c1 := blk_cell HO1.out 2); (simp only [List.getElem?_toArray, List.getElem?_cons_zero, List.getElem?_cons_succ] at c1); (clear hb)) | (go_at_call 119; (refine (H1.out _ HB1.out).mono ?_); (rintro e V2 ⟨rfl, hb⟩); (have HB2 := Lib.hid (HB1.out.trans (hb.mono HB1.out.size))); (have HO2 := Lib.hid (blk_below hb (blk_lt HO1.out) HO1.out)); (have c2 := blk_cell HO2.out 3); (simp only [List.getElem?_toArray, List.getElem?_cons_zero, List.getElem?_cons_succ] at c2); (clear hb)) | (go_at_call 121; (refine (H2.out _ HB2.out).mono ?_); (rintro e V3 ⟨rfl, hb⟩); (have HB3 := Lib.hid (HB2.out.trans (hb.mono HB2.out.size))); (have HO3 := Lib.hid (blk_below hb (blk_lt HO2.out) HO2.out)); (have c3 := blk_cell HO3.out 4); (simp only [List.getElem?_toArray, List.getElem?_cons_zero, List.getElem?_cons_succ] at c3); (clear hb)) | (go_at_call 123; (refine (H3.out _ HB3.out).mono ?_); (rintro e V4 ⟨rfl, hb⟩); (have HB4 := Lib.hid (HB3.out.trans (hb.mono HB3.out.size))); (have HO4 := Lib.hid (blk_below hb (blk_lt HO3.out) HO3.out)); (have c4 := blk_cell HO4.out 5); (simp only [List.getElem?_toArray, List.getElem?_cons_zero, List.getElem?_cons_succ] at c4); (clear hb)) | (go_at_call 125; (refine (H4.out _ HB4.out).mono ?_); (rintro e V5 ⟨rfl, hb⟩); (have HB5 := Lib.hid (HB4.out.trans (hb.mono HB4.out.size))); (clear hb)))
            go_ret
            exact ⟨rfl, HB5.out⟩
set_option maxHeartbeats 1000000 in
theorem right_f (q0 q1 q2 q3 q4 : Bool)
    (h0 : ∀ V, Below w.heap.size w V → Calls Tryz.prog 117 #[.slice AM nM cM, .int .i64 744, .func (.func 118) #[] #[]] V fun e w' => e = .returned (.bool q0) ∧ Below V.heap.size V w')
    (h1 : ∀ V, Below w.heap.size w V → Calls Tryz.prog 119 #[.slice AT 0 cT, .int .i64 744, .func (.func 120) #[] #[]] V fun e w' => e = .returned (.bool q1) ∧ Below V.heap.size V w')
    (h2 : ∀ V, Below w.heap.size w V → Calls Tryz.prog 121 #[.slice AX nX cX, .int .i64 32, .func (.func 122) #[] #[]] V fun e w' => e = .returned (.bool q2) ∧ Below V.heap.size V w')
    (h3 : ∀ V, Below w.heap.size w V → Calls Tryz.prog 123 #[.slice AC nC cC, .int .i64 64, .func (.func 124) #[] #[]] V fun e w' => e = .returned (.bool q3) ∧ Below V.heap.size V w')
    (h4 : ∀ V, Below w.heap.size w V → Calls Tryz.prog 125 #[.slice AJ nJ cJ, .int .i64 64, .func (.func 126) #[] #[]] V fun e w' => e = .returned (.bool q4) ∧ Below V.heap.size V w')
    : Calls Tryz.prog 97 #[specV false AM nM cM AT 0 cT AX nX cX AC nC cC AJ nJ cJ] w fun e w' => e = .returned (.bool (q0 && q1 && q2 && q3 && q4)) ∧ Below w.heap.size w w' := by
  unfold specV
  have H0 := Lib.hid h0
  have H1 := Lib.hid h1
  have H2 := Lib.hid h2
  have H3 := Lib.hid h3
  have H4 := Lib.hid h4
  have HB0 := Lib.hid ((Below.refl w.heap.size w).alloc (Nat.le_refl _) (.cells #[.bool false, .slice AM nM cM, .slice AT 0 cT, .slice AX nX cX, .slice AC nC cC, .slice AJ nJ cJ] 115))
  have HO0 := Lib.hid (blk_new w (.cells #[.bool false, .slice AM nM cM, .slice AT 0 cT, .slice AX nX cX, .slice AC nC cC, .slice AJ nJ cJ] 115))
  clear h0 h1 h2 h3 h4
  rcases q0 with _ | _
  · go_enter Tryz.func97, Tryz.ntmps97
    go_wp2_with (go_at_call 117; (refine (H0.out _ HB0.out).mono ?_); (rintro e V1 ⟨rfl, hb⟩); (have HB1 := Lib.hid (HB0.out.trans (hb.mono HB0.out.size))); (have HO1 := Lib.hid (blk_below hb (blk_lt HO0.out) HO0.out)); (have c1 := blk_cell HO1.out 2); (simp only [List.getElem?_toArray, List.getElem?_cons_zero, List.getElem?_cons_succ] at c1); (clear hb))
    go_ret
    exact ⟨rfl, HB1.out⟩
  ·
    rcases q1 with _ | _
    · go_enter Tryz.func97, Tryz.ntmps97
      go_wp2_with (first | (go_at_call 117; (refine (H0.out _ HB0.out).mono ?_); (rintro e V1 ⟨rfl, hb⟩); (have HB1 := Lib.hid (HB0.out.trans (hb.mono HB0.out.size))); (have HO1 := Lib.hid (blk_below hb (blk_lt HO0.out) HO0.out)); (have c1 := blk_cell HO1.out 2); (simp only [List.getElem?_toArray, List.getElem?_cons_zero, List.getElem?_cons_succ] at c1); (clear hb)) | (go_at_call 119; (refine (H1.out _ HB1.out).mono ?_); (rintro e V2 ⟨rfl, hb⟩); (have HB2 := Lib.hid (HB1.out.trans (hb.mono HB1.out.size))); (have HO2 := Lib.hid (blk_below hb (blk_lt HO1.out) HO1.out)); (have c2 := blk_cell HO2.out 3); (simp only [List.getElem?_toArray, List.getElem?_cons_zero, List.getElem?_cons_succ] at c2); (clear hb)))
      go_ret
      exact ⟨rfl, HB2.out⟩
    ·
      rcases q2 with _ | _
      · go_enter Tryz.func97, Tryz.ntmps97
        go_wp2_with (first | (go_at_call 117; (refine (H0.out _ HB0.out).mono ?_); (rintro e V1 ⟨rfl, hb⟩); (have HB1 := Lib.hid (HB0.out.trans (hb.mono HB0.out.size))); (have HO1 := Lib.hid (blk_below hb (blk_lt HO0.out) HO0.out)); (have c1 := blk_cell HO1.out 2); (simp only [List.getElem?_toArray, List.getElem?_cons_zero, List.getElem?_cons_succ] at c1); (clear hb)) | (go_at_call 119; (refine (H1.out _ HB1.out).mono ?_); (rintro e V2 ⟨rfl, hb⟩); (have HB2 := Lib.hid (HB1.out.trans (hb.mono HB1.out.size))); (have HO2 := Lib.hid (blk_below hb (blk_lt HO1.out) HO1.out)); (have c2 := blk_cell HO2.out 3); (simp only [List.getElem?_toArray, List.getElem?_cons_zero, List.getElem?_cons_succ] at c2); (clear hb)) | (go_at_call 121; (refine (H2.out _ HB2.out).mono ?_); (rintro e V3 ⟨rfl, hb⟩); (have HB3 := Lib.hid (HB2.out.trans (hb.mono HB2.out.size))); (have HO3 := Lib.hid (blk_below hb (blk_lt HO2.out) HO2.out)); (have c3 := blk_cell HO3.out 4); (simp only [List.getElem?_toArray, List.getElem?_cons_zero, List.getElem?_cons_succ] at c3); (clear hb)))
        go_ret
        exact ⟨rfl, HB3.out⟩
      ·
        rcases q3 with _ | _
        · go_enter Tryz.func97, Tryz.ntmps97
          go_wp2_with (first | (go_at_call 117; (refine (H0.out _ HB0.out).mono ?_); (rintro e V1 ⟨rfl, hb⟩); (have HB1 := Lib.hid (HB0.out.trans (hb.mono HB0.out.size))); (have HO1 := Lib.hid (blk_below hb (blk_lt HO0.out) HO0.out)); (have c1 := blk_cell HO1.out 2); (simp only [List.getElem?_toArray, List.getElem?_cons_zero, List.getElem?_cons_succ] at c1); (clear hb)) | (go_at_call 119; (refine (H1.out _ HB1.out).mono ?_); (rintro e V2 ⟨rfl, hb⟩); (have HB2 := Lib.hid (HB1.out.trans (hb.mono HB1.out.size))); (have HO2 := Lib.hid (blk_below hb (blk_lt HO1.out) HO1.out)); (have c2 := blk_cell HO2.out 3); (simp only [List.getElem?_toArray, List.getElem?_cons_zero, List.getElem?_cons_succ] at c2); (clear hb)) | (go_at_call 121; (refine (H2.out _ HB2.out).mono ?_); (rintro e V3 ⟨rfl, hb⟩); (have HB3 := Lib.hid (HB2.out.trans (hb.mono HB2.out.size))); (have HO3 := Lib.hid (blk_below hb (blk_lt HO2.out) HO2.out)); (have c3 := blk_cell HO3.out 4); (simp only [List.getElem?_toArray, List.getElem?_cons_zero, List.getElem?_cons_succ] at c3); (clear hb)) | (go_at_call 123; (refine (H3.out _ HB3.out).mono ?_); (rintro e V4 ⟨rfl, hb⟩); (have HB4 := Lib.hid (HB3.out.trans (hb.mono HB3.out.size))); (have HO4 := Lib.hid (blk_below hb (blk_lt HO3.out) HO3.out)); (have c4 := blk_cell HO4.out 5); (simp only [List.getElem?_toArray, List.getElem?_cons_zero, List.getElem?_cons_succ] at c4); (clear hb)))
          go_ret
          exact ⟨rfl, HB4.out⟩
        ·
          rcases q4 with _ | _
          · go_enter Tryz.func97, Tryz.ntmps97
            go_wp2_with (first | (go_at_call 117; (refine (H0.out _ HB0.out).mono ?_); (rintro e V1 ⟨rfl, hb⟩); (have HB1 := Lib.hid (HB0.out.trans (hb.mono HB0.out.size))); (have HO1 := Lib.hid (blk_below hb (blk_lt HO0.out) HO0.out)); (have c1 := blk_cell HO1.out 2); (simp only [List.getElem?_toArray, List.getElem?_cons_zero, List.getElem?_cons_succ] at c1); (clear hb)) | (go_at_call 119; (refine (H1.out _ HB1.out).mono ?_); (rintro e V2 ⟨rfl, hb⟩); (have HB2 := Lib.hid (HB1.out.trans (hb.mono HB1.out.size))); (have HO2 := Lib.hid (blk_below hb (blk_lt HO1.out) HO1.out)); (have c2 := blk_cell HO2.out 3); (simp only [List.getElem?_toArray, List.getElem?_cons_zero, List.getElem?_cons_succ] at c2); (clear hb)) | (go_at_call 121; (refine (H2.out _ HB2.out).mono ?_); (rintro e V3 ⟨rfl, hb⟩); (have HB3 := Lib.hid (HB2.out.trans (hb.mono HB2.out.size))); (have HO3 := Lib.hid (blk_below hb (blk_lt HO2.out) HO2.out)); (have c3 := blk_cell HO3.out 4); (simp only [List.getElem?_toArray, List.getElem?_cons_zero, List.getElem?_cons_succ] at c3); (clear hb)) | (go_at_call 123; (refine (H3.out _ HB3.out).mono ?_); (rintro e V4 ⟨rfl, hb⟩); (have HB4 := Lib.hid (HB3.out.trans (hb.mono HB3.out.size))); (have HO4 := Lib.hid (blk_below hb (blk_lt HO3.out) HO3.out)); (have c4 := blk_cell HO4.out 5); (simp only [List.getElem?_toArray, List.getElem?_cons_zero, List.getElem?_cons_succ] at c4); (clear hb)) | (go_at_call 125; (refine (H4.out _ HB4.out).mono ?_); (rintro e V5 ⟨rfl, hb⟩); (have HB5 := Lib.hid (HB4.out.trans (hb.mono HB4.out.size))); (clear hb)))
            go_ret
            exact ⟨rfl, HB5.out⟩
          ·
            go_enter Tryz.func97, Tryz.ntmps97
            go_wp2_with (first | (go_at_call 117; (refine (H0.out _ HB0.out).mono ?_); (rintro e V1 ⟨rfl, hb⟩); (have HB1 := Lib.hid (HB0.out.trans (hb.mono HB0.out.size))); (have HO1 := Lib.hid (blk_below hb (blk_lt HO0.out) HO0.out)); (have c1 := blk_cell HO1.out 2); (simp only [List.getElem?_toArray, List.getElem?_cons_zero, List.getElem?_cons_succ] at c1); (clear hb)) | (go_at_call 119; (refine (H1.out _ HB1.out).mono ?_); (rintro e V2 ⟨rfl, hb⟩); (have HB2 := Lib.hid (HB1.out.trans (hb.mono HB1.out.size))); (have HO2 := Lib.hid (blk_below hb (blk_lt HO1.out) HO1.out)); (have c2 := blk_cell HO2.out 3); (simp only [List.getElem?_toArray, List.getElem?_cons_zero, List.getElem?_cons_succ] at c2); (clear hb)) | (go_at_call 121; (refine (H2.out _ HB2.out).mono ?_); (rintro e V3 ⟨rfl, hb⟩); (have HB3 := Lib.hid (HB2.out.trans (hb.mono HB2.out.size))); (have HO3 := Lib.hid (blk_below hb (blk_lt HO2.out) HO2.out)); (have c3 := blk_cell HO3.out 4); (simp only [List.getElem?_toArray, List.getElem?_cons_zero, List.getElem?_cons_succ] at c3); (clear hb)) | (go_at_call 123; (refine (H3.out _ HB3.out).mono ?_); (rintro e V4 ⟨rfl, hb⟩); (have HB4 := Lib.hid (HB3.out.trans (hb.mono HB3.out.size))); (have HO4 := Lib.hid (blk_below hb (blk_lt HO3.out) HO3.out)); (have c4 := blk_cell HO4.out 5); (simp only [List.getElem?_toArray, List.getElem?_cons_zero, List.getElem?_cons_succ] at c4); (clear hb)) | (go_at_call 125; (refine (H4.out _ HB4.out).mono ?_); (rintro e V5 ⟨rfl, hb⟩); (have HB5 := Lib.hid (HB4.out.trans (hb.mono HB4.out.size))); (clear hb)))
            go_ret
            exact ⟨rfl, HB5.out⟩
theorem sright_any (h : SpecAt w s AM AT AX AC AJ) : Calls Tryz.prog 97 #[specW s AM AT AX AC AJ cM cT cX cC cJ] w fun e w' => e = .returned (.bool (rightS s)) ∧ Below w.heap.size w w' := by
  obtain ⟨rk, ms, ts, xs, cs, js⟩ := s
  unfold specW rightS headR
  have k0 := fun V (hV : Below w.heap.size w V) => all_Mrg ms AM cM 744 V (h.ms.below hV (Nat.le_refl _)) h.len.1
  have k1 := fun V (hV : Below w.heap.size w V) => all_Txt ts AT cT 744 V (h.ts.below hV (Nat.le_refl _)) h.len.2.1
  have k2 := fun V (hV : Below w.heap.size w V) => all_Spl xs AX cX 32 V (h.xs.below hV (Nat.le_refl _)) h.len.2.2.1
  have k3 := fun V (hV : Below w.heap.size w V) => all_Cls cs AC cC 64 V (h.cs.below hV (Nat.le_refl _)) h.len.2.2.2.1
  have k4 := fun V (hV : Below w.heap.size w V) => all_Jns js AJ cJ 64 V (h.js.below hV (Nat.le_refl _)) h.len.2.2.2.2
  cases rk with
  | true =>
    by_cases hd : 0 < ms.length
    · have := right_bad_t (w := w) (AM := AM) (AT := AT) (AX := AX) (AC := AC) (AJ := AJ) (cM := cM) (cT := cT) (cX := cX) (cC := cC) (cJ := cJ) (nT := ts.length) (nX := xs.length) (nC := cs.length) (nJ := js.length) hd
      refine this.mono ?_
      rintro e w' ⟨rfl, hb⟩
      refine ⟨?_, hb⟩
      simp only [if_true]
      rw [decide_eq_false (show ¬ ms.length = 0 from by omega)]
      simp
    · obtain rfl : ms = [] := List.length_eq_zero_iff.1 (by omega)
      have := right_t _ _ _ _ _ k0 k1 k2 k3 k4
      refine this.mono ?_
      rintro e w' ⟨rfl, hb⟩
      refine ⟨?_, hb⟩
      simp only [if_true]
      simp only [List.length_nil, decide_true, Bool.true_and]
  | false =>
    by_cases hd : 0 < ts.length
    · have := right_bad_f (w := w) (AM := AM) (AT := AT) (AX := AX) (AC := AC) (AJ := AJ) (cM := cM) (cT := cT) (cX := cX) (cC := cC) (cJ := cJ) (nM := ms.length) (nX := xs.length) (nC := cs.length) (nJ := js.length) hd
      refine this.mono ?_
      rintro e w' ⟨rfl, hb⟩
      refine ⟨?_, hb⟩
      simp only [Bool.false_eq_true, if_false]
      rw [decide_eq_false (show ¬ ts.length = 0 from by omega)]
      simp
    · obtain rfl : ts = [] := List.length_eq_zero_iff.1 (by omega)
      have := right_f _ _ _ _ _ k0 k1 k2 k3 k4
      refine this.mono ?_
      rintro e w' ⟨rfl, hb⟩
      refine ⟨?_, hb⟩
      simp only [Bool.false_eq_true, if_false]
      simp only [List.length_nil, decide_true, Bool.true_and]
end
end Go.Proofs.YtkkcekgbnloegaaGreat
