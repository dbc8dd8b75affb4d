/- Layer 4 (token): TokenAdds. -/
import Derived.Test.YtdppdjiigecjoaaTokenAdd0
namespace Go.Proofs.Ytdppdjiigecjoaa
open Go.RowKit Go.Maps Go.WideMaps
set_option maxRecDepth 100000
set_option linter.unusedVariables false
set_option linter.unusedSimpArgs false

theorem adds_start {w w1 w2 : World} {tb mb mp : Nat} {sv : Value} {A1 : Option Addr} {c1 : Nat} (hb1 : Below w.heap.size w w1) (ht : TabIs w1 w.heap.size tb baseT sv mb mp) (hr : RefIs w2 w1.heap.size baseT (.slice A1 baseT.length c1) (.slice none 0 0)) (hb2 : Below w1.heap.size w1 w2) :
    AddsIs w (w2.alloc (.cells #[.slice A1 baseT.length c1, .slice none 0 0] 48)) baseT tb mb mp w2.heap.size := by
  have hb3 := hb2.alloc hb2.size (.cells #[.slice A1 baseT.length c1, .slice none 0 0] 48)
  have e0 : (mrgsT baseT).length = 0 := by rw [mrgs_len]; simp [base_len]
  refine ⟨okT_base, ⟨sv, ht.below hb3 (Nat.le_refl _)⟩, ⟨A1, c1, none, 0, by rw [e0]; exact blk_new w2 _, ?_⟩, hb1.trans (hb3.mono hb1.size), Nat.le_trans hb1.size hb2.size⟩
  rw [e0]
  exact (hr.less hb1.size).below ((Below.refl w2.heap.size w2).alloc (Nat.le_refl _) _) (Nat.le_refl _)

set_option maxHeartbeats 8000000 in
theorem tadds_small (l : List (Int × Int)) (A : Option Addr) (c : Nat) (a b : Int) (s : List UInt8) (w : World) (hl : Sl w A encM 2 l) (hlen : l.length ≤ 60) (hs : s.length ≤ 200)
    (ha : (Lit.int .i64 a).wf = true) (hb : (Lit.int .i64 b).wf = true) : Calls Try.prog 12 #[.slice A l.length c, .int .i64 a, .int .i64 b, strV s] w (RetTrue w) := by
  have h60 : ¬ (60 : Int) < (l.length : Int) := by omega
  have HL := Lib.hid hl
  have HAB := Lib.hid (And.intro ha hb)
  have HSS := Lib.hid (show ∃ z, bs s = z from ⟨_, rfl⟩)
  unfold strV
  obtain ⟨z, hz⟩ : ∃ z, bs s = z := ⟨_, rfl⟩
  have HZ := Lib.hid hz
  have hzs : ¬ (200 : Int) < (z.size : Int) := by rw [← hz, bs_size]; omega
  rw [hz]
  clear hl ha hb HSS hz
  go_enter Try.func12, Try.ntmps12
  go_wp2_with fail
  refine (awake4_any _).mono ?_
  rintro e w1 ⟨rfl, hb1⟩
  have HB1 := Lib.hid hb1
  clear hb1
  go_wp2_with fail
  refine (new_any [] none 0 w1 (Sl.nil _ _ _ _) (by simp)).mono ?_
  rintro e w2 ⟨hb2, (⟨T, tb, sv, mb, mp, rfl, had, hok, ht⟩ | ⟨k, hk, _⟩)⟩
  · simp only [addsT, Option.some.injEq] at had
    subst had
    have HB2 := Lib.hid (HB1.out.trans (hb2.mono HB1.out.size))
    have ht' : TabIs w2 w.heap.size tb baseT sv mb mp := ⟨ht.blk, own_less ht.row HB1.out.size, ht.bys, ht.prs, ht.ne, by have := HB1.out.size; have := ht.lt; omega⟩
    have HT2 := Lib.hid ht'
    clear ht ht' hok hb2
    go_wp2_with fail
    refine (rbegin_any w2).mono ?_
    rintro e w3 ⟨vb, rfl, hr, hb3⟩
    obtain ⟨A1, c1, rfl⟩ := own_slice hr.row
    have HS := Lib.hid (adds_start HB2.out HT2.out hr hb3)
    clear hr hb3 HT2
    go_wp2_with fail
    generalize hW : w3.alloc (.cells #[.slice A1 baseT.length c1, .slice none 0 0] 48) = W0 at *
    obtain ⟨mv, hmv⟩ : ∃ mv, w3.heap.size = mv := ⟨_, rfl⟩
    rw [hmv] at HS ⊢
    clear hmv hW
    go_loopg [13] l.length (fun n i W => ∃ k T, k + n = l.length ∧ i = .int .i64 ((k : Nat) : Int) ∧ AddsIs w W T tb mb mp mv)
    case atStart => exact ⟨0, baseT, by omega, rfl, HS.out⟩
    case round =>
      obtain ⟨k, T, hk, rfl, hW⟩ := hrel
      clear HS
      rename World => W
      obtain ⟨A3, c3, A4, c4, hbk, href⟩ := hW.ref
      have c0 := blk_cell hbk 0
      have c1' := blk_cell hbk 1
      simp only [List.getElem?_toArray, List.getElem?_cons_zero, List.getElem?_cons_succ] at c0 c1'
      have HREF := Lib.hid href
      have HBK := Lib.hid hbk
      by_cases hlt : k < l.length
      · have hlt' : (k : Int) < (l.length : Int) := by omega
        obtain ⟨ba, o, rfl, hc0⟩ := (HL.out.below hW.below (Nat.le_refl _)).at k hlt
        have g0 : W.cell? ⟨ba, o + k * 2, none⟩ = some (.int .i64 l[k].1) := hc0 0 _ rfl
        have g1 : W.cell? ⟨ba, o + k * 2 + 1, none⟩ = some (.int .i64 l[k].2) := hc0 1 _ rfl
        generalize l[k].1 = x at *
        generalize l[k].2 = y at *
        have HW := Lib.hid hW
        clear hc0 hW href hbk
        have p0 : (0 : Int) ≤ k := by omega
        have HADD : Hid (∀ V, Below W.heap.size W V → Calls Try.prog 51 #[.agg #[.slice A3 T.length c3, .slice A4 (mrgsT T).length c4], .agg #[.int .i64 x, .int .i64 y]] V (RAddOk V w.heap.size T x y)) := Lib.hid (fun V hV => radd_any x y (HREF.out.below hV (Nat.le_refl _)) HW.out.ok (Nat.le_trans HW.out.below.size hV.size))
        have HSC : Hid (∀ V, Below W.heap.size W V → V.cell? ⟨mv, 0, none⟩ = some (.slice A3 T.length c3) ∧ V.cell? ⟨mv, 1, none⟩ = some (.slice A4 (mrgsT T).length c4) ∧ V.cell? ⟨ba, o + k * 2, none⟩ = some (.int .i64 x) ∧ V.cell? ⟨ba, o + k * 2 + 1, none⟩ = some (.int .i64 y)) := Lib.hid (fun V hV => ⟨below_cell hV (Nat.le_refl _) c0, below_cell hV (Nat.le_refl _) c1', below_cell hV (Nat.le_refl _) g0, below_cell hV (Nat.le_refl _) g1⟩)
        have HBB : Hid (Below W.heap.size W W.drew) := Lib.hid ⟨rfl, rfl, rfl, Nat.le_refl _, fun _ _ => rfl⟩
        go_wp2_with fail
        refine wp_region_G (D := 11) (S := fun V => V.cell? ⟨mv, 0, none⟩ = some (.slice A3 T.length c3) ∧ V.cell? ⟨mv, 1, none⟩ = some (.slice A4 (mrgsT T).length c4) ∧ V.cell? ⟨ba, o + k * 2, none⟩ = some (.int .i64 x) ∧ V.cell? ⟨ba, o + k * 2 + 1, none⟩ = some (.int .i64 y)) (by kernel_rfl) (by exact HSC.out _ HBB.out) (fun hHeld => ?_)
        refine wpAnyG_takeD (i := 0) (oi := { dst := some 54, op := Op.load 48 (Operand.tmp 12), type := 48, pos := "law.go:67", after := #[], guard := none }) (d := 54) (v := ?_) rfl rfl (by kernel_rfl) (by kernel_rfl) (by kernel_rfl) (by kernel_rfl) (fun _ _ _ h => h) (Or.inl ⟨by rfl, ?_⟩) hHeld ?_
        rotate_left
        · (intro w' hSw; (try dsimp only at hSw); go_simp; (try with_reducible rfl))
        simp only [List.setIfInBounds_toArray, List.set_cons_zero, List.set_cons_succ]
        refine wpAnyG_takeD (i := 1) (oi := { dst := some 55, op := Op.move (Operand.tmp 0), type := 46, pos := "law.go:67", after := #[], guard := none }) (d := 55) (v := ?_) rfl rfl (by kernel_rfl) (by kernel_rfl) (by kernel_rfl) (by kernel_rfl) (fun _ _ _ h => h) (Or.inl ⟨by rfl, ?_⟩) hHeld ?_
        rotate_left
        · (intro w' hSw; (try dsimp only at hSw); go_simp; (try with_reducible rfl))
        simp only [List.setIfInBounds_toArray, List.set_cons_zero, List.set_cons_succ]
        refine wpAnyG_takeD (i := 2) (oi := { dst := some 56, op := Op.move (Operand.tmp 13), type := 3, pos := "law.go:67", after := #[], guard := none }) (d := 56) (v := ?_) rfl rfl (by kernel_rfl) (by kernel_rfl) (by kernel_rfl) (by kernel_rfl) (fun _ _ _ h => h) (Or.inl ⟨by rfl, ?_⟩) hHeld ?_
        rotate_left
        · (intro w' hSw; (try dsimp only at hSw); go_simp; (try with_reducible rfl))
        simp only [List.setIfInBounds_toArray, List.set_cons_zero, List.set_cons_succ]
        refine wpAnyG_takeD (i := 3) (oi := { dst := some 57, op := Op.indexAddr 46 (Operand.tmp 55) (Operand.tmp 56), type := 0, pos := "law.go:67", after := #[{ on := 1, ground := Ground.data }, { on := 2, ground := Ground.data }], guard := none }) (d := 57) (v := ?_) rfl rfl (by kernel_rfl) (by kernel_rfl) (by kernel_rfl) (by kernel_rfl) (fun _ _ _ h => h) (Or.inl ⟨by rfl, ?_⟩) hHeld ?_
        rotate_left
        · (intro w' hSw; (try dsimp only at hSw); go_simp; (try with_reducible rfl))
        simp only [List.setIfInBounds_toArray, List.set_cons_zero, List.set_cons_succ]
        refine wpAnyG_takeD (i := 4) (oi := { dst := some 58, op := Op.load 52 (Operand.tmp 57), type := 52, pos := "law.go:67", after := #[{ on := 3, ground := Ground.data }], guard := none }) (d := 58) (v := ?_) rfl rfl (by kernel_rfl) (by kernel_rfl) (by kernel_rfl) (by kernel_rfl) (fun _ _ _ h => h) (Or.inl ⟨by rfl, ?_⟩) hHeld ?_
        rotate_left
        · (intro w' hSw; (try dsimp only at hSw); go_simp; (try with_reducible rfl))
        simp only [List.setIfInBounds_toArray, List.set_cons_zero, List.set_cons_succ]
        refine wpAnyG_two (i := 5) (j := 9) (oi := { dst := some 59, op := Op.call { callee := Callee.value (Operand.func 51), args := #[Operand.tmp 54, Operand.tmp 58], argTypes := #[48, 52] }, type := 87, pos := "law.go:67", after := #[{ on := 0, ground := Ground.data }, { on := 4, ground := Ground.data }], guard := none }) (oj := { dst := some 14, op := Op.alloc 48, type := 0, pos := "law.go:67", after := #[], guard := none }) (by kernel_rfl) rfl rfl (by rfl) (by rfl) (fun K hK => ?_) (fun K hK => ?_)
        ·
          go_simp; refine (HADD.out _ HBB.out).mono ?_; rintro e W' ⟨hb, A5, n5, c5, A6, n6, c6, rfl, href⟩; (try have HNB := Lib.hid (And.intro (blk_below hb (blk_lt HNB.out.1) HNB.out.1) HNB.out.2)); have HBB := Lib.hid (HBB.out.trans (hb.mono HBB.out.size)); have HR := Lib.hid href; have h := HSC.out _ HBB.out; clear hb href; go_simp
          refine hK.out _ _ h (fun hHeld => ?_)
          clear hK K
          try simp only [Act.put, List.setIfInBounds_toArray, List.set_cons_zero, List.set_cons_succ]
          refine wpAnyG_takeD (i := 6) (oi := { dst := some 53, op := Op.move (Operand.tmp 59), type := 87, pos := "law.go:67", after := #[{ on := 5, ground := Ground.data }], guard := none }) (d := 53) (v := ?_) rfl rfl (by kernel_rfl) (by kernel_rfl) (by kernel_rfl) (by kernel_rfl) (fun _ _ _ h => h) (Or.inl ⟨by rfl, ?_⟩) hHeld ?_
          rotate_left
          · (intro w' hSw; (try dsimp only at hSw); go_simp; (try with_reducible rfl))
          simp only [List.setIfInBounds_toArray, List.set_cons_zero, List.set_cons_succ]
          refine wpAnyG_takeD (i := 7) (oi := { dst := some 60, op := Op.extract (Operand.tmp 53) 0, type := 48, pos := "law.go:67", after := #[{ on := 6, ground := Ground.data }], guard := none }) (d := 60) (v := ?_) rfl rfl (by kernel_rfl) (by kernel_rfl) (by kernel_rfl) (by kernel_rfl) (fun _ _ _ h => h) (Or.inl ⟨by rfl, ?_⟩) hHeld ?_
          rotate_left
          · (intro w' hSw; (try dsimp only at hSw); go_simp; (try with_reducible rfl))
          simp only [List.setIfInBounds_toArray, List.set_cons_zero, List.set_cons_succ]
          refine wpAnyG_takeD (i := 8) (oi := { dst := some 61, op := Op.extract (Operand.tmp 53) 1, type := 3, pos := "law.go:67", after := #[{ on := 6, ground := Ground.data }, { on := 10, ground := Ground.gcOnly Departure.lateStores }], guard := none }) (d := 61) (v := ?_) rfl rfl (by kernel_rfl) (by kernel_rfl) (by kernel_rfl) (by kernel_rfl) (fun _ _ _ h => h) (Or.inl ⟨by rfl, ?_⟩) hHeld ?_
          rotate_left
          · (intro w' hSw; (try dsimp only at hSw); go_simp; (try with_reducible rfl))
          simp only [List.setIfInBounds_toArray, List.set_cons_zero, List.set_cons_succ]
          refine wpAnyG_one (i := 9) (o := { dst := some 14, op := Op.alloc 48, type := 0, pos := "law.go:67", after := #[], guard := none }) (by kernel_rfl) rfl (by rfl) (fun K hK => ?_)
          go_simp; have HNB := Lib.hid (And.intro (bel_new HBB.out (.cells #[.slice none 0 0, .slice none 0 0] 48)) HBB.out.size); (try have HR := Lib.hid (HR.out.below ((Below.refl _ _).alloc (Nat.le_refl _) (.cells #[.slice none 0 0, .slice none 0 0] 48)) (Nat.le_refl _))); have HBB := Lib.hid (bel_alloc HBB.out (.cells #[.slice none 0 0, .slice none 0 0] 48)); refine gen_below HBB.out rfl (fun W' hW' => ?_); rw [← hW'] at HBB HNB; (try rw [← hW'] at HR); (try rw [show W.drew.heap.size = W.heap.size from rfl] at HNB); clear hW'; have h := HSC.out _ HBB.out
          refine hK.out _ _ h (fun hHeld => ?_)
          clear hK K
          try simp only [Act.put, List.setIfInBounds_toArray, List.set_cons_zero, List.set_cons_succ]
          refine wpAnyG_one (i := 10) (o := { dst := none, op := Op.store 48 (Operand.tmp 14) (Operand.tmp 60), type := 0, pos := "law.go:67", after := #[{ on := 9, ground := Ground.data }, { on := 7, ground := Ground.data }, { on := 5, ground := Ground.chain }, { on := 0, ground := Ground.phase }, { on := 1, ground := Ground.phase }, { on := 2, ground := Ground.phase }, { on := 3, ground := Ground.phase }, { on := 4, ground := Ground.phase }, { on := 5, ground := Ground.phase }, { on := 6, ground := Ground.phase }, { on := 7, ground := Ground.phase }, { on := 8, ground := Ground.textOnly Departure.lateStores }, { on := 9, ground := Ground.phase }], guard := none }) (by kernel_rfl) rfl (by rfl) (fun K hK => ?_)
          have d0 := blk_cell HNB.out.1 0; have d1 := blk_cell HNB.out.1 1; have z0 := blk_froz HNB.out.1 0; have z1 := blk_froz HNB.out.1 1; simp only [List.getElem?_toArray, List.getElem?_cons_zero, List.getElem?_cons_succ] at d0 d1; go_simp; have HNB2 := Lib.hid (And.intro (ref_put HR.out HNB.out.1).1 HNB.out.2); have HR := Lib.hid (ref_put HR.out HNB.out.1).2; have HBB := Lib.hid (bel_put HBB.out HNB.out.2 (.slice A5 n5 c5) (.slice A6 n6 c6)); refine gen_below HBB.out rfl (fun W' hW' => ?_); rw [← hW'] at HBB HNB2 HR; clear hW' d0 d1 z0 z1; have h := HSC.out _ HBB.out
          refine hK.out _ _ h (fun hHeld => ?_)
          clear hK K
          try simp only [Act.put, List.setIfInBounds_toArray, List.set_cons_zero, List.set_cons_succ]
          refine wpAnyG_last (o := { dst := some 15, op := Op.assign (Operand.tmp 61), type := 3, pos := "law.go:67", after := #[{ on := 8, ground := Ground.data }, { on := 10, ground := Ground.chain }, { on := 0, ground := Ground.phase }, { on := 1, ground := Ground.phase }, { on := 2, ground := Ground.phase }, { on := 3, ground := Ground.phase }, { on := 4, ground := Ground.phase }, { on := 5, ground := Ground.phase }, { on := 6, ground := Ground.phase }, { on := 7, ground := Ground.phase }, { on := 8, ground := Ground.phase }, { on := 9, ground := Ground.phase }, { on := 10, ground := Ground.phase }], guard := none }) (by kernel_rfl) rfl (by rfl) (fun K hK => ?_)
          go_simp
          refine hK.out _ _ ?_
          clear hK K
          try simp only [Act.put, List.setIfInBounds_toArray, List.set_cons_zero, List.set_cons_succ]
          refine wpAnyG_done (by kernel_rfl) ?_ _
          have t2 := h.2.2.1
          have t3 := h.2.2.2
          obtain ⟨sv, ht⟩ := HW.out.tab
          have ht3 := ht.below HBB.out (Nat.le_refl _)
          have HT0 := Lib.hid ht
          have HT3 := Lib.hid ht3
          have HB3 := Lib.hid (HW.out.below.trans (HBB.out.mono HW.out.below.size))
          have HK3 := Lib.hid (blk_below HBB.out (blk_lt HBK.out) HBK.out)
          clear hHeld h c0 c1' g0 g1 ht ht3
          rcases Decidable.em ((addT T x y).2.1 = 0) with he | he
          · have HE := Lib.hid he
            have HADD2 := Lib.hid (add_ok x y HT3.out HW.out.ok he HB3.out.size)
            rw [he]
            rw [addT_yes he] at HADD2
            clear he
            go_wp2_with fail
            refine HADD2.out.mono ?_
            rintro e W5 ⟨rfl, had⟩
            obtain ⟨sv', ht5, _⟩ := had.ex
            have HPUT := Lib.hid (HW.out.put HT0.out HBB.out HR.out ⟨sv', ht5⟩ had.keep (okT_add HW.out.ok _ _ HE.out))
            have hn5 := had.keep.blk HNB2.out.1 (tabF_blk HT3.out HNB2.out.1 (by decide) (by decide))
            have hm5 := had.keep.blk HK3.out (tabF_blk HT3.out HK3.out (by decide) (by decide))
            have e0 := blk_cell hn5 0
            have e1 := blk_cell hn5 1
            have m0 := blk_cell hm5 0
            have m1 := blk_cell hm5 1
            have f0 := blk_froz hm5 0
            have f1 := blk_froz hm5 1
            simp only [List.getElem?_toArray, List.getElem?_cons_zero, List.getElem?_cons_succ] at e0 e1 m0 m1
            clear had ht5 hn5 hm5 t2 t3 HADD HSC HADD2
            go_wp2_with fail
            go_roundg (gk - 1)
            case measure => omega
            case rel => exact ⟨k + 1, _, by omega, by simp, HPUT.out⟩
          · have HE := Lib.hid he
            have HADD2 := Lib.hid (add_err x y HT3.out HW.out.ok he)
            obtain ⟨E, hE⟩ : ∃ E, (addT T x y).2.1 = E := ⟨_, rfl⟩
            rw [hE] at he HADD2 ⊢
            clear hE
            go_wp2_with fail
            refine HADD2.out.mono ?_
            rintro e W5 ⟨rfl, hb5⟩
            have hk5 : Keep (tabF tb sv mb mp) _ W5 := Keep.of_below hb5
            have HPUT := Lib.hid (HW.out.put HT0.out HBB.out HR.out ⟨sv, by rw [(addT_no HE.out).2]; exact HT3.out.below hb5 (Nat.le_refl _)⟩ hk5 (by rw [(addT_no HE.out).2]; exact HW.out.ok))
            have hn5 := blk_below hb5 (blk_lt HNB2.out.1) HNB2.out.1
            have hm5 := blk_below hb5 (blk_lt HK3.out) HK3.out
            have e0 := blk_cell hn5 0
            have e1 := blk_cell hn5 1
            have m0 := blk_cell hm5 0
            have m1 := blk_cell hm5 1
            have f0 := blk_froz hm5 0
            have f1 := blk_froz hm5 1
            simp only [List.getElem?_toArray, List.getElem?_cons_zero, List.getElem?_cons_succ] at e0 e1 m0 m1
            clear hb5 hk5 hn5 hm5 t2 t3 HADD HSC HADD2
            go_wp2_with fail
            go_roundg (gk - 1)
            case measure => omega
            case rel => exact ⟨k + 1, _, by omega, by simp, HPUT.out⟩
        ·
          go_simp; have HNB := Lib.hid (And.intro (bel_new HBB.out (.cells #[.slice none 0 0, .slice none 0 0] 48)) HBB.out.size); (try have HR := Lib.hid (HR.out.below ((Below.refl _ _).alloc (Nat.le_refl _) (.cells #[.slice none 0 0, .slice none 0 0] 48)) (Nat.le_refl _))); have HBB := Lib.hid (bel_alloc HBB.out (.cells #[.slice none 0 0, .slice none 0 0] 48)); refine gen_below HBB.out rfl (fun W' hW' => ?_); rw [← hW'] at HBB HNB; (try rw [← hW'] at HR); (try rw [show W.drew.heap.size = W.heap.size from rfl] at HNB); clear hW'; have h := HSC.out _ HBB.out
          refine hK.out _ _ h (fun hHeld => ?_)
          clear hK K
          try simp only [Act.put, List.setIfInBounds_toArray, List.set_cons_zero, List.set_cons_succ]
          refine wpAnyG_one (i := 5) (o := { dst := some 59, op := Op.call { callee := Callee.value (Operand.func 51), args := #[Operand.tmp 54, Operand.tmp 58], argTypes := #[48, 52] }, type := 87, pos := "law.go:67", after := #[{ on := 0, ground := Ground.data }, { on := 4, ground := Ground.data }], guard := none }) (by kernel_rfl) rfl (by rfl) (fun K hK => ?_)
          go_simp; refine (HADD.out _ HBB.out).mono ?_; rintro e W' ⟨hb, A5, n5, c5, A6, n6, c6, rfl, href⟩; (try have HNB := Lib.hid (And.intro (blk_below hb (blk_lt HNB.out.1) HNB.out.1) HNB.out.2)); have HBB := Lib.hid (HBB.out.trans (hb.mono HBB.out.size)); have HR := Lib.hid href; have h := HSC.out _ HBB.out; clear hb href; go_simp
          refine hK.out _ _ h (fun hHeld => ?_)
          clear hK K
          try simp only [Act.put, List.setIfInBounds_toArray, List.set_cons_zero, List.set_cons_succ]
          refine wpAnyG_takeD (i := 6) (oi := { dst := some 53, op := Op.move (Operand.tmp 59), type := 87, pos := "law.go:67", after := #[{ on := 5, ground := Ground.data }], guard := none }) (d := 53) (v := ?_) rfl rfl (by kernel_rfl) (by kernel_rfl) (by kernel_rfl) (by kernel_rfl) (fun _ _ _ h => h) (Or.inl ⟨by rfl, ?_⟩) hHeld ?_
          rotate_left
          · (intro w' hSw; (try dsimp only at hSw); go_simp; (try with_reducible rfl))
          simp only [List.setIfInBounds_toArray, List.set_cons_zero, List.set_cons_succ]
          refine wpAnyG_takeD (i := 7) (oi := { dst := some 60, op := Op.extract (Operand.tmp 53) 0, type := 48, pos := "law.go:67", after := #[{ on := 6, ground := Ground.data }], guard := none }) (d := 60) (v := ?_) rfl rfl (by kernel_rfl) (by kernel_rfl) (by kernel_rfl) (by kernel_rfl) (fun _ _ _ h => h) (Or.inl ⟨by rfl, ?_⟩) hHeld ?_
          rotate_left
          · (intro w' hSw; (try dsimp only at hSw); go_simp; (try with_reducible rfl))
          simp only [List.setIfInBounds_toArray, List.set_cons_zero, List.set_cons_succ]
          refine wpAnyG_takeD (i := 8) (oi := { dst := some 61, op := Op.extract (Operand.tmp 53) 1, type := 3, pos := "law.go:67", after := #[{ on := 6, ground := Ground.data }, { on := 10, ground := Ground.gcOnly Departure.lateStores }], guard := none }) (d := 61) (v := ?_) rfl rfl (by kernel_rfl) (by kernel_rfl) (by kernel_rfl) (by kernel_rfl) (fun _ _ _ h => h) (Or.inl ⟨by rfl, ?_⟩) hHeld ?_
          rotate_left
          · (intro w' hSw; (try dsimp only at hSw); go_simp; (try with_reducible rfl))
          simp only [List.setIfInBounds_toArray, List.set_cons_zero, List.set_cons_succ]
          refine wpAnyG_one (i := 10) (o := { dst := none, op := Op.store 48 (Operand.tmp 14) (Operand.tmp 60), type := 0, pos := "law.go:67", after := #[{ on := 9, ground := Ground.data }, { on := 7, ground := Ground.data }, { on := 5, ground := Ground.chain }, { on := 0, ground := Ground.phase }, { on := 1, ground := Ground.phase }, { on := 2, ground := Ground.phase }, { on := 3, ground := Ground.phase }, { on := 4, ground := Ground.phase }, { on := 5, ground := Ground.phase }, { on := 6, ground := Ground.phase }, { on := 7, ground := Ground.phase }, { on := 8, ground := Ground.textOnly Departure.lateStores }, { on := 9, ground := Ground.phase }], guard := none }) (by kernel_rfl) rfl (by rfl) (fun K hK => ?_)
          have d0 := blk_cell HNB.out.1 0; have d1 := blk_cell HNB.out.1 1; have z0 := blk_froz HNB.out.1 0; have z1 := blk_froz HNB.out.1 1; simp only [List.getElem?_toArray, List.getElem?_cons_zero, List.getElem?_cons_succ] at d0 d1; go_simp; have HNB2 := Lib.hid (And.intro (ref_put HR.out HNB.out.1).1 HNB.out.2); have HR := Lib.hid (ref_put HR.out HNB.out.1).2; have HBB := Lib.hid (bel_put HBB.out HNB.out.2 (.slice A5 n5 c5) (.slice A6 n6 c6)); refine gen_below HBB.out rfl (fun W' hW' => ?_); rw [← hW'] at HBB HNB2 HR; clear hW' d0 d1 z0 z1; have h := HSC.out _ HBB.out
          refine hK.out _ _ h (fun hHeld => ?_)
          clear hK K
          try simp only [Act.put, List.setIfInBounds_toArray, List.set_cons_zero, List.set_cons_succ]
          refine wpAnyG_last (o := { dst := some 15, op := Op.assign (Operand.tmp 61), type := 3, pos := "law.go:67", after := #[{ on := 8, ground := Ground.data }, { on := 10, ground := Ground.chain }, { on := 0, ground := Ground.phase }, { on := 1, ground := Ground.phase }, { on := 2, ground := Ground.phase }, { on := 3, ground := Ground.phase }, { on := 4, ground := Ground.phase }, { on := 5, ground := Ground.phase }, { on := 6, ground := Ground.phase }, { on := 7, ground := Ground.phase }, { on := 8, ground := Ground.phase }, { on := 9, ground := Ground.phase }, { on := 10, ground := Ground.phase }], guard := none }) (by kernel_rfl) rfl (by rfl) (fun K hK => ?_)
          go_simp
          refine hK.out _ _ ?_
          clear hK K
          try simp only [Act.put, List.setIfInBounds_toArray, List.set_cons_zero, List.set_cons_succ]
          refine wpAnyG_done (by kernel_rfl) ?_ _
          have t2 := h.2.2.1
          have t3 := h.2.2.2
          obtain ⟨sv, ht⟩ := HW.out.tab
          have ht3 := ht.below HBB.out (Nat.le_refl _)
          have HT0 := Lib.hid ht
          have HT3 := Lib.hid ht3
          have HB3 := Lib.hid (HW.out.below.trans (HBB.out.mono HW.out.below.size))
          have HK3 := Lib.hid (blk_below HBB.out (blk_lt HBK.out) HBK.out)
          clear hHeld h c0 c1' g0 g1 ht ht3
          rcases Decidable.em ((addT T x y).2.1 = 0) with he | he
          · have HE := Lib.hid he
            have HADD2 := Lib.hid (add_ok x y HT3.out HW.out.ok he HB3.out.size)
            rw [he]
            rw [addT_yes he] at HADD2
            clear he
            go_wp2_with fail
            refine HADD2.out.mono ?_
            rintro e W5 ⟨rfl, had⟩
            obtain ⟨sv', ht5, _⟩ := had.ex
            have HPUT := Lib.hid (HW.out.put HT0.out HBB.out HR.out ⟨sv', ht5⟩ had.keep (okT_add HW.out.ok _ _ HE.out))
            have hn5 := had.keep.blk HNB2.out.1 (tabF_blk HT3.out HNB2.out.1 (by decide) (by decide))
            have hm5 := had.keep.blk HK3.out (tabF_blk HT3.out HK3.out (by decide) (by decide))
            have e0 := blk_cell hn5 0
            have e1 := blk_cell hn5 1
            have m0 := blk_cell hm5 0
            have m1 := blk_cell hm5 1
            have f0 := blk_froz hm5 0
            have f1 := blk_froz hm5 1
            simp only [List.getElem?_toArray, List.getElem?_cons_zero, List.getElem?_cons_succ] at e0 e1 m0 m1
            clear had ht5 hn5 hm5 t2 t3 HADD HSC HADD2
            go_wp2_with fail
            go_roundg (gk - 1)
            case measure => omega
            case rel => exact ⟨k + 1, _, by omega, by simp, HPUT.out⟩
          · have HE := Lib.hid he
            have HADD2 := Lib.hid (add_err x y HT3.out HW.out.ok he)
            obtain ⟨E, hE⟩ : ∃ E, (addT T x y).2.1 = E := ⟨_, rfl⟩
            rw [hE] at he HADD2 ⊢
            clear hE
            go_wp2_with fail
            refine HADD2.out.mono ?_
            rintro e W5 ⟨rfl, hb5⟩
            have hk5 : Keep (tabF tb sv mb mp) _ W5 := Keep.of_below hb5
            have HPUT := Lib.hid (HW.out.put HT0.out HBB.out HR.out ⟨sv, by rw [(addT_no HE.out).2]; exact HT3.out.below hb5 (Nat.le_refl _)⟩ hk5 (by rw [(addT_no HE.out).2]; exact HW.out.ok))
            have hn5 := blk_below hb5 (blk_lt HNB2.out.1) HNB2.out.1
            have hm5 := blk_below hb5 (blk_lt HK3.out) HK3.out
            have e0 := blk_cell hn5 0
            have e1 := blk_cell hn5 1
            have m0 := blk_cell hm5 0
            have m1 := blk_cell hm5 1
            have f0 := blk_froz hm5 0
            have f1 := blk_froz hm5 1
            simp only [List.getElem?_toArray, List.getElem?_cons_zero, List.getElem?_cons_succ] at e0 e1 m0 m1
            clear hb5 hk5 hn5 hm5 t2 t3 HADD HSC HADD2
            go_wp2_with fail
            go_roundg (gk - 1)
            case measure => omega
            case rel => exact ⟨k + 1, _, by omega, by simp, HPUT.out⟩
      · have hlt' : ¬ (k : Int) < (l.length : Int) := by omega
        obtain ⟨sv, ht⟩ := hW.tab
        have HT := Lib.hid ht
        have HW := Lib.hid hW
        have HF := Lib.hid (find_tab s (by unfold maxLen; omega) ht)
        unfold strV at HF
        rw [HZ.out] at HF
        have HB := Lib.hid (bytes_tab a ht)
        rw [show strV (bytesT T a) = .string (bs (bytesT T a)) from rfl] at HB
        have HPI := Lib.hid (fun V (hV : Below W.heap.size W V) => rpair_any a b (HREF.out.below hV (Nat.le_refl _)) HW.out.ok)
        have HFI := Lib.hid (fun V (hV : Below W.heap.size W V) => rfind_any s (HREF.out.below hV (Nat.le_refl _)) HW.out.ok.small)
        unfold strV at HFI
        rw [HZ.out] at HFI
        have HHI := Lib.hid (fun V (hV : Below W.heap.size W V) => rhas_any a (HREF.out.below hV (Nat.le_refl _)))
        have HSAME := Lib.hid (fun V (hV : Below W.heap.size W V) => same_any (HT.out.below hV (Nat.le_refl _)) (HREF.out.below hV (Nat.le_refl _)) HW.out.ok)
        have HSC : Hid (∀ V, Below W.heap.size W V → V.cell? ⟨mv, 0, none⟩ = some (.slice A3 T.length c3) ∧ V.cell? ⟨mv, 1, none⟩ = some (.slice A4 (mrgsT T).length c4)) := Lib.hid (fun V hV => ⟨below_cell hV (Nat.le_refl _) c0, below_cell hV (Nat.le_refl _) c1'⟩)
        have HBORN := Lib.hid (born_has HW.out.ok a)
        have HPT := Lib.hid (pair_tab a b HAB.out.1 HAB.out.2 ht)
        have HPA := Lib.hid (par_tab a ht)
        clear ht hW href hbk c0 c1'
        go_wp2_with fail
        refine HPT.out.mono ?_
        rintro e w' ⟨rfl, rfl⟩
        go_wp2_with fail
        refine HF.out.mono ?_
        rintro e w'' ⟨rfl, rfl⟩
        go_wp2_with fail
        refine HB.out.mono ?_
        rintro e w7 ⟨rfl, rfl⟩


        go_wp2_with fail
        refine HPA.out.mono ?_
        rintro e w5 ⟨rfl, hb5⟩
        rw [HBORN.out]
        obtain ⟨u, v, huv⟩ : ∃ u v, parT T a = (u, v) := ⟨_, _, rfl⟩
        rw [huv]
        unfold pairV
        have hbb := hb5.alloc hb5.size (.cells #[.int .i64 u, .int .i64 v] 52)
        have HBB := Lib.hid hbb
        obtain ⟨m0, m1⟩ := HSC.out _ hbb
        clear hb5 hbb huv HPT HF HB HPA HBORN
        go_upto_region 19 with fail
        simp only [List.append_eq, List.cons_append, List.nil_append]
        rcases hp : pairT T (a, b) with _ | i
        · rcases hf : findT T s with _ | j
          · cases hh : hasT T a
            · simp only [pairI, hp] at HPI
              simp only [findI, hf] at HFI
              rw [hh] at HHI
              go_wp2_with fail
              refine (HPI.out _ HBB.out).mono ?_
              rintro e w8 ⟨rfl, hb8⟩
              have HBB := Lib.hid (HBB.out.trans (hb8.mono HBB.out.size))
              obtain ⟨m0, m1⟩ := HSC.out _ HBB.out
              clear hb8
              go_wp2_with fail
              refine (HFI.out _ HBB.out).mono ?_
              rintro e w8 ⟨rfl, hb8⟩
              have HBB := Lib.hid (HBB.out.trans (hb8.mono HBB.out.size))
              obtain ⟨m0, m1⟩ := HSC.out _ HBB.out
              clear hb8
              go_wp2_with fail
              refine (HHI.out _ HBB.out).mono ?_
              rintro e w8 ⟨rfl, hb8⟩
              have HBB := Lib.hid (HBB.out.trans (hb8.mono HBB.out.size))
              obtain ⟨m0, m1⟩ := HSC.out _ HBB.out
              clear hb8
              go_wp2_with fail
              refine (HHI.out _ HBB.out).mono ?_
              rintro e w8 ⟨rfl, hb8⟩
              have HBB := Lib.hid (HBB.out.trans (hb8.mono HBB.out.size))
              obtain ⟨m0, m1⟩ := HSC.out _ HBB.out
              clear hb8
              go_wp2_with fail
              refine (HSAME.out _ HBB.out).mono ?_
              rintro e w9 ⟨rfl, hb9⟩
              have HB9 := Lib.hid (HW.out.below.trans ((HBB.out.trans (hb9.mono HBB.out.size)).mono HW.out.below.size))
              clear hb9
              go_wp2_with fail
              go_ret
              exact ⟨rfl, HB9.out⟩
            · simp only [pairI, hp] at HPI
              simp only [findI, hf] at HFI
              rw [hh] at HHI
              obtain ⟨q, rfl, hq, heq⟩ := hasT_at hh
              have hbt : bytesT T (q : Int) = T[q].1 := by unfold bytesT; rw [if_pos hh, heq]
              rw [hbt]
              obtain ⟨bq, oq, hA3, _⟩ := (own_sl1 HREF.out.row).at q (by simpa [bytsT] using hq)
              subst hA3
              have HSC2 : Hid (∀ V, Below w7.heap.size w7 V → V.cell? ⟨bq, oq + q, none⟩ = some (.string (bs T[q].1))) := Lib.hid (fun V hV => by
                obtain ⟨b1, o1, e1, g1⟩ := (own_sl1 (HREF.out.below hV (Nat.le_refl _)).row).at q (by simpa [bytsT] using hq)
                injection e1 with e1
                injection e1 with e1 e2
                subst e1; subst e2
                simpa [bytsT, strV] using g1)
              have m2 := HSC2.out _ HBB.out
              have q0 : (0 : Int) ≤ (q : Int) := by omega
              have q1 : (q : Int) < (T.length : Int) := by omega
              clear hbt heq
              generalize bs T[q].1 = zq at *
              go_wp2_with fail
              refine (HPI.out _ HBB.out).mono ?_
              rintro e w8 ⟨rfl, hb8⟩
              have HBB := Lib.hid (HBB.out.trans (hb8.mono HBB.out.size))
              obtain ⟨m0, m1⟩ := HSC.out _ HBB.out
              have m2 := HSC2.out _ HBB.out
              clear hb8
              go_wp2_with fail
              refine (HFI.out _ HBB.out).mono ?_
              rintro e w8 ⟨rfl, hb8⟩
              have HBB := Lib.hid (HBB.out.trans (hb8.mono HBB.out.size))
              obtain ⟨m0, m1⟩ := HSC.out _ HBB.out
              have m2 := HSC2.out _ HBB.out
              clear hb8
              go_wp2_with fail
              refine (HHI.out _ HBB.out).mono ?_
              rintro e w8 ⟨rfl, hb8⟩
              have HBB := Lib.hid (HBB.out.trans (hb8.mono HBB.out.size))
              obtain ⟨m0, m1⟩ := HSC.out _ HBB.out
              have m2 := HSC2.out _ HBB.out
              clear hb8
              go_wp2_with fail
              refine (HHI.out _ HBB.out).mono ?_
              rintro e w8 ⟨rfl, hb8⟩
              have HBB := Lib.hid (HBB.out.trans (hb8.mono HBB.out.size))
              obtain ⟨m0, m1⟩ := HSC.out _ HBB.out
              have m2 := HSC2.out _ HBB.out
              clear hb8
              go_wp2_with fail
              refine (HSAME.out _ HBB.out).mono ?_
              rintro e w9 ⟨rfl, hb9⟩
              have HB9 := Lib.hid (HW.out.below.trans ((HBB.out.trans (hb9.mono HBB.out.size)).mono HW.out.below.size))
              clear hb9
              go_wp2_with fail
              go_ret
              exact ⟨rfl, HB9.out⟩
          · cases hh : hasT T a
            · simp only [pairI, hp] at HPI
              simp only [findI, hf] at HFI
              rw [hh] at HHI
              go_wp2_with fail
              refine (HPI.out _ HBB.out).mono ?_
              rintro e w8 ⟨rfl, hb8⟩
              have HBB := Lib.hid (HBB.out.trans (hb8.mono HBB.out.size))
              obtain ⟨m0, m1⟩ := HSC.out _ HBB.out
              clear hb8
              go_wp2_with fail
              refine (HFI.out _ HBB.out).mono ?_
              rintro e w8 ⟨rfl, hb8⟩
              have HBB := Lib.hid (HBB.out.trans (hb8.mono HBB.out.size))
              obtain ⟨m0, m1⟩ := HSC.out _ HBB.out
              clear hb8
              go_wp2_with fail
              refine (HFI.out _ HBB.out).mono ?_
              rintro e w8 ⟨rfl, hb8⟩
              have HBB := Lib.hid (HBB.out.trans (hb8.mono HBB.out.size))
              obtain ⟨m0, m1⟩ := HSC.out _ HBB.out
              clear hb8
              go_wp2_with fail
              refine (HHI.out _ HBB.out).mono ?_
              rintro e w8 ⟨rfl, hb8⟩
              have HBB := Lib.hid (HBB.out.trans (hb8.mono HBB.out.size))
              obtain ⟨m0, m1⟩ := HSC.out _ HBB.out
              clear hb8
              go_wp2_with fail
              refine (HHI.out _ HBB.out).mono ?_
              rintro e w8 ⟨rfl, hb8⟩
              have HBB := Lib.hid (HBB.out.trans (hb8.mono HBB.out.size))
              obtain ⟨m0, m1⟩ := HSC.out _ HBB.out
              clear hb8
              go_wp2_with fail
              refine (HSAME.out _ HBB.out).mono ?_
              rintro e w9 ⟨rfl, hb9⟩
              have HB9 := Lib.hid (HW.out.below.trans ((HBB.out.trans (hb9.mono HBB.out.size)).mono HW.out.below.size))
              clear hb9
              go_wp2_with fail
              go_ret
              exact ⟨rfl, HB9.out⟩
            · simp only [pairI, hp] at HPI
              simp only [findI, hf] at HFI
              rw [hh] at HHI
              obtain ⟨q, rfl, hq, heq⟩ := hasT_at hh
              have hbt : bytesT T (q : Int) = T[q].1 := by unfold bytesT; rw [if_pos hh, heq]
              rw [hbt]
              obtain ⟨bq, oq, hA3, _⟩ := (own_sl1 HREF.out.row).at q (by simpa [bytsT] using hq)
              subst hA3
              have HSC2 : Hid (∀ V, Below w7.heap.size w7 V → V.cell? ⟨bq, oq + q, none⟩ = some (.string (bs T[q].1))) := Lib.hid (fun V hV => by
                obtain ⟨b1, o1, e1, g1⟩ := (own_sl1 (HREF.out.below hV (Nat.le_refl _)).row).at q (by simpa [bytsT] using hq)
                injection e1 with e1
                injection e1 with e1 e2
                subst e1; subst e2
                simpa [bytsT, strV] using g1)
              have m2 := HSC2.out _ HBB.out
              have q0 : (0 : Int) ≤ (q : Int) := by omega
              have q1 : (q : Int) < (T.length : Int) := by omega
              clear hbt heq
              generalize bs T[q].1 = zq at *
              go_wp2_with fail
              refine (HPI.out _ HBB.out).mono ?_
              rintro e w8 ⟨rfl, hb8⟩
              have HBB := Lib.hid (HBB.out.trans (hb8.mono HBB.out.size))
              obtain ⟨m0, m1⟩ := HSC.out _ HBB.out
              have m2 := HSC2.out _ HBB.out
              clear hb8
              go_wp2_with fail
              refine (HFI.out _ HBB.out).mono ?_
              rintro e w8 ⟨rfl, hb8⟩
              have HBB := Lib.hid (HBB.out.trans (hb8.mono HBB.out.size))
              obtain ⟨m0, m1⟩ := HSC.out _ HBB.out
              have m2 := HSC2.out _ HBB.out
              clear hb8
              go_wp2_with fail
              refine (HFI.out _ HBB.out).mono ?_
              rintro e w8 ⟨rfl, hb8⟩
              have HBB := Lib.hid (HBB.out.trans (hb8.mono HBB.out.size))
              obtain ⟨m0, m1⟩ := HSC.out _ HBB.out
              have m2 := HSC2.out _ HBB.out
              clear hb8
              go_wp2_with fail
              refine (HHI.out _ HBB.out).mono ?_
              rintro e w8 ⟨rfl, hb8⟩
              have HBB := Lib.hid (HBB.out.trans (hb8.mono HBB.out.size))
              obtain ⟨m0, m1⟩ := HSC.out _ HBB.out
              have m2 := HSC2.out _ HBB.out
              clear hb8
              go_wp2_with fail
              refine (HHI.out _ HBB.out).mono ?_
              rintro e w8 ⟨rfl, hb8⟩
              have HBB := Lib.hid (HBB.out.trans (hb8.mono HBB.out.size))
              obtain ⟨m0, m1⟩ := HSC.out _ HBB.out
              have m2 := HSC2.out _ HBB.out
              clear hb8
              go_wp2_with fail
              refine (HSAME.out _ HBB.out).mono ?_
              rintro e w9 ⟨rfl, hb9⟩
              have HB9 := Lib.hid (HW.out.below.trans ((HBB.out.trans (hb9.mono HBB.out.size)).mono HW.out.below.size))
              clear hb9
              go_wp2_with fail
              go_ret
              exact ⟨rfl, HB9.out⟩
        · rcases hf : findT T s with _ | j
          · cases hh : hasT T a
            · simp only [pairI, hp] at HPI
              simp only [findI, hf] at HFI
              rw [hh] at HHI
              go_wp2_with fail
              refine (HPI.out _ HBB.out).mono ?_
              rintro e w8 ⟨rfl, hb8⟩
              have HBB := Lib.hid (HBB.out.trans (hb8.mono HBB.out.size))
              obtain ⟨m0, m1⟩ := HSC.out _ HBB.out
              clear hb8
              go_wp2_with fail
              refine (HPI.out _ HBB.out).mono ?_
              rintro e w8 ⟨rfl, hb8⟩
              have HBB := Lib.hid (HBB.out.trans (hb8.mono HBB.out.size))
              obtain ⟨m0, m1⟩ := HSC.out _ HBB.out
              clear hb8
              go_wp2_with fail
              refine (HFI.out _ HBB.out).mono ?_
              rintro e w8 ⟨rfl, hb8⟩
              have HBB := Lib.hid (HBB.out.trans (hb8.mono HBB.out.size))
              obtain ⟨m0, m1⟩ := HSC.out _ HBB.out
              clear hb8
              go_wp2_with fail
              refine (HHI.out _ HBB.out).mono ?_
              rintro e w8 ⟨rfl, hb8⟩
              have HBB := Lib.hid (HBB.out.trans (hb8.mono HBB.out.size))
              obtain ⟨m0, m1⟩ := HSC.out _ HBB.out
              clear hb8
              go_wp2_with fail
              refine (HHI.out _ HBB.out).mono ?_
              rintro e w8 ⟨rfl, hb8⟩
              have HBB := Lib.hid (HBB.out.trans (hb8.mono HBB.out.size))
              obtain ⟨m0, m1⟩ := HSC.out _ HBB.out
              clear hb8
              go_wp2_with fail
              refine (HSAME.out _ HBB.out).mono ?_
              rintro e w9 ⟨rfl, hb9⟩
              have HB9 := Lib.hid (HW.out.below.trans ((HBB.out.trans (hb9.mono HBB.out.size)).mono HW.out.below.size))
              clear hb9
              go_wp2_with fail
              go_ret
              exact ⟨rfl, HB9.out⟩
            · simp only [pairI, hp] at HPI
              simp only [findI, hf] at HFI
              rw [hh] at HHI
              obtain ⟨q, rfl, hq, heq⟩ := hasT_at hh
              have hbt : bytesT T (q : Int) = T[q].1 := by unfold bytesT; rw [if_pos hh, heq]
              rw [hbt]
              obtain ⟨bq, oq, hA3, _⟩ := (own_sl1 HREF.out.row).at q (by simpa [bytsT] using hq)
              subst hA3
              have HSC2 : Hid (∀ V, Below w7.heap.size w7 V → V.cell? ⟨bq, oq + q, none⟩ = some (.string (bs T[q].1))) := Lib.hid (fun V hV => by
                obtain ⟨b1, o1, e1, g1⟩ := (own_sl1 (HREF.out.below hV (Nat.le_refl _)).row).at q (by simpa [bytsT] using hq)
                injection e1 with e1
                injection e1 with e1 e2
                subst e1; subst e2
                simpa [bytsT, strV] using g1)
              have m2 := HSC2.out _ HBB.out
              have q0 : (0 : Int) ≤ (q : Int) := by omega
              have q1 : (q : Int) < (T.length : Int) := by omega
              clear hbt heq
              generalize bs T[q].1 = zq at *
              go_wp2_with fail
              refine (HPI.out _ HBB.out).mono ?_
              rintro e w8 ⟨rfl, hb8⟩
              have HBB := Lib.hid (HBB.out.trans (hb8.mono HBB.out.size))
              obtain ⟨m0, m1⟩ := HSC.out _ HBB.out
              have m2 := HSC2.out _ HBB.out
              clear hb8
              go_wp2_with fail
              refine (HPI.out _ HBB.out).mono ?_
              rintro e w8 ⟨rfl, hb8⟩
              have HBB := Lib.hid (HBB.out.trans (hb8.mono HBB.out.size))
              obtain ⟨m0, m1⟩ := HSC.out _ HBB.out
              have m2 := HSC2.out _ HBB.out
              clear hb8
              go_wp2_with fail
              refine (HFI.out _ HBB.out).mono ?_
              rintro e w8 ⟨rfl, hb8⟩
              have HBB := Lib.hid (HBB.out.trans (hb8.mono HBB.out.size))
              obtain ⟨m0, m1⟩ := HSC.out _ HBB.out
              have m2 := HSC2.out _ HBB.out
              clear hb8
              go_wp2_with fail
              refine (HHI.out _ HBB.out).mono ?_
              rintro e w8 ⟨rfl, hb8⟩
              have HBB := Lib.hid (HBB.out.trans (hb8.mono HBB.out.size))
              obtain ⟨m0, m1⟩ := HSC.out _ HBB.out
              have m2 := HSC2.out _ HBB.out
              clear hb8
              go_wp2_with fail
              refine (HHI.out _ HBB.out).mono ?_
              rintro e w8 ⟨rfl, hb8⟩
              have HBB := Lib.hid (HBB.out.trans (hb8.mono HBB.out.size))
              obtain ⟨m0, m1⟩ := HSC.out _ HBB.out
              have m2 := HSC2.out _ HBB.out
              clear hb8
              go_wp2_with fail
              refine (HSAME.out _ HBB.out).mono ?_
              rintro e w9 ⟨rfl, hb9⟩
              have HB9 := Lib.hid (HW.out.below.trans ((HBB.out.trans (hb9.mono HBB.out.size)).mono HW.out.below.size))
              clear hb9
              go_wp2_with fail
              go_ret
              exact ⟨rfl, HB9.out⟩
          · cases hh : hasT T a
            · simp only [pairI, hp] at HPI
              simp only [findI, hf] at HFI
              rw [hh] at HHI
              go_wp2_with fail
              refine (HPI.out _ HBB.out).mono ?_
              rintro e w8 ⟨rfl, hb8⟩
              have HBB := Lib.hid (HBB.out.trans (hb8.mono HBB.out.size))
              obtain ⟨m0, m1⟩ := HSC.out _ HBB.out
              clear hb8
              go_wp2_with fail
              refine (HPI.out _ HBB.out).mono ?_
              rintro e w8 ⟨rfl, hb8⟩
              have HBB := Lib.hid (HBB.out.trans (hb8.mono HBB.out.size))
              obtain ⟨m0, m1⟩ := HSC.out _ HBB.out
              clear hb8
              go_wp2_with fail
              refine (HFI.out _ HBB.out).mono ?_
              rintro e w8 ⟨rfl, hb8⟩
              have HBB := Lib.hid (HBB.out.trans (hb8.mono HBB.out.size))
              obtain ⟨m0, m1⟩ := HSC.out _ HBB.out
              clear hb8
              go_wp2_with fail
              refine (HFI.out _ HBB.out).mono ?_
              rintro e w8 ⟨rfl, hb8⟩
              have HBB := Lib.hid (HBB.out.trans (hb8.mono HBB.out.size))
              obtain ⟨m0, m1⟩ := HSC.out _ HBB.out
              clear hb8
              go_wp2_with fail
              refine (HHI.out _ HBB.out).mono ?_
              rintro e w8 ⟨rfl, hb8⟩
              have HBB := Lib.hid (HBB.out.trans (hb8.mono HBB.out.size))
              obtain ⟨m0, m1⟩ := HSC.out _ HBB.out
              clear hb8
              go_wp2_with fail
              refine (HHI.out _ HBB.out).mono ?_
              rintro e w8 ⟨rfl, hb8⟩
              have HBB := Lib.hid (HBB.out.trans (hb8.mono HBB.out.size))
              obtain ⟨m0, m1⟩ := HSC.out _ HBB.out
              clear hb8
              go_wp2_with fail
              refine (HSAME.out _ HBB.out).mono ?_
              rintro e w9 ⟨rfl, hb9⟩
              have HB9 := Lib.hid (HW.out.below.trans ((HBB.out.trans (hb9.mono HBB.out.size)).mono HW.out.below.size))
              clear hb9
              go_wp2_with fail
              go_ret
              exact ⟨rfl, HB9.out⟩
            · simp only [pairI, hp] at HPI
              simp only [findI, hf] at HFI
              rw [hh] at HHI
              obtain ⟨q, rfl, hq, heq⟩ := hasT_at hh
              have hbt : bytesT T (q : Int) = T[q].1 := by unfold bytesT; rw [if_pos hh, heq]
              rw [hbt]
              obtain ⟨bq, oq, hA3, _⟩ := (own_sl1 HREF.out.row).at q (by simpa [bytsT] using hq)
              subst hA3
              have HSC2 : Hid (∀ V, Below w7.heap.size w7 V → V.cell? ⟨bq, oq + q, none⟩ = some (.string (bs T[q].1))) := Lib.hid (fun V hV => by
                obtain ⟨b1, o1, e1, g1⟩ := (own_sl1 (HREF.out.below hV (Nat.le_refl _)).row).at q (by simpa [bytsT] using hq)
                injection e1 with e1
                injection e1 with e1 e2
                subst e1; subst e2
                simpa [bytsT, strV] using g1)
              have m2 := HSC2.out _ HBB.out
              have q0 : (0 : Int) ≤ (q : Int) := by omega
              have q1 : (q : Int) < (T.length : Int) := by omega
              clear hbt heq
              generalize bs T[q].1 = zq at *
              go_wp2_with fail
              refine (HPI.out _ HBB.out).mono ?_
              rintro e w8 ⟨rfl, hb8⟩
              have HBB := Lib.hid (HBB.out.trans (hb8.mono HBB.out.size))
              obtain ⟨m0, m1⟩ := HSC.out _ HBB.out
              have m2 := HSC2.out _ HBB.out
              clear hb8
              go_wp2_with fail
              refine (HPI.out _ HBB.out).mono ?_
              rintro e w8 ⟨rfl, hb8⟩
              have HBB := Lib.hid (HBB.out.trans (hb8.mono HBB.out.size))
              obtain ⟨m0, m1⟩ := HSC.out _ HBB.out
              have m2 := HSC2.out _ HBB.out
              clear hb8
              go_wp2_with fail
              refine (HFI.out _ HBB.out).mono ?_
              rintro e w8 ⟨rfl, hb8⟩
              have HBB := Lib.hid (HBB.out.trans (hb8.mono HBB.out.size))
              obtain ⟨m0, m1⟩ := HSC.out _ HBB.out
              have m2 := HSC2.out _ HBB.out
              clear hb8
              go_wp2_with fail
              refine (HFI.out _ HBB.out).mono ?_
              rintro e w8 ⟨rfl, hb8⟩
              have HBB := Lib.hid (HBB.out.trans (hb8.mono HBB.out.size))
              obtain ⟨m0, m1⟩ := HSC.out _ HBB.out
              have m2 := HSC2.out _ HBB.out
              clear hb8
              go_wp2_with fail
              refine (HHI.out _ HBB.out).mono ?_
              rintro e w8 ⟨rfl, hb8⟩
              have HBB := Lib.hid (HBB.out.trans (hb8.mono HBB.out.size))
              obtain ⟨m0, m1⟩ := HSC.out _ HBB.out
              have m2 := HSC2.out _ HBB.out
              clear hb8
              go_wp2_with fail
              refine (HHI.out _ HBB.out).mono ?_
              rintro e w8 ⟨rfl, hb8⟩
              have HBB := Lib.hid (HBB.out.trans (hb8.mono HBB.out.size))
              obtain ⟨m0, m1⟩ := HSC.out _ HBB.out
              have m2 := HSC2.out _ HBB.out
              clear hb8
              go_wp2_with fail
              refine (HSAME.out _ HBB.out).mono ?_
              rintro e w9 ⟨rfl, hb9⟩
              have HB9 := Lib.hid (HW.out.below.trans ((HBB.out.trans (hb9.mono HBB.out.size)).mono HW.out.below.size))
              clear hb9
              go_wp2_with fail
              go_ret
              exact ⟨rfl, HB9.out⟩
  · exact absurd hk (by simp)

theorem tadds_law (x0 : List (List Int)) (A : Option Addr) (cA : Nat) (a b : Int) (s : ByteArray) (w : World)
    (_ : x0.length ≤ cA) (_ : cA ≤ maxLen) (h0 : ∀ y ∈ x0, y.length = 2 ∧ ∀ z ∈ y, (Lit.int .i64 z).wf = true) (hA : Sl w A (encInts .i64) 2 x0)
    (wa : (Lit.int .i64 a).wf = true) (wb : (Lit.int .i64 b).wf = true) (_ : s.size ≤ maxLen) :
    Calls Try.prog 12 #[.slice A x0.length cA, .int .i64 a, .int .i64 b, .string s] w (RetTrue w) := by
  by_cases h : x0.length ≤ 60
  · by_cases hs : s.size ≤ 200
    · have e0 : x0.length = (x0.map toMrg).length := by simp
      have e1 : Value.string s = strV s.data.toList := by unfold strV; rw [bs_data]
      rw [e0, e1]
      refine tadds_small _ A cA a b _ w (sl_mrg hA (fun y hy => (h0 y hy).1)) (by rw [← e0]; exact h) ?_ wa wb
      have : s.data.toList.length = s.size := Array.length_toList
      omega
    · have h1 : ¬ (60 : Int) < (x0.length : Int) := by omega
      have h2 : (200 : Int) < (s.size : Int) := by omega
      go_enter Try.func12, Try.ntmps12
      go_wp2_with fail
      refine (awake4_any _).mono ?_
      rintro e w1 ⟨rfl, hb1⟩
      go_wp2_with fail
      go_ret
      exact ⟨by simp, hb1⟩
  · have h1 : (60 : Int) < (x0.length : Int) := by omega
    go_enter Try.func12, Try.ntmps12
    go_wp2_with fail
    refine (awake4_any _).mono ?_
    rintro e w1 ⟨rfl, hb1⟩
    go_wp2_with fail
    go_ret
    exact ⟨by simp, hb1⟩
end Go.Proofs.Ytdppdjiigecjoaa
