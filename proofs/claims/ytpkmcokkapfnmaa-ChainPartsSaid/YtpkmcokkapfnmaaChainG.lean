/- Layer 5 (chain): the law's own table. -/
import Derived.Test.YtpkmcokkapfnmaaChainF
import Derived.Test.YtpkmcokkapfnmaaGrow2
namespace Go.Proofs.Ytpkmcokkapfnmaa
open Go.RowKit Go.Maps Go.WideMaps
set_option maxRecDepth 100000
set_option linter.unusedVariables false
set_option linter.unusedSimpArgs false

theorem results_tmp_cell {fn : Func} {p u : Tmp} {ty : TypeId} (h : fn.results = #[.tmp u, .cell p ty]) (tmps : Array Value) (P : Program) (w : World) :
    (results fn tmps).run P w = ((asAddr (tmps.getD p undef)).run P w).andThen fun a w₁ => ((loadVar ty a).run P w₁).andThen fun x w₂ => .ok (.tuple #[tmps.getD u undef, x]) w₂ := by
  simp only [results, h]
  simp [Sem.run_bind, Result.andThen]
/-- two results, a value and a struct in memory -/
theorem ret_tmp_cell {P : Program} {fn : Func} {R : Ending → World → Prop} {tmps : Array Value} {w : World} {r : Nat} {p u : Tmp} {ty : TypeId} {v x : Value}
    (h : fn.results = #[.tmp u, .cell p ty]) (hu : tmps.getD u undef = x) (hp : tmps.getD p undef = .pointer (some ⟨r, 0, none⟩))
    (hl : (loadVar ty ⟨r, 0, none⟩).run P w = .ok v w) (hR : R (.returned (.tuple #[x, v])) w) : bodyPost P fn R .ret ⟨tmps, []⟩ w := by
  refine bodyPost_ret (v := .tuple #[x, v]) ?_ rfl hR
  rw [results_tmp_cell h, hp, hu]
  simp [asAddr, hl, Result.andThen]
theorem adds_take (l : List (Int × Int)) : ∀ (T T' : List Ent) (k : Nat) (hk : k < l.length) (Tk : List Ent), addsT T l = some T' → addsT T (l.take k) = some Tk → (addT Tk l[k].1 l[k].2).2.1 = 0 := by
  induction l with
  | nil => intro T T' k hk; exact absurd hk (by simp)
  | cons a l ih =>
    intro T T' k hk Tk h1 h2
    simp only [addsT] at h1
    split at h1
    · rename_i h0
      match k, hk, h2 with
      | 0, _, h2 => simp only [List.take_zero, addsT, Option.some.injEq] at h2; subst h2; exact h0
      | k + 1, hk, h2 =>
        simp only [List.take_succ_cons, addsT, if_pos h0] at h2
        exact ih _ _ k (by simpa using hk) _ h1 h2
    · cases h1
/-- both tables -/
structure BothIs (w w' : World) (T : List Ent) (tb : Nat) (sv : Value) (mb mp : Nat) (vb vm : Value) : Prop where
  tab : TabIs w' w.heap.size tb T sv mb mp
  ref : RefIs w' w.heap.size T vb vm
  bl : Below w.heap.size w w'
theorem BothIs.step {w w' w2 : World} {T : List Ent} {tb : Nat} {sv : Value} {mb mp : Nat} {vb vm : Value} (h : BothIs w w' T tb sv mb mp vb vm) (hb : Below w'.heap.size w' w2) : BothIs w w2 T tb sv mb mp vb vm :=
  ⟨h.tab.below hb (Nat.le_refl _), h.ref.below hb (Nat.le_refl _), h.bl.trans (hb.mono h.bl.size)⟩
theorem TabIs.less {w : World} {b base tb : Nat} {T : List Ent} {sv : Value} {mb mp : Nat} (h : TabIs w b tb T sv mb mp) (hle : base ≤ b) : TabIs w base tb T sv mb mp :=
  ⟨h.blk, own_less h.row hle, h.bys, h.prs, h.ne, by have := h.lt; omega⟩
set_option maxHeartbeats 4000000 in
theorem table_any (l : List Nat) (A : Option Addr) (c : Nat) (w : World) (hl : Sl1 w A (fun x : Nat => .int .u16 (x : Int)) l) (hsm : ∀ x ∈ l, x < 65536) (hlen : l.length ≤ 60) :
    Calls Try.prog 12 #[.slice A l.length c] w fun e w' => ∃ T tb sv mb mp A1 n1 c1 A2 n2 c2, e = .returned (.tuple #[.pointer (some ⟨tb, 0, none⟩), .agg #[.slice A1 n1 c1, .slice A2 n2 c2]]) ∧ AddsT T ∧ T = growT l (min (l.length / 2) 30) ∧ BothIs w w' T tb sv mb mp (.slice A1 n1 c1) (.slice A2 n2 c2) := by
  have hb0 := (Below.refl w.heap.size w).alloc (Nat.le_refl _) (.cells #[.slice none 0 0, .slice none 0 0] 28)
  have HN3 := Lib.hid (blk_new w (.cells #[.slice none 0 0, .slice none 0 0] 28))
  have HB0 := Lib.hid hb0
  have HL := Lib.hid (hl.below hb0 (Nat.le_refl _))
  have HS0 := Lib.hid (show (w.alloc (.cells #[.slice none 0 0, .slice none 0 0] 28)).heap.size = w.heap.size + 1 from by simp)
  clear hl hb0
  go_enter Try.func12, Try.ntmps12
  go_wp2_with fail
  generalize w.alloc (.cells #[.slice none 0 0, .slice none 0 0] 28) = W0 at *
  refine (grow_any l A c W0 HL.out hsm (by omega)).mono ?_
  rintro e w2 ⟨hb2, A1, n1, c1, A2, n2, c2, rfl, href⟩
  obtain ⟨T, hT⟩ : ∃ T, growT l (min (l.length / 2) 30) = T := ⟨_, rfl⟩
  have HGT := Lib.hid hT
  have hadds := addsT_grow l (min (l.length / 2) 30)
  rw [hT] at href hadds
  have hn2 : n2 = (mrgsT T).length := by obtain ⟨_, _, e⟩ := own_slice href.mrg; injection e
  subst hn2
  have HADDS := Lib.hid hadds
  have hba := (Below.refl w2.heap.size w2).alloc (Nat.le_refl _) (.cells #[.slice A1 n1 c1, .slice A2 (mrgsT T).length c2] 28)
  have HN4 := Lib.hid (blk_new w2 (.cells #[.slice A1 n1 c1, .slice A2 (mrgsT T).length c2] 28))
  replace HN3 := Lib.hid (blk_alloc (blk_below hb2 (by rw [HS0.out]; exact Nat.lt_succ_self _) HN3.out) (.cells #[.slice A1 n1 c1, .slice A2 (mrgsT T).length c2] 28))
  have HSZ := Lib.hid (Nat.lt_of_lt_of_le (by rw [HS0.out]; exact Nat.lt_succ_self _) hb2.size)
  have HREF := Lib.hid ((href.less (Nat.le_of_eq HS0.out.symm)).below hba (Nat.le_refl _))
  have HM := Lib.hid ((own_sl (enc := encM) (fun _ => rfl) href.mrg (by decide)).below hba (Nat.le_refl _))
  have hb3 := (HB0.out.trans (hb2.mono HB0.out.size))
  have HB2 := Lib.hid (hb3.trans (hba.mono hb3.size))
  have hsm2 := hadds.1.small
  have hm3 : (mrgsT T).length < 9000000000000000000 := by rw [mrgs_len]; omega
  have m1 := blk_cell (blk_new w2 (.cells #[.slice A1 n1 c1, .slice A2 (mrgsT T).length c2] 28)) 1
  simp only [List.getElem?_toArray, List.getElem?_cons_zero, List.getElem?_cons_succ] at m1
  clear hT href hadds hb2 hba hb3
  go_upto_region 2 with fail
  generalize w2.heap.size = g4 at *
  generalize w2.alloc (.cells #[.slice A1 n1 c1, .slice A2 (mrgsT T).length c2] 28) = W2 at *
  go_wp2_with fail
  refine (new_any (mrgsT T) A2 c2 W2 HM.out hm3).mono ?_
  rintro e w3 ⟨hb3, (⟨T', tb, sv, mb, mp, rfl, ha, hok, ht⟩ | ⟨k, hk, T', ha, hok, he, rfl⟩)⟩
  · rw [HADDS.out.2] at ha
    injection ha with ha
    subst ha
    have HT3 := Lib.hid (ht.less (b := W2.heap.size) (base := w.heap.size + 1) (Nat.le_trans HSZ.out (Nat.le_of_lt (blk_lt HN4.out))))
    have HB3 := Lib.hid (HB2.out.trans (hb3.mono HB2.out.size))
    replace HREF := Lib.hid (HREF.out.below hb3 (Nat.le_refl _))
    replace HN3 := Lib.hid (blk_below hb3 (blk_lt HN3.out) HN3.out)
    replace HN4 := Lib.hid (blk_below hb3 (blk_lt HN4.out) HN4.out)
    clear hok ht hb3 m1
    have m0 := blk_cell HN4.out 0
    have m1 := blk_cell HN4.out 1
    simp only [List.getElem?_toArray, List.getElem?_cons_zero, List.getElem?_cons_succ] at m0 m1
    go_upto_region 5 with fail
    refine wp_region_D (Ds := [3]) (S := fun V => V.cell? ⟨g4, 0, none⟩ = some (.slice A1 n1 c1) ∧ V.cell? ⟨g4, 1, none⟩ = some (.slice A2 (mrgsT T).length c2)) (by kernel_rfl) (by exact ⟨m0, m1⟩) (fun hHeld => ?_)
    (replace HT3 := Lib.hid HT3.out.drew); (replace HB3 := Lib.hid HB3.out.drew); (have HREF : Hid (RefIs w3.drew (w.heap.size + 1) T (.slice A1 n1 c1) (.slice A2 (mrgsT T).length c2)) := Lib.hid ⟨HREF.out.row, HREF.out.mrg, HREF.out.nil⟩); (have HN3 : Hid (w3.drew.heap[w.heap.size]? = some (.cells #[.slice none 0 0, .slice none 0 0] 28)) := Lib.hid HN3.out); clear m0 m1; generalize w3.drew = w4 at *
    refine wpAnyD_takeP (i := 0) (oi := { dst := some 20, op := Op.move (Operand.tmp 5), type := 24, pos := "law.go:27", after := #[], guard := none }) (d := 20) (v := ?_) rfl rfl (by kernel_rfl) (by kernel_rfl) (by kernel_rfl) (fun _ _ _ h => h) (Or.inl ⟨by rfl, ?_⟩) ?_
    rotate_left
    · (intro w' _; go_simp; (try with_reducible rfl))
    simp only [List.setIfInBounds_toArray, List.set_cons_zero, List.set_cons_succ]
    refine wpAnyD_takeP (i := 2) (oi := { dst := some 2, op := Op.assign (Operand.tmp 20), type := 24, pos := "law.go:27", after := #[{ on := 0, ground := Ground.data }, { on := 0, ground := Ground.phase }, { on := 1, ground := Ground.textOnly Departure.lateStores }], guard := none }) (d := 2) (v := ?_) rfl rfl (by kernel_rfl) (by kernel_rfl) (by kernel_rfl) (fun _ _ _ h => h) (Or.inl ⟨by rfl, ?_⟩) ?_
    rotate_left
    · (intro w' _; go_simp; (try with_reducible rfl))
    simp only [List.setIfInBounds_toArray, List.set_cons_zero, List.set_cons_succ]
    refine wpAnyD_takeD (i := 1) (oi := { dst := some 21, op := Op.load 28 (Operand.tmp 4), type := 28, pos := "law.go:27", after := #[{ on := 2, ground := Ground.gcOnly Departure.lateStores }], guard := none }) (d := 21) (v := ?_) rfl rfl (by kernel_rfl) (by kernel_rfl) (by kernel_rfl) (by kernel_rfl) (fun _ _ _ h => h) (Or.inl ⟨by rfl, ?_⟩) hHeld ?_
    rotate_left
    · (intro w' hSw; (try dsimp only at hSw); go_simp; (try with_reducible rfl))
    simp only [List.setIfInBounds_toArray, List.set_cons_zero, List.set_cons_succ]
    refine wpAnyD_last (D := 3) (by decide) (o := { dst := none, op := Op.store 28 (Operand.tmp 3) (Operand.tmp 21), type := 0, pos := "law.go:27", after := #[{ on := 1, ground := Ground.data }, { on := 2, ground := Ground.chain }, { on := 0, ground := Ground.phase }, { on := 1, ground := Ground.phase }, { on := 2, ground := Ground.phase }], guard := none }) (by kernel_rfl) rfl (by rfl) (fun K hK => ?_)
    have z0 := blk_froz HN3.out 0; have z1 := blk_froz HN3.out 1; have d0 := blk_cell HN3.out 0; have d1 := blk_cell HN3.out 1; simp only [List.getElem?_toArray, List.getElem?_cons_zero, List.getElem?_cons_succ] at d0 d1; go_simp; clear z0 z1 d0 d1
    refine hK.out _ _ ?_
    clear hK K
    try simp only [Act.put, List.setIfInBounds_toArray, List.set_cons_zero, List.set_cons_succ]
    refine wpAnyD_done (by kernel_rfl) ?_ _
    have KF : Keep (fun x => x = w.heap.size) w4 ((w4.setCell ⟨w.heap.size, 0, none⟩ (.slice A1 n1 c1)).setCell ⟨w.heap.size, 1, none⟩ (.slice A2 (mrgsT T).length c2)) := ((Keep.refl (fun x => x = w.heap.size) w4).setCell (p := ⟨w.heap.size, 0, none⟩) (.inl rfl) _).setCell (p := ⟨w.heap.size, 1, none⟩) (.inl rfl) _
    have hb5 := KF.below (B := w.heap.size) HB3.out.size (fun x hx => Nat.le_of_eq hx.symm)
    have hn5 := blk_set (blk_set HN3.out 0 (.slice A1 n1 c1)) 1 (.slice A2 (mrgsT T).length c2)
    simp only [List.setIfInBounds_toArray, List.set_cons_zero, List.set_cons_succ] at hn5
    have ht5 := HT3.out.keep KF (fun x hx e => by
      have hl := HT3.out.lt
      rcases hx with rfl | hx | rfl | rfl
      · omega
      · have := own_base HT3.out.row x hx; omega
      · omega
      · omega)
    have hr5 : RefIs ((w4.setCell ⟨w.heap.size, 0, none⟩ (.slice A1 n1 c1)).setCell ⟨w.heap.size, 1, none⟩ (.slice A2 (mrgsT T).length c2)) (w.heap.size + 1) T (.slice A1 n1 c1) (.slice A2 (mrgsT T).length c2) := HREF.out.keep KF (fun g hg => by omega)
    have HBOTH := Lib.hid (show BothIs w ((w4.setCell ⟨w.heap.size, 0, none⟩ (.slice A1 n1 c1)).setCell ⟨w.heap.size, 1, none⟩ (.slice A2 (mrgsT T).length c2)) T tb sv mb mp (.slice A1 n1 c1) (.slice A2 (mrgsT T).length c2) from ⟨ht5.less (Nat.le_succ _), hr5.less (Nat.le_succ _), HB3.out.trans hb5⟩)
    have HN5 := Lib.hid hn5
    clear KF hb5 hn5 ht5 hr5
    go_wp2_with fail
    refine ret_tmp_cell rfl rfl rfl (load_ref HN5.out) ⟨T, tb, sv, mb, mp, A1, n1, c1, A2, (mrgsT T).length, c2, rfl, HADDS.out, HGT.out.symm, HBOTH.out⟩
  · exfalso
    have := adds_take (mrgsT T) baseT T k hk T' HADDS.out.2 ha
    exact he this
end Go.Proofs.Ytpkmcokkapfnmaa
