/- Layer 4 (token): the document's answer: New. -/
import Derived.Test.YtpkmcokkapfnmaaGrow2
namespace Go.Proofs.Ytpkmcokkapfnmaa
open Go.RowKit Go.Maps Go.WideMaps
set_option maxRecDepth 100000
set_option linter.unusedVariables false
set_option linter.unusedSimpArgs false

theorem results_cell_tmp2 {fn : Func} {p u v : Tmp} {ty : TypeId} (h : fn.results = #[.cell p ty, .tmp u, .tmp v]) (tmps : Array Value) (P : Program) (w : World) :
    (results fn tmps).run P w = ((asAddr (tmps.getD p undef)).run P w).andThen fun a w₁ => ((loadVar ty a).run P w₁).andThen fun x w₂ => .ok (.tuple #[x, tmps.getD u undef, tmps.getD v undef]) w₂ := by
  simp only [results, h]
  simp [Sem.run_bind, Result.andThen]
theorem ret_ref2 {fn : Func} {R : Ending → World → Prop} {tmps : Array Value} {w : World} {r : Nat} {A B : Option Addr} {n m c d : Nat} {x y : Int} {p q q' : Tmp}
    (h : fn.results = #[.cell p 28, .tmp q, .tmp q']) (hp : tmps.getD p undef = .pointer (some ⟨r, 0, none⟩)) (hq : tmps.getD q undef = .int .i64 x) (hq' : tmps.getD q' undef = .int .i64 y)
    (hl : w.heap[r]? = some (.cells #[.slice A n c, .slice B m d] 28))
    (hR : R (.returned (.tuple #[.agg #[.slice A n c, .slice B m d], .int .i64 x, .int .i64 y])) w) : bodyPost Try.prog fn R .ret ⟨tmps, []⟩ w := by
  refine bodyPost_ret (v := .tuple #[.agg #[.slice A n c, .slice B m d], .int .i64 x, .int .i64 y]) ?_ rfl hR
  rw [results_cell_tmp2 h, hp, hq, hq']
  simp [asAddr, load_ref hl, Result.andThen]

/-- a table is laid into a block of its own -/
theorem ref_put {V : World} {base nb n m c c2 : Nat} {T' : List Ent} {A A2 : Option Addr} {u v : Value} (href : RefIs V base T' (.slice A n c) (.slice A2 m c2)) (hnb : V.heap[nb]? = some (.cells #[u, v] 28)) :
    ((V.setCell ⟨nb, 0, none⟩ (.slice A n c)).setCell ⟨nb, 1, none⟩ (.slice A2 m c2)).heap[nb]? = some (.cells #[.slice A n c, .slice A2 m c2] 28) ∧
      RefIs ((V.setCell ⟨nb, 0, none⟩ (.slice A n c)).setCell ⟨nb, 1, none⟩ (.slice A2 m c2)) base T' (.slice A n c) (.slice A2 m c2) := by
  have b1 := blk_set (blk_set hnb 0 (.slice A n c)) 1 (.slice A2 m c2)
  simp only [List.setIfInBounds_toArray, List.set_cons_zero, List.set_cons_succ] at b1
  have K3 : ∀ (W : World) (i : Nat) (u : Value), Keep (fun g => g = nb) W (W.setCell ⟨nb, i, none⟩ u) := fun W i u => Keep.setCell (F := fun g => g = nb) (p := ⟨nb, i, none⟩) (Keep.refl _ _) (Or.inl rfl) _
  refine ⟨b1, ?_, ?_, href.nil⟩
  · exact own_keep (own_keep href.row (K3 _ 0 _) (fun g hg e => row_ne href.row hnb (by decide) (by rw [hg, e]))) (K3 _ 1 _) (fun g hg e => row_ne href.row hnb (by decide) (by rw [hg, e]))
  · exact own_keep (own_keep href.mrg (K3 _ 0 _) (fun g hg e => row_ne href.mrg hnb (by decide) (by rw [hg, e]))) (K3 _ 1 _) (fun g hg e => row_ne href.mrg hnb (by decide) (by rw [hg, e]))
theorem bel_put {W V : World} {nb : Nat} (hb : Below W.heap.size W V) (h : W.heap.size ≤ nb) (u v : Value) : Below W.heap.size W ((V.setCell ⟨nb, 0, none⟩ u).setCell ⟨nb, 1, none⟩ v) := (hb.setCell (p := ⟨nb, 0, none⟩) h _).setCell (p := ⟨nb, 1, none⟩) h _

/-- a table that lies in a variable, and the result -/
structure RVar (w W : World) (r tb : Nat) (T : List Ent) : Prop where
  ex : ∃ A c A2 c2, W.heap[tb]? = some (.cells #[.slice A T.length c, .slice A2 (mrgsT T).length c2] 28) ∧ RefIs W w.heap.size T (.slice A T.length c) (.slice A2 (mrgsT T).length c2)
  res : W.heap[r]? = some (.cells #[.slice none 0 0, .slice none 0 0] 28)
  below : Below w.heap.size w W
  le : w.heap.size ≤ r ∧ w.heap.size ≤ tb
  ne : r ≠ tb
theorem RVar.start {w w1 : World} {A1 : Option Addr} {c1 : Nat} (hr : RefIs w1 (w.alloc (.cells #[.slice none 0 0, .slice none 0 0] 28)).heap.size baseT (.slice A1 baseT.length c1) (.slice none 0 0))
    (hb : Below (w.alloc (.cells #[.slice none 0 0, .slice none 0 0] 28)).heap.size (w.alloc (.cells #[.slice none 0 0, .slice none 0 0] 28)) w1) :
    RVar w (w1.alloc (.cells #[.slice A1 baseT.length c1, .slice none 0 0] 28)) w.heap.size w1.heap.size baseT := by
  have h := grow_start (l := []) hr hb
  exact ⟨h.ex, h.res, h.below, h.le, h.ne⟩
theorem RVar.step {w W w2 : World} {r tb : Nat} {T : List Ent} (h : RVar w W r tb T) (hb : Below W.heap.size W w2) : RVar w w2 r tb T := by
  obtain ⟨A, c, A2, c2, hbk, href⟩ := h.ex
  exact ⟨⟨A, c, A2, c2, blk_below hb (blk_lt hbk) hbk, href.below hb (Nat.le_refl _)⟩, blk_below hb (blk_lt h.res) h.res, h.below.trans (hb.mono h.below.size), h.le, h.ne⟩
/-- another table is laid into the variable -/
theorem RVar.put {w W : World} {r tb n m c c2 : Nat} {T T' : List Ent} {A A2 : Option Addr} (h : RVar w W r tb T) (href : RefIs W w.heap.size T' (.slice A n c) (.slice A2 m c2)) :
    RVar w ((W.setCell ⟨tb, 0, none⟩ (.slice A n c)).setCell ⟨tb, 1, none⟩ (.slice A2 m c2)) r tb T' := by
  obtain ⟨A0, c0, A20, c20, hbk, _⟩ := h.ex
  have en : n = T'.length := by obtain ⟨_, _, e⟩ := own_slice href.row; injection e
  have em : m = (mrgsT T').length := by obtain ⟨_, _, e⟩ := own_slice href.mrg; injection e
  subst en; subst em
  have b1 := blk_set (blk_set hbk 0 (.slice A T'.length c)) 1 (.slice A2 (mrgsT T').length c2)
  simp only [List.setIfInBounds_toArray, List.set_cons_zero, List.set_cons_succ] at b1
  have K3 : ∀ (W : World) (i : Nat) (u : Value), Keep (fun g => g = tb) W (W.setCell ⟨tb, i, none⟩ u) := fun W i u => Keep.setCell (F := fun g => g = tb) (p := ⟨tb, i, none⟩) (Keep.refl _ _) (Or.inl rfl) _
  refine ⟨⟨A, c, A2, c2, b1, ?_, ?_, href.nil⟩, blk_far (p := ⟨tb, 1, none⟩) (blk_far (p := ⟨tb, 0, none⟩) h.res h.ne _) h.ne _, (h.below.setCell (p := ⟨tb, 0, none⟩) h.le.2 _).setCell (p := ⟨tb, 1, none⟩) h.le.2 _, h.le, h.ne⟩
  · exact own_keep (own_keep href.row (K3 _ 0 _) (fun g hg e => row_ne href.row hbk (by decide) (by rw [hg, e]))) (K3 _ 1 _) (fun g hg e => row_ne href.row hbk (by decide) (by rw [hg, e]))
  · exact own_keep (own_keep href.mrg (K3 _ 0 _) (fun g hg e => row_ne href.mrg hbk (by decide) (by rw [hg, e]))) (K3 _ 1 _) (fun g hg e => row_ne href.mrg hbk (by decide) (by rw [hg, e]))
theorem RVar.fin {w W : World} {r tb n m c c2 : Nat} {T : List Ent} {A A2 : Option Addr} (h : RVar w W r tb T) (href : RefIs W w.heap.size T (.slice A n c) (.slice A2 m c2)) :
    ((W.setCell ⟨r, 0, none⟩ (.slice A n c)).setCell ⟨r, 1, none⟩ (.slice A2 m c2)).heap[r]? = some (.cells #[.slice A n c, .slice A2 m c2] 28) ∧ Below w.heap.size w ((W.setCell ⟨r, 0, none⟩ (.slice A n c)).setCell ⟨r, 1, none⟩ (.slice A2 m c2)) ∧
      RefIs ((W.setCell ⟨r, 0, none⟩ (.slice A n c)).setCell ⟨r, 1, none⟩ (.slice A2 m c2)) w.heap.size T (.slice A n c) (.slice A2 m c2) := by
  have b1 := blk_set (blk_set h.res 0 (.slice A n c)) 1 (.slice A2 m c2)
  simp only [List.setIfInBounds_toArray, List.set_cons_zero, List.set_cons_succ] at b1
  have K3 : ∀ (W : World) (i : Nat) (u : Value), Keep (fun g => g = r) W (W.setCell ⟨r, i, none⟩ u) := fun W i u => Keep.setCell (F := fun g => g = r) (p := ⟨r, i, none⟩) (Keep.refl _ _) (Or.inl rfl) _
  refine ⟨b1, (h.below.setCell (p := ⟨r, 0, none⟩) h.le.1 _).setCell (p := ⟨r, 1, none⟩) h.le.1 _, ?_, ?_, href.nil⟩
  · exact own_keep (own_keep href.row (K3 _ 0 _) (fun g hg e => row_ne href.row h.res (by decide) (by rw [hg, e]))) (K3 _ 1 _) (fun g hg e => row_ne href.row h.res (by decide) (by rw [hg, e]))
  · exact own_keep (own_keep href.mrg (K3 _ 0 _) (fun g hg e => row_ne href.mrg h.res (by decide) (by rw [hg, e]))) (K3 _ 1 _) (fun g hg e => row_ne href.mrg h.res (by decide) (by rw [hg, e]))

/-- how many can be added one behind another, and the table that they make -/
structure RNew (w W : World) (l : List (Int × Int)) (r tb k : Nat) (T : List Ent) : Prop where
  adds : addsT baseT (l.take k) = some T
  ok : OkT T
  var : RVar w W r tb T

set_option maxHeartbeats 4000000 in
theorem rnew_any (l : List (Int × Int)) (A : Option Addr) (c : Nat) (w : World) (hl : Sl w A encM 2 l) (hlen : l.length < 9000000000000000000) :
    Calls Try.prog 45 #[.slice A l.length c] w fun e w' => Below w.heap.size w w' ∧ ∃ (k : Nat) (T : List Ent) (A1 : Option Addr) (n1 c1 : Nat) (A2 : Option Addr) (n2 c2 : Nat) (no : Int), e = .returned (.tuple #[.agg #[.slice A1 n1 c1, .slice A2 n2 c2], .int .i64 (k : Nat), .int .i64 no]) ∧
      RefIs w' w.heap.size T (.slice A1 n1 c1) (.slice A2 n2 c2) ∧ OkT T ∧ addsT baseT (l.take k) = some T ∧ ((k = l.length ∧ no = 0) ∨ ∃ hk : k < l.length, no = (addT T l[k].1 l[k].2).2.1 ∧ no ≠ 0) := by
  have HL := Lib.hid hl
  clear hl
  go_enter Try.func45, Try.ntmps45
  go_wp2_with fail
  refine (rbegin_any _).mono ?_
  rintro e w1 ⟨vb, rfl, hr, hb⟩
  obtain ⟨A1, c1, rfl⟩ := own_slice hr.row
  go_wp2_with fail
  have HS := Lib.hid (RVar.start hr hb)
  clear hr hb
  generalize hW : w1.alloc (.cells #[.slice A1 baseT.length c1, .slice none 0 0] 28) = W0 at *
  obtain ⟨r, hr⟩ : ∃ r, w.heap.size = r := ⟨_, rfl⟩
  obtain ⟨tb, ht⟩ : ∃ tb, w1.heap.size = tb := ⟨_, rfl⟩
  have HS1 : Hid (RVar w W0 r tb baseT) := Lib.hid (by rw [← hr, ← ht]; exact HS.out)
  rw [hr, ht]
  clear HS hr ht hW
  go_loopg [6] l.length (fun n i W => ∃ k T, k + n = l.length ∧ i = .int .i64 ((k : Nat) : Int) ∧ RNew w W l r tb k T)
  case atStart => exact ⟨0, baseT, by omega, rfl, by simp [addsT], okT_base, HS1.out⟩
  case round =>
    obtain ⟨k, T, hk, rfl, hW⟩ := hrel
    clear HS1
    rename World => W
    obtain ⟨A3, c3, A4, c4, hbk, href⟩ := hW.var.ex
    have c0 := blk_cell hbk 0
    have c1' := blk_cell hbk 1
    simp only [List.getElem?_toArray, List.getElem?_cons_zero, List.getElem?_cons_succ] at c0 c1'
    have HREF := Lib.hid href
    by_cases hlt : k < l.length
    · have hlt' : (k : Int) < (l.length : Int) := by omega
      obtain ⟨ba, o, rfl, hc0⟩ := (HL.out.below hW.var.below (Nat.le_refl _)).at k hlt
      have g0 : W.cell? ⟨ba, o + k * 2, none⟩ = some (.int .i64 l[k].1) := hc0 0 _ rfl
      have g1 : W.cell? ⟨ba, o + k * 2 + 1, none⟩ = some (.int .i64 l[k].2) := hc0 1 _ rfl
      obtain ⟨x, hx⟩ : ∃ x, l[k].1 = x := ⟨_, rfl⟩
      obtain ⟨y, hy⟩ : ∃ y, l[k].2 = y := ⟨_, rfl⟩
      rw [hx] at g0
      rw [hy] at g1
      have HX := Lib.hid hx
      have HY := Lib.hid hy
      have HW := Lib.hid hW
      clear hx hy hc0 hW href hbk
      have p0 : (0 : Int) ≤ k := by omega
      have HADD : Hid (∀ V, Below W.heap.size W V → Calls Try.prog 49 #[.agg #[.slice A3 T.length c3, .slice A4 (mrgsT T).length c4], .agg #[.int .i64 x, .int .i64 y]] V (RAddOk V w.heap.size T x y)) := Lib.hid (fun V hV => radd_any x y (HREF.out.below hV (Nat.le_refl _)) HW.out.ok (Nat.le_trans HW.out.var.below.size hV.size))
      have HSC : Hid (∀ V, Below W.heap.size W V → V.cell? ⟨tb, 0, none⟩ = some (.slice A3 T.length c3) ∧ V.cell? ⟨tb, 1, none⟩ = some (.slice A4 (mrgsT T).length c4) ∧ V.cell? ⟨ba, o + k * 2, none⟩ = some (.int .i64 x) ∧ V.cell? ⟨ba, o + k * 2 + 1, none⟩ = some (.int .i64 y)) := Lib.hid (fun V hV => ⟨below_cell hV (Nat.le_refl _) c0, below_cell hV (Nat.le_refl _) c1', below_cell hV (Nat.le_refl _) g0, below_cell hV (Nat.le_refl _) g1⟩)
      have HBB : Hid (Below W.heap.size W W.drew) := Lib.hid ⟨rfl, rfl, rfl, Nat.le_refl _, fun _ _ => rfl⟩
      go_wp2_with fail
      refine wp_region_G (D := 11) (S := fun V => V.cell? ⟨tb, 0, none⟩ = some (.slice A3 T.length c3) ∧ V.cell? ⟨tb, 1, none⟩ = some (.slice A4 (mrgsT T).length c4) ∧ V.cell? ⟨ba, o + k * 2, none⟩ = some (.int .i64 x) ∧ V.cell? ⟨ba, o + k * 2 + 1, none⟩ = some (.int .i64 y)) (by kernel_rfl) (by exact HSC.out _ HBB.out) (fun hHeld => ?_)
      refine wpAnyG_takeD (i := 0) (oi := { dst := some 17, op := Op.load 28 (Operand.tmp 5), type := 28, pos := "ref.go:59", after := #[], guard := none }) (d := 17) (v := ?_) rfl rfl (by kernel_rfl) (by kernel_rfl) (by kernel_rfl) (by kernel_rfl) (fun _ _ _ h => h) (Or.inl ⟨by rfl, ?_⟩) hHeld ?_
      rotate_left
      · (intro w' hSw; (try dsimp only at hSw); go_simp; (try with_reducible rfl))
      simp only [List.setIfInBounds_toArray, List.set_cons_zero, List.set_cons_succ]
      refine wpAnyG_takeD (i := 1) (oi := { dst := some 18, op := Op.move (Operand.tmp 0), type := 26, pos := "ref.go:59", after := #[], guard := none }) (d := 18) (v := ?_) rfl rfl (by kernel_rfl) (by kernel_rfl) (by kernel_rfl) (by kernel_rfl) (fun _ _ _ h => h) (Or.inl ⟨by rfl, ?_⟩) hHeld ?_
      rotate_left
      · (intro w' hSw; (try dsimp only at hSw); go_simp; (try with_reducible rfl))
      simp only [List.setIfInBounds_toArray, List.set_cons_zero, List.set_cons_succ]
      refine wpAnyG_takeD (i := 2) (oi := { dst := some 19, op := Op.move (Operand.tmp 6), type := 3, pos := "ref.go:59", after := #[], guard := none }) (d := 19) (v := ?_) rfl rfl (by kernel_rfl) (by kernel_rfl) (by kernel_rfl) (by kernel_rfl) (fun _ _ _ h => h) (Or.inl ⟨by rfl, ?_⟩) hHeld ?_
      rotate_left
      · (intro w' hSw; (try dsimp only at hSw); go_simp; (try with_reducible rfl))
      simp only [List.setIfInBounds_toArray, List.set_cons_zero, List.set_cons_succ]
      refine wpAnyG_takeD (i := 3) (oi := { dst := some 20, op := Op.indexAddr 26 (Operand.tmp 18) (Operand.tmp 19), type := 0, pos := "ref.go:59", after := #[{ on := 1, ground := Ground.data }, { on := 2, ground := Ground.data }], guard := none }) (d := 20) (v := ?_) rfl rfl (by kernel_rfl) (by kernel_rfl) (by kernel_rfl) (by kernel_rfl) (fun _ _ _ h => h) (Or.inl ⟨by rfl, ?_⟩) hHeld ?_
      rotate_left
      · (intro w' hSw; (try dsimp only at hSw); go_simp; (try with_reducible rfl))
      simp only [List.setIfInBounds_toArray, List.set_cons_zero, List.set_cons_succ]
      refine wpAnyG_takeD (i := 4) (oi := { dst := some 21, op := Op.load 71 (Operand.tmp 20), type := 71, pos := "ref.go:59", after := #[{ on := 3, ground := Ground.data }], guard := none }) (d := 21) (v := ?_) rfl rfl (by kernel_rfl) (by kernel_rfl) (by kernel_rfl) (by kernel_rfl) (fun _ _ _ h => h) (Or.inl ⟨by rfl, ?_⟩) hHeld ?_
      rotate_left
      · (intro w' hSw; (try dsimp only at hSw); go_simp; (try with_reducible rfl))
      simp only [List.setIfInBounds_toArray, List.set_cons_zero, List.set_cons_succ]
      refine wpAnyG_two (i := 5) (j := 9) (oi := { dst := some 22, op := Op.call { callee := Callee.value (Operand.func 49), args := #[Operand.tmp 17, Operand.tmp 21], argTypes := #[28, 71] }, type := 100, pos := "ref.go:59", after := #[{ on := 0, ground := Ground.data }, { on := 4, ground := Ground.data }], guard := none }) (oj := { dst := some 7, op := Op.alloc 28, type := 0, pos := "ref.go:59", after := #[], guard := none }) (by kernel_rfl) rfl rfl (by rfl) (by rfl) (fun K hK => ?_) (fun K hK => ?_)
      ·
        go_simp; refine (HADD.out _ HBB.out).mono ?_; rintro e W' ⟨hb, A5, n5, c5, A6, n6, c6, rfl, href⟩; (try have HNB := Lib.hid (And.intro (blk_below hb (blk_lt HNB.out.1) HNB.out.1) HNB.out.2)); have HBB := Lib.hid (HBB.out.trans (hb.mono HBB.out.size)); have HR := Lib.hid href; have h := HSC.out _ HBB.out; clear hb href; go_simp
        refine hK.out _ _ h (fun hHeld => ?_)
        clear hK K
        try simp only [Act.put, List.setIfInBounds_toArray, List.set_cons_zero, List.set_cons_succ]
        refine wpAnyG_takeD (i := 6) (oi := { dst := some 16, op := Op.move (Operand.tmp 22), type := 100, pos := "ref.go:59", after := #[{ on := 5, ground := Ground.data }], guard := none }) (d := 16) (v := ?_) rfl rfl (by kernel_rfl) (by kernel_rfl) (by kernel_rfl) (by kernel_rfl) (fun _ _ _ h => h) (Or.inl ⟨by rfl, ?_⟩) hHeld ?_
        rotate_left
        · (intro w' hSw; (try dsimp only at hSw); go_simp; (try with_reducible rfl))
        simp only [List.setIfInBounds_toArray, List.set_cons_zero, List.set_cons_succ]
        refine wpAnyG_takeD (i := 7) (oi := { dst := some 23, op := Op.extract (Operand.tmp 16) 0, type := 28, pos := "ref.go:59", after := #[{ on := 6, ground := Ground.data }], guard := none }) (d := 23) (v := ?_) rfl rfl (by kernel_rfl) (by kernel_rfl) (by kernel_rfl) (by kernel_rfl) (fun _ _ _ h => h) (Or.inl ⟨by rfl, ?_⟩) hHeld ?_
        rotate_left
        · (intro w' hSw; (try dsimp only at hSw); go_simp; (try with_reducible rfl))
        simp only [List.setIfInBounds_toArray, List.set_cons_zero, List.set_cons_succ]
        refine wpAnyG_takeD (i := 8) (oi := { dst := some 24, op := Op.extract (Operand.tmp 16) 1, type := 3, pos := "ref.go:59", after := #[{ on := 6, ground := Ground.data }, { on := 10, ground := Ground.gcOnly Departure.lateStores }], guard := none }) (d := 24) (v := ?_) rfl rfl (by kernel_rfl) (by kernel_rfl) (by kernel_rfl) (by kernel_rfl) (fun _ _ _ h => h) (Or.inl ⟨by rfl, ?_⟩) hHeld ?_
        rotate_left
        · (intro w' hSw; (try dsimp only at hSw); go_simp; (try with_reducible rfl))
        simp only [List.setIfInBounds_toArray, List.set_cons_zero, List.set_cons_succ]
        refine wpAnyG_one (i := 9) (o := { dst := some 7, op := Op.alloc 28, type := 0, pos := "ref.go:59", after := #[], guard := none }) (by kernel_rfl) rfl (by rfl) (fun K hK => ?_)
        go_simp; have HNB := Lib.hid (And.intro (bel_new HBB.out (.cells #[.slice none 0 0, .slice none 0 0] 28)) HBB.out.size); (try have HR := Lib.hid (HR.out.below ((Below.refl _ _).alloc (Nat.le_refl _) (.cells #[.slice none 0 0, .slice none 0 0] 28)) (Nat.le_refl _))); have HBB := Lib.hid (bel_alloc HBB.out (.cells #[.slice none 0 0, .slice none 0 0] 28)); refine gen_below HBB.out rfl (fun W' hW' => ?_); rw [← hW'] at HBB HNB; (try rw [← hW'] at HR); (try rw [show W.drew.heap.size = W.heap.size from rfl] at HNB); clear hW'; have h := HSC.out _ HBB.out
        refine hK.out _ _ h (fun hHeld => ?_)
        clear hK K
        try simp only [Act.put, List.setIfInBounds_toArray, List.set_cons_zero, List.set_cons_succ]
        refine wpAnyG_one (i := 10) (o := { dst := none, op := Op.store 28 (Operand.tmp 7) (Operand.tmp 23), type := 0, pos := "ref.go:59", after := #[{ on := 9, ground := Ground.data }, { on := 7, ground := Ground.data }, { on := 5, ground := Ground.chain }, { on := 0, ground := Ground.phase }, { on := 1, ground := Ground.phase }, { on := 2, ground := Ground.phase }, { on := 3, ground := Ground.phase }, { on := 4, ground := Ground.phase }, { on := 5, ground := Ground.phase }, { on := 6, ground := Ground.phase }, { on := 7, ground := Ground.phase }, { on := 8, ground := Ground.textOnly Departure.lateStores }, { on := 9, ground := Ground.phase }], guard := none }) (by kernel_rfl) rfl (by rfl) (fun K hK => ?_)
        have d0 := blk_cell HNB.out.1 0; have d1 := blk_cell HNB.out.1 1; have z0 := blk_froz HNB.out.1 0; have z1 := blk_froz HNB.out.1 1; simp only [List.getElem?_toArray, List.getElem?_cons_zero, List.getElem?_cons_succ] at d0 d1; go_simp; have HNB2 := Lib.hid (And.intro (ref_put HR.out HNB.out.1).1 HNB.out.2); have HR := Lib.hid (ref_put HR.out HNB.out.1).2; have HBB := Lib.hid (bel_put HBB.out HNB.out.2 (.slice A5 n5 c5) (.slice A6 n6 c6)); refine gen_below HBB.out rfl (fun W' hW' => ?_); rw [← hW'] at HBB HNB2 HR; clear hW' d0 d1 z0 z1; have h := HSC.out _ HBB.out
        refine hK.out _ _ h (fun hHeld => ?_)
        clear hK K
        try simp only [Act.put, List.setIfInBounds_toArray, List.set_cons_zero, List.set_cons_succ]
        refine wpAnyG_last (o := { dst := some 8, op := Op.assign (Operand.tmp 24), type := 3, pos := "ref.go:59", after := #[{ on := 8, ground := Ground.data }, { on := 10, ground := Ground.chain }, { on := 0, ground := Ground.phase }, { on := 1, ground := Ground.phase }, { on := 2, ground := Ground.phase }, { on := 3, ground := Ground.phase }, { on := 4, ground := Ground.phase }, { on := 5, ground := Ground.phase }, { on := 6, ground := Ground.phase }, { on := 7, ground := Ground.phase }, { on := 8, ground := Ground.phase }, { on := 9, ground := Ground.phase }, { on := 10, ground := Ground.phase }], guard := none }) (by kernel_rfl) rfl (by rfl) (fun K hK => ?_)
        go_simp
        refine hK.out _ _ ?_
        clear hK K
        try simp only [Act.put, List.setIfInBounds_toArray, List.set_cons_zero, List.set_cons_succ]
        refine wpAnyG_done (by kernel_rfl) ?_ _
        have HV := Lib.hid (HW.out.var.step HBB.out)
        have e0 := blk_cell HNB2.out.1 0
        have e1 := blk_cell HNB2.out.1 1
        simp only [List.getElem?_toArray, List.getElem?_cons_zero, List.getElem?_cons_succ] at e0 e1
        obtain ⟨_, _, _, _, hbk9, href9⟩ := HV.out.ex
        have t0 := blk_cell hbk9 0
        have t1 := blk_cell hbk9 1
        simp only [List.getElem?_toArray, List.getElem?_cons_zero, List.getElem?_cons_succ] at t0 t1
        clear hHeld h c0 c1' g0 g1
        rcases Decidable.em ((addT T x y).2.1 = 0) with he | he
        · have f0 := blk_froz hbk9 0
          have f1 := blk_froz hbk9 1
          have HPUT := Lib.hid (HV.out.put HR.out)
          have HE := Lib.hid he
          clear hbk9 href9
          go_wp2_with fail
          go_roundg (gk - 1)
          case measure => omega
          case rel =>
            refine ⟨k + 1, _, by omega, by simp, ?_, okT_add HW.out.ok _ _ HE.out, HPUT.out⟩
            rw [take_snoc hlt, addsT_snoc, HW.out.adds]
            simp only [Option.bind_some, HX.out, HY.out, HE.out, if_true]
        · have f0 := blk_froz HV.out.res 0
          have f1 := blk_froz HV.out.res 1
          have d0 := blk_cell HV.out.res 0
          have d1 := blk_cell HV.out.res 1
          simp only [List.getElem?_toArray, List.getElem?_cons_zero, List.getElem?_cons_succ] at d0 d1
          have HFIN := Lib.hid (HV.out.fin href9)
          have HE := Lib.hid he
          clear hbk9 href9
          go_wp2_with fail
          refine ret_ref2 (r := r) rfl rfl rfl rfl HFIN.out.1 ⟨HFIN.out.2.1, _, _, _, _, _, _, _, _, _, rfl, HFIN.out.2.2, HW.out.ok, HW.out.adds, .inr ⟨hlt, ?_, HE.out⟩⟩
          rw [HX.out, HY.out]
      ·
        go_simp; have HNB := Lib.hid (And.intro (bel_new HBB.out (.cells #[.slice none 0 0, .slice none 0 0] 28)) HBB.out.size); (try have HR := Lib.hid (HR.out.below ((Below.refl _ _).alloc (Nat.le_refl _) (.cells #[.slice none 0 0, .slice none 0 0] 28)) (Nat.le_refl _))); have HBB := Lib.hid (bel_alloc HBB.out (.cells #[.slice none 0 0, .slice none 0 0] 28)); refine gen_below HBB.out rfl (fun W' hW' => ?_); rw [← hW'] at HBB HNB; (try rw [← hW'] at HR); (try rw [show W.drew.heap.size = W.heap.size from rfl] at HNB); clear hW'; have h := HSC.out _ HBB.out
        refine hK.out _ _ h (fun hHeld => ?_)
        clear hK K
        try simp only [Act.put, List.setIfInBounds_toArray, List.set_cons_zero, List.set_cons_succ]
        refine wpAnyG_one (i := 5) (o := { dst := some 22, op := Op.call { callee := Callee.value (Operand.func 49), args := #[Operand.tmp 17, Operand.tmp 21], argTypes := #[28, 71] }, type := 100, pos := "ref.go:59", after := #[{ on := 0, ground := Ground.data }, { on := 4, ground := Ground.data }], guard := none }) (by kernel_rfl) rfl (by rfl) (fun K hK => ?_)
        go_simp; refine (HADD.out _ HBB.out).mono ?_; rintro e W' ⟨hb, A5, n5, c5, A6, n6, c6, rfl, href⟩; (try have HNB := Lib.hid (And.intro (blk_below hb (blk_lt HNB.out.1) HNB.out.1) HNB.out.2)); have HBB := Lib.hid (HBB.out.trans (hb.mono HBB.out.size)); have HR := Lib.hid href; have h := HSC.out _ HBB.out; clear hb href; go_simp
        refine hK.out _ _ h (fun hHeld => ?_)
        clear hK K
        try simp only [Act.put, List.setIfInBounds_toArray, List.set_cons_zero, List.set_cons_succ]
        refine wpAnyG_takeD (i := 6) (oi := { dst := some 16, op := Op.move (Operand.tmp 22), type := 100, pos := "ref.go:59", after := #[{ on := 5, ground := Ground.data }], guard := none }) (d := 16) (v := ?_) rfl rfl (by kernel_rfl) (by kernel_rfl) (by kernel_rfl) (by kernel_rfl) (fun _ _ _ h => h) (Or.inl ⟨by rfl, ?_⟩) hHeld ?_
        rotate_left
        · (intro w' hSw; (try dsimp only at hSw); go_simp; (try with_reducible rfl))
        simp only [List.setIfInBounds_toArray, List.set_cons_zero, List.set_cons_succ]
        refine wpAnyG_takeD (i := 7) (oi := { dst := some 23, op := Op.extract (Operand.tmp 16) 0, type := 28, pos := "ref.go:59", after := #[{ on := 6, ground := Ground.data }], guard := none }) (d := 23) (v := ?_) rfl rfl (by kernel_rfl) (by kernel_rfl) (by kernel_rfl) (by kernel_rfl) (fun _ _ _ h => h) (Or.inl ⟨by rfl, ?_⟩) hHeld ?_
        rotate_left
        · (intro w' hSw; (try dsimp only at hSw); go_simp; (try with_reducible rfl))
        simp only [List.setIfInBounds_toArray, List.set_cons_zero, List.set_cons_succ]
        refine wpAnyG_takeD (i := 8) (oi := { dst := some 24, op := Op.extract (Operand.tmp 16) 1, type := 3, pos := "ref.go:59", after := #[{ on := 6, ground := Ground.data }, { on := 10, ground := Ground.gcOnly Departure.lateStores }], guard := none }) (d := 24) (v := ?_) rfl rfl (by kernel_rfl) (by kernel_rfl) (by kernel_rfl) (by kernel_rfl) (fun _ _ _ h => h) (Or.inl ⟨by rfl, ?_⟩) hHeld ?_
        rotate_left
        · (intro w' hSw; (try dsimp only at hSw); go_simp; (try with_reducible rfl))
        simp only [List.setIfInBounds_toArray, List.set_cons_zero, List.set_cons_succ]
        refine wpAnyG_one (i := 10) (o := { dst := none, op := Op.store 28 (Operand.tmp 7) (Operand.tmp 23), type := 0, pos := "ref.go:59", after := #[{ on := 9, ground := Ground.data }, { on := 7, ground := Ground.data }, { on := 5, ground := Ground.chain }, { on := 0, ground := Ground.phase }, { on := 1, ground := Ground.phase }, { on := 2, ground := Ground.phase }, { on := 3, ground := Ground.phase }, { on := 4, ground := Ground.phase }, { on := 5, ground := Ground.phase }, { on := 6, ground := Ground.phase }, { on := 7, ground := Ground.phase }, { on := 8, ground := Ground.textOnly Departure.lateStores }, { on := 9, ground := Ground.phase }], guard := none }) (by kernel_rfl) rfl (by rfl) (fun K hK => ?_)
        have d0 := blk_cell HNB.out.1 0; have d1 := blk_cell HNB.out.1 1; have z0 := blk_froz HNB.out.1 0; have z1 := blk_froz HNB.out.1 1; simp only [List.getElem?_toArray, List.getElem?_cons_zero, List.getElem?_cons_succ] at d0 d1; go_simp; have HNB2 := Lib.hid (And.intro (ref_put HR.out HNB.out.1).1 HNB.out.2); have HR := Lib.hid (ref_put HR.out HNB.out.1).2; have HBB := Lib.hid (bel_put HBB.out HNB.out.2 (.slice A5 n5 c5) (.slice A6 n6 c6)); refine gen_below HBB.out rfl (fun W' hW' => ?_); rw [← hW'] at HBB HNB2 HR; clear hW' d0 d1 z0 z1; have h := HSC.out _ HBB.out
        refine hK.out _ _ h (fun hHeld => ?_)
        clear hK K
        try simp only [Act.put, List.setIfInBounds_toArray, List.set_cons_zero, List.set_cons_succ]
        refine wpAnyG_last (o := { dst := some 8, op := Op.assign (Operand.tmp 24), type := 3, pos := "ref.go:59", after := #[{ on := 8, ground := Ground.data }, { on := 10, ground := Ground.chain }, { on := 0, ground := Ground.phase }, { on := 1, ground := Ground.phase }, { on := 2, ground := Ground.phase }, { on := 3, ground := Ground.phase }, { on := 4, ground := Ground.phase }, { on := 5, ground := Ground.phase }, { on := 6, ground := Ground.phase }, { on := 7, ground := Ground.phase }, { on := 8, ground := Ground.phase }, { on := 9, ground := Ground.phase }, { on := 10, ground := Ground.phase }], guard := none }) (by kernel_rfl) rfl (by rfl) (fun K hK => ?_)
        go_simp
        refine hK.out _ _ ?_
        clear hK K
        try simp only [Act.put, List.setIfInBounds_toArray, List.set_cons_zero, List.set_cons_succ]
        refine wpAnyG_done (by kernel_rfl) ?_ _
        have HV := Lib.hid (HW.out.var.step HBB.out)
        have e0 := blk_cell HNB2.out.1 0
        have e1 := blk_cell HNB2.out.1 1
        simp only [List.getElem?_toArray, List.getElem?_cons_zero, List.getElem?_cons_succ] at e0 e1
        obtain ⟨_, _, _, _, hbk9, href9⟩ := HV.out.ex
        have t0 := blk_cell hbk9 0
        have t1 := blk_cell hbk9 1
        simp only [List.getElem?_toArray, List.getElem?_cons_zero, List.getElem?_cons_succ] at t0 t1
        clear hHeld h c0 c1' g0 g1
        rcases Decidable.em ((addT T x y).2.1 = 0) with he | he
        · have f0 := blk_froz hbk9 0
          have f1 := blk_froz hbk9 1
          have HPUT := Lib.hid (HV.out.put HR.out)
          have HE := Lib.hid he
          clear hbk9 href9
          go_wp2_with fail
          go_roundg (gk - 1)
          case measure => omega
          case rel =>
            refine ⟨k + 1, _, by omega, by simp, ?_, okT_add HW.out.ok _ _ HE.out, HPUT.out⟩
            rw [take_snoc hlt, addsT_snoc, HW.out.adds]
            simp only [Option.bind_some, HX.out, HY.out, HE.out, if_true]
        · have f0 := blk_froz HV.out.res 0
          have f1 := blk_froz HV.out.res 1
          have d0 := blk_cell HV.out.res 0
          have d1 := blk_cell HV.out.res 1
          simp only [List.getElem?_toArray, List.getElem?_cons_zero, List.getElem?_cons_succ] at d0 d1
          have HFIN := Lib.hid (HV.out.fin href9)
          have HE := Lib.hid he
          clear hbk9 href9
          go_wp2_with fail
          refine ret_ref2 (r := r) rfl rfl rfl rfl HFIN.out.1 ⟨HFIN.out.2.1, _, _, _, _, _, _, _, _, _, rfl, HFIN.out.2.2, HW.out.ok, HW.out.adds, .inr ⟨hlt, ?_, HE.out⟩⟩
          rw [HX.out, HY.out]
    · have hke : k = l.length := by omega
      subst hke
      have hlt' : ¬ ((l.length : Nat) : Int) < (l.length : Int) := by omega
      have d0 := blk_cell hW.var.res 0
      have d1 := blk_cell hW.var.res 1
      have z0 := blk_froz hW.var.res 0
      have z1 := blk_froz hW.var.res 1
      simp only [List.getElem?_toArray, List.getElem?_cons_zero, List.getElem?_cons_succ] at d0 d1
      have HFIN := Lib.hid (hW.var.fin href)
      have HW := Lib.hid hW
      clear hW hbk href
      go_wp2_with fail
      refine ret_ref2 (r := r) rfl rfl rfl rfl HFIN.out.1 ⟨HFIN.out.2.1, _, _, _, _, _, _, _, _, _, rfl, HFIN.out.2.2, HW.out.ok, HW.out.adds, .inl ⟨rfl, rfl⟩⟩
end Go.Proofs.Ytpkmcokkapfnmaa
