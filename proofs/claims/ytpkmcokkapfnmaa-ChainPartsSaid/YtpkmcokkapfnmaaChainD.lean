/- Layer 5 (chain): two rows of numbers are the same; Spans. -/
import Derived.Test.YtpkmcokkapfnmaaChainC
namespace Go.Proofs.Ytpkmcokkapfnmaa
open Go.RowKit Go.Maps Go.WideMaps
set_option maxRecDepth 100000
set_option linter.unusedVariables false
set_option linter.unusedSimpArgs false

theorem eq_drop_ne {l m : List Int} {k : Nat} (h1 : k < l.length) (h2 : k < m.length) (h : l[k] ≠ m[k]) : l ≠ m := by rintro rfl; exact h rfl
set_option maxHeartbeats 2000000 in
theorem ints_any (l m : List Int) (A B : Option Addr) (c d : Nat) (w : World) (hl : Sl1 w A (Value.int .i64) l) (hm : Sl1 w B (Value.int .i64) m) (hz : l.length < 1000000000000) :
    Calls Try.prog 14 #[.slice A l.length c, .slice B m.length d] w fun e w' => e = .returned (.bool (decide (l = m))) ∧ Below w.heap.size w w' := by
  obtain ⟨R, hR⟩ : ∃ R, decide (l = m) = R := ⟨_, rfl⟩
  rw [hR]
  have HR := Lib.hid hR
  have HL := Lib.hid hl
  have HM := Lib.hid hm
  clear hl hm hR
  by_cases hlen : l.length = m.length
  · have HLEN := Lib.hid hlen
    rw [← hlen]
    clear hlen
    go_enter Try.func14, Try.ntmps14
    go_wp2_with fail
    go_loopg [5] l.length (fun n i W => ∃ k : Nat, k + n = l.length ∧ i = .int .i64 (k : Int) ∧ l.take k = m.take k ∧ Below w.heap.size w W)
    case atStart => exact ⟨0, by omega, rfl, rfl, Below.refl _ _⟩
    case round =>
      obtain ⟨k, hk, rfl, ht, hb⟩ := hrel
      have HT := Lib.hid ht
      have HB := Lib.hid hb
      have HK := Lib.hid hk
      clear ht hb
      rename World => W
      by_cases hlt : k < l.length
      · have hlt2 : k < m.length := by rw [← HLEN.out]; exact hlt
        have p0 : (0 : Int) ≤ (k : Int) := by omega
        have p1 : (k : Int) < (l.length : Int) := by omega
        obtain ⟨b1, o1, rfl, c1⟩ := (HL.out.below HB.out (Nat.le_refl _)).at k hlt
        obtain ⟨b2, o2, rfl, c2⟩ := (HM.out.below HB.out (Nat.le_refl _)).at k hlt2
        have HNX : Hid (l[k] = m[k] → l.take (k + 1) = m.take (k + 1)) := Lib.hid (fun e => by rw [take_snoc hlt, take_snoc hlt2, HT.out, e])
        have HNE := Lib.hid (fun e => eq_drop_ne hlt hlt2 e)
        have wk : IntKind.i64.wrap ((k : Int) + 1) = (k : Int) + 1 := IntWalk.i64_in _ (by omega)
        generalize l[k] = x at *
        generalize m[k] = y at *
        clear hk
        go_upto_region 6 with fail
        refine wp_region_held_drew (S := fun V => V.cell? ⟨b1, o1 + k, none⟩ = some (.int .i64 x) ∧ V.cell? ⟨b2, o2 + k, none⟩ = some (.int .i64 y)) (by kernel_rfl) (by exact ⟨c1, c2⟩) (fun hHeld => ?_)
        refine wpAnyH_takeD (i := 0) (oi := { dst := some 17, op := Op.move (Operand.tmp 0), type := 31, pos := "ref.go:111", after := #[], guard := none }) (d := 17) (v := ?_) rfl rfl (by kernel_rfl) (by kernel_rfl) (by kernel_rfl) (fun _ _ _ h => h) (Or.inl ⟨by rfl, ?_⟩) hHeld ?_
        rotate_left
        · (intro w' hSw; (try dsimp only at hSw); go_simp; (try with_reducible rfl))
        simp only [List.setIfInBounds_toArray, List.set_cons_zero, List.set_cons_succ]
        refine wpAnyH_takeD (i := 1) (oi := { dst := some 18, op := Op.move (Operand.tmp 5), type := 3, pos := "ref.go:111", after := #[], guard := none }) (d := 18) (v := ?_) rfl rfl (by kernel_rfl) (by kernel_rfl) (by kernel_rfl) (fun _ _ _ h => h) (Or.inl ⟨by rfl, ?_⟩) hHeld ?_
        rotate_left
        · (intro w' hSw; (try dsimp only at hSw); go_simp; (try with_reducible rfl))
        simp only [List.setIfInBounds_toArray, List.set_cons_zero, List.set_cons_succ]
        refine wpAnyH_takeD (i := 2) (oi := { dst := some 19, op := Op.indexAddr 31 (Operand.tmp 17) (Operand.tmp 18), type := 0, pos := "ref.go:111", after := #[{ on := 0, ground := Ground.data }, { on := 1, ground := Ground.data }], guard := none }) (d := 19) (v := ?_) rfl rfl (by kernel_rfl) (by kernel_rfl) (by kernel_rfl) (fun _ _ _ h => h) (Or.inl ⟨by rfl, ?_⟩) hHeld ?_
        rotate_left
        · (intro w' hSw; (try dsimp only at hSw); go_simp; (try with_reducible rfl))
        simp only [List.setIfInBounds_toArray, List.set_cons_zero, List.set_cons_succ]
        refine wpAnyH_takeD (i := 3) (oi := { dst := some 20, op := Op.load 3 (Operand.tmp 19), type := 3, pos := "ref.go:111", after := #[{ on := 2, ground := Ground.data }], guard := none }) (d := 20) (v := ?_) rfl rfl (by kernel_rfl) (by kernel_rfl) (by kernel_rfl) (fun _ _ _ h => h) (Or.inl ⟨by rfl, ?_⟩) hHeld ?_
        rotate_left
        · (intro w' hSw; (try dsimp only at hSw); go_simp; (try with_reducible rfl))
        simp only [List.setIfInBounds_toArray, List.set_cons_zero, List.set_cons_succ]
        refine wpAnyH_takeD (i := 4) (oi := { dst := some 21, op := Op.move (Operand.tmp 1), type := 31, pos := "ref.go:111", after := #[], guard := none }) (d := 21) (v := ?_) rfl rfl (by kernel_rfl) (by kernel_rfl) (by kernel_rfl) (fun _ _ _ h => h) (Or.inl ⟨by rfl, ?_⟩) hHeld ?_
        rotate_left
        · (intro w' hSw; (try dsimp only at hSw); go_simp; (try with_reducible rfl))
        simp only [List.setIfInBounds_toArray, List.set_cons_zero, List.set_cons_succ]
        refine wpAnyH_takeD (i := 5) (oi := { dst := some 22, op := Op.move (Operand.tmp 5), type := 3, pos := "ref.go:111", after := #[], guard := none }) (d := 22) (v := ?_) rfl rfl (by kernel_rfl) (by kernel_rfl) (by kernel_rfl) (fun _ _ _ h => h) (Or.inl ⟨by rfl, ?_⟩) hHeld ?_
        rotate_left
        · (intro w' hSw; (try dsimp only at hSw); go_simp; (try with_reducible rfl))
        simp only [List.setIfInBounds_toArray, List.set_cons_zero, List.set_cons_succ]
        refine wpAnyH_takeD (i := 6) (oi := { dst := some 23, op := Op.indexAddr 31 (Operand.tmp 21) (Operand.tmp 22), type := 0, pos := "ref.go:111", after := #[{ on := 4, ground := Ground.data }, { on := 5, ground := Ground.data }], guard := none }) (d := 23) (v := ?_) rfl rfl (by kernel_rfl) (by kernel_rfl) (by kernel_rfl) (fun _ _ _ h => h) (Or.inl ⟨by rfl, ?_⟩) hHeld ?_
        rotate_left
        · (intro w' hSw; (try dsimp only at hSw); go_simp; (try with_reducible rfl))
        simp only [List.setIfInBounds_toArray, List.set_cons_zero, List.set_cons_succ]
        refine wpAnyH_takeD (i := 7) (oi := { dst := some 24, op := Op.load 3 (Operand.tmp 23), type := 3, pos := "ref.go:111", after := #[{ on := 6, ground := Ground.data }], guard := none }) (d := 24) (v := ?_) rfl rfl (by kernel_rfl) (by kernel_rfl) (by kernel_rfl) (fun _ _ _ h => h) (Or.inl ⟨by rfl, ?_⟩) hHeld ?_
        rotate_left
        · (intro w' hSw; (try dsimp only at hSw); go_simp; (try with_reducible rfl))
        simp only [List.setIfInBounds_toArray, List.set_cons_zero, List.set_cons_succ]
        refine wpAnyH_takeD (i := 8) (oi := { dst := some 25, op := Op.binOp BinOp.neq 3 (Operand.tmp 20) (Operand.tmp 24) 3, type := 4, pos := "ref.go:111", after := #[{ on := 3, ground := Ground.data }, { on := 7, ground := Ground.data }], guard := none }) (d := 25) (v := ?_) rfl rfl (by kernel_rfl) (by kernel_rfl) (by kernel_rfl) (fun _ _ _ h => h) (Or.inl ⟨by rfl, ?_⟩) hHeld ?_
        rotate_left
        · (intro w' hSw; (try dsimp only at hSw); go_simp; (try with_reducible rfl))
        simp only [List.setIfInBounds_toArray, List.set_cons_zero, List.set_cons_succ]
        refine wpAnyH_done (by kernel_rfl) ?_ _
        replace HB := Lib.hid HB.out.drew
        clear c1 c2 hHeld
        by_cases hxy : x = y
        · have HN := Lib.hid (HNX.out hxy)
          have hn : (x != y) = false := by simpa using hxy
          clear hxy HNX HNE
          go_wp2_with fail
          go_roundg (gk - 1)
          case measure => have := HK.out; omega
          case rel => exact ⟨k + 1, by have := HK.out; omega, by go_num, HN.out, HB.out⟩
        · have hn : (x != y) = true := by simpa using hxy
          have HF : Hid (R = false) := Lib.hid (by rw [← HR.out]; simpa using HNE.out hxy)
          clear hxy HNX HNE
          go_wp2_with fail
          go_ret
          exact ⟨ret_bool HF.out.symm, HB.out⟩
      · have hke : k = l.length := by omega
        have HF : Hid (R = true) := Lib.hid (by
          rw [← HR.out]
          have := HT.out
          rw [hke, List.take_length, HLEN.out, List.take_length] at this
          simpa using this)
        have hlt' : ¬ (k : Int) < (l.length : Int) := by omega
        clear hke hk HK
        go_wp2_with fail
        go_ret
        exact ⟨ret_bool HF.out.symm, HB.out⟩
  · have HF : Hid (R = false) := Lib.hid (by rw [← HR.out]; simp; rintro rfl; exact hlen rfl)
    have hn : (l.length != m.length) = true := by simpa using hlen
    have hn2 : ((l.length : Int) != (m.length : Int)) = true := by simp; omega
    clear hlen
    go_enter Try.func14, Try.ntmps14
    go_wp2_with fail
    go_ret
    exact ⟨ret_bool HF.out.symm, Below.refl _ _⟩

theorem ints_same (l : List Int) (A B : Option Addr) (c d : Nat) (w : World) (hl : Sl1 w A (Value.int .i64) l) (hm : Sl1 w B (Value.int .i64) l) (hz : l.length < 1000000000000) :
    Calls Try.prog 14 #[.slice A l.length c, .slice B l.length d] w fun e w' => e = .returned (.bool true) ∧ Below w.heap.size w w' :=
  (ints_any l l A B c d w hl hm hz).mono fun e w' ⟨h, hb⟩ => ⟨by rw [h]; exact ret_bool (decide_eq_true rfl), hb⟩

/-! where tokens end -/
def endsT (T : List Ent) : Int → List Int → List Int
  | _, [] => []
  | at_, x :: l => (at_ + (bytesT T x).length) :: endsT T (at_ + (bytesT T x).length) l
def spansT (T : List Ent) (l : List Int) : List Int := if l.all (hasT T) then endsT T 0 l else []
def sumT (T : List Ent) (l : List Int) : Int := (l.map (fun y => ((bytesT T y).length : Int))).sum
theorem endsT_snoc (T : List Ent) : ∀ (l : List Int) (x at_ : Int), endsT T at_ (l ++ [x]) = endsT T at_ l ++ [at_ + sumT T (l ++ [x])]
  | [], x, at_ => by simp [endsT, sumT]
  | y :: l, x, at_ => by
    show (at_ + (bytesT T y).length) :: endsT T (at_ + (bytesT T y).length) (l ++ [x]) = (at_ + (bytesT T y).length) :: endsT T (at_ + (bytesT T y).length) l ++ _
    rw [endsT_snoc T l x]
    simp [sumT]
    omega
theorem endsT_len (T : List Ent) : ∀ (l : List Int) (at_ : Int), (endsT T at_ l).length = l.length
  | [], _ => rfl
  | x :: l, at_ => by show (endsT T _ l).length + 1 = _; rw [endsT_len T l]; rfl
theorem sumT_snoc (T : List Ent) (l : List Int) (x : Int) : sumT T (l ++ [x]) = sumT T l + (bytesT T x).length := by simp [sumT]
theorem bytesT_le {T : List Ent} (h : OkT T) (i : Int) : (bytesT T i).length ≤ 64 := by
  unfold bytesT
  split
  · rename_i hi
    obtain ⟨j, rfl, hj, e⟩ := hasT_at hi
    rw [e]
    exact (h.len _ (List.getElem_mem hj)).2
  · simp
theorem sumT_le {T : List Ent} (h : OkT T) (l : List Int) : 0 ≤ sumT T l ∧ sumT T l ≤ 64 * l.length := by
  induction l with
  | nil => simp [sumT]
  | cons x l ih =>
    have := bytesT_le h x
    have e : sumT T (x :: l) = (bytesT T x).length + sumT T l := by simp [sumT]
    rw [e, List.length_cons]
    omega
structure SpIs (w W : World) (T : List Ent) (l : List Int) (k : Nat) (A2 : Option Addr) (c2 : Nat) : Prop where
  row : W.ownsRow w.heap.size 3 1 (.slice A2 k c2) k ((endsT T 0 (l.take k)).map (Value.int .i64))
  bl : Below w.heap.size w W
section
variable {w w' : World} {tbase tb : Nat} {T : List Ent} {sv : Value} {mb mp : Nat}
set_option maxHeartbeats 4000000 in
theorem spans_any (h : TabIs w tbase tb T sv mb mp) (hT : OkT T) (l : List Int) (A : Option Addr) (c : Nat) (hl : Sl1 w A (Value.int .i64) l) (hz : l.length ≤ 100000000) :
    Calls Try.prog 20 #[.pointer (some ⟨tb, 0, none⟩), .slice A l.length c] w fun e w' => (∃ v, e = .returned v ∧ IntsIs w' w.heap.size v (spansT T l)) ∧ Below w.heap.size w w' := by
  have HS : Hid (SpIs w w T l 0 none 0) := Lib.hid ⟨by simpa [endsT] using own_nil _ _ _ _, Below.refl _ _⟩
  have HOK := Lib.hid hT
  have HT0 := Lib.hid h
  have HL0 := Lib.hid hl
  clear h hl hT
  go_enter Try.func20, Try.ntmps20
  go_wp2_with fail
  go_loopg [5, 6, 13] l.length (fun n u s i W => ∃ k A2 c2, k + n = l.length ∧ i = .int .i64 ((k : Nat) : Int) ∧ u = .slice A2 k c2 ∧ s = .int .i64 (sumT T (l.take k)) ∧ (l.take k).all (hasT T) = true ∧ SpIs w W T l k A2 c2)
  case atStart => exact ⟨0, none, 0, by omega, rfl, rfl, by simp [sumT], by simp, HS.out⟩
  case round =>
    obtain ⟨k, A2, c2, hk, rfl, rfl, rfl, hall, hW⟩ := hrel
    clear HS
    rename World => W
    have HW := Lib.hid hW
    have HK := Lib.hid hk
    have HALL := Lib.hid hall
    have hsl := sumT_le HOK.out (l.take k)
    have HSL := Lib.hid hsl
    clear hW hall
    by_cases hlt : k < l.length
    · have p0 : (0 : Int) ≤ (k : Int) := by omega
      have p1 : (k : Int) < (l.length : Int) := by omega
      obtain ⟨b1, o1, hA, c1⟩ := (HL0.out.below HW.out.bl (Nat.le_refl _)).at k hlt
      subst hA
      have HTK := Lib.hid (take_snoc hlt)
      have wk : IntKind.i64.wrap ((k : Int) + 1) = (k : Int) + 1 := IntWalk.i64_in _ (by omega)
      generalize l[k] = x at *
      clear hk hsl
      go_wp2_with fail
      refine (bytes_tab x (HT0.out.below HW.out.bl (Nat.le_refl _))).mono ?_
      rintro e W ⟨rfl, rfl⟩
      cases hx : hasT T x with
      | false =>
        have HX := Lib.hid hx
        clear hx
        go_wp2_with fail
        go_ret
        refine ⟨⟨_, rfl, none, 0, ?_, ?_⟩, HW.out.bl⟩
        all_goals
          have e : spansT T l = [] := by
            unfold spansT
            rw [if_neg]
            intro hh
            rw [List.all_eq_true] at hh
            have := hh x (by
              have : x ∈ l.take (k + 1) := by rw [HTK.out]; simp
              exact List.mem_of_mem_take this)
            rw [HX.out] at this
            cases this
          rw [e]
        · rfl
        · exact own_nil _ _ _ _
      | true =>
        have hbl := bytesT_le HOK.out x
        have HSU := Lib.hid (sumT_snoc T (l.take k) x)
        have HES := Lib.hid (endsT_snoc T (l.take k) x 0)
        have HXT := Lib.hid hx
        have hss : (bs (bytesT T x)).size = (bytesT T x).length := bs_size _
        have hsum : IntKind.i64.wrap (sumT T (l.take k) + ((bs (bytesT T x)).size : Int)) = sumT T (l.take k) + ((bytesT T x).length : Int) := by
          rw [hss]
          have h1 := HSL.out
          have h2 : (l.take k).length ≤ l.length := by rw [List.length_take]; omega
          exact IntWalk.i64_in _ (by omega)
        unfold strV
        clear hx hss
        generalize bs (bytesT T x) = Z at *
        generalize hN : sumT T (l.take k) + ((bytesT T x).length : Int) = N at *
        generalize sumT T (l.take k) = S0 at *
        have HN := Lib.hid hN
        clear hN
        go_wp2_with (at_builtin; refine app_one (w.heap.size) 31 3 (.int .i64 0) 1 8 [_] 1 _ _ rfl rfl Try.underlying31 info_int5 rfl (by decide) _ _ _ rfl rfl rfl (by intro u hu; simp at hu; subst hu; rfl) HW.out.row (by omega) (by omega) HW.out.bl.size ?_)
        intro v' w6 hown hg6
        obtain ⟨A3, c3, rfl⟩ := own_slice hown
        have hk6 : Below w.heap.size W w6 := Keep.below (Keep.of_grown (F := fun g => (Value.slice A2 k c2).ownBlock = some g) hg6 (fun g hg => hg)) HW.out.bl.size (fun x hx => own_base HW.out.row x hx)
        have HNEW : Hid (SpIs w w6 T l (k + 1) A3 c3) := Lib.hid ⟨by rw [HTK.out, HES.out, List.map_append]; rw [Int.zero_add, HSU.out]; exact hown, HW.out.bl.trans hk6⟩
        have HA1 : Hid ((l.take (k + 1)).all (hasT T) = true) := Lib.hid (by rw [HTK.out, List.all_append, HALL.out]; simp [HXT.out])
        have HS1 : Hid (sumT T (l.take (k + 1)) = N) := Lib.hid (by rw [HTK.out, HSU.out])
        clear hown hg6 hk6
        go_wp2_with fail
        go_roundg (gk - 1)
        case measure => have := HK.out; omega
        case rel => exact ⟨k + 1, A3, c3, by have := HK.out; omega, rfl, rfl, by rw [HS1.out], HA1.out, HNEW.out⟩
    · have hke : k = l.length := by omega
      subst hke
      clear hk HK
      go_wp2_with fail
      go_ret
      have e : spansT T l = endsT T 0 l := by
        unfold spansT
        have h1 := HALL.out
        rw [List.take_length] at h1
        rw [if_pos h1]
      have h1 := HW.out.row
      rw [List.take_length] at h1
      exact ⟨⟨.slice A2 l.length c2, rfl, A2, c2, by rw [e, endsT_len], by rw [e, endsT_len]; exact h1⟩, HW.out.bl⟩
end
end Go.Proofs.Ytpkmcokkapfnmaa
