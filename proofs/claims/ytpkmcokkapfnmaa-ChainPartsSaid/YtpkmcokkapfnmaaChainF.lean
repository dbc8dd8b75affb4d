/- Layer 5 (chain): the document's answer: All, Bytes. -/
import Derived.Test.YtpkmcokkapfnmaaChainE
import Derived.Lib.AppendStr
import Derived.Laws.IdiomStrings
namespace Go.Proofs.Ytpkmcokkapfnmaa
open Go.RowKit Go.Maps Go.WideMaps
set_option maxRecDepth 100000
set_option linter.unusedVariables false
set_option linter.unusedSimpArgs false

/-- append of a text's bytes, at the operation -/
theorem wp_app_str {P : Program} {w : World} {o : Oper} {a : Act} {K : Act → World → Prop} {Q : Exit → Act → World → Prop} (sl x : Operand) (t u : TypeId)
    (ho : o.op = .call { callee := .builtin .append, args := #[sl, x], argTypes := #[t, u] })
    (base : Nat) (e : TypeId) (ht : P.underlying t = some (.slice e)) (hu : P.underlying u = some .string) (hinfo : (P.info? e).map (fun i => (i.zero, i.size, i.bytes)) = some (some (.int .u8 0), 1, 1))
    (v : Value) (n : Nat) (xs : List Value) (hs : a.eval sl = v) (hown : w.ownsRow base e 1 v n xs) (s : ByteArray) (hx : a.eval x = .string s)
    (hbytes : n + s.size ≤ 140737488355328) (hbase : base ≤ w.heap.size)
    (h : ∀ v' w', w'.ownsRow base e 1 v' (n + s.size) (xs ++ Lib.strCells s) → w.grownBy w' v.ownBlock → K (a.put o.dst v') w') : Oper.wp P o a w K Q := by
  obtain ⟨i, hi, hz0, hz1, hz2⟩ := info_parts hinfo
  obtain ⟨v', w', hr, h2, h3, h4⟩ := Lib.run_append_own_string (P := P) w base t u o.type e i ht hu hi hz0 hz1 hz2 v n xs hown s (by unfold maxLen; omega) hbytes hbase
  unfold Oper.wp execOp
  simp only [ho, resolve, invoke, builtin, Sem.run_bind, Sem.run_pure, Result.andThen_ok, List.map_toArray, List.map_cons, List.map_nil, hs, hx, hr]
  exact h v' w' h2 h3
/-- bytes as cells -/
def bytesV (x : List UInt8) : List Value := x.map fun b => Value.int .u8 b.toNat
theorem strCells_bs (x : List UInt8) : Lib.strCells (bs x) = bytesV x := rfl
theorem info_u8 : (Try.prog.info? 5).map (fun i => (i.zero, i.size, i.bytes)) = some (some (.int .u8 0), 1, 1) := by kernel_rfl
/-- the text of bytes that the call owns -/
theorem conv_own {w : World} {base n : Nat} {v : Value} {x : List UInt8} (h : w.ownsRow base 5 1 v n (bytesV x)) : (convert 79 9 v).run Try.prog w = .ok (.string (bs x)) w := by
  have hl := h.1
  rw [Nat.mul_one] at hl
  have hl2 : x.length = n := by rw [← hl]; simp [bytesV]
  rcases h.2 with ⟨rfl, rfl⟩ | ⟨g, cap, cur, rfl, _⟩
  · have : x = [] := List.eq_nil_of_length_eq_zero hl2
    subst this
    simp [go_sem, bs]
    rfl
  · have := run_convert_bytes_back (P := Try.prog) w 79 9 5 ⟨g, 0, none⟩ cap x Try.underlying79 Try.underlying5 Try.underlying9 (fun j hj => by
      have := h.cells (g := g) rfl j (.int .u8 (x[j]).toNat) (by simp [bytesV, hj])
      exact this)
    rw [hl2] at this
    exact this
/-- the bytes of tokens -/
def catT (T : List Ent) (l : List Int) : List UInt8 := l.flatMap (bytesT T)
theorem catT_snoc (T : List Ent) (l : List Int) (x : Int) : catT T (l ++ [x]) = catT T l ++ bytesT T x := by simp [catT]
theorem catT_le {T : List Ent} (h : OkT T) (l : List Int) : (catT T l).length ≤ 64 * l.length := by
  induction l with
  | nil => simp [catT]
  | cons x l ih =>
    have := bytesT_le h x
    have e : catT T (x :: l) = bytesT T x ++ catT T l := by simp [catT]
    rw [e, List.length_append, List.length_cons]
    omega
section
variable {w w' : World} {base : Nat} {T : List Ent} {vb vm : Value}
theorem rall_any (h : RefIs w base T vb vm) (hT : OkT T) (s : ByteArray) (hs : s.size ≤ 100000000) :
    Calls Try.prog 15 #[.agg #[vb, vm], .string s] w fun e w' => (∃ v, e = .returned v ∧ IntsIs w' w.heap.size v (encT T T.length s.data.toList)) ∧ Below w.heap.size w w' := by
  obtain ⟨A, c, rfl⟩ := own_slice h.row
  obtain ⟨A2, c2, hvm⟩ := own_slice h.mrg
  subst hvm
  have hb0 := (Below.refl w.heap.size w).alloc (Nat.le_refl _) (.cells #[.slice A T.length c, .slice A2 (mrgsT T).length c2] 28)
  have n0 := blk_cell (blk_new w (.cells #[.slice A T.length c, .slice A2 (mrgsT T).length c2] 28)) 0
  have n1 := blk_cell (blk_new w (.cells #[.slice A T.length c, .slice A2 (mrgsT T).length c2] 28)) 1
  simp only [List.getElem?_toArray, List.getElem?_cons_zero, List.getElem?_cons_succ] at n0 n1
  have HB := Lib.hid hb0
  have HC := Lib.hid (renc_any (h.below hb0 (Nat.le_refl _)) hT s hs (T.length : Int))
  clear hb0 h hT
  go_enter Try.func15, Try.ntmps15
  go_wp2_with fail
  refine HC.out.mono ?_
  rintro e w2 ⟨⟨v, rfl, hv⟩, hb⟩
  have HV := Lib.hid (ints_less hv HB.out.size)
  have HB2 := Lib.hid (HB.out.trans (hb.mono HB.out.size))
  clear hv hb HC
  go_wp2_with fail
  go_ret
  exact ⟨⟨v, rfl, HV.out⟩, HB2.out⟩
set_option maxHeartbeats 4000000 in
theorem rbytes_any (h : RefIs w base T vb vm) (hT : OkT T) (l : List Int) (A1 : Option Addr) (d : Nat) (hl : Sl1 w A1 (Value.int .i64) l) (hz : l.length ≤ 100000000) (hall : ∀ x ∈ l, hasT T x = true) :
    Calls Try.prog 19 #[.agg #[vb, vm], .slice A1 l.length d] w fun e w' => e = .returned (.tuple #[.string (bs (catT T l)), .bool true]) ∧ Below w.heap.size w w' := by
  obtain ⟨A, c, rfl⟩ := own_slice h.row
  obtain ⟨A2, c2, hvm⟩ := own_slice h.mrg
  subst hvm
  have hb0 := (Below.refl w.heap.size w).alloc (Nat.le_refl _) (.cells #[.slice A T.length c, .slice A2 (mrgsT T).length c2] 28)
  have n0 := blk_new w (.cells #[.slice A T.length c, .slice A2 (mrgsT T).length c2] 28)
  have HB := Lib.hid hb0
  have HN := Lib.hid n0
  have HR := Lib.hid (h.below hb0 (Nat.le_refl _))
  have HL := Lib.hid (hl.below hb0 (Nat.le_refl _))
  have HALL := Lib.hid hall
  have hsm := hT.small
  have HCL := Lib.hid (fun l => catT_le hT l)
  have HBL := Lib.hid (fun x => bytesT_le hT x)
  clear hb0 n0 h hl hT hall
  go_enter Try.func19, Try.ntmps19
  go_wp2_with fail
  generalize w.alloc (.cells #[.slice A T.length c, .slice A2 (mrgsT T).length c2] 28) = W0 at *
  go_loopg [6, 7] l.length (fun n u i W => ∃ k A3 n3 c3, k + n = l.length ∧ i = .int .i64 ((k : Nat) : Int) ∧ u = .slice A3 n3 c3 ∧ n3 = (catT T (l.take k)).length ∧ W.ownsRow W0.heap.size 5 1 (.slice A3 n3 c3) n3 (bytesV (catT T (l.take k))) ∧ Below W0.heap.size W0 W)
  case atStart => exact ⟨0, none, 0, 0, by omega, rfl, rfl, rfl, own_nil _ _ _ _, Below.refl _ _⟩
  case round =>
    obtain ⟨k, A3, n3, c3, hk, rfl, rfl, hn3, hrow, hbl⟩ := hrel
    rename World => W
    have HK := Lib.hid hk
    have HN3 := Lib.hid hn3
    have HROW := Lib.hid hrow
    have HBL2 := Lib.hid hbl
    have hn4 : n3 ≤ 64 * l.length := by
      have := HCL.out (l.take k)
      have h2 : (l.take k).length ≤ l.length := by rw [List.length_take]; omega
      omega
    clear hn3 hrow hbl
    by_cases hlt : k < l.length
    · have p0 : (0 : Int) ≤ (k : Int) := by omega
      have p1 : (k : Int) < (l.length : Int) := by omega
      have w2 : IntKind.i64.wrap ((k : Int) + 1) = (k : Int) + 1 := IntWalk.i64_in _ (by omega)
      obtain ⟨b1, o1, hA, c1⟩ := (HL.out.below HBL2.out (Nat.le_refl _)).at k hlt
      subst hA
      have HTK := Lib.hid (take_snoc hlt)
      obtain ⟨j, hj, hjl, hje⟩ := hasT_at (HALL.out l[k] (List.getElem_mem hlt))
      have HX := Lib.hid (HALL.out l[k] (List.getElem_mem hlt))
      generalize l[k] = x at *
      subst hj
      have p2 : (0 : Int) ≤ (j : Int) := by omega
      have p3 : (j : Int) < (T.length : Int) := by omega
      have hrw := HR.out.below HBL2.out (Nat.le_refl _)
      have HRW := Lib.hid hrw
      have hj2 : j < (bytsT T).length := by unfold bytsT; rw [List.length_map]; exact hjl
      obtain ⟨bb, ob, hAA, cb⟩ := (own_sl1 (enc := strV) (by simpa [bytsT] using hrw.row)).at j hj2
      subst hAA
      have HBY : Hid ((bytsT T)[j] = bytesT T (j : Int)) := Lib.hid (by unfold bytesT; rw [if_pos HX.out, hje]; simp [bytsT])
      rw [HBY.out] at cb
      have hnw := blk_below HBL2.out (blk_lt HN.out) HN.out
      have g0 := blk_cell hnw 0
      have g1 := blk_cell hnw 1
      simp only [List.getElem?_toArray, List.getElem?_cons_zero, List.getElem?_cons_succ] at g0 g1
      have HBB : Hid (Below W.heap.size W W.drew) := Lib.hid ⟨rfl, rfl, rfl, Nat.le_refl _, fun _ _ => rfl⟩
      have HSC : Hid (∀ V, Below W.heap.size W V → V.cell? ⟨w.heap.size, 0, none⟩ = some (.slice (some ⟨bb, ob, none⟩) T.length c) ∧ V.cell? ⟨w.heap.size, 1, none⟩ = some (.slice A2 (mrgsT T).length c2) ∧ V.cell? ⟨b1, o1 + k, none⟩ = some (.int .i64 (j : Int)) ∧ V.cell? ⟨bb, ob + j, none⟩ = some (strV (bytesT T (j : Int)))) := Lib.hid (fun V hV => ⟨below_cell hV (Nat.le_refl _) g0, below_cell hV (Nat.le_refl _) g1, below_cell hV (Nat.le_refl _) c1, below_cell hV (Nat.le_refl _) cb⟩)
      clear HBY hk hje hrw hj2 hnw
      go_upto_region 5 with fail
      refine wp_region_D (Ds := []) (S := fun V => V.cell? ⟨w.heap.size, 0, none⟩ = some (.slice (some ⟨bb, ob, none⟩) T.length c) ∧ V.cell? ⟨w.heap.size, 1, none⟩ = some (.slice A2 (mrgsT T).length c2) ∧ V.cell? ⟨b1, o1 + k, none⟩ = some (.int .i64 (j : Int)) ∧ V.cell? ⟨bb, ob + j, none⟩ = some (strV (bytesT T (j : Int)))) (by kernel_rfl) (by exact HSC.out _ HBB.out) (fun hHeld => ?_)
      refine wpAnyD_takeP (i := 1) (oi := { dst := some 15, op := Op.move (Operand.tmp 1), type := 31, pos := "ref.go:34", after := #[], guard := none }) (d := 15) (v := ?_) rfl rfl (by kernel_rfl) (by kernel_rfl) (by kernel_rfl) (fun _ _ _ h => h) (Or.inl ⟨by rfl, ?_⟩) ?_
      rotate_left
      · (intro w' _; go_simp; (try with_reducible rfl))
      simp only [List.setIfInBounds_toArray, List.set_cons_zero, List.set_cons_succ]
      refine wpAnyD_takeP (i := 2) (oi := { dst := some 16, op := Op.move (Operand.tmp 7), type := 3, pos := "ref.go:34", after := #[], guard := none }) (d := 16) (v := ?_) rfl rfl (by kernel_rfl) (by kernel_rfl) (by kernel_rfl) (fun _ _ _ h => h) (Or.inl ⟨by rfl, ?_⟩) ?_
      rotate_left
      · (intro w' _; go_simp; (try with_reducible rfl))
      simp only [List.setIfInBounds_toArray, List.set_cons_zero, List.set_cons_succ]
      refine wpAnyD_takeP (i := 3) (oi := { dst := some 17, op := Op.indexAddr 31 (Operand.tmp 15) (Operand.tmp 16), type := 0, pos := "ref.go:34", after := #[{ on := 1, ground := Ground.data }, { on := 2, ground := Ground.data }], guard := none }) (d := 17) (v := ?_) rfl rfl (by kernel_rfl) (by kernel_rfl) (by kernel_rfl) (fun _ _ _ h => h) (Or.inl ⟨by rfl, ?_⟩) ?_
      rotate_left
      · (intro w' _; go_simp; (try with_reducible rfl))
      simp only [List.setIfInBounds_toArray, List.set_cons_zero, List.set_cons_succ]
      refine wpAnyD_takeD (i := 0) (oi := { dst := some 14, op := Op.load 28 (Operand.tmp 2), type := 28, pos := "ref.go:34", after := #[], guard := none }) (d := 14) (v := ?_) rfl rfl (by kernel_rfl) (by kernel_rfl) (by kernel_rfl) (by kernel_rfl) (fun _ _ _ h => h) (Or.inl ⟨by rfl, ?_⟩) hHeld ?_
      rotate_left
      · (intro w' hSw; (try dsimp only at hSw); go_simp; (try with_reducible rfl))
      simp only [List.setIfInBounds_toArray, List.set_cons_zero, List.set_cons_succ]
      refine wpAnyD_takeD (i := 4) (oi := { dst := some 18, op := Op.load 3 (Operand.tmp 17), type := 3, pos := "ref.go:34", after := #[{ on := 3, ground := Ground.data }], guard := none }) (d := 18) (v := ?_) rfl rfl (by kernel_rfl) (by kernel_rfl) (by kernel_rfl) (by kernel_rfl) (fun _ _ _ h => h) (Or.inl ⟨by rfl, ?_⟩) hHeld ?_
      rotate_left
      · (intro w' hSw; (try dsimp only at hSw); go_simp; (try with_reducible rfl))
      simp only [List.setIfInBounds_toArray, List.set_cons_zero, List.set_cons_succ]
      refine wpAnyD_one (i := 5) (o := { dst := some 19, op := Op.call { callee := Callee.value (Operand.func 40), args := #[Operand.tmp 14, Operand.tmp 18], argTypes := #[28, 3] }, type := 4, pos := "ref.go:34", after := #[{ on := 0, ground := Ground.data }, { on := 4, ground := Ground.data }], guard := none }) (by kernel_rfl) rfl (by rfl) (fun K hK => ?_)
      go_simp; refine (rhas_any (j : Int) (HRW.out.below HBB.out (Nat.le_refl _))).mono ?_; rintro e w' ⟨rfl, hb'⟩; have HBB := Lib.hid (HBB.out.trans (hb'.mono HBB.out.size)); have h := HSC.out _ HBB.out; clear hb'; rw [HX.out]; go_simp
      refine hK.out _ _ h (fun hHeld => ?_)
      clear hK K
      try simp only [Act.put, List.setIfInBounds_toArray, List.set_cons_zero, List.set_cons_succ]
      refine wpAnyD_takeP (i := 6) (oi := { dst := some 20, op := Op.unOp UnOp.not 4 (Operand.tmp 19), type := 4, pos := "ref.go:34", after := #[{ on := 5, ground := Ground.data }], guard := none }) (d := 20) (v := ?_) rfl rfl (by kernel_rfl) (by kernel_rfl) (by kernel_rfl) (fun _ _ _ h => h) (Or.inl ⟨by rfl, ?_⟩) ?_
      rotate_left
      · (intro w' _; go_simp; (try with_reducible rfl))
      simp only [List.setIfInBounds_toArray, List.set_cons_zero, List.set_cons_succ]
      refine wpAnyD_done (by kernel_rfl) ?_ _
      clear hHeld h g0 g1 c1 cb
      have HR5 := Lib.hid (own_below HROW.out HBB.out (Nat.le_refl _))
      have HB5 := Lib.hid (HBL2.out.trans (HBB.out.mono HBL2.out.size))
      obtain ⟨g0, g1, c1, cb⟩ := HSC.out _ HBB.out
      go_upto_region 7 with fail
      clear g1
      have hsz : (bs (bytesT T (j : Int))).size ≤ 64 := by rw [bs_size]; exact HBL.out _
      unfold strV at cb
      have HSB := Lib.hid (strCells_bs (bytesT T (j : Int)))
      have HSS : Hid ((bs (bytesT T (j : Int))).size = (bytesT T (j : Int)).length) := Lib.hid (bs_size _)
      generalize bs (bytesT T (j : Int)) = Z at *
      refine wp_region_D (Ds := [9]) (S := fun V => V.cell? ⟨w.heap.size, 0, none⟩ = some (.slice (some ⟨bb, ob, none⟩) T.length c) ∧ V.cell? ⟨b1, o1 + k, none⟩ = some (.int .i64 (j : Int)) ∧ V.cell? ⟨bb, ob + j, none⟩ = some (.string Z)) (by kernel_rfl) (by exact ⟨g0, c1, cb⟩) (fun hHeld => ?_)
      (replace HB5 := Lib.hid HB5.out.drew); (replace HR5 := Lib.hid (own_drew HR5.out)); clear g0 c1 cb; generalize w'.drew = W6 at *
      refine wpAnyD_takeP (i := 0) (oi := { dst := some 21, op := Op.move (Operand.tmp 6), type := 79, pos := "ref.go:37", after := #[], guard := none }) (d := 21) (v := ?_) rfl rfl (by kernel_rfl) (by kernel_rfl) (by kernel_rfl) (fun _ _ _ h => h) (Or.inl ⟨by rfl, ?_⟩) ?_
      rotate_left
      · (intro w' _; go_simp; (try with_reducible rfl))
      simp only [List.setIfInBounds_toArray, List.set_cons_zero, List.set_cons_succ]
      refine wpAnyD_takeP (i := 1) (oi := { dst := some 22, op := Op.fieldAddr 28 (Operand.tmp 2) 0, type := 0, pos := "ref.go:37", after := #[], guard := none }) (d := 22) (v := ?_) rfl rfl (by kernel_rfl) (by kernel_rfl) (by kernel_rfl) (fun _ _ _ h => h) (Or.inl ⟨by rfl, ?_⟩) ?_
      rotate_left
      · (intro w' _; go_simp; (try with_reducible rfl))
      simp only [List.setIfInBounds_toArray, List.set_cons_zero, List.set_cons_succ]
      refine wpAnyD_takeP (i := 3) (oi := { dst := some 24, op := Op.move (Operand.tmp 1), type := 31, pos := "ref.go:37", after := #[], guard := none }) (d := 24) (v := ?_) rfl rfl (by kernel_rfl) (by kernel_rfl) (by kernel_rfl) (fun _ _ _ h => h) (Or.inl ⟨by rfl, ?_⟩) ?_
      rotate_left
      · (intro w' _; go_simp; (try with_reducible rfl))
      simp only [List.setIfInBounds_toArray, List.set_cons_zero, List.set_cons_succ]
      refine wpAnyD_takeP (i := 4) (oi := { dst := some 25, op := Op.move (Operand.tmp 7), type := 3, pos := "ref.go:37", after := #[], guard := none }) (d := 25) (v := ?_) rfl rfl (by kernel_rfl) (by kernel_rfl) (by kernel_rfl) (fun _ _ _ h => h) (Or.inl ⟨by rfl, ?_⟩) ?_
      rotate_left
      · (intro w' _; go_simp; (try with_reducible rfl))
      simp only [List.setIfInBounds_toArray, List.set_cons_zero, List.set_cons_succ]
      refine wpAnyD_takeP (i := 5) (oi := { dst := some 26, op := Op.indexAddr 31 (Operand.tmp 24) (Operand.tmp 25), type := 0, pos := "ref.go:37", after := #[{ on := 3, ground := Ground.data }, { on := 4, ground := Ground.data }], guard := none }) (d := 26) (v := ?_) rfl rfl (by kernel_rfl) (by kernel_rfl) (by kernel_rfl) (fun _ _ _ h => h) (Or.inl ⟨by rfl, ?_⟩) ?_
      rotate_left
      · (intro w' _; go_simp; (try with_reducible rfl))
      simp only [List.setIfInBounds_toArray, List.set_cons_zero, List.set_cons_succ]
      refine wpAnyD_two (i := 2) (j := 6) (oi := { dst := some 23, op := Op.load 25 (Operand.tmp 22), type := 25, pos := "ref.go:37", after := #[{ on := 1, ground := Ground.data }], guard := none }) (oj := { dst := some 27, op := Op.load 3 (Operand.tmp 26), type := 3, pos := "ref.go:37", after := #[{ on := 5, ground := Ground.data }], guard := none }) (by kernel_rfl) rfl rfl (by rfl) (by rfl) (fun K hK => ?_) (fun K hK => ?_)
      ·
        go_simp
        refine hK.out _ _ hHeld (fun hHeld => ?_)
        clear hK K
        try simp only [Act.put, List.setIfInBounds_toArray, List.set_cons_zero, List.set_cons_succ]
        refine wpAnyD_one (i := 6) (o := { dst := some 27, op := Op.load 3 (Operand.tmp 26), type := 3, pos := "ref.go:37", after := #[{ on := 5, ground := Ground.data }], guard := none }) (by kernel_rfl) rfl (by rfl) (fun K hK => ?_)
        go_simp
        refine hK.out _ _ hHeld (fun hHeld => ?_)
        clear hK K
        try simp only [Act.put, List.setIfInBounds_toArray, List.set_cons_zero, List.set_cons_succ]
        refine wpAnyD_takeP (i := 7) (oi := { dst := some 28, op := Op.indexAddr 25 (Operand.tmp 23) (Operand.tmp 27), type := 0, pos := "ref.go:37", after := #[{ on := 2, ground := Ground.data }, { on := 6, ground := Ground.data }], guard := none }) (d := 28) (v := ?_) rfl rfl (by kernel_rfl) (by kernel_rfl) (by kernel_rfl) (fun _ _ _ h => h) (Or.inl ⟨by rfl, ?_⟩) ?_
        rotate_left
        · (intro w' _; go_simp; (try with_reducible rfl))
        simp only [List.setIfInBounds_toArray, List.set_cons_zero, List.set_cons_succ]
        refine wpAnyD_takeD (i := 8) (oi := { dst := some 29, op := Op.load 9 (Operand.tmp 28), type := 9, pos := "ref.go:37", after := #[{ on := 7, ground := Ground.data }], guard := none }) (d := 29) (v := ?_) rfl rfl (by kernel_rfl) (by kernel_rfl) (by kernel_rfl) (by kernel_rfl) (fun _ _ _ h => h) (Or.inl ⟨by rfl, ?_⟩) hHeld ?_
        rotate_left
        · (intro w' hSw; (try dsimp only at hSw); go_simp; (try with_reducible rfl))
        simp only [List.setIfInBounds_toArray, List.set_cons_zero, List.set_cons_succ]
        refine wpAnyD_last (D := 9) (by decide) (o := { dst := some 30, op := Op.call { callee := Callee.builtin Builtin.append, args := #[Operand.tmp 21, Operand.tmp 29], argTypes := #[79, 9] }, type := 79, pos := "ref.go:37", after := #[{ on := 0, ground := Ground.data }, { on := 8, ground := Ground.data }], guard := none }) (by kernel_rfl) rfl (by rfl) (fun K hK => ?_)
        refine wp_app_str (.tmp 21) (.tmp 29) 79 9 (by rfl) W0.heap.size 5 Try.underlying79 Try.underlying9 info_u8 (.slice A3 n3 c3) n3 _ (by rfl) HR5.out Z (by rfl) (by omega) HB5.out.size ?_; intro v' W7 hown hg; obtain ⟨A4, c4, rfl⟩ := own_slice hown; have HR7 : Hid (W7.ownsRow W0.heap.size 5 1 (.slice A4 (n3 + Z.size) c4) (n3 + Z.size) (bytesV (catT T (l.take (k + 1))))) := Lib.hid (by rw [HTK.out, catT_snoc]; unfold bytesV; rw [List.map_append]; have h := hown; rw [HSB.out] at h; exact h); have HB7 := Lib.hid (HB5.out.trans (Keep.below (Keep.of_grown (F := fun g => (Value.slice A3 n3 c3).ownBlock = some g) hg (fun g hg => hg)) HB5.out.size (fun x hx => own_base HR5.out x hx))); clear hown hg
        refine hK.out _ _ ?_
        clear hK K
        try simp only [Act.put, List.setIfInBounds_toArray, List.set_cons_zero, List.set_cons_succ]
        refine wpAnyD_takeP (i := 10) (oi := { dst := some 6, op := Op.assign (Operand.tmp 30), type := 79, pos := "ref.go:37", after := #[{ on := 9, ground := Ground.data }, { on := 9, ground := Ground.chain }, { on := 0, ground := Ground.phase }, { on := 1, ground := Ground.phase }, { on := 2, ground := Ground.phase }, { on := 3, ground := Ground.phase }, { on := 4, ground := Ground.phase }, { on := 5, ground := Ground.phase }, { on := 6, ground := Ground.phase }, { on := 7, ground := Ground.phase }, { on := 8, ground := Ground.phase }, { on := 9, ground := Ground.phase }], guard := none }) (d := 6) (v := ?_) rfl rfl (by kernel_rfl) (by kernel_rfl) (by kernel_rfl) (fun _ _ _ h => h) (Or.inl ⟨by rfl, ?_⟩) ?_
        rotate_left
        · (intro w' _; go_simp; (try with_reducible rfl))
        simp only [List.setIfInBounds_toArray, List.set_cons_zero, List.set_cons_succ]
        refine wpAnyD_done (by kernel_rfl) ?_ _
        have HN7 : Hid (n3 + Z.size = (catT T (l.take (k + 1))).length) := Lib.hid (by rw [HTK.out, catT_snoc, List.length_append, ← HN3.out, HSS.out])
        go_wp2_with fail
        go_roundg (gk - 1)
        case measure => have := HK.out; omega
        case rel => exact ⟨k + 1, A4, n3 + Z.size, c4, by have := HK.out; omega, rfl, rfl, HN7.out, HR7.out, HB7.out⟩
      ·
        go_simp
        refine hK.out _ _ hHeld (fun hHeld => ?_)
        clear hK K
        try simp only [Act.put, List.setIfInBounds_toArray, List.set_cons_zero, List.set_cons_succ]
        refine wpAnyD_one (i := 2) (o := { dst := some 23, op := Op.load 25 (Operand.tmp 22), type := 25, pos := "ref.go:37", after := #[{ on := 1, ground := Ground.data }], guard := none }) (by kernel_rfl) rfl (by rfl) (fun K hK => ?_)
        go_simp
        refine hK.out _ _ hHeld (fun hHeld => ?_)
        clear hK K
        try simp only [Act.put, List.setIfInBounds_toArray, List.set_cons_zero, List.set_cons_succ]
        refine wpAnyD_takeP (i := 7) (oi := { dst := some 28, op := Op.indexAddr 25 (Operand.tmp 23) (Operand.tmp 27), type := 0, pos := "ref.go:37", after := #[{ on := 2, ground := Ground.data }, { on := 6, ground := Ground.data }], guard := none }) (d := 28) (v := ?_) rfl rfl (by kernel_rfl) (by kernel_rfl) (by kernel_rfl) (fun _ _ _ h => h) (Or.inl ⟨by rfl, ?_⟩) ?_
        rotate_left
        · (intro w' _; go_simp; (try with_reducible rfl))
        simp only [List.setIfInBounds_toArray, List.set_cons_zero, List.set_cons_succ]
        refine wpAnyD_takeD (i := 8) (oi := { dst := some 29, op := Op.load 9 (Operand.tmp 28), type := 9, pos := "ref.go:37", after := #[{ on := 7, ground := Ground.data }], guard := none }) (d := 29) (v := ?_) rfl rfl (by kernel_rfl) (by kernel_rfl) (by kernel_rfl) (by kernel_rfl) (fun _ _ _ h => h) (Or.inl ⟨by rfl, ?_⟩) hHeld ?_
        rotate_left
        · (intro w' hSw; (try dsimp only at hSw); go_simp; (try with_reducible rfl))
        simp only [List.setIfInBounds_toArray, List.set_cons_zero, List.set_cons_succ]
        refine wpAnyD_last (D := 9) (by decide) (o := { dst := some 30, op := Op.call { callee := Callee.builtin Builtin.append, args := #[Operand.tmp 21, Operand.tmp 29], argTypes := #[79, 9] }, type := 79, pos := "ref.go:37", after := #[{ on := 0, ground := Ground.data }, { on := 8, ground := Ground.data }], guard := none }) (by kernel_rfl) rfl (by rfl) (fun K hK => ?_)
        refine wp_app_str (.tmp 21) (.tmp 29) 79 9 (by rfl) W0.heap.size 5 Try.underlying79 Try.underlying9 info_u8 (.slice A3 n3 c3) n3 _ (by rfl) HR5.out Z (by rfl) (by omega) HB5.out.size ?_; intro v' W7 hown hg; obtain ⟨A4, c4, rfl⟩ := own_slice hown; have HR7 : Hid (W7.ownsRow W0.heap.size 5 1 (.slice A4 (n3 + Z.size) c4) (n3 + Z.size) (bytesV (catT T (l.take (k + 1))))) := Lib.hid (by rw [HTK.out, catT_snoc]; unfold bytesV; rw [List.map_append]; have h := hown; rw [HSB.out] at h; exact h); have HB7 := Lib.hid (HB5.out.trans (Keep.below (Keep.of_grown (F := fun g => (Value.slice A3 n3 c3).ownBlock = some g) hg (fun g hg => hg)) HB5.out.size (fun x hx => own_base HR5.out x hx))); clear hown hg
        refine hK.out _ _ ?_
        clear hK K
        try simp only [Act.put, List.setIfInBounds_toArray, List.set_cons_zero, List.set_cons_succ]
        refine wpAnyD_takeP (i := 10) (oi := { dst := some 6, op := Op.assign (Operand.tmp 30), type := 79, pos := "ref.go:37", after := #[{ on := 9, ground := Ground.data }, { on := 9, ground := Ground.chain }, { on := 0, ground := Ground.phase }, { on := 1, ground := Ground.phase }, { on := 2, ground := Ground.phase }, { on := 3, ground := Ground.phase }, { on := 4, ground := Ground.phase }, { on := 5, ground := Ground.phase }, { on := 6, ground := Ground.phase }, { on := 7, ground := Ground.phase }, { on := 8, ground := Ground.phase }, { on := 9, ground := Ground.phase }], guard := none }) (d := 6) (v := ?_) rfl rfl (by kernel_rfl) (by kernel_rfl) (by kernel_rfl) (fun _ _ _ h => h) (Or.inl ⟨by rfl, ?_⟩) ?_
        rotate_left
        · (intro w' _; go_simp; (try with_reducible rfl))
        simp only [List.setIfInBounds_toArray, List.set_cons_zero, List.set_cons_succ]
        refine wpAnyD_done (by kernel_rfl) ?_ _
        have HN7 : Hid (n3 + Z.size = (catT T (l.take (k + 1))).length) := Lib.hid (by rw [HTK.out, catT_snoc, List.length_append, ← HN3.out, HSS.out])
        go_wp2_with fail
        go_roundg (gk - 1)
        case measure => have := HK.out; omega
        case rel => exact ⟨k + 1, A4, n3 + Z.size, c4, by have := HK.out; omega, rfl, rfl, HN7.out, HR7.out, HB7.out⟩
    · have hke : k = l.length := by omega
      have HCV := Lib.hid (conv_own HROW.out)
      have htk : l.take k = l := by rw [hke, List.take_length]
      rw [htk] at HCV
      have hq : ¬ (k : Int) < (l.length : Int) := by omega
      clear hk HK hke htk
      go_wp2_with (rw [HCV.out])
      exact bodyPost_ret (v := .tuple #[.string (bs (catT T l)), .bool true]) (by simp [results, Try.results19, go_sem]) rfl ⟨rfl, HB.out.trans (HBL2.out.mono HB.out.size)⟩
end
end Go.Proofs.Ytpkmcokkapfnmaa
