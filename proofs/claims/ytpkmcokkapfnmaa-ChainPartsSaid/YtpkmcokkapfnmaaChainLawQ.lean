/- Layer 5 (chain): ChainParts. -/
import Derived.Test.YtpkmcokkapfnmaaChainI
import Derived.Test.YtpkmcokkapfnmaaOpen
namespace Go.Proofs.Ytpkmcokkapfnmaa
open Go.RowKit Go.Maps Go.WideMaps
set_option maxRecDepth 100000
set_option linter.unusedVariables false
set_option linter.unusedSimpArgs false

theorem below_drew1 (w : World) : Below w.heap.size w w.drew := ⟨rfl, rfl, rfl, Nat.le_refl _, fun _ _ => rfl⟩
/-- append of a row that the call owns -/
theorem app_own {P : Program} {w : World} {ops : Array Oper} {rest : List Oper} {o : Oper} {a : Act} {Q : Exit → Act → World → Prop} (base base0 : Nat) (t e : TypeId) (z : Value) (size bytes : Nat) (s x : Operand)
    (hgd : o.guard = none) (ho : o.op = .call { callee := .builtin .append, args := #[s, x], argTypes := #[t, t] })
    (ht : P.underlying t = some (.slice e)) (hinfo : (P.info? e).map (fun i => (i.zero, i.size, i.bytes)) = some (some z, size, bytes)) (hzs : z.cells.size = size) (hsz : 0 < size)
    (v vy : Value) (n m : Nat) (xs ys : List Value) (hs : a.eval s = v) (hx : a.eval x = vy) (h1 : ∀ u ∈ ys, u.oneCell' = true)
    (hown : w.ownsRow base e size v n xs) (hy : w.ownsRow base0 e size vy m ys) (hbytes : (n + m) * bytes ≤ 140737488355328) (h63 : n + m ≤ 9000000000000000000) (hbase : base ≤ w.heap.size)
    (h : ∀ v' w', w'.ownsRow base e size v' (n + m) (xs ++ ys) → w.grownBy w' v.ownBlock → wpList P ops Q rest (a.put o.dst v') w') : wpList P ops Q (o :: rest) a w := by
  obtain ⟨i, hi, hz0, hz1, hz2⟩ := info_parts hinfo
  have hyl := hy.1
  rcases hy.2 with ⟨rfl, rfl⟩ | ⟨g, cap, cur, rfl, hb, hg, _⟩
  · have : ys = [] := List.eq_nil_of_length_eq_zero (by simpa using hyl)
    subst this
    refine wpList_append_own_none hgd s x t ho base e i size ht hi v n xs hs hown hx (h _ _ (by simpa using hown) ⟨rfl, rfl, rfl, Nat.le_refl _, fun _ _ _ => rfl⟩)
  · refine wpList_append_own_at w hgd s x t ho base e i z size bytes ht hi hz0 hz1 hz2 hzs hsz v n xs hs hown ⟨g, 0, none⟩ m cap ys hx hyl (fun j u hu => hy.cells (g := g) rfl j u hu) h1 (by unfold maxLen; omega) hbytes hbase ?_
    intro v' w' r1 r2 _ _
    exact h v' w' r1 r2
theorem sumT_cat (T : List Ent) (l : List Int) : sumT T l = ((catT T l).length : Nat) := by
  induction l with
  | nil => rfl
  | cons x l ih =>
    have e1 : sumT T (x :: l) = (bytesT T x).length + sumT T l := by simp [sumT]
    have e2 : catT T (x :: l) = bytesT T x ++ catT T l := by simp [catT]
    rw [e1, e2, ih, List.length_append]
    omega
theorem data_append (a b : ByteArray) : (a ++ b).data.toList = a.data.toList ++ b.data.toList := by
  simp
structure PtIs (w W : World) (b : Nat) (T : List Ent) (tb : Nat) (sv : Value) (mb mp : Nat) (A1 : Option Addr) (n1 c1 : Nat) (A2 : Option Addr) (n2 c2 : Nat) (g : Nat) (l : List Int) (A3 : Option Addr) : Prop where
  tab : TabIs W b tb T sv mb mp
  ref : RefIs W b T (.slice A1 n1 c1) (.slice A2 n2 c2)
  blk : W.heap[g]? = some (.cells #[.slice A1 n1 c1, .slice A2 n2 c2] 28)
  ids : Sl1 W A3 (Value.int .i64) l
  bl : Below w.heap.size w W
theorem PtIs.step {w W V : World} {b : Nat} {T : List Ent} {tb : Nat} {sv : Value} {mb mp : Nat} {A1 : Option Addr} {n1 c1 : Nat} {A2 : Option Addr} {n2 c2 : Nat} {g : Nat} {l : List Int} {A3 : Option Addr} (h : PtIs w W b T tb sv mb mp A1 n1 c1 A2 n2 c2 g l A3) (hb : Below W.heap.size W V) : PtIs w V b T tb sv mb mp A1 n1 c1 A2 n2 c2 g l A3 :=
  ⟨h.tab.below hb (Nat.le_refl _), h.ref.below hb (Nat.le_refl _), blk_below hb (blk_lt h.blk) h.blk, h.ids.below hb (Nat.le_refl _), h.bl.trans (hb.mono h.bl.size)⟩
set_option maxHeartbeats 8000000 in
theorem cparts_small (l : List Nat) (A : Option Addr) (c : Nat) (s r : ByteArray) (w : World) (hl : Sl1 w A (fun x : Nat => .int .u16 (x : Int)) l) (hsm : ∀ x ∈ l, x < 65536) (hlen : l.length ≤ 60) (hs : s.size ≤ 300) (hr : r.size ≤ 300) :
    Calls Try.prog 3 #[.slice A l.length c, .string s, .string r] w (RetTrue w) := by
  have HL := Lib.hid hl
  have h1 : ¬ (60 : Int) < (l.length : Int) := by omega
  have h2 : ¬ (300 : Int) < (s.size : Int) := by omega
  have h3 : ¬ (300 : Int) < (r.size : Int) := by omega
  clear hl
  go_enter Try.func3, Try.ntmps3
  go_wp2_with fail
  refine (awake5_any _).mono ?_
  rintro e w1 ⟨rfl, hb1⟩
  have HB1 := Lib.hid hb1
  replace HL := Lib.hid (HL.out.below hb1 (Nat.le_refl _))
  clear hb1
  go_wp2_with fail
  refine (table_any l A c w1 HL.out hsm hlen).mono ?_
  rintro e w2 ⟨T, tb, sv, mb, mp, A1, n1, c1, A2, n2, c2, rfl, hadds, hgt, hboth⟩
  clear hgt
  have HOK := Lib.hid hadds.1
  have hba := (Below.refl w2.heap.size w2).alloc (Nat.le_refl _) (.cells #[.slice A1 n1 c1, .slice A2 n2 c2] 28)
  have hb2 := HB1.out.trans (hboth.bl.mono HB1.out.size)
  have HB2 := Lib.hid (hb2.trans (hba.mono hb2.size))
  have HBO := Lib.hid (hboth.step hba)
  have HN := Lib.hid (blk_new w2 (.cells #[.slice A1 n1 c1, .slice A2 n2 c2] 28))
  clear hadds hba hb2 hboth
  go_upto_region 4 with fail
  generalize w2.alloc (.cells #[.slice A1 n1 c1, .slice A2 n2 c2] 28) = w3 at *
  generalize w2.heap.size = g8 at *
  have hbig : (9223372036854775807 < s.size + r.size) = False := by
    rw [eq_iff_iff, iff_false]; omega
  have hszz : (s ++ r).size ≤ 600 := by rw [← dataLen, data_append, List.length_append, dataLen, dataLen]; omega
  go_wp2_with fail
  refine (encode_any HBO.out.tab HOK.out (s ++ r) (by omega)).mono ?_
  rintro e w4 ⟨⟨v, rfl, hv⟩, hb⟩
  have hlen2 := encT_len T T.length (s ++ r)
  rw [data_append] at hv hlen2
  obtain ⟨A3, c3, rfl, hs3⟩ := ints_sl hv
  have HBK : Hid (PtIs w w4 w1.heap.size T tb sv mb mp A1 n1 c1 A2 n2 c2 g8 (encT T T.length (s.data.toList ++ r.data.toList)) A3) := Lib.hid ⟨HBO.out.tab.below hb (Nat.le_refl _), HBO.out.ref.below hb (Nat.le_refl _), blk_below hb (blk_lt HN.out) HN.out, hs3, HB2.out.trans (hb.mono HB2.out.size)⟩
  have HHAS := Lib.hid (encT_has HOK.out T.length (s.data.toList ++ r.data.toList))
  have HCUT := Lib.hid (fun W1 W2 => encT_cut HOK.out T.length s.data.toList r.data.toList (W1 := W1) (W2 := W2))
  have HLA := Lib.hid (encT_len T T.length s)
  have HLB := Lib.hid (encT_len T T.length r)
  generalize encT T T.length (s.data.toList ++ r.data.toList) = ids at *
  have hid5 : ids.length ≤ 600 := by omega
  clear hv hb hs3 hlen2 HB2 HBO HN hbig hszz
  go_wp2_with fail
  go_loopg [10, 11] ids.length (fun n u i W => ∃ k, k + n = ids.length ∧ i = .int .i64 ((k : Nat) : Int) ∧ u = .int .i64 (sumT T (ids.take k)) ∧ PtIs w W w1.heap.size T tb sv mb mp A1 n1 c1 A2 n2 c2 g8 ids A3)
  case atStart => exact ⟨0, by omega, rfl, by simp [sumT], HBK.out⟩
  case round =>
    obtain ⟨k, hk, rfl, rfl, hW⟩ := hrel
    clear HBK
    rename World => W
    have HW := Lib.hid hW
    have HK := Lib.hid hk
    clear hW
    by_cases hlt : k < ids.length
    · have p0 : (0 : Int) ≤ (k : Int) := by omega
      have p1 : (k : Int) < (ids.length : Int) := by omega
      by_cases hcut : sumT T (ids.take k) = (s.size : Int)
      · have HC : Hid (ids.take k = encT T T.length s.data.toList ∧ ids.drop k = encT T T.length r.data.toList) := Lib.hid (HCUT.out (ids.take k) (ids.drop k) (by rw [List.take_append_drop]) (by rw [sumT_cat] at hcut; rw [dataLen]; omega))
        have HIDS : Hid (encT T T.length s.data.toList ++ encT T T.length r.data.toList = ids) := Lib.hid (by rw [← HC.out.1, ← HC.out.2, List.take_append_drop])
        have hq : (sumT T (ids.take k) == (s.size : Int)) = true := by simpa using hcut
        clear hcut hk
        go_wp2_with fail
        refine (encode_any HW.out.tab HOK.out s (by omega)).mono ?_
        rintro e w5 ⟨⟨v, rfl, hv⟩, hb⟩
        have HV := Lib.hid hv
        have HBW := Lib.hid hb
        have HT5 := Lib.hid (HW.out.tab.below hb (Nat.le_refl _))
        clear hv hb
        go_wp2_with fail
        refine (encode_any HT5.out HOK.out r (by omega)).mono ?_
        rintro e w6 ⟨⟨v2, rfl, hv2⟩, hb⟩
        obtain ⟨A5, c5, e5, hr5⟩ := ints_below HV.out hb (Nat.le_refl _)
        obtain ⟨A6, c6, e6, hr6⟩ := hv2
        subst e5; subst e6
        have HR5 := Lib.hid hr5
        have HR6 := Lib.hid hr6
        replace HBW := Lib.hid (HBW.out.trans (hb.mono HBW.out.size))
        have hla := HLA.out
        have hlb := HLB.out
        clear hr5 hr6 hb HV HT5
        go_wp2_with (refine app_own W.heap.size w5.heap.size 31 3 (.int .i64 0) 1 8 _ _ rfl rfl Try.underlying31 info_int5 rfl (by decide) _ _ _ _ _ _ rfl rfl (by intro u hu; obtain ⟨x, _, rfl⟩ := List.mem_map.1 hu; rfl) HR5.out HR6.out (by omega) (by omega) HBW.out.size ?_)
        intro v' w7 hown hg
        rw [← List.map_append, HIDS.out] at hown
        obtain ⟨A7, c7, rfl⟩ := own_slice hown
        have HL7 : Hid ((encT T T.length s.data.toList).length + (encT T T.length r.data.toList).length = ids.length) := Lib.hid (by rw [← HIDS.out, List.length_append])
        have hb7 : Below W.heap.size w6 w7 := Keep.below (Keep.of_grown hg (fun g hg => hg)) HBW.out.size (fun x hx => own_base HR5.out x hx)
        have HB7 := Lib.hid (HBW.out.trans hb7)
        rw [HL7.out] at hown ⊢
        have HI := Lib.hid (ints_same ids A3 A7 c3 c7 w7 (HW.out.ids.below HB7.out (Nat.le_refl _)) (own_sl1 hown) (by omega))
        clear hown hg hb7 hla hlb
        go_wp2_with fail
        refine HI.out.mono ?_
        rintro e w8 ⟨rfl, hb⟩
        have HB8 := Lib.hid ((HW.out.bl.trans (HB7.out.mono HW.out.bl.size)).trans (hb.mono (Nat.le_trans HW.out.bl.size HB7.out.size)))
        clear hb HI
        go_wp2_with fail
        go_ret
        exact ⟨rfl, HB8.out⟩
      · have wk : IntKind.i64.wrap ((k : Int) + 1) = (k : Int) + 1 := IntWalk.i64_in _ (by omega)
        have hq : (sumT T (ids.take k) == (s.size : Int)) = false := by simpa using hcut
        obtain ⟨b3, o3, hA, e3⟩ := HW.out.ids.at k hlt
        subst hA
        have HTK := Lib.hid (take_snoc hlt)
        have HX := Lib.hid (HHAS.out ids[k] (List.getElem_mem hlt))
        obtain ⟨j, hj, hjl, hje⟩ := hasT_at HX.out
        have HSS := Lib.hid (sumT_snoc T (ids.take k) ids[k])
        have HSL := Lib.hid (sumT_le HOK.out (ids.take k))
        generalize ids[k] = x at *
        subst hj
        have p2 : (0 : Int) ≤ (j : Int) := by omega
        have p3 : (j : Int) < (T.length : Int) := by omega
        have hn1 : n1 = T.length := by obtain ⟨_, _, e⟩ := own_slice HW.out.ref.row; injection e
        subst hn1
        have hj2 : j < (bytsT T).length := by unfold bytsT; rw [List.length_map]; exact hjl
        obtain ⟨bb, ob, hAA, cb⟩ := (own_sl1 (enc := strV) (by simpa [bytsT] using HW.out.ref.row)).at j hj2
        subst hAA
        have HBY : Hid ((bytsT T)[j] = bytesT T (j : Int)) := Lib.hid (by unfold bytesT; rw [if_pos HX.out, hje]; simp [bytsT])
        rw [HBY.out] at cb
        have hbl := bytesT_le HOK.out (j : Int)
        have hss : (bs (bytesT T (j : Int))).size = (bytesT T (j : Int)).length := bs_size _
        have hsum : IntKind.i64.wrap (sumT T (ids.take k) + ((bs (bytesT T (j : Int))).size : Int)) = sumT T (ids.take (k + 1)) := by
          rw [hss, HTK.out, HSS.out]
          have h1 := HSL.out
          have h2 : (ids.take k).length ≤ ids.length := by rw [List.length_take]; omega
          exact IntWalk.i64_in _ (by omega)
        have g0 := blk_cell HW.out.blk 0
        have g1 := blk_cell HW.out.blk 1
        simp only [List.getElem?_toArray, List.getElem?_cons_zero, List.getElem?_cons_succ] at g0 g1
        unfold strV at cb
        clear HBY hje hj2 hk hss hbl hcut
        generalize bs (bytesT T (j : Int)) = Z at *
        obtain ⟨S1, hS1⟩ : ∃ S, sumT T (ids.take (k + 1)) = S := ⟨_, rfl⟩
        have HS1E := Lib.hid hS1
        rw [hS1] at hsum
        clear hS1
        generalize sumT T (ids.take k) = S0 at *
        go_upto_region 13 with fail
        refine wp_region_held_drew (S := fun V => V.cell? ⟨g8, 0, none⟩ = some (.slice (some ⟨bb, ob, none⟩) T.length c1) ∧ V.cell? ⟨b3, o3 + k, none⟩ = some (.int .i64 (j : Int)) ∧ V.cell? ⟨bb, ob + j, none⟩ = some (.string Z)) (by kernel_rfl) (by exact ⟨g0, e3, cb⟩) (fun hHeld => ?_)
        refine wpAnyH_takeD (i := 0) (oi := { dst := some 61, op := Op.move (Operand.tmp 10), type := 3, pos := "law.go:84", after := #[], guard := none }) (d := 61) (v := ?_) rfl rfl (by kernel_rfl) (by kernel_rfl) (by kernel_rfl) (fun _ _ _ h => h) (Or.inl ⟨by rfl, ?_⟩) hHeld ?_
        rotate_left
        · (intro w' hSw; (try dsimp only at hSw); go_simp; (try with_reducible rfl))
        simp only [List.setIfInBounds_toArray, List.set_cons_zero, List.set_cons_succ]
        refine wpAnyH_takeD (i := 1) (oi := { dst := some 62, op := Op.fieldAddr 28 (Operand.tmp 8) 0, type := 0, pos := "law.go:84", after := #[], guard := none }) (d := 62) (v := ?_) rfl rfl (by kernel_rfl) (by kernel_rfl) (by kernel_rfl) (fun _ _ _ h => h) (Or.inl ⟨by rfl, ?_⟩) hHeld ?_
        rotate_left
        · (intro w' hSw; (try dsimp only at hSw); go_simp; (try with_reducible rfl))
        simp only [List.setIfInBounds_toArray, List.set_cons_zero, List.set_cons_succ]
        refine wpAnyH_takeD (i := 2) (oi := { dst := some 63, op := Op.load 25 (Operand.tmp 62), type := 25, pos := "law.go:84", after := #[{ on := 1, ground := Ground.data }], guard := none }) (d := 63) (v := ?_) rfl rfl (by kernel_rfl) (by kernel_rfl) (by kernel_rfl) (fun _ _ _ h => h) (Or.inl ⟨by rfl, ?_⟩) hHeld ?_
        rotate_left
        · (intro w' hSw; (try dsimp only at hSw); go_simp; (try with_reducible rfl))
        simp only [List.setIfInBounds_toArray, List.set_cons_zero, List.set_cons_succ]
        refine wpAnyH_takeD (i := 3) (oi := { dst := some 64, op := Op.move (Operand.tmp 9), type := 31, pos := "law.go:84", after := #[], guard := none }) (d := 64) (v := ?_) rfl rfl (by kernel_rfl) (by kernel_rfl) (by kernel_rfl) (fun _ _ _ h => h) (Or.inl ⟨by rfl, ?_⟩) hHeld ?_
        rotate_left
        · (intro w' hSw; (try dsimp only at hSw); go_simp; (try with_reducible rfl))
        simp only [List.setIfInBounds_toArray, List.set_cons_zero, List.set_cons_succ]
        refine wpAnyH_takeD (i := 4) (oi := { dst := some 65, op := Op.move (Operand.tmp 11), type := 3, pos := "law.go:84", after := #[], guard := none }) (d := 65) (v := ?_) rfl rfl (by kernel_rfl) (by kernel_rfl) (by kernel_rfl) (fun _ _ _ h => h) (Or.inl ⟨by rfl, ?_⟩) hHeld ?_
        rotate_left
        · (intro w' hSw; (try dsimp only at hSw); go_simp; (try with_reducible rfl))
        simp only [List.setIfInBounds_toArray, List.set_cons_zero, List.set_cons_succ]
        refine wpAnyH_takeD (i := 5) (oi := { dst := some 66, op := Op.indexAddr 31 (Operand.tmp 64) (Operand.tmp 65), type := 0, pos := "law.go:84", after := #[{ on := 3, ground := Ground.data }, { on := 4, ground := Ground.data }], guard := none }) (d := 66) (v := ?_) rfl rfl (by kernel_rfl) (by kernel_rfl) (by kernel_rfl) (fun _ _ _ h => h) (Or.inl ⟨by rfl, ?_⟩) hHeld ?_
        rotate_left
        · (intro w' hSw; (try dsimp only at hSw); go_simp; (try with_reducible rfl))
        simp only [List.setIfInBounds_toArray, List.set_cons_zero, List.set_cons_succ]
        refine wpAnyH_takeD (i := 6) (oi := { dst := some 67, op := Op.load 3 (Operand.tmp 66), type := 3, pos := "law.go:84", after := #[{ on := 5, ground := Ground.data }], guard := none }) (d := 67) (v := ?_) rfl rfl (by kernel_rfl) (by kernel_rfl) (by kernel_rfl) (fun _ _ _ h => h) (Or.inl ⟨by rfl, ?_⟩) hHeld ?_
        rotate_left
        · (intro w' hSw; (try dsimp only at hSw); go_simp; (try with_reducible rfl))
        simp only [List.setIfInBounds_toArray, List.set_cons_zero, List.set_cons_succ]
        refine wpAnyH_takeD (i := 7) (oi := { dst := some 68, op := Op.indexAddr 25 (Operand.tmp 63) (Operand.tmp 67), type := 0, pos := "law.go:84", after := #[{ on := 2, ground := Ground.data }, { on := 6, ground := Ground.data }], guard := none }) (d := 68) (v := ?_) rfl rfl (by kernel_rfl) (by kernel_rfl) (by kernel_rfl) (fun _ _ _ h => h) (Or.inl ⟨by rfl, ?_⟩) hHeld ?_
        rotate_left
        · (intro w' hSw; (try dsimp only at hSw); go_simp; (try with_reducible rfl))
        simp only [List.setIfInBounds_toArray, List.set_cons_zero, List.set_cons_succ]
        refine wpAnyH_takeD (i := 8) (oi := { dst := some 69, op := Op.load 9 (Operand.tmp 68), type := 9, pos := "law.go:84", after := #[{ on := 7, ground := Ground.data }], guard := none }) (d := 69) (v := ?_) rfl rfl (by kernel_rfl) (by kernel_rfl) (by kernel_rfl) (fun _ _ _ h => h) (Or.inl ⟨by rfl, ?_⟩) hHeld ?_
        rotate_left
        · (intro w' hSw; (try dsimp only at hSw); go_simp; (try with_reducible rfl))
        simp only [List.setIfInBounds_toArray, List.set_cons_zero, List.set_cons_succ]
        refine wpAnyH_takeD (i := 9) (oi := { dst := some 70, op := Op.call { callee := Callee.builtin Builtin.len, args := #[Operand.tmp 69], argTypes := #[9] }, type := 3, pos := "law.go:84", after := #[{ on := 8, ground := Ground.data }], guard := none }) (d := 70) (v := ?_) rfl rfl (by kernel_rfl) (by kernel_rfl) (by kernel_rfl) (fun _ _ _ h => h) (Or.inl ⟨by rfl, ?_⟩) hHeld ?_
        rotate_left
        · (intro w' hSw; (try dsimp only at hSw); go_simp; (try with_reducible rfl))
        simp only [List.setIfInBounds_toArray, List.set_cons_zero, List.set_cons_succ]
        refine wpAnyH_takeD (i := 10) (oi := { dst := some 71, op := Op.binOp BinOp.add 3 (Operand.tmp 61) (Operand.tmp 70) 3, type := 3, pos := "law.go:84", after := #[{ on := 0, ground := Ground.data }, { on := 9, ground := Ground.data }], guard := none }) (d := 71) (v := ?_) rfl rfl (by kernel_rfl) (by kernel_rfl) (by kernel_rfl) (fun _ _ _ h => h) (Or.inl ⟨by rfl, ?_⟩) hHeld ?_
        rotate_left
        · (intro w' hSw; (try dsimp only at hSw); go_simp; (try with_reducible rfl))
        simp only [List.setIfInBounds_toArray, List.set_cons_zero, List.set_cons_succ]
        refine wpAnyH_takeD (i := 11) (oi := { dst := some 10, op := Op.assign (Operand.tmp 71), type := 3, pos := "law.go:84", after := #[{ on := 10, ground := Ground.data }, { on := 0, ground := Ground.phase }, { on := 1, ground := Ground.phase }, { on := 2, ground := Ground.phase }, { on := 3, ground := Ground.phase }, { on := 4, ground := Ground.phase }, { on := 5, ground := Ground.phase }, { on := 6, ground := Ground.phase }, { on := 7, ground := Ground.phase }, { on := 8, ground := Ground.phase }, { on := 9, ground := Ground.phase }, { on := 10, ground := Ground.phase }], guard := none }) (d := 10) (v := ?_) rfl rfl (by kernel_rfl) (by kernel_rfl) (by kernel_rfl) (fun _ _ _ h => h) (Or.inl ⟨by rfl, ?_⟩) hHeld ?_
        rotate_left
        · (intro w' hSw; (try dsimp only at hSw); go_simp; (try with_reducible rfl))
        simp only [List.setIfInBounds_toArray, List.set_cons_zero, List.set_cons_succ]
        refine wpAnyH_done (by kernel_rfl) ?_ _
        replace HW := Lib.hid (HW.out.step (below_drew1 W))
        clear hHeld g0 g1 cb e3
        generalize W.drew = W2 at *
        go_wp2_with fail
        go_roundg (gk - 1)
        case measure => have := HK.out; omega
        case rel => exact ⟨k + 1, by have := HK.out; omega, rfl, by rw [HS1E.out], HW.out⟩
    · have hke : k = ids.length := by omega
      have hq : ¬ (k : Int) < (ids.length : Int) := by omega
      clear hk hke HK
      go_wp2_with fail
      go_ret
      exact ⟨rfl, HW.out.bl⟩
theorem cparts_law (xs : List Int) (A : Option Addr) (c : Nat) (s r : ByteArray) (w : World) (_ : xs.length ≤ c) (_ : c ≤ maxLen) (hw : ∀ y ∈ xs, (Lit.int .u16 y).wf = true) (hs : Sl1 w A (Value.int .u16) xs) (_ : s.size ≤ maxLen) (_ : r.size ≤ maxLen) :
    Calls Try.prog 3 #[.slice A xs.length c, .string s, .string r] w (RetTrue w) := by
  by_cases h : xs.length ≤ 60
  · by_cases h3 : s.size ≤ 300
    · by_cases h4 : r.size ≤ 300
      · obtain ⟨l, e, h1, h2⟩ := nats_of hw hs
        rw [← e]
        exact cparts_small l A c s r w h2 h1 (by omega) h3 h4
      · have h1 : ¬ (60 : Int) < (xs.length : Int) := by omega
        have h2 : ¬ (300 : Int) < (s.size : Int) := by omega
        have h5 : (300 : Int) < (r.size : Int) := by omega
        go_enter Try.func3, Try.ntmps3
        go_wp2_with fail
        refine (awake5_any _).mono ?_
        rintro e w1 ⟨rfl, hb1⟩
        go_wp2_with fail
        go_ret
        exact ⟨rfl, hb1⟩
    · have h1 : ¬ (60 : Int) < (xs.length : Int) := by omega
      have h2 : (300 : Int) < (s.size : Int) := by omega
      go_enter Try.func3, Try.ntmps3
      go_wp2_with fail
      refine (awake5_any _).mono ?_
      rintro e w1 ⟨rfl, hb1⟩
      go_wp2_with fail
      go_ret
      exact ⟨rfl, hb1⟩
  · have h1 : (60 : Int) < (xs.length : Int) := by omega
    go_enter Try.func3, Try.ntmps3
    go_wp2_with fail
    refine (awake5_any _).mono ?_
    rintro e w1 ⟨rfl, hb1⟩
    go_wp2_with fail
    go_ret
    exact ⟨rfl, hb1⟩
end Go.Proofs.Ytpkmcokkapfnmaa
