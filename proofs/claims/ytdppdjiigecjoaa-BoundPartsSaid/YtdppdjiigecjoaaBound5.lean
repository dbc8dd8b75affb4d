/- Layer 8 (bound): the contracts of the document's Pieces; two lists of texts are the same. -/
import Derived.Test.YtdppdjiigecjoaaBound4
import Derived.StillTailTactics
import Derived.Deep.DeepCutAuto
namespace Go.Proofs.Ytdppdjiigecjoaa
open Go.RowKit
set_option maxRecDepth 100000
set_option linter.unusedVariables false
set_option linter.unusedSimpArgs false

def RPiecesPost (cut : Nat → Nat → Bool) (s : ByteArray) (w : World) (e : Ending) (w' : World) : Prop :=
  ∃ v, e = .returned v ∧ Below w.heap.size w w' ∧ w'.ownsRow w.heap.size 9 1 v (pcs cut s.data.toList).length ((pcs cut s.data.toList).map strV)

theorem take_data (s : ByteArray) (k : Nat) (h : k < s.size) : s.data.toList.take (k + 1) = s.data.toList.take k ++ [s[k]] := by
  rw [take_snoc (by rw [data_len]; exact h)]; rfl

theorem newAt_zero (cut : Nat → Nat → Bool) (l : List UInt8) : newAt cut l 0 = true := rfl
theorem newAt_succ (cut : Nat → Nat → Bool) (s : ByteArray) (k : Nat) (h : k + 1 < s.size) : newAt cut s.data.toList (k + 1) = cut (s[k]'(by omega)).toNat (s[k + 1]'h).toNat := by
  show cut (s.data.toList.getD k 0).toNat (s.data.toList.getD (k + 1) 0).toNat = _
  rw [List.getD_eq_getElem?_getD, List.getD_eq_getElem?_getD, List.getElem?_eq_getElem (by rw [data_len]; omega), List.getElem?_eq_getElem (by rw [data_len]; omega)]
  rfl
theorem mid_le (cut : Nat → Nat → Bool) (s : ByteArray) (k : Nat) (h : k < s.size) : (midP (newAt cut s.data.toList k) (pcs cut (s.data.toList.take k))).length ≤ k + 1 := by
  have := length_pcs_le cut (s.data.toList.take k)
  rw [List.length_take, data_len] at this
  unfold midP
  split
  · simp; omega
  · omega
theorem mem_len {l : List UInt8} {ps : List (List UInt8)} (h : ps.flatten = l) (i : Nat) : (ps.getD i []).length ≤ l.length := by
  subst h
  induction ps generalizing i with
  | nil => simp
  | cons p ps ih =>
    cases i with
    | zero => simp
    | succ i =>
      have := ih i
      simp only [List.getD_cons_succ, List.flatten_cons, List.length_append]
      omega
theorem mid_small (cut : Nat → Nat → Bool) (s : ByteArray) (k i : Nat) (h : k < s.size) : ((midP (newAt cut s.data.toList k) (pcs cut (s.data.toList.take k))).getD i []).length ≤ k := by
  have e : (midP (newAt cut s.data.toList k) (pcs cut (s.data.toList.take k))).flatten = s.data.toList.take k := by
    unfold midP
    split
    · simp [pcs_flatten]
    · exact pcs_flatten _ _
  have := mem_len e i
  rw [List.length_take, data_len] at this
  omega
theorem setLast_map (mid : List (List UInt8)) (c : UInt8) (s : ByteArray) (k : Nat) (h : k < s.size) (hc : s[k] = c) (P : List UInt8) (L : Nat) (hL : mid.length = L + 1) (hP : mid.getD L [] = P) :
    (mid.map strV).set L (.string (bs P ++ s.extract k (k + 1))) = (setLast mid c).map strV := by
  unfold setLast
  rw [List.map_set, hL, Nat.add_sub_cancel, hP]
  congr 1
  unfold strV
  congr 1
  rw [extract_bs, show k + 1 - k = 0 + 1 by omega, List.take_succ_eq_append_getElem (by rw [List.length_drop, data_len]; omega)]
  simp only [List.take_zero, List.nil_append, List.getElem_drop]
  have e : s.data.toList[k + 0]'(by rw [data_len]; omega) = c := by rw [← hc]; rfl
  rw [e]
  simp [bs]
  rfl

/-- the loop of the document's Pieces at its head (and, at 'mid', in the midst of a round) -/
structure RpRel (cs : List Cls) (js : List Jn) (A B : Option Addr) (cA cB : Nat) (w : World) (v : Value) (ps : List (List UInt8)) (W : World) : Prop where
  tab : RTab w cs js A B W
  blk : W.heap[w.heap.size]? = some (.cells #[.slice A cs.length cA, .slice B js.length cB] 30 (0, 0))
  own : W.ownsRow (w.heap.size + 1) 9 1 v ps.length (ps.map strV)
theorem RpRel.below {cs : List Cls} {js : List Jn} {A B : Option Addr} {cA cB : Nat} {w : World} {v : Value} {ps : List (List UInt8)} {W W' : World} (h : RpRel cs js A B cA cB w v ps W) (hb : Below W.heap.size W W') : RpRel cs js A B cA cB w v ps W' :=
  ⟨h.tab.step hb, blk_below hb (blk_lt h.blk) h.blk, own_below h.own hb (Nat.le_refl _)⟩

set_option maxHeartbeats 2000000 in
theorem rpieces_any (cs : List Cls) (js : List Jn) (A B : Option Addr) (cA cB : Nat) (s : ByteArray) (w : World) (hA : Sl w A encCls 3 cs) (hB : Sl w B encJn 2 js) (hcs : cs.length < 9000000000000000000) (hjs : js.length < 9000000000000000000) (hr : cs.all spanB = true) (hs : s.size ≤ 1000000000) :
    Calls Try.prog 17 #[.agg #[.slice A cs.length cA, .slice B js.length cB], .string s] w (RPiecesPost (cutB (Cof cs) (Jof js)) s w) := by
  have H0 : RTab w cs js A B (w.alloc (.cells #[.slice A cs.length cA, .slice B js.length cB] 30)) := RTab.step ⟨Below.refl _ _, hA, hB⟩ ((Below.refl w.heap.size w).alloc (Nat.le_refl _) _)
  have HBK := Lib.hid (blk_new w (.cells #[.slice A cs.length cA, .slice B js.length cB] 30))
  have HH := Lib.hid H0
  have HR := Lib.hid hr
  clear H0 hA hB hr
  generalize hcut : cutB (Cof cs) (Jof js) = cut at *
  have HCUT := Lib.hid hcut
  clear hcut
  go_enter Try.func17, Try.ntmps17
  go_wp2_with fail
  go_loopg [5, 6] s.size (fun n v i W => ∃ k : Nat, k + n = s.size ∧ i = .int .i64 (k : Int) ∧ RpRel cs js A B cA cB w v (pcs cut (s.data.toList.take k)) W)
  case atStart => exact ⟨0, by omega, rfl, HH.out, HBK.out, own_nil _ _ _ _⟩
  case round =>
    obtain ⟨k, hk, rfl, hR⟩ := hrel
    rename World => W
    have d0 := blk_cell hR.blk 0
    have d1 := blk_cell hR.blk 1
    simp only [List.getElem?_toArray, List.getElem?_cons_zero, List.getElem?_cons_succ] at d0 d1
    have HRR := Lib.hid hR
    have hsz := hR.tab.below.size
    have hsz2 := blk_lt hR.blk
    clear hR HH HBK
    by_cases hlt : k < s.size
    · go_upto_region 5 with fail
      go_cut [25] (fun v25 U => v25 = .bool (newAt cut s.data.toList k) ∧ Below W.heap.size W U)
      case first =>
        cases k with
        | zero =>
          go_quiet (fail)
          go_wp2_with fail
          go_meet
          case rel => exact ⟨rfl, below_drewN (Below.refl _ _) _⟩
        | succ k =>
          have f1 : (k : Int) + 1 < (s.size : Int) := by omega
          have f2 : (k : Int) < (s.size : Int) := by omega
          have q0 : 0 ≤ (k : Int) := by omega
          have q2 : 0 ≤ (k : Int) + 1 := by omega
          have q3 : ((k : Int) + 1).toNat = k + 1 := by omega
          have he1 : ((k : Int) + 1 == 0) = false := by rw [beq_eq_false_iff_ne]; omega
          have q1 : IntKind.i64.wrap (k : Int) = k := IntWalk.i64_in _ (by omega)
          have HNW := Lib.hid (newAt_succ cut s k hlt)
          obtain ⟨x, hx⟩ : ∃ x, s[k]'(by omega) = x := ⟨_, rfl⟩
          obtain ⟨y, hy⟩ : ∃ y, s[k + 1]'hlt = y := ⟨_, rfl⟩
          have HX := Lib.hid hx
          have HY := Lib.hid hy
          clear hx hy
          have HC : ∀ W' : World, W'.cell? ⟨w.heap.size, 0, none⟩ = some (.slice A cs.length cA) ∧ W'.cell? ⟨w.heap.size, 1, none⟩ = some (.slice B js.length cB) ∧ Below W.heap.size W W' →
              Calls Try.prog 18 #[.agg #[.slice A cs.length cA, .slice B js.length cB], .int .u8 (x.toNat : Int), .int .u8 (y.toNat : Int)] W' fun e W2 => e = .returned (.bool (cut x.toNat y.toNat)) ∧ W2.cell? ⟨w.heap.size, 0, none⟩ = some (.slice A cs.length cA) ∧ W2.cell? ⟨w.heap.size, 1, none⟩ = some (.slice B js.length cB) ∧ Below W.heap.size W W2 := by
            intro W' ⟨h1, h2, h3⟩
            have hT' := HRR.out.tab.step h3
            refine (rcuts_any cs js A B cA cB (x.toNat : Int) (y.toNat : Int) W' hT'.cl hT'.jn hcs hjs (by omega) (by have := x.toNat_lt; omega) (by omega) (by have := y.toNat_lt; omega) HR.out).mono ?_
            rintro e W2 ⟨rfl, hb2⟩
            refine ⟨?_, below_cell hb2 (Nat.le_refl _) h1, below_cell hb2 (Nat.le_refl _) h2, below_then h3 h3.size hb2⟩
            rw [HCUT.out]
            simp only [Int.toNat_natCast]
          have HCC := Lib.hid HC
          clear HC
          go_region_held3 (fun w' => w'.cell? ⟨w.heap.size, 0, none⟩ = some (.slice A cs.length cA) ∧ w'.cell? ⟨w.heap.size, 1, none⟩ = some (.slice B js.length cB) ∧ Below W.heap.size W w') (first | exact ⟨d0, d1, (Below.refl _ _).drew⟩ | assumption)
            (first | (go_at_call 18; simp only [HX.out, HY.out]; refine (HCC.out _ (by assumption)).mono ?_; rintro e w' ⟨rfl, h⟩))
          all_goals
            go_wp2_with fail
            go_meet
            case rel => exact ⟨by rw [HNW.out, HX.out, HY.out], h.2.2⟩
      case rest =>
        obtain ⟨rfl, hbU⟩ := hcut
        have HRU := Lib.hid (HRR.out.below hbU)
        have hszU := hbU.size
        clear HRR hbU d0 d1
        go_upto_if 25 with fail
        go_cut [5] (fun v U => RpRel cs js A B cA cB w v (midP (newAt cut s.data.toList k) (pcs cut (s.data.toList.take k))) U)
        case first =>
          have hml := mid_le cut s k hlt
          cases hn : newAt cut s.data.toList k with
          | false =>
            have HN := Lib.hid hn
            clear hn
            go_wp2_with fail
            go_meet
            case rel => rw [HN.out]; exact HRU.out
          | true =>
            rw [hn] at hml
            simp only [midP, if_true, List.length_append, List.length_singleton] at hml
            have HN := Lib.hid hn
            clear hn
            go_wp2_with (at_builtin; refine app_one (w.heap.size + 1) 32 9 (.string ⟨#[]⟩) 1 16 [_] 1 _ _ rfl rfl Try.underlying32 info_str rfl (by decide) _ _ _ rfl rfl rfl (by intro u hu; simp at hu; subst hu; rfl) HRU.out.own (by omega) (by omega) (by omega) ?_)
            intro v' w1 hown1 hg1
            have HO1 := Lib.hid hown1
            have HG1 := Lib.hid hg1
            clear hown1 hg1
            go_wp2_with fail
            go_meet
            case rel =>
              have hnb : some w.heap.size ≠ u5.ownBlock := by
                intro h
                have := own_base HRU.out.own w.heap.size h.symm
                omega
              rw [HN.out]
              refine ⟨HRU.out.tab.keep (grown_below (v := u5) (Below.refl _ _) (by omega) HG1.out (own_less HRU.out.own (Nat.le_succ _))), (HG1.out.block _ (blk_lt HRU.out.blk) hnb).trans HRU.out.blk, ?_⟩
              simp only [midP, if_true, List.length_append, List.length_singleton, List.map_append, List.map_singleton]
              exact HO1.out
        case rest =>
          have HRV := Lib.hid hcut
          clear hcut HRU
          rename World => V
          have hml := mid_le cut s k hlt
          have hmp := mid_pos cut s.data.toList k (by rw [data_len]; exact hlt)
          have hms := mid_small cut s k
          obtain ⟨L, hL⟩ : ∃ L, (midP (newAt cut s.data.toList k) (pcs cut (s.data.toList.take k))).length = L + 1 := ⟨_, (Nat.sub_add_cancel hmp).symm⟩
          have hms := mid_small cut s k L hlt
          obtain ⟨P, hP⟩ : ∃ P, (midP (newAt cut s.data.toList k) (pcs cut (s.data.toList.take k))).getD L [] = P := ⟨_, rfl⟩
          rw [hP] at hms
          have ho := HRV.out.own
          rw [hL] at ho hml
          obtain ⟨g, cap, hv, hgb, hgl, hcell⟩ := own_open ho (by omega)
          have ec := hcell L (strV P) (by rw [List.getElem?_map, ← hP, List.getD_eq_getElem?_getD, List.getElem?_eq_getElem (i := L) (by rw [hL]; omega)]; rfl)
          obtain ⟨ec1, ec2⟩ := ec
          subst hv
          have HO := Lib.hid ho
          have HL := Lib.hid hL
          have HP := Lib.hid hP
          clear ho hL hP hcell hmp
          obtain ⟨c, hc⟩ : ∃ c, s[k] = c := ⟨_, rfl⟩
          have HC := Lib.hid hc
          simp only [strV] at ec1
          have r0 : (k : Int) < (s.size : Int) := by omega
          have r1 : 0 ≤ (L : Int) := by omega
          have r2 : IntKind.i64.wrap (L : Int) = L := IntWalk.i64_in _ (by omega)
          have r3 : IntKind.i64.wrap ((k : Int) + 1) = (k : Int) + 1 := IntWalk.i64_in _ (by omega)
          have r4 : ((k : Int) + 1).toNat = k + 1 := by omega
          have r5 : (k : Int) + 1 ≤ (s.size : Int) := by omega
          have r6 : (9223372036854775807 < (bs P).size + (min (k + 1) s.size - k)) = False := by
            have : (bs P).size = P.length := by simp [bs, ByteArray.size]
            rw [this, eq_iff_iff, iff_false]; omega
          have r7 : 0 ≤ (k : Int) + 1 := by omega
          have r8 : (k : Int) ≤ (k : Int) + 1 := by omega
          have r9 : L < L + 1 := by omega
          have r10 : (L : Int) < (L : Int) + 1 := by omega
          clear hc hml hms
          go_wp2_with fail
          go_still_tail 16, (by kernel_rfl)
          change wpList _ _ _ _ _ V.drew
          have e1 : V.drew.cell? ⟨g, L, none⟩ = _ := ec1
          have e2 : V.drew.frozen? ⟨g, L, none⟩ = false := ec2
          generalize hVd : V.drew = V2 at *
          have HVD := Lib.hid hVd
          clear hVd ec1 ec2
          go_wp2_with fail
          go_roundg (gk - 1)
          case measure => omega
          case rel =>
            refine ⟨k + 1, by omega, by go_num, ?_⟩
            rw [pcs_step cut _ k (by rw [data_len]; exact hlt)]
            have hset := own_set (own_drew HO.out) L (.string (bs P ++ s.extract k (k + 1)))
            rw [setLast_map _ c s k hlt HC.out P L HL.out HP.out, HVD.out] at hset
            have hl2 : (setLast (midP (newAt cut s.data.toList k) (pcs cut (s.data.toList.take k))) c).length = L + 1 := by rw [setLast, List.length_set, HL.out]
            rw [data_get s k hlt, HC.out]
            refine ⟨?_, ?_, ?_⟩
            · rw [← HVD.out]
              exact HRV.out.tab.keep (((Below.refl _ _).drew).setCell (p := ⟨g, L, none⟩) (by simp; omega) _)
            · rw [← HVD.out]
              exact blk_far (w := V.drew) HRV.out.blk (by simp; omega) _
            · rw [hl2]; exact hset
    · have hkk : k = s.size := by omega
      clear d0 d1
      go_wp2_with fail
      go_ret
      refine ⟨_, rfl, HRR.out.tab.below, ?_⟩
      have := own_less HRR.out.own (Nat.le_succ _)
      rw [hkk, ← data_len s, List.take_length] at this
      exact this
end Go.Proofs.Ytdppdjiigecjoaa
