/- Texts of several layers, one behind the other: PlaceLawL. -/
import Derived.Test.YtkkcekgbnloegaaGreatZZG5
import Derived.WalkKit
import Derived.KernelRfl
import Derived.Lib.Hide
import Derived.Deep.QuietTactic
import Derived.BigQuiet
import Derived.OwnWalk
import Derived.Lib.Strings
import Derived.Deep.DeepCutAuto
import Derived.Deep.RegionHeld3
import Derived.StillTailTactics
import Derived.Maps.OwnSet
import Derived.Maps.OwnOps
import Derived.DeepKeys4
import Derived.WideKeyEntry
import Derived.Maps.AppendAt
import Derived.Test.YtkkcekgbnloegaaGreatProg
import Derived.Laws.ResultCell
import Derived.Laws.AppendOwnNone
import Derived.Laws.IdiomStrings
import Derived.Lib.AppendStr
import Derived.Deep.Slices
import Derived.Deep.Fields
import Derived.ChangeSame
import Derived.SliceStrings
import Derived.OpenShut
import Derived.Laws.LoneSync
import Derived.Laws.OwnMore
import Derived.Laws.MakeOwn
import Derived.Laws.Bits64b
import Derived.Laws.BitsAllLaws
import Derived.Tactics
import Derived.Tactics2
import Derived.Defers
import Derived.Laws.Pointers
import Derived.RegionTactic
import Derived.RegionCalls
import Derived.ChangeAlike
import Derived.Test.YtkkcekgbnloegaaGreatRows
import Derived.ProofKit
import Derived.ShutString
import Derived.ChangeOld
import Derived.Below
import Derived.Lib.SmallJoins
set_option maxRecDepth 100000
set_option linter.unusedVariables false
set_option linter.unusedSimpArgs false
namespace Go.Proofs.YtkkcekgbnloegaaGreat
open Go.RowKit Go.Maps Go.WideMaps
theorem RsIs.val {W : World} {base g n c i : Nat} {L : List (List Int)} {vals : List Value} {u : Value} (h : RsIs W base (.slice (some ⟨g, 0, none⟩) n c) L vals) (hv : vals[i]? = some u) : W.cell? ⟨g, i, none⟩ = some u := by
  have := h.row.cells (g := g) rfl i u hv
  rw [add_plain, Nat.zero_add] at this
  exact this
theorem RsIs.sl {W : World} {base i n c : Nat} {A : Option Addr} {v : Value} {L : List (List Int)} {vals : List Value} {D : List Int} (h : RsIs W base v L vals) (hi : L[i]? = some D) (hv : vals[i]? = some (.slice A n c)) : Sl1 W A (Value.int .i64) D ∧ n = D.length := by
  obtain ⟨u, h1, A2, c2, rfl, h2⟩ := h.at' i D hi
  rw [hv] at h1
  injection h1 with h1
  injection h1 with e1 e2 e3
  subst e1
  subst e3
  exact ⟨own_sl1 h2, e2⟩
structure LR (w W : World) (base lb : Nat) (p : VocP) (s : List UInt8) (tb : Nat) (T : List Ent) (vb vm : Value) (v : Value) (L : List (List Int)) (vals : List Value) : Prop where
  le : LE w W base lb p s tb T vb vm
  rows : ∃ b, RsIs W b v L vals
section
variable {w w' W W' : World} {base lb tb : Nat} {p : VocP} {s : List UInt8} {T : List Ent} {vb vm v : Value} {L : List (List Int)} {vals : List Value}
theorem LR.asks (h : LR w W base lb p s tb T vb vm v L vals) (ha : Ask W W' base lb p s) : LR w W' base lb p s tb T vb vm v L vals := by
  obtain ⟨cs, fz, hb⟩ := h.le.ll.lat.tag
  obtain ⟨b, hr⟩ := h.rows
  exact ⟨h.le.asks ha, b, hr.keepT hb (by decide) (by decide) ha.keep⟩
theorem LR.below (h : LR w W base lb p s tb T vb vm v L vals) (hb : Below W.heap.size W W') : LR w W' base lb p s tb T vb vm v L vals := h.asks (Ask.of_below h.le.ll.lat hb)
theorem LR.drew (h : LR w W base lb p s tb T vb vm v L vals) : LR w W.drew base lb p s tb T vb vm v L vals := h.below (Below.refl _ _).drew
end
section
variable {w : World} {c : CaseP} {AL AC AJ AX : Option Addr} {cL cC cJ cX : Nat}
set_option maxHeartbeats 8000000 in
theorem plists_small (h : CaseIn w c AL AC AJ AX cL cC cJ cX) (hg : c.great = false) (s : List UInt8) (hlen : s.length ≤ 8) :
    Calls Tryz.prog 12 #[c.val AL AC AJ AX cL cC cJ cX, .string (bs s)] w (RetTrue w) := by
  have HLEN := Lib.hid hlen
  have h12 : ¬ (8 : Int) < ((bs s).size : Int) := by rw [bs_size]; omega
  have HB0 := Lib.hid ((Below.refl w.heap.size w).alloc (Nat.le_refl _) (.cells #[.slice AL c.l.length cL, .slice AC c.cs.length cC, .slice AJ c.js.length cJ, .slice AX c.xs.length cX] 27))
  have HN0 := Lib.hid (blk_new w (.cells #[.slice AL c.l.length cL, .slice AC c.cs.length cC, .slice AJ c.js.length cJ, .slice AX c.xs.length cX] 27))
  have HGR : Hid (∀ V, Below w.heap.size w V → Calls Tryz.prog 16 #[.agg #[.slice AL c.l.length cL, .slice AC c.cs.length cC, .slice AJ c.js.length cJ, .slice AX c.xs.length cX]] V fun e w' => e = .returned (.int .i64 0) ∧ Below V.heap.size V w') := Lib.hid (fun V hV => great_no (h.below hV (Nat.le_refl _)) hg)
  have HLA := Lib.hid (fun V (hV : Below w.heap.size w V) => lat22_any (h.here.below hV (Nat.le_refl _)) (h.ok hg) s (by omega))
  unfold CaseP.val
  clear h hg
  go_enter Tryz.func12, Tryz.ntmps12
  go_upto_region 1 with fail
  obtain ⟨cb, hcb⟩ : ∃ b, w.heap.size = b := ⟨_, rfl⟩
  rw [hcb] at HN0 ⊢
  clear hcb
  generalize w.alloc (.cells #[.slice AL c.l.length cL, .slice AC c.cs.length cC, .slice AJ c.js.length cJ, .slice AX c.xs.length cX] 27) = w1 at *
  have s0 := blk_cell HN0.out 0
  have s1 := blk_cell HN0.out 1
  have s2 := blk_cell HN0.out 2
  have s3 := blk_cell HN0.out 3
  simp only [List.getElem?_toArray, List.getElem?_cons_zero, List.getElem?_cons_succ] at s0 s1 s2 s3
  go_upto_region 3 with (first
    | (go_at_call 16; refine (HGR.out _ HB0.out).mono ?_; rintro e w2 ⟨rfl, hb⟩; (have HB1 := Lib.hid (HB0.out.trans (hb.mono HB0.out.size))); (have HN1 := Lib.hid (blk_below hb (blk_lt HN0.out) HN0.out)); clear hb s0 s1 s2 s3)
    | (go_at_call 46; refine (awake22_any _).mono ?_; rintro e w3 ⟨rfl, hb⟩; (have HB2 := Lib.hid (HB1.out.trans (hb.mono HB1.out.size))); (have HN2 := Lib.hid (blk_below hb (blk_lt HN1.out) HN1.out)); clear hb))
  have s0 := blk_cell HN2.out 0
  have s1 := blk_cell HN2.out 1
  have s2 := blk_cell HN2.out 2
  have s3 := blk_cell HN2.out 3
  simp only [List.getElem?_toArray, List.getElem?_cons_zero, List.getElem?_cons_succ] at s0 s1 s2 s3
  go_upto_region 4 with (go_at_call 47; refine (HLA.out _ HB2.out).mono ?_; rintro e w4 ⟨⟨base, lb, p, r, rfl, hl, hpT, href, hlo⟩, hb⟩; (have HPT := Lib.hid hpT); (have HRF := Lib.hid href); (have HL : Hid (LL w w4 base lb p s) := Lib.hid ⟨hl, by rw [hpT]; exact c.ok, HB2.out.trans (hb.mono HB2.out.size), Nat.le_trans HB2.out.size hlo⟩); clear hl hpT href hlo hb s0 s1 s2 s3 HB0 HN0 HB1 HN1 HB2 HN2 HGR HLA)
  have HTB : Hid (LE w (w4.alloc (.cells #[.slice r.A1 c.T.length r.c1, .slice r.A2 (mrgsT c.T).length r.c2] 34)) base lb p s w4.heap.size c.T (.slice r.A1 c.T.length r.c1) (.slice r.A2 (mrgsT c.T).length r.c2)) := Lib.hid (LE.made HL.out HRF.out)
  obtain ⟨tb, htb⟩ : ∃ b, w4.heap.size = b := ⟨_, rfl⟩
  rw [htb] at HTB ⊢
  clear htb HL HRF
  generalize w4.alloc (.cells #[.slice r.A1 c.T.length r.c1, .slice r.A2 (mrgsT c.T).length r.c2] 34) = w5 at *
  obtain ⟨n1, hn1⟩ : ∃ n, c.T.length = n := ⟨_, rfl⟩
  obtain ⟨n2, hn2⟩ : ∃ n, (mrgsT c.T).length = n := ⟨_, rfl⟩
  rw [hn1, hn2] at HTB
  rw [hn1, hn2]
  clear hn1 hn2
  obtain ⟨L, hL⟩ : ∃ L, divA p.T s = L := ⟨_, rfl⟩
  have HL := Lib.hid hL
  have hcn : L.length = cntJ p.T s 0 := by rw [← hL]; rfl
  have HCN := Lib.hid hcn
  have hct : cntJ p.T s 0 ≤ 256 := Nat.le_trans (cnt_pow HTB.out.ll.ok _ (s.drop 0) (Nat.le_refl _)) (Nat.le_trans (Nat.pow_le_pow_right (by decide) (show (s.drop 0).length ≤ 8 by rw [List.drop_zero]; exact HLEN.out)) (by decide))
  have HNL0 : Hid (L.length ≤ 256) := Lib.hid (by omega)
  have HPOS : Hid (0 < L.length) := Lib.hid (by rw [hcn]; exact cntA_pos HTB.out.ll.ok _ _ (Nat.le_refl _))
  have HRF : Hid (Calls Tryz.prog 21 #[.agg #[.slice r.A1 n1 r.c1, .slice r.A2 n2 r.c2], .string (bs s), .int .i64 1000] w5 fun e w' => RowsP w5 e w' L) := Lib.hid (by
    obtain ⟨b, hr⟩ := HTB.out.ref
    have h1 := rfirst_any c.ok c.ok.small hr s (by have := HLEN.out; omega) 1000 (by decide)
    rw [← HPT.out, hL, List.take_of_length_le (show L.length ≤ (1000 : Int).toNat by show _ ≤ 1000; omega)] at h1
    exact h1)
  clear hL hcn hct
  have t0 := HTB.out.c0
  have t1 := HTB.out.c1
  go_upto_region 7 with (go_at_call 21; refine HRF.out.mono ?_; rintro e w6 ⟨⟨v, vals, rfl, hrs⟩, hb⟩; (have HR6 := Lib.hid hrs); (have HLR := Lib.hid (LR.mk (HTB.out.below hb) ⟨_, hrs⟩)); clear hb hrs HTB HRF)
  clear t0 t1
  obtain ⟨g6, c6, hv6⟩ : ∃ g c, v = .slice (some ⟨g, 0, none⟩) L.length c := by
    obtain ⟨g, cap, e, _⟩ := own_open HR6.out.row HPOS.out
    exact ⟨g, cap, e⟩
  subst hv6
  clear HR6
  obtain ⟨NL, hNL⟩ : ∃ n, L.length = n := ⟨_, rfl⟩
  have HNL := Lib.hid hNL
  rw [hNL] at HLR HNL0 HPOS HCN
  rw [hNL]
  clear hNL
  go_wp2_with fail
  go_loopg [8] NL (fun n i W => ∃ k : Nat, k + n = NL ∧ i = .int .i64 (k : Int) ∧ LR w W base lb p s tb c.T (.slice r.A1 n1 r.c1) (.slice r.A2 n2 r.c2) (.slice (some ⟨g6, 0, none⟩) NL c6) L vals)
  case atStart => exact ⟨0, by omega, rfl, HLR.out⟩
  case round =>
    obtain ⟨k, hk, rfl, hx⟩ := hrel
    clear HLR
    rename World => W
    have HLR := Lib.hid hx
    have HK := Lib.hid hk
    clear hx hk
    by_cases hlt : k < NL
    · have f1 : (k : Int) < (NL : Int) := by omega
      have f0 : (0 : Int) ≤ (k : Int) := by omega
      obtain ⟨D, hD⟩ : ∃ D, L[k]? = some D := ⟨_, List.getElem?_eq_getElem (by have := HNL.out; omega)⟩
      obtain ⟨AD, nD, cD, hvD⟩ : ∃ A n c, vals[k]? = some (.slice A n c) := by
        obtain ⟨b, hr⟩ := HLR.out.rows
        obtain ⟨u, q1, A, c, rfl, _⟩ := hr.at' k D hD
        exact ⟨_, _, _, q1⟩
      have HVD : Hid (∀ V, LR w V base lb p s tb c.T (.slice r.A1 n1 r.c1) (.slice r.A2 n2 r.c2) (.slice (some ⟨g6, 0, none⟩) NL c6) L vals → V.cell? ⟨g6, k, none⟩ = some (.slice AD nD cD) ∧ Sl1 V AD (Value.int .i64) D) := Lib.hid (fun V hV => by
        obtain ⟨b, hr⟩ := hV.rows
        exact ⟨hr.val hvD, (hr.sl hD hvD).1⟩)
      have hnD : nD = D.length := by
        obtain ⟨b, hr⟩ := HLR.out.rows
        exact (hr.sl hD hvD).2
      have hDd : (divA p.T s)[k]? = some D := by rw [HL.out]; exact hD
      have hrk := div_rnk HLR.out.le.ll.ok hDd
      have hDl : D.length ≤ 8 := Nat.le_trans (rnk_len HLR.out.le.ll.ok D s k hrk) HLEN.out
      have HDL : Hid (nD ≤ 8) := Lib.hid (by omega)
      have wk : IntKind.i64.wrap ((k : Int) + 1) = (k : Int) + 1 := IntWalk.i64_in _ (by have := HNL0.out; omega)
      have wu : IntKind.u64.wrap (k : Int) = (k : Int) := IntWalk.u64_in _ (by have := HNL0.out; omega)
      have HI : Hid (∀ V, Calls Tryz.prog 53 #[.int .u64 (k : Int)] V fun e w' => ∃ v, e = .returned v ∧ NatIs w' v k ∧ Below V.heap.size V w') := Lib.hid (fun V => int_any k V (by have h1 := HNL0.out; show k < 18446744073709551616; omega))
      have HUN : Hid (∀ V A k' c', LatV V base lb p s → NatIs V (.agg #[.slice A k' c']) k → Calls Tryz.prog 49 #[.pointer (some ⟨lb, 0, none⟩), .agg #[.slice A k' c']] V fun e w' => (∃ A c, e = .returned (.tuple #[.slice A nD c, .int .i64 0]) ∧ Sl1 w' A (Value.int .i64) D) ∧ Ask V w' base lb p s) := Lib.hid (fun V A k' c' hV hn => by
        refine (unrank_ok hV HLR.out.le.ll.ok (by have := HLEN.out; omega) hn hDd).mono ?_
        rintro e w' ⟨⟨v, rfl, A, c, rfl, ho⟩, ha⟩
        exact ⟨⟨A, c, by rw [hnD], own_sl1 ho⟩, ha⟩)
      have HRK : Hid (∀ V, LatV V base lb p s → Sl1 V AD (Value.int .i64) D → Calls Tryz.prog 44 #[.pointer (some ⟨lb, 0, none⟩), .slice AD nD cD] V fun e w' => (∃ A k' c, e = .returned (.tuple #[.agg #[.slice A k' c], .int .i64 0]) ∧ NatIs w' (.agg #[.slice A k' c]) k) ∧ Ask V w' base lb p s) := Lib.hid (fun V hV hs => by
        rw [hnD]
        exact rank_any (E := 0) (K := k) hV HLR.out.le.ll.ok (by have := HLEN.out; omega) hs (by omega) (by rw [hrk]; rfl) (fun _ => rfl) (fun e => by rw [hrk] at e; cases e))
      have HIN : Hid (∀ V (A : Option Addr) (c' : Nat), Sl1 V A (Value.int .i64) D → Sl1 V AD (Value.int .i64) D → Calls Tryz.prog 40 #[.slice A nD c', .slice AD nD cD] V fun e w' => e = .returned (.bool true) ∧ Below V.heap.size V w') := Lib.hid (fun V A c' h1 h2 => by
        rw [hnD]
        exact ints_same D A AD c' cD V h1 h2 (by omega))
      have HD32 : Hid ((dg B32 k).length ≤ 100000 ∧ (dg 10 k).length ≤ 100000000) := Lib.hid ⟨Nat.le_trans (dg_len_le (k := 2) (by decide) (show k < B32 ^ 2 by have h1 := HNL0.out; show k < 18446744073709551616; omega)) (by decide), Nat.le_trans (dg_len_le (k := 3) (by decide) (show k < 10 ^ 3 by have h1 := HNL0.out; omega)) (by decide)⟩
      have HNB := Lib.hid (fun V => number_any k (by have := HNL0.out; omega) V)
      have HRN := Lib.hid hrk
      have HDD := Lib.hid hD
      obtain ⟨tS, htS⟩ : ∃ t, decS k = t := ⟨_, rfl⟩
      have HST : Hid (∀ V A k' c', NatIs V (.agg #[.slice A k' c']) k → Calls Tryz.prog 38 #[.agg #[.slice A k' c']] V fun e w' => e = .returned (.string tS) ∧ Below V.heap.size V w') := Lib.hid (fun V A k' c' hn => by rw [← htS]; exact string_any _ k V hn HD32.out.1 HD32.out.2)
      rw [htS] at HNB
      clear htS hD hnD hrk hDl hlt
      go_upto_region 11 with (first
        | (go_at_call 53; refine (HI.out _).mono ?_; rintro e w7 ⟨v, rfl, hn, hb⟩; (obtain ⟨A7, k7, c7, hv7⟩ := nat_agg hn); subst hv7; (replace HLR := Lib.hid (HLR.out.below hb)); (have HN7 := Lib.hid hn); clear hn hb)
        | (go_at_call 49; refine (HUN.out _ _ _ _ HLR.out.le.ll.lat HN7.out).mono ?_; rintro e w8 ⟨⟨A8, c8, rfl, hu⟩, ha⟩; (replace HLR := Lib.hid (HLR.out.asks ha)); (have HU := Lib.hid hu); clear hu ha HN7))
      have e1 := (HVD.out _ HLR.out).1
      go_upto_region 12 with (go_at_call 44; refine (HRK.out _ HLR.out.le.ll.lat (HVD.out _ HLR.out).2).mono ?_; rintro e w9 ⟨⟨A9, k9, c9, rfl, hn⟩, ha⟩; (replace HU := Lib.hid (sl_ask HU.out HLR.out.le.ll.lat ha)); (replace HLR := Lib.hid (HLR.out.asks ha)); (have HN := Lib.hid (Var.made HLR.out.le.ll.lat hn)); (replace HU := Lib.hid (HU.out.below ((Below.refl w9.heap.size w9).alloc (Nat.le_refl _) (.cells #[.slice A9 k9 c9] 59)) (Nat.le_refl _))); (replace HLR := Lib.hid (HLR.out.below ((Below.refl w9.heap.size w9).alloc (Nat.le_refl _) (.cells #[.slice A9 k9 c9] 59)))); clear hn ha)
      obtain ⟨nb, hnb⟩ : ∃ b, w9.heap.size = b := ⟨_, rfl⟩
      rw [hnb] at HN ⊢
      clear hnb e1
      generalize w9.alloc (.cells #[.slice A9 k9 c9] 59) = w10 at *
      have e1 := (HVD.out _ HLR.out).1
      by_cases hlast : k + 1 < NL
      · have f2 : (k : Int) + 1 < (NL : Int) := by omega
        have f3 : ¬ (k : Int) + 1 = (NL : Int) := by omega
        have f4 : (0 : Int) ≤ (k : Int) + 1 := by omega
        obtain ⟨X, hX⟩ : ∃ X, L[k + 1]? = some X := ⟨_, List.getElem?_eq_getElem (by have := HNL.out; omega)⟩
        obtain ⟨AX2, nX, cX2, hvX⟩ : ∃ A n c, vals[k + 1]? = some (.slice A n c) := by
          obtain ⟨b, hr⟩ := HLR.out.rows
          obtain ⟨u, q1, A, c, rfl, _⟩ := hr.at' (k + 1) X hX
          exact ⟨_, _, _, q1⟩
        have HVX : Hid (∀ V, LR w V base lb p s tb c.T (.slice r.A1 n1 r.c1) (.slice r.A2 n2 r.c2) (.slice (some ⟨g6, 0, none⟩) NL c6) L vals → V.cell? ⟨g6, k + 1, none⟩ = some (.slice AX2 nX cX2) ∧ Sl1 V AX2 (Value.int .i64) X) := Lib.hid (fun V hV => by
          obtain ⟨b, hr⟩ := hV.rows
          exact ⟨hr.val hvX, (hr.sl hX hvX).1⟩)
        have hnX : nX = X.length := by
          obtain ⟨b, hr⟩ := HLR.out.rows
          exact (hr.sl hX hvX).2
        have hXd : (divA p.T s)[k + 1]? = some X := by rw [HL.out]; exact hX
        have hXl : X.length ≤ 8 := Nat.le_trans (rnk_len HLR.out.le.ll.ok X s (k + 1) (div_rnk HLR.out.le.ll.ok hXd)) HLEN.out
        have HXN : Hid (∀ V (A : Option Addr) (c' : Nat), Sl1 V A (Value.int .i64) X → Sl1 V AX2 (Value.int .i64) X → Calls Tryz.prog 40 #[.slice A nX c', .slice AX2 nX cX2] V fun e w' => e = .returned (.bool true) ∧ Below V.heap.size V w') := Lib.hid (fun V A c' h1 h2 => by
          rw [hnX]
          exact ints_same X A AX2 c' cX2 V h1 h2 (by omega))
        have HNX : Hid (∀ V, LatV V base lb p s → Sl1 V AD (Value.int .i64) D → Calls Tryz.prog 54 #[.pointer (some ⟨lb, 0, none⟩), .slice AD nD cD] V fun e w' => (∃ A c, e = .returned (.tuple #[.slice A nX c, .int .i64 0]) ∧ Sl1 w' A (Value.int .i64) X) ∧ Ask V w' base lb p s) := Lib.hid (fun V hV hs => by
          have hnD : nD = D.length := by
            obtain ⟨b, hr⟩ := HLR.out.rows
            exact (hr.sl HDD.out hvD).2
          rw [hnD]
          refine (next_any (E := 0) (F := X) hV HLR.out.le.ll.ok (by have := HLEN.out; omega) hs (by have := HDL.out; omega) HRN.out (.inl ⟨hXd, rfl⟩)).mono ?_
          rintro e w' ⟨⟨v, rfl, A, c, rfl, ho⟩, ha⟩
          exact ⟨⟨A, c, by rw [hnX]; rfl, own_sl1 ho⟩, ha⟩)
        clear hvD hDd hlast hX hvX hnX hXd hXl
        go_upto_region 13 with (go_at_call 54; refine (HNX.out _ HLR.out.le.ll.lat (HVD.out _ HLR.out).2).mono ?_; rintro e w11 ⟨⟨A11, c11, rfl, hu⟩, ha⟩; (replace HU := Lib.hid (sl_ask HU.out HLR.out.le.ll.lat ha)); (replace HN := Lib.hid (HN.out.ask ha)); (replace HLR := Lib.hid (HLR.out.asks ha)); (have HX := Lib.hid hu); clear hu ha e1)
        have e1 := (HVD.out _ HLR.out).1
        go_upto_region 15 with (first
          | (go_at_call 40; refine (HIN.out _ _ _ HU.out (HVD.out _ HLR.out).2).mono ?_; rintro e w12 ⟨rfl, hb⟩; (replace HX := Lib.hid (HX.out.below hb (Nat.le_refl _))); (replace HN := Lib.hid (HN.out.below hb)); (replace HLR := Lib.hid (HLR.out.below hb)); (have x0 := HN.out.c0); clear hb HU e1)
          | (go_at_call 38; refine (HST.out _ _ _ _ HN.out.nat).mono ?_; rintro e w13 ⟨rfl, hb⟩; (replace HX := Lib.hid (HX.out.below hb (Nat.le_refl _))); (replace HLR := Lib.hid (HLR.out.below hb)); clear hb HN x0)
          | (go_at_call 55; refine (HNB.out _).mono ?_; rintro e w14 ⟨rfl, hb⟩; (replace HX := Lib.hid (HX.out.below hb (Nat.le_refl _))); (replace HLR := Lib.hid (HLR.out.below hb)); clear hb))
        have e2 := (HVX.out _ HLR.out).1
        go_wp2_with (go_at_call 40; refine (HXN.out _ _ _ HX.out (HVX.out _ HLR.out).2).mono ?_; rintro e w15 ⟨rfl, hb⟩; (replace HLR := Lib.hid (HLR.out.below hb)); clear hb e2)
        go_roundg (gk - 1)
        case measure => have := HK.out; omega
        case rel => exact ⟨k + 1, by have := HK.out; omega, by simp, HLR.out⟩
      · have f2 : ¬ (k : Int) + 1 < (NL : Int) := by omega
        have f3 : (k : Int) + 1 = (NL : Int) := by have := HK.out; omega
        have f3a : decide ((k : Int) + 1 = (NL : Int)) = true := decide_eq_true f3
        have f3b : ((k : Int) + 1 == (NL : Int)) = true := by rw [f3]; simp
        clear f3
        have HNX : Hid (∀ V, LatV V base lb p s → Sl1 V AD (Value.int .i64) D → Calls Tryz.prog 54 #[.pointer (some ⟨lb, 0, none⟩), .slice AD nD cD] V fun e w' => (∃ A c, e = .returned (.tuple #[.slice A 0 c, .int .i64 9]) ∧ Sl1 w' A (Value.int .i64) ([] : List Int)) ∧ Ask V w' base lb p s) := Lib.hid (fun V hV hs => by
          have hnD : nD = D.length := by
            obtain ⟨b, hr⟩ := HLR.out.rows
            exact (hr.sl HDD.out hvD).2
          rw [hnD]
          refine (next_any (E := 9) (F := ([] : List Int)) hV HLR.out.le.ll.ok (by have := HLEN.out; omega) hs (by have := HDL.out; omega) HRN.out (.inr ⟨by have := HCN.out; have := HK.out; omega, rfl, rfl⟩)).mono ?_
          rintro e w' ⟨⟨v, rfl, A, c, rfl, ho⟩, ha⟩
          exact ⟨⟨A, c, by rfl, own_sl1 ho⟩, ha⟩)
        clear hvD hDd hlast
        go_upto_region 13 with (go_at_call 54; refine (HNX.out _ HLR.out.le.ll.lat (HVD.out _ HLR.out).2).mono ?_; rintro e w11 ⟨⟨A11, c11, rfl, hu⟩, ha⟩; (replace HU := Lib.hid (sl_ask HU.out HLR.out.le.ll.lat ha)); (replace HN := Lib.hid (HN.out.ask ha)); (replace HLR := Lib.hid (HLR.out.asks ha)); (have HX := Lib.hid hu); clear hu ha e1)
        have e1 := (HVD.out _ HLR.out).1
        go_upto_region 15 with (first
          | (go_at_call 40; refine (HIN.out _ _ _ HU.out (HVD.out _ HLR.out).2).mono ?_; rintro e w12 ⟨rfl, hb⟩; (replace HX := Lib.hid (HX.out.below hb (Nat.le_refl _))); (replace HN := Lib.hid (HN.out.below hb)); (replace HLR := Lib.hid (HLR.out.below hb)); (have x0 := HN.out.c0); clear hb HU e1)
          | (go_at_call 38; refine (HST.out _ _ _ _ HN.out.nat).mono ?_; rintro e w13 ⟨rfl, hb⟩; (replace HX := Lib.hid (HX.out.below hb (Nat.le_refl _))); (replace HLR := Lib.hid (HLR.out.below hb)); clear hb HN x0)
          | (go_at_call 55; refine (HNB.out _).mono ?_; rintro e w14 ⟨rfl, hb⟩; (replace HX := Lib.hid (HX.out.below hb (Nat.le_refl _))); (replace HLR := Lib.hid (HLR.out.below hb)); clear hb))
        go_wp2_with fail
        go_roundg (gk - 1)
        case measure => have := HK.out; omega
        case rel => exact ⟨k + 1, by have := HK.out; omega, by simp, HLR.out⟩
    · have f1 : ¬ (k : Int) < (NL : Int) := by omega
      obtain ⟨m, hm⟩ : ∃ m, NL = m + 1 := ⟨NL - 1, by have := HPOS.out; omega⟩
      have hD : L[m]? = some (byteI s) := by
        have h1 := rnk_last HLR.out.le.ll.ok s
        have h2 := (rnk_div HLR.out.le.ll.ok _ _ _ h1).2
        rw [HL.out] at h2
        have h3 : cntA p.T s - 1 = m := by have h4 := HCN.out; unfold cntJ at h4; rw [List.drop_zero] at h4; omega
        rw [h3] at h2
        exact h2
      obtain ⟨AD, nD, cD, hvD⟩ : ∃ A n c, vals[m]? = some (.slice A n c) := by
        obtain ⟨b, hr⟩ := HLR.out.rows
        obtain ⟨u, q1, A, c, rfl, _⟩ := hr.at' m _ hD
        exact ⟨_, _, _, q1⟩
      have HVD : Hid (∀ V, LR w V base lb p s tb c.T (.slice r.A1 n1 r.c1) (.slice r.A2 n2 r.c2) (.slice (some ⟨g6, 0, none⟩) NL c6) L vals → V.cell? ⟨g6, m, none⟩ = some (.slice AD nD cD) ∧ Sl1 V AD (Value.int .i64) (byteI s)) := Lib.hid (fun V hV => by
        obtain ⟨b, hr⟩ := hV.rows
        exact ⟨hr.val hvD, (hr.sl hD hvD).1⟩)
      have hnD : nD = (byteI s).length := by
        obtain ⟨b, hr⟩ := HLR.out.rows
        exact (hr.sl hD hvD).2
      have wm : IntKind.i64.wrap ((NL : Int) - 1) = (m : Int) := by rw [show (NL : Int) - 1 = (m : Int) by omega]; exact IntWalk.i64_in _ (by have := HNL0.out; omega)
      have wu : IntKind.u64.wrap (NL : Int) = (NL : Int) := IntWalk.u64_in _ (by have := HNL0.out; omega)
      have m0 : (0 : Int) ≤ (m : Int) := by omega
      have m1 : (m : Int) < (NL : Int) := by omega
      have HI : Hid (∀ V, Calls Tryz.prog 53 #[.int .u64 (NL : Int)] V fun e w' => ∃ v, e = .returned v ∧ NatIs w' v NL ∧ Below V.heap.size V w') := Lib.hid (fun V => int_any NL V (by have h1 := HNL0.out; show NL < 18446744073709551616; omega))
      have HUN : Hid (∀ V A k' c', LatV V base lb p s → NatIs V (.agg #[.slice A k' c']) NL → Calls Tryz.prog 49 #[.pointer (some ⟨lb, 0, none⟩), .agg #[.slice A k' c']] V fun e w' => e = .returned (.tuple #[.slice none 0 0, .int .i64 7]) ∧ Ask V w' base lb p s) := Lib.hid (fun V A k' c' hV hn =>
        unrank_no hV HLR.out.le.ll.ok (by have := HLEN.out; omega) hn (Nat.le_trans (dg_len_le (k := 2) (by decide) (show NL < B32 ^ 2 by have h1 := HNL0.out; show NL < 18446744073709551616; omega)) (by decide)) (Nat.le_of_eq HCN.out.symm))
      have HLS : Hid (∀ V, LatV V base lb p s → Calls Tryz.prog 50 #[.pointer (some ⟨lb, 0, none⟩)] V fun e w' => (∃ A c, e = .returned (.slice A nD c) ∧ Sl1 w' A (Value.int .i64) (byteI s)) ∧ Ask V w' base lb p s) := Lib.hid (fun V hV => by
        refine (last_any hV HLR.out.le.ll.ok (by have := HLEN.out; omega)).mono ?_
        rintro e w' ⟨⟨v, rfl, A, c, rfl, ho⟩, ha⟩
        exact ⟨⟨A, c, by rw [hnD], own_sl1 ho⟩, ha⟩)
      have HIN : Hid (∀ V (A : Option Addr) (c' : Nat), Sl1 V A (Value.int .i64) (byteI s) → Sl1 V AD (Value.int .i64) (byteI s) → Calls Tryz.prog 40 #[.slice A nD c', .slice AD nD cD] V fun e w' => e = .returned (.bool true) ∧ Below V.heap.size V w') := Lib.hid (fun V A c' h1 h2 => by
        rw [hnD]
        exact ints_same (byteI s) A AD c' cD V h1 h2 (by rw [byteI_len]; have := HLEN.out; omega))
      clear hD hvD hnD hm hlt
      go_upto_region 18 with (first
        | (go_at_call 53; refine (HI.out _).mono ?_; rintro e w7 ⟨v, rfl, hn, hb⟩; (obtain ⟨A7, k7, c7, hv7⟩ := nat_agg hn); subst hv7; (replace HLR := Lib.hid (HLR.out.below hb)); (have HN7 := Lib.hid hn); clear hn hb)
        | (go_at_call 49; refine (HUN.out _ _ _ _ HLR.out.le.ll.lat HN7.out).mono ?_; rintro e w8 ⟨rfl, ha⟩; (replace HLR := Lib.hid (HLR.out.asks ha)); clear ha HN7))
      have hh := (HVD.out _ HLR.out).1
      refine wp_region_held_drew (S := fun V => V.cell? ⟨g6, m, none⟩ = some (.slice AD nD cD)) (by kernel_rfl) (by exact hh) (fun hHeld => ?_)
      refine tkH 0 134 ?_ rfl hHeld (.inl ⟨by rfl, ?_⟩) ?_; rotate_left; focus (intro w' hSw; (try dsimp only at hSw); go_simp; (try with_reducible rfl))
      try simp only [sIB, sC0, sCS]
      refine tkH 1 135 ?_ rfl hHeld (.inl ⟨by rfl, ?_⟩) ?_; rotate_left; focus (intro w' hSw; (try dsimp only at hSw); go_simp; (try with_reducible rfl))
      try simp only [sIB, sC0, sCS]
      refine tkH 2 136 ?_ rfl hHeld (.inl ⟨by rfl, ?_⟩) ?_; rotate_left; focus (intro w' hSw; (try dsimp only at hSw); go_simp; (try with_reducible rfl))
      try simp only [sIB, sC0, sCS]
      refine tkH 3 137 ?_ rfl hHeld (.inl ⟨by rfl, ?_⟩) ?_; rotate_left; focus (intro w' hSw; (try dsimp only at hSw); go_simp; (try with_reducible rfl))
      try simp only [sIB, sC0, sCS]
      refine tkH 5 139 ?_ rfl hHeld (.inl ⟨by rfl, ?_⟩) ?_; rotate_left; focus (intro w' hSw; (try dsimp only at hSw); go_simp; (try with_reducible rfl))
      try simp only [sIB, sC0, sCS]
      refine tkH 6 140 ?_ rfl hHeld (.inl ⟨by rfl, ?_⟩) ?_; rotate_left; focus (intro w' hSw; (try dsimp only at hSw); go_simp; (try with_reducible rfl))
      try simp only [sIB, sC0, sCS]
      refine tkH 7 141 ?_ rfl hHeld (.inl ⟨by rfl, ?_⟩) ?_; rotate_left; focus (intro w' hSw; (try dsimp only at hSw); go_simp; (try with_reducible rfl))
      try simp only [sIB, sC0, sCS]
      refine tkH 8 142 ?_ rfl hHeld (.inl ⟨by rfl, ?_⟩) ?_; rotate_left; focus (intro w' hSw; (try dsimp only at hSw); go_simp; (try with_reducible rfl))
      try simp only [sIB, sC0, sCS]
      refine tkH 9 143 ?_ rfl hHeld (.inl ⟨by rfl, ?_⟩) ?_; rotate_left; focus (intro w' hSw; (try dsimp only at hSw); go_simp; (try with_reducible rfl))
      try simp only [sIB, sC0, sCS]
      refine tkH 10 144 ?_ rfl hHeld (.inl ⟨by rfl, ?_⟩) ?_; rotate_left; focus (intro w' hSw; (try dsimp only at hSw); go_simp; (try with_reducible rfl))
      try simp only [sIB, sC0, sCS]
      refine wpAnyH_ready (rs := [4]) (by kernel_rfl) (by simp) ?_
      refine AllReadyH.cons rfl (fun K hK => ?_) AllReadyH.nil
      (try go_simp)
      go_simp; refine (HLS.out _ HLR.out.drew.le.ll.lat).mono ?_; rintro e W9 ⟨⟨A9, c9, rfl, hu⟩, ha⟩; (replace HLR := Lib.hid (HLR.out.drew.asks ha)); have HU := Lib.hid hu; have h := (HVD.out _ HLR.out).1; clear hu ha; go_simp
      go_wp2_with fail
      refine hK.out _ _ h (fun hHeld => ?_)
      clear hK K
      try simp only [Act.put, sIB, sC0, sCS]
      refine wpAnyH_ready (rs := [11]) (by kernel_rfl) (by simp) ?_
      refine AllReadyH.cons rfl (fun K hK => ?_) AllReadyH.nil
      (try go_simp)
      go_simp; refine (HIN.out _ _ _ HU.out (HVD.out _ HLR.out).2).mono ?_; rintro e W10 ⟨rfl, hb⟩; (replace HLR := Lib.hid (HLR.out.below hb)); have h := (HVD.out _ HLR.out).1; clear hb; go_simp
      go_wp2_with fail
      refine hK.out _ _ h (fun hHeld => ?_)
      clear hK K
      try simp only [Act.put, sIB, sC0, sCS]
      refine tkH 12 146 ?_ rfl hHeld (.inl ⟨by rfl, ?_⟩) ?_; rotate_left; focus (intro w' hSw; (try dsimp only at hSw); go_simp; (try with_reducible rfl))
      try simp only [sIB, sC0, sCS]
      refine tkH 13 4 ?_ rfl hHeld (.inl ⟨by rfl, ?_⟩) ?_; rotate_left; focus (intro w' hSw; (try dsimp only at hSw); go_simp; (try with_reducible rfl))
      try simp only [sIB, sC0, sCS]
      refine wpAnyH_done (by kernel_rfl) ?_ _
      go_wp2_with fail
      go_ret
      exact ⟨rfl, HLR.out.le.ll.blw⟩
theorem plists_big (h : CaseIn w c AL AC AJ AX cL cC cJ cX) (z : ByteArray) (hg : c.great = true ∨ c.great = false ∧ (8 < z.size)) :
    Calls Tryz.prog 12 #[c.val AL AC AJ AX cL cC cJ cX, .string z] w (RetTrue w) := by
  have HB0 := Lib.hid ((Below.refl w.heap.size w).alloc (Nat.le_refl _) (.cells #[.slice AL c.l.length cL, .slice AC c.cs.length cC, .slice AJ c.js.length cJ, .slice AX c.xs.length cX] 27))
  have HN0 := Lib.hid (blk_new w (.cells #[.slice AL c.l.length cL, .slice AC c.cs.length cC, .slice AJ c.js.length cJ, .slice AX c.xs.length cX] 27))
  have HGN : Hid (∀ V, Below w.heap.size w V → c.great = false → Calls Tryz.prog 16 #[.agg #[.slice AL c.l.length cL, .slice AC c.cs.length cC, .slice AJ c.js.length cJ, .slice AX c.xs.length cX]] V fun e w' => e = .returned (.int .i64 0) ∧ Below V.heap.size V w') := Lib.hid (fun V hV => great_no (h.below hV (Nat.le_refl _)))
  have HGY : Hid (∀ V, Below w.heap.size w V → c.great = true → Calls Tryz.prog 16 #[.agg #[.slice AL c.l.length cL, .slice AC c.cs.length cC, .slice AJ c.js.length cJ, .slice AX c.xs.length cX]] V fun e w' => e = .returned (.int .i64 1) ∧ Below V.heap.size V w') := Lib.hid (fun V hV => great_yes (h.below hV (Nat.le_refl _)))
  unfold CaseP.val
  clear h
  go_enter Tryz.func12, Tryz.ntmps12
  go_upto_region 1 with fail
  obtain ⟨cb, hcb⟩ : ∃ b, w.heap.size = b := ⟨_, rfl⟩
  rw [hcb] at HN0 ⊢
  clear hcb
  generalize w.alloc (.cells #[.slice AL c.l.length cL, .slice AC c.cs.length cC, .slice AJ c.js.length cJ, .slice AX c.xs.length cX] 27) = w1 at *
  have s0 := blk_cell HN0.out 0
  have s1 := blk_cell HN0.out 1
  have s2 := blk_cell HN0.out 2
  have s3 := blk_cell HN0.out 3
  simp only [List.getElem?_toArray, List.getElem?_cons_zero, List.getElem?_cons_succ] at s0 s1 s2 s3
  rcases hg with hg | ⟨hg, hn⟩
  · have HG := Lib.hid (HGY.out _ HB0.out hg)
    clear hg HGN HGY
    go_wp2_with (first
      | (go_at_call 16; refine HG.out.mono ?_; rintro e w2 ⟨rfl, hb⟩; (have HB1 := Lib.hid (HB0.out.trans (hb.mono HB0.out.size))); clear hb s0 s1 s2 s3)
      | (go_at_call 46; refine (awake22_any _).mono ?_; rintro e w3 ⟨rfl, hb⟩; (have HB2 := Lib.hid (HB1.out.trans (hb.mono HB1.out.size))); clear hb))
    go_ret
    exact ⟨rfl, HB2.out⟩
  · have HG := Lib.hid (HGN.out _ HB0.out hg)
    clear hg HGN HGY
    have hp0 : (8 : Int) < (z.size : Int) := by omega
    clear hn
    go_wp2_with (first
      | (go_at_call 16; refine HG.out.mono ?_; rintro e w2 ⟨rfl, hb⟩; (have HB1 := Lib.hid (HB0.out.trans (hb.mono HB0.out.size))); clear hb s0 s1 s2 s3)
      | (go_at_call 46; refine (awake22_any _).mono ?_; rintro e w3 ⟨rfl, hb⟩; (have HB2 := Lib.hid (HB1.out.trans (hb.mono HB1.out.size))); clear hb))
    go_ret
    exact ⟨rfl, HB2.out⟩
theorem plists_law {P : Prop} (x0 : List Int) (A0 : Option Addr) (c0 : Nat) (x1 : List (List Int)) (A1 : Option Addr) (c1 : Nat) (x2 : List (List Int)) (A2 : Option Addr) (c2 : Nat) (x3 : List (Int × List UInt8)) (A3 : Option Addr) (c3 : Nat) (z : ByteArray) (w : World)
    (l0 : x0.length ≤ c0) (m0 : c0 ≤ maxLen) (w0 : ∀ y ∈ x0, (Lit.int .u16 y).wf = true) (s0 : Sl1 w A0 (Value.int .u16) x0)
    (l1 : x1.length ≤ c1) (m1 : c1 ≤ maxLen) (w1 : ∀ y ∈ x1, y.length = 3 ∧ ∀ z ∈ y, (Lit.int .i64 z).wf = true) (s1 : Sl w A1 (encInts .i64) 3 x1)
    (l2 : x2.length ≤ c2) (m2 : c2 ≤ maxLen) (w2 : ∀ y ∈ x2, y.length = 2 ∧ ∀ z ∈ y, (Lit.int .i64 z).wf = true) (s2 : Sl w A2 (encInts .i64) 2 x2)
    (l3 : x3.length ≤ c3) (m3 : c3 ≤ maxLen) (w3 : ∀ y ∈ x3, (Lit.int .i64 y.1).wf = true ∧ y.2.length ≤ maxLen) (s3 : Sl w A3 encIS 2 x3)
    (_ : P) :
    Calls Tryz.prog 12 #[.agg #[.slice A0 x0.length c0, .slice A1 x1.length c1, .slice A2 x2.length c2, .slice A3 x3.length c3], .string z] w (RetTrue w) := by
  obtain ⟨c, hc, e⟩ := case_in l0 m0 w0 s0 l1 m1 w1 s1 l2 m2 w2 s2 l3 m3 w3 s3
  rw [e]
  cases hg : c.great with
  | true => exact plists_big hc z (.inl hg)
  | false =>
    by_cases hn : z.size ≤ 8
    · have h2 := plists_small hc hg z.data.toList (by rw [← bs_size, bs_data]; exact hn)
      rw [bs_data] at h2
      exact h2
    · exact plists_big hc z (.inr ⟨hg, by omega⟩)
end
end Go.Proofs.YtkkcekgbnloegaaGreat
