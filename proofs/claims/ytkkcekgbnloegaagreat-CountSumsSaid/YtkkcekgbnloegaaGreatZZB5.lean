/- Texts of several layers, one behind the other: CountLawS, CountRowT. -/
import Derived.Test.YtkkcekgbnloegaaGreatZZB4
import Derived.WalkKit
import Derived.KernelRfl
import Derived.Lib.Hide
import Derived.Deep.QuietTactic
import Derived.BigQuiet
import Derived.OwnWalk
import Derived.Lib.Strings
import Derived.Deep.DeepCutAuto
import Derived.Deep.RegionHeld3
import Derived.StillTailTactics
import Derived.Maps.OwnSet
import Derived.Maps.OwnOps
import Derived.DeepKeys4
import Derived.WideKeyEntry
import Derived.Maps.AppendAt
import Derived.Test.YtkkcekgbnloegaaGreatProg
import Derived.Laws.ResultCell
import Derived.Laws.AppendOwnNone
import Derived.Laws.IdiomStrings
import Derived.Lib.AppendStr
import Derived.Deep.Slices
import Derived.Deep.Fields
import Derived.ChangeSame
import Derived.SliceStrings
import Derived.OpenShut
import Derived.Laws.LoneSync
import Derived.Laws.OwnMore
import Derived.Laws.MakeOwn
import Derived.Laws.Bits64b
import Derived.Laws.BitsAllLaws
import Derived.Tactics
import Derived.Tactics2
import Derived.Defers
import Derived.Laws.Pointers
import Derived.RegionTactic
import Derived.RegionCalls
import Derived.ChangeAlike
import Derived.Test.YtkkcekgbnloegaaGreatRows
import Derived.ProofKit
import Derived.ShutString
import Derived.ChangeOld
import Derived.Below
import Derived.Lib.SmallJoins
set_option maxRecDepth 100000
set_option linter.unusedVariables false
set_option linter.unusedSimpArgs false
namespace Go.Proofs.YtkkcekgbnloegaaGreat
open Go.RowKit Go.Maps Go.WideMaps
theorem wf_u8S {n : Int} (h : (Lit.int .u8 n).wf = true) : 0 ≤ n ∧ n ≤ 255 := by simpa [Lit.wf, IntKind.min, IntKind.max, IntKind.bits, IntKind.signed] using h
theorem bs_appS (a b : List UInt8) : bs a ++ bs b = bs (a ++ b) := by
  apply ByteArray.ext
  simp [bs, ByteArray.data_append]
theorem conv_one (W : World) (k : Nat) (hk : k < 256) : (convert 70 9 (.slice (some ⟨W.heap.size, 0, none⟩) 1 1)).run Tryz.prog (W.alloc (.cells #[.int .u8 (k : Int)] 5)) = .ok (.string (bs [UInt8.ofNat k])) (W.alloc (.cells #[.int .u8 (k : Int)] 5)) := by
  refine run_convert_bytes_back (P := Tryz.prog) _ 70 9 5 ⟨W.heap.size, 0, none⟩ 1 [UInt8.ofNat k] Tryz.underlying70 Tryz.underlying5 Tryz.underlying9 ?_
  intro j hj
  have hj0 : j = 0 := by simpa using hj
  subst hj0
  rw [add_plain, (cell_facts (blk_new W _)).1]
  simp
  omega
section
variable {w : World} {c : CaseP} {AL AC AJ AX : Option Addr} {cL cC cJ cX : Nat}
set_option maxHeartbeats 8000000 in
theorem csum_small (h : CaseIn w c AL AC AJ AX cL cC cJ cX) (hg : c.great = false) (s : List UInt8) (more : Nat) (hm : more < 256) (hlen : s.length ≤ 200) :
    Calls Tryz.prog 7 #[c.val AL AC AJ AX cL cC cJ cX, .string (bs s), .int .u8 (more : Int)] w (RetTrue w) := by
  have HC := Lib.hid h
  have HOK := Lib.hid (h.ok hg)
  have HLEN := Lib.hid hlen
  have HMO := Lib.hid hm
  have HDZ : Hid ((bs s).size = s.length) := Lib.hid (bs_size s)
  have h12 : ¬ (200 : Int) < ((bs s).size : Int) := by rw [bs_size]; omega
  have HB0 := Lib.hid ((Below.refl w.heap.size w).alloc (Nat.le_refl _) (.cells #[.slice AL c.l.length cL, .slice AC c.cs.length cC, .slice AJ c.js.length cJ, .slice AX c.xs.length cX] 27))
  have HN0 := Lib.hid (blk_new w (.cells #[.slice AL c.l.length cL, .slice AC c.cs.length cC, .slice AJ c.js.length cJ, .slice AX c.xs.length cX] 27))
  have HGR : Hid (∀ V, Below w.heap.size w V → Calls Tryz.prog 16 #[.agg #[.slice AL c.l.length cL, .slice AC c.cs.length cC, .slice AJ c.js.length cJ, .slice AX c.xs.length cX]] V fun e w' => e = .returned (.int .i64 0) ∧ Below V.heap.size V w') := Lib.hid (fun V hV => great_no (h.below hV (Nat.le_refl _)) hg)
  have HOF : Hid (∀ V, Below w.heap.size w V → Calls Tryz.prog 23 #[.agg #[.slice AL c.l.length cL, .slice AC c.cs.length cC, .slice AJ c.js.length cJ, .slice AX c.xs.length cX]] V fun e w' => (∃ p r, e = .returned (.tuple #[.pointer (some ⟨p.vb, 0, none⟩), r.val c]) ∧ VocAt w' V.heap.size p none ∧ p.T = c.T ∧ p.s = c.spec ∧ RVocIs w' V.heap.size c r) ∧ Below V.heap.size V w') := Lib.hid (fun V hV => of12_any (h.here.below hV (Nat.le_refl _)) (h.ok hg))
  unfold CaseP.val
  clear h hg hm
  go_enter Tryz.func7, Tryz.ntmps7
  go_upto_region 1 with fail
  obtain ⟨cb, hcb⟩ : ∃ b, w.heap.size = b := ⟨_, rfl⟩
  have HCB := Lib.hid hcb
  rw [hcb] at HN0 ⊢
  clear hcb
  generalize w.alloc (.cells #[.slice AL c.l.length cL, .slice AC c.cs.length cC, .slice AJ c.js.length cJ, .slice AX c.xs.length cX] 27) = w1 at *
  have s0 := blk_cell HN0.out 0
  have s1 := blk_cell HN0.out 1
  have s2 := blk_cell HN0.out 2
  have s3 := blk_cell HN0.out 3
  simp only [List.getElem?_toArray, List.getElem?_cons_zero, List.getElem?_cons_succ] at s0 s1 s2 s3
  go_upto_region 3 with (first
    | (go_at_call 16; refine (HGR.out _ HB0.out).mono ?_; rintro e w2 ⟨rfl, hb⟩; (have HB1 := Lib.hid (HB0.out.trans (hb.mono HB0.out.size))); (have HN1 := Lib.hid (blk_below hb (blk_lt HN0.out) HN0.out)); clear hb s0 s1 s2 s3)
    | (go_at_call 22; refine (awake21_any _).mono ?_; rintro e w3 ⟨rfl, hb⟩; (have HB2 := Lib.hid (HB1.out.trans (hb.mono HB1.out.size))); (have HN2 := Lib.hid (blk_below hb (blk_lt HN1.out) HN1.out)); clear hb))
  have s0 := blk_cell HN2.out 0
  have s1 := blk_cell HN2.out 1
  have s2 := blk_cell HN2.out 2
  have s3 := blk_cell HN2.out 3
  simp only [List.getElem?_toArray, List.getElem?_cons_zero, List.getElem?_cons_succ] at s0 s1 s2 s3
  go_upto_region 6 with (go_at_call 23; refine (HOF.out _ HB2.out).mono ?_; rintro e w4 ⟨⟨p, r, rfl, hv, hpT, hps, hr⟩, hb⟩; (have HPT := Lib.hid hpT); (have HV : Hid (VocAt (w4.alloc (.cells #[.slice r.A1 c.T.length r.c1, .slice r.A2 (mrgsT c.T).length r.c2, .slice r.A3 (someC c.cs).length r.c3, .slice r.A4 (someJ c.js).length r.c4, .slice r.A5 (someX c.xs (min c.xs.length 6)).length r.c5] 38)) w3.heap.size p none ∧ Below w.heap.size w (w4.alloc (.cells #[.slice r.A1 c.T.length r.c1, .slice r.A2 (mrgsT c.T).length r.c2, .slice r.A3 (someC c.cs).length r.c3, .slice r.A4 (someJ c.js).length r.c4, .slice r.A5 (someX c.xs (min c.xs.length 6)).length r.c5] 38))) := Lib.hid ⟨hv.below ((Below.refl _ _).alloc (Nat.le_refl _) _) (Nat.le_refl _), by have h9 := HB2.out.trans (hb.mono HB2.out.size); exact h9.alloc h9.size _⟩); (unfold RVoc.val); clear hv hpT hps hr hb s0 s1 s2 s3)
  obtain ⟨mb, hmb⟩ : ∃ b, w4.heap.size = b := ⟨_, rfl⟩
  rw [hmb]
  clear hmb
  generalize w4.alloc (.cells #[.slice r.A1 c.T.length r.c1, .slice r.A2 (mrgsT c.T).length r.c2, .slice r.A3 (someC c.cs).length r.c3, .slice r.A4 (someJ c.js).length r.c4, .slice r.A5 (someX c.xs (min c.xs.length 6)).length r.c5] 38) = w5 at *
  have HV : Hid (VocAt w5 w3.heap.size p none ∧ Below w.heap.size w w5) := HV
  generalize w3.heap.size = vbase at HV
  clear HC HGR HOF HB0 HN0 HB1 HN1 HB2 HN2
  have HTP : Hid (OkT p.T) := Lib.hid (by rw [HPT.out]; exact c.ok)
  clear HOK HPT
  go_upto_region 7 with (go_at_call 24; refine (count_newF HV.out.1 HTP.out s (by have := HLEN.out; omega)).mono ?_; rintro e W6 ⟨⟨lb, rfl, hlo, hl⟩, hb⟩; (have HLO := Lib.hid (Nat.le_trans HV.out.2.size hlo)); (have HL := Lib.hid hl); (have HV6 := Lib.hid (And.intro (HV.out.1.below hb (Nat.le_refl _)) (HV.out.2.trans (hb.mono HV.out.2.size)))); clear hlo hl hb HV)
  have HAL := Lib.hid ((Below.refl W6.heap.size W6).alloc (Nat.le_refl _) (.cells #[.int .u8 (more : Int)] 5))
  have hcv := conv_one W6 more HMO.out
  obtain ⟨B, hB⟩ : ∃ B, UInt8.ofNat more = B := ⟨_, rfl⟩
  rw [hB] at hcv
  have HAP : Hid (bs s ++ bs [B] = bs (s ++ [B])) := Lib.hid (bs_appS _ _)
  obtain ⟨t1, ht1⟩ : ∃ t, bs [B] = t := ⟨_, rfl⟩
  obtain ⟨t0, ht0⟩ : ∃ t, bs s = t := ⟨_, rfl⟩
  have hts0 : t0.size ≤ 200 := by rw [← ht0, bs_size]; exact HLEN.out
  have hts1 : t1.size ≤ 1 := by rw [← ht1, bs_size]; simp
  have hts2 : t0.size + t1.size ≤ 9223372036854775807 := by omega
  rw [ht0, ht1] at HAP
  rw [ht1] at hcv
  rw [ht0] at h12 HDZ
  rw [ht0]
  clear ht0 ht1 hB hlen
  go_upto_region 8 with (go_at_call 24; rw [HAP.out]; refine (count_newF (HV6.out.1.below HAL.out (Nat.le_refl _)) HTP.out (s ++ [B]) (by have := HLEN.out; rw [List.length_append, List.length_singleton]; omega)).mono ?_; rintro e W7 ⟨⟨lx, rfl, hlx, hl⟩, hb⟩; (have HL2 : Hid (SumV w W7 _ lb _ lx p s (s ++ [B])) := Lib.hid ⟨((HL.out.below HAL.out).below hb).latV, hl, by have := HL.out.latV.lt_size; have := HAL.out.size; omega, HV6.out.2.trans ((HAL.out.trans (hb.mono HAL.out.size)).mono HV6.out.2.size), HLO.out, by have := HV6.out.2.size; have := HAL.out.size; omega⟩); (have HLX := Lib.hid hl.latV.lt_size); clear hlx hl hb HL HV6 HAL hcv hts0 hts1 hts2)
  go_wp2_with fail
  obtain ⟨b1, hb1⟩ : ∃ b, w5.heap.size = b := ⟨_, rfl⟩
  rw [hb1] at HL2
  obtain ⟨b2, hb2⟩ : ∃ b, (W6.alloc (.cells #[.int .u8 (more : Int)] 5)).heap.size = b := ⟨_, rfl⟩
  rw [hb2] at HL2
  clear hb1 hb2 HLO HAP HMO HLX HCB h12
  have HT2 : Hid (t0.size ≤ 200) := Lib.hid (by rw [HDZ.out]; exact HLEN.out)
  go_loopg [13] t0.size (fun n i W => ∃ (k : Nat), k + n = t0.size ∧ i = .int .i64 (k : Int) ∧ SumV w W b1 lb b2 lx p s (s ++ [B]))
  case atStart => exact ⟨0, by omega, rfl, HL2.out⟩
  case round =>
    obtain ⟨k, hk, rfl, hl⟩ := hrel
    obtain ⟨G0, hG0⟩ : ∃ G, G = gk := ⟨_, rfl⟩
    subst hG0
    clear HL2
    rename World => W
    have HL := Lib.hid hl
    have HK := Lib.hid hk
    clear hl hk
    by_cases hlt : k < t0.size
    · have p0 : (0 : Int) ≤ (k : Int) := by omega
      have p1 : (k : Int) < (t0.size : Int) := by omega
      have HKS : Hid (k < s.length) := Lib.hid (by have := HDZ.out; omega)
      have wk1 : IntKind.i64.wrap ((k : Int) + 1) = (k : Int) + 1 := IntWalk.i64_in _ (by have := HT2.out; omega)
      clear hlt
      have HAT := Lib.hid ((HL.out.below ((Below.refl W.heap.size W).alloc (Nat.le_refl _) (.cells #[.slice none 0 0] 59))).one.ats k HKS.out (by have := HLEN.out; omega))
      go_upto_region 15 with (go_at_call 29; refine HAT.out.mono ?_; rintro e W1 ⟨⟨v, rfl, A2, c2, rfl, hown⟩, hb⟩; (have HS : Hid (SumI w W1 b1 lb b2 lx W.heap.size p s (s ++ [B]) none 0 0 0 A2 c2 (atP p.T s k)) := Lib.hid (HL.out.begin hb hown)); clear hown hb HAT HL)
      obtain ⟨sb, hsb⟩ : ∃ b, W.heap.size = b := ⟨_, rfl⟩
      rw [hsb] at HS ⊢
      clear hsb
      obtain ⟨N, hN⟩ : ∃ N, (atP p.T s k).length = N := ⟨_, rfl⟩
      have HNN := Lib.hid hN
      rw [hN]
      clear hN p0 p1
      go_wp2_with fail
      go_loopg [16] N (fun n i W => ∃ (q : Nat) (As : Option Addr) (kn cn : Nat), q + n = N ∧ i = .int .i64 (q : Int) ∧ SumI w W b1 lb b2 lx sb p s (s ++ [B]) As kn cn (sumA p.T (s.drop k) ((atP p.T s k).take q)) A2 c2 (atP p.T s k))
      case atStart => exact ⟨0, none, 0, 0, by omega, rfl, HS.out⟩
      case round =>
        obtain ⟨q, As, kn, cn, hq, rfl, hs⟩ := hrel
        clear HS
        rename World => W
        have HS := Lib.hid hs
        have HQ := Lib.hid hq
        clear hs hq
        by_cases hlt : q < N
        · have hq2 : q < (atP p.T s k).length := by have := HNN.out; omega
          have r0 : (0 : Int) ≤ (q : Int) := by omega
          have r1 : (q : Int) < (N : Int) := by omega
          have ws4 : IntKind.i64.wrap ((q : Int) + 1) = (q : Int) + 1 := IntWalk.i64_in _ (by have := HNN.out; have := atP_len p.T s k; have := HLEN.out; omega)
          obtain ⟨bi, oi, hA2, e1⟩ : ∃ b o, A2 = some ⟨b, o, none⟩ ∧ W.cell? ⟨b, o + q, none⟩ = some (.int .i64 (atP p.T s k)[q]) := by
            obtain ⟨b0, hi⟩ := HS.out.ids
            exact own_sl1 hi q _ (List.getElem?_eq_getElem hq2)
          obtain ⟨m1, m2, m3, m4⟩ := at_len HTP.out s HKS.out hq2
          have hls : (atP p.T s k)[q]? = some (atP p.T s k)[q] := List.getElem?_eq_getElem hq2
          obtain ⟨id, hid⟩ : ∃ id, (atP p.T s k)[q] = id := ⟨_, rfl⟩
          rw [hid] at m1 m2 m3 m4 e1 hls
          have hfs := sumA_snoc p.T s k q hls
          have hle := sumA_take p.T (s.drop k) (atP p.T s k) (q + 1)
          have hrec : cntJ p.T s k = sumA p.T (s.drop k) (atP p.T s k) := cntA_rec HTP.out (by intro e; have := List.drop_eq_nil_iff.1 e; have := HKS.out; omega)
          have hdgk := cntJ_dg HTP.out s k
          rw [← hrec, hfs] at hle
          obtain ⟨sz, hsz⟩ : ∃ z, lenT p.T id = z := ⟨_, rfl⟩
          have HSZ : Hid (∀ V, LatV V b1 lb p s → Calls Tryz.prog 31 #[.pointer (some ⟨lb, 0, none⟩), .int .i64 id] V fun e w' => e = .returned (.int .i64 (sz : Nat)) ∧ w' = V) := Lib.hid (fun V hV => by rw [← hsz]; exact hV.size id)
          rw [hsz] at m1 m2 m3 m4 hfs hle
          obtain ⟨J, hJ⟩ : ∃ J, k + sz = J := ⟨_, rfl⟩
          rw [hJ] at m2 m3 m4 hfs hle
          have wks : IntKind.i64.wrap ((k : Int) + (sz : Int)) = (J : Int) := by rw [show (k : Int) + (sz : Int) = (J : Int) by omega]; exact IntWalk.i64_in _ (by have := HLEN.out; omega)
          obtain ⟨fi, hfi⟩ : ∃ n, sumA p.T (s.drop k) ((atP p.T s k).take q) = n := ⟨_, rfl⟩
          obtain ⟨fj, hfj⟩ : ∃ n, cntJ p.T s J = n := ⟨_, rfl⟩
          rw [hfi, hfj] at hfs hle
          rw [hfi] at HS
          have hdg1 : (dg B32 (fi + fj)).length ≤ 100000 := Nat.le_trans (dg_len_mono (by decide) hle) (by have := HLEN.out; omega)
          have hdg2 : (dg B32 fi).length ≤ 100000 := Nat.le_trans (dg_len_mono (by decide) (Nat.le_trans (Nat.le_add_right _ _) hle)) (by have := HLEN.out; omega)
          have hdg3 : (dg B32 fj).length ≤ 100000 := Nat.le_trans (dg_len_mono (by decide) (Nat.le_trans (Nat.le_add_left _ _) hle)) (by have := HLEN.out; omega)
          have HD := Lib.hid (And.intro hdg1 (And.intro hdg2 hdg3))
          have HFS := Lib.hid hfs
          have HJL := Lib.hid m2
          have HFR : Hid (∀ V, LatV V b1 lb p s → Calls Tryz.prog 28 #[.pointer (some ⟨lb, 0, none⟩), .int .i64 (J : Int)] V fun e w' => ∃ v, e = .returned v ∧ NatIs w' v fj ∧ LatV w' b1 lb p s ∧ Keep (fun x => x = lb) V w' ∧ RowN V w' lb ∧ ∀ v m, NatIs V v m → NatIs w' v m) := Lib.hid (fun V hV => by rw [← hfj]; exact lfrom_any hV HTP.out (by have := HLEN.out; omega) J HJL.out)
          have HLS := Lib.hid hls
          have hh := HS.out.held hA2 hls
          clear hq2 hid hsz hfs hJ hfi hfj m1 m2 m3 m4 hdg1 hdg2 hdg3 hle hrec hdgk hls e1
          subst hA2
          go_upto_region 18 with fail
          refine wp_region_D (Ds := [13]) (S := fun V => V.cell? ⟨sb, 0, none⟩ = some (.slice As kn cn) ∧ V.cell? ⟨bi, oi + q, none⟩ = some (.int .i64 id)) (by kernel_rfl) (by exact hh) (fun hHeld => ?_)
          (replace HS := Lib.hid HS.out.drew); clear hh; generalize W.drew = W5 at *
          refine tkP 1 76 ?_ rfl (.inl ⟨by rfl, ?_⟩) ?_; rotate_left; focus (intro w' _; go_simp; (try with_reducible rfl))
          try simp only [sIB, sC0, sCS]
          refine tkP 2 77 ?_ rfl (.inl ⟨by rfl, ?_⟩) ?_; rotate_left; focus (intro w' _; go_simp; (try with_reducible rfl))
          try simp only [sIB, sC0, sCS]
          refine tkP 3 78 ?_ rfl (.inl ⟨by rfl, ?_⟩) ?_; rotate_left; focus (intro w' _; go_simp; (try with_reducible rfl))
          try simp only [sIB, sC0, sCS]
          refine tkP 4 79 ?_ rfl (.inl ⟨by rfl, ?_⟩) ?_; rotate_left; focus (intro w' _; go_simp; (try with_reducible rfl))
          try simp only [sIB, sC0, sCS]
          refine tkP 5 80 ?_ rfl (.inl ⟨by rfl, ?_⟩) ?_; rotate_left; focus (intro w' _; go_simp; (try with_reducible rfl))
          try simp only [sIB, sC0, sCS]
          refine tkP 6 81 ?_ rfl (.inl ⟨by rfl, ?_⟩) ?_; rotate_left; focus (intro w' _; go_simp; (try with_reducible rfl))
          try simp only [sIB, sC0, sCS]
          refine tkD 0 75 ?_ rfl hHeld (.inl ⟨by rfl, ?_⟩) ?_; rotate_left; focus (intro w' hSw; (try dsimp only at hSw); go_simp; (try with_reducible rfl))
          try simp only [sIB, sC0, sCS]
          refine tkD 7 82 ?_ rfl hHeld (.inl ⟨by rfl, ?_⟩) ?_; rotate_left; focus (intro w' hSw; (try dsimp only at hSw); go_simp; (try with_reducible rfl))
          try simp only [sIB, sC0, sCS]
          refine wpAnyD_one (i := 8) (by kernel_rfl) rfl (by rfl) (fun K hK => ?_)
          go_simp; refine (HSZ.out _ HS.out.two.one).mono ?_; rintro e W6 ⟨rfl, hw⟩; rw [hw]; clear hw W6; have h := hHeld; go_simp
          refine hK.out _ _ h (fun hHeld => ?_)
          clear hK K
          try simp only [Act.put, sIB, sC0, sCS]
          refine tkP 9 84 ?_ rfl (.inl ⟨by rfl, ?_⟩) ?_; rotate_left; focus (intro w' _; go_simp; (try with_reducible rfl))
          try simp only [sIB, sC0, sCS]
          refine wpAnyD_one (i := 10) (by kernel_rfl) rfl (by rfl) (fun K hK => ?_)
          go_simp; refine (HFR.out _ HS.out.two.one).mono ?_; rintro e W6 ⟨v, rfl, ⟨A3, c3, rfl, hn1, hn2⟩, hl, hk, hr, hnk⟩; (replace HS := Lib.hid (HS.out.ask hk hl hr hnk)); have HN3 : Hid (NatIs W6 (.agg #[.slice A3 (dg B32 fj).length c3]) fj) := Lib.hid ⟨A3, c3, rfl, hn1, hn2⟩; have h := HS.out.held rfl HLS.out; clear hn1 hn2 hl hk hr hnk; obtain ⟨n3, hn3⟩ : ∃ n, (dg B32 fj).length = n := ⟨_, rfl⟩; rw [hn3] at HN3; rw [hn3]; clear hn3; go_simp
          refine hK.out _ _ h (fun hHeld => ?_)
          clear hK K
          try simp only [Act.put, sIB, sC0, sCS]
          refine wpAnyD_one (i := 11) (by kernel_rfl) rfl (by rfl) (fun K hK => ?_)
          go_simp; refine lgen_al (fun W7 hW7 hN7 => ?_); (replace HS := Lib.hid (HS.out.below hW7)); (replace HN3 := Lib.hid (HN3.out.below hW7 (Nat.le_refl _))); have HN7 := Lib.hid hN7; have h := HS.out.held rfl HLS.out; clear hW7 hN7
          refine hK.out _ _ h (fun hHeld => ?_)
          clear hK K
          try simp only [Act.put, sIB, sC0, sCS]
          refine wpAnyD_one (i := 12) (by kernel_rfl) rfl (by rfl) (fun K hK => ?_)
          go_simp; refine (add_any _ fi [fj] _ 1 _ HS.out.nat (lnats_one HN3.out HN7.out) (by simp) (by intro k hk; rcases k with _ | k; exact HD.out.2.1; (have e : sumL ([fj].take (k + 1)) = fj := by simp [sumL]); rw [e]; exact HD.out.1) (by intro n hn; simp at hn; subst hn; exact HD.out.2.2)).mono ?_; rintro e W8 ⟨v, rfl, hn, hb⟩; rw [show sumL [fj] = fj from by simp [sumL]] at hn; obtain ⟨A8, c8, rfl, hn1, hn2⟩ := hn; have HN8 : Hid (NatIs W8 (.agg #[.slice A8 (dg B32 (fi + fj)).length c8]) (fi + fj)) := Lib.hid ⟨A8, c8, rfl, hn1, hn2⟩; (replace HS := Lib.hid (HS.out.below hb)); have h := HS.out.held rfl HLS.out; clear hn1 hn2 hb; obtain ⟨n8, hn8⟩ : ∃ n, (dg B32 (fi + fj)).length = n := ⟨_, rfl⟩; rw [hn8] at HN8; rw [hn8]; clear hn8; go_simp
          refine hK.out _ _ h (fun hHeld => ?_)
          clear hK K
          try simp only [Act.put, sIB, sC0, sCS]
          refine wpAnyD_last (D := 13) (by decide) (by kernel_rfl) rfl (by rfl) (fun K hK => ?_)
          have e9 := HS.out.c0; have z9 := blk_froz HS.out.blk 0; (replace HS := Lib.hid (HS.out.put HN8.out)); go_simp
          refine hK.out _ _ ?_
          clear hK K
          try simp only [Act.put, sIB, sC0, sCS]
          refine wpAnyD_done (by kernel_rfl) ?_ _
          clear h hHeld e9 z9 HN8 HN3 HN7
          rw [← HFS.out] at HS
          generalize W8.setCell ⟨sb, 0, none⟩ (.slice A8 n8 c8) = W9 at *
          go_wp2_with fail
          go_roundg (gk - 1)
          case measure => have := HQ.out; omega
          case rel => exact ⟨q + 1, A8, n8, c8, by have := HQ.out; omega, by simp, HS.out⟩
        · have hqe : q = (atP p.T s k).length := by have := HQ.out; have := HNN.out; omega
          have hlt2 : ¬ (q : Int) < (N : Int) := by omega
          have hrec : cntJ p.T s k = sumA p.T (s.drop k) (atP p.T s k) := cntA_rec HTP.out (by intro e; have := List.drop_eq_nil_iff.1 e; have := HKS.out; omega)
          rw [hqe, List.take_of_length_le (Nat.le_refl _), ← hrec] at HS
          have hcp : 0 < cntJ p.T s k := cntA_pos HTP.out _ _ (Nat.le_refl _)
          have hdgk : (dg B32 (cntJ p.T s k)).length ≤ 100000 := Nat.le_trans (cntJ_dg HTP.out s k) (by have := HLEN.out; omega)
          have HFR : Hid (∀ V, LatV V b1 lb p s → Calls Tryz.prog 28 #[.pointer (some ⟨lb, 0, none⟩), .int .i64 (k : Int)] V fun e w' => ∃ v, e = .returned v ∧ NatIs w' v (cntJ p.T s k) ∧ LatV w' b1 lb p s ∧ Keep (fun x => x = lb) V w' ∧ RowN V w' lb ∧ ∀ v m, NatIs V v m → NatIs w' v m) := Lib.hid (fun V hV => lfrom_any hV HTP.out (by have := HLEN.out; omega) k (by have := HKS.out; omega))
          obtain ⟨fk, hfk⟩ : ∃ n, cntJ p.T s k = n := ⟨_, rfl⟩
          rw [hfk] at HS hcp hdgk HFR
          have HD := Lib.hid hdgk
          have hz : decide (fk = 0) = false := by simp; omega
          have hcm : cmpN fk fk = 0 := by unfold cmpN; simp
          have HZ := Lib.hid hz
          have HCM := Lib.hid hcm
          have hh := HS.out.c0
          clear hqe hrec hcp hdgk hfk hz hcm hlt
          go_upto_region 19 with fail
          refine wp_region_held_drew (S := fun V => V.cell? ⟨sb, 0, none⟩ = some (.slice As kn cn)) (by kernel_rfl) (by exact hh) (fun hHeld => ?_)
          refine tkH 0 88 ?_ rfl hHeld (.inl ⟨by rfl, ?_⟩) ?_; rotate_left; focus (intro w' hSw; (try dsimp only at hSw); go_simp; (try with_reducible rfl))
          try simp only [sIB, sC0, sCS]
          refine tkH 1 89 ?_ rfl hHeld (.inl ⟨by rfl, ?_⟩) ?_; rotate_left; focus (intro w' hSw; (try dsimp only at hSw); go_simp; (try with_reducible rfl))
          try simp only [sIB, sC0, sCS]
          refine tkH 3 91 ?_ rfl hHeld (.inl ⟨by rfl, ?_⟩) ?_; rotate_left; focus (intro w' hSw; (try dsimp only at hSw); go_simp; (try with_reducible rfl))
          try simp only [sIB, sC0, sCS]
          refine wpAnyH_ready (rs := [2]) (by kernel_rfl) (by simp) ?_
          refine AllReadyH.cons rfl (fun K hK => ?_) AllReadyH.nil
          (try go_simp)
          go_simp; refine (HFR.out _ HS.out.drew.two.one).mono ?_; rintro e W6 ⟨v1, rfl, hn, hl, hk, hr, hnk⟩; (replace HS := Lib.hid (HS.out.drew.ask hk hl hr hnk)); have HN3 := Lib.hid hn; have h := HS.out.c0; clear hn hl hk hr hnk; go_simp
          go_wp2_with fail
          refine hK.out _ _ h (fun hHeld => ?_)
          clear hK K
          try simp only [Act.put, sIB, sC0, sCS]
          refine wpAnyH_ready (rs := [4]) (by kernel_rfl) (by simp) ?_
          refine AllReadyH.cons rfl (fun K hK => ?_) AllReadyH.nil
          (try go_simp)
          go_simp; refine (compare_any _ _ fk fk _ HN3.out HS.out.nat HD.out HD.out).mono ?_; rintro e W7 ⟨rfl, hb⟩; rw [HCM.out]; (replace HS := Lib.hid (HS.out.below hb)); have h := HS.out.c0; clear hb; go_simp
          go_wp2_with fail
          refine hK.out _ _ h (fun hHeld => ?_)
          clear hK K
          try simp only [Act.put, sIB, sC0, sCS]
          refine tkH 5 93 ?_ rfl hHeld (.inl ⟨by rfl, ?_⟩) ?_; rotate_left; focus (intro w' hSw; (try dsimp only at hSw); go_simp; (try with_reducible rfl))
          try simp only [sIB, sC0, sCS]
          refine tkH 6 94 ?_ rfl hHeld (.inl ⟨by rfl, ?_⟩) ?_; rotate_left; focus (intro w' hSw; (try dsimp only at hSw); go_simp; (try with_reducible rfl))
          try simp only [sIB, sC0, sCS]
          refine tkH 7 95 ?_ rfl hHeld (.inl ⟨by rfl, ?_⟩) ?_; rotate_left; focus (intro w' hSw; (try dsimp only at hSw); go_simp; (try with_reducible rfl))
          try simp only [sIB, sC0, sCS]
          refine tkH 8 96 ?_ rfl hHeld (.inl ⟨by rfl, ?_⟩) ?_; rotate_left; focus (intro w' hSw; (try dsimp only at hSw); go_simp; (try with_reducible rfl))
          try simp only [sIB, sC0, sCS]
          refine wpAnyH_ready (rs := [9]) (by kernel_rfl) (by simp) ?_
          refine AllReadyH.cons rfl (fun K hK => ?_) AllReadyH.nil
          (try go_simp)
          go_simp; refine (HFR.out _ HS.out.two.one).mono ?_; rintro e W8 ⟨v2, rfl, hn, hl, hk, hr, hnk⟩; (replace HS := Lib.hid (HS.out.ask hk hl hr hnk)); have HN4 := Lib.hid hn; have h := HS.out.c0; clear hn hl hk hr hnk; go_simp
          go_wp2_with fail
          refine hK.out _ _ h (fun hHeld => ?_)
          clear hK K
          try simp only [Act.put, sIB, sC0, sCS]
          refine wpAnyH_ready (rs := [10]) (by kernel_rfl) (by simp) ?_
          refine AllReadyH.cons rfl (fun K hK => ?_) AllReadyH.nil
          (try go_simp)
          go_simp; refine (zero_any _ fk _ HN4.out).mono ?_; rintro e W9 ⟨rfl, hb⟩; rw [HZ.out]; (replace HS := Lib.hid (HS.out.below hb)); have h := HS.out.c0; clear hb; go_simp
          go_wp2_with fail
          refine hK.out _ _ h (fun hHeld => ?_)
          clear hK K
          try simp only [Act.put, sIB, sC0, sCS]
          refine tkH 11 99 ?_ rfl hHeld (.inl ⟨by rfl, ?_⟩) ?_; rotate_left; focus (intro w' hSw; (try dsimp only at hSw); go_simp; (try with_reducible rfl))
          try simp only [sIB, sC0, sCS]
          refine wpAnyH_done (by kernel_rfl) ?_ _
          clear h hHeld HN3 HN4 hh
          have HL := Lib.hid HS.out.two
          clear HS
          go_wp2_with fail
          go_roundg (G0 - 1)
          case measure => have := HK.out; have := HKS.out; have := HDZ.out; omega
          case rel => exact ⟨k + 1, by have := HK.out; have := HKS.out; have := HDZ.out; omega, by simp, HL.out⟩
    · have hlt3 : ¬ ((k : Nat) : Int) < (t0.size : Int) := by omega
      have HCX := Lib.hid (lcount_any HL.out.two.latV HTP.out (by have := HLEN.out; rw [List.length_append, List.length_singleton]; omega))
      have hmo : ¬ cmpN (cntJ p.T (s ++ [B]) 0) (cntJ p.T s 0) < 0 := by
        have h9 : cntJ p.T s 0 ≤ cntJ p.T (s ++ [B]) 0 := cnt_mono HTP.out B _ s (Nat.le_refl _)
        unfold cmpN
        rw [if_neg (by omega)]
        split <;> omega
      have hd1 : (dg B32 (cntJ p.T (s ++ [B]) 0)).length ≤ 100000 := Nat.le_trans (cntJ_dg HTP.out _ _) (by have := HLEN.out; rw [List.length_append, List.length_singleton]; omega)
      have hd2 : (dg B32 (cntJ p.T s 0)).length ≤ 100000 := Nat.le_trans (cntJ_dg HTP.out _ _) (by have := HLEN.out; omega)
      have HD := Lib.hid (And.intro hd1 hd2)
      have HCL : Hid (∀ V, LatV V b1 lb p s → Calls Tryz.prog 25 #[.pointer (some ⟨lb, 0, none⟩)] V fun e w' => ∃ v, e = .returned v ∧ NatIs w' v (cntJ p.T s 0) ∧ LatV w' b1 lb p s ∧ Keep (fun x => x = lb) V w' ∧ RowN V w' lb ∧ ∀ v m, NatIs V v m → NatIs w' v m) := Lib.hid (fun V hV => lcount_any hV HTP.out (by have := HLEN.out; omega))
      obtain ⟨f1, hf1⟩ : ∃ n, cntJ p.T (s ++ [B]) 0 = n := ⟨_, rfl⟩
      obtain ⟨f2, hf2⟩ : ∃ n, cntJ p.T s 0 = n := ⟨_, rfl⟩
      rw [hf1, hf2] at hmo HD
      rw [hf1] at HCX
      rw [hf2] at HCL
      obtain ⟨cm, hcm⟩ : ∃ z, cmpN f1 f2 = z := ⟨_, rfl⟩
      rw [hcm] at hmo
      have HCM := Lib.hid hcm
      have hmo2 : (0 : Int) ≤ cm := by omega
      clear hf1 hf2 hd1 hd2 hlt hcm hmo
      go_wp2_with (first
        | (go_at_call 25; first
          | (refine HCX.out.mono ?_; rintro e W8 ⟨v1, rfl, hn, hl, hk, hr, hnk⟩; (have HN1 := Lib.hid hn); (have HO : Hid (LatV W8 b1 lb p s) := Lib.hid (by
              obtain ⟨cs, fz, hb⟩ := HL.out.two.latV.tag
              exact HL.out.one.other hb HL.out.ne HL.out.two.lt hk hnk)); (have HB8 : Hid (Below w.heap.size w W8) := Lib.hid (HL.out.blw.trans (hk.below HL.out.blw.size (fun x hx => by subst hx; exact HL.out.lo2)))); clear hn hl hk hr hnk HCX)
          | (refine (HCL.out _ HO.out).mono ?_; rintro e W9 ⟨v2, rfl, hn, hl, hk, hr, hnk⟩; (have HN2 := Lib.hid hn); (have HN3 := Lib.hid (hnk _ _ HN1.out)); (have HB9 : Hid (Below w.heap.size w W9) := Lib.hid (HB8.out.trans (hk.below HB8.out.size (fun x hx => by subst hx; exact HL.out.lo)))); clear hn hl hk hr hnk))
        | (go_at_call 35; refine (compare_any _ _ f1 f2 _ HN3.out HN2.out HD.out.1 HD.out.2).mono ?_; rintro e W10 ⟨rfl, hb⟩; rw [HCM.out]; (have HB10 := Lib.hid (HB9.out.trans (hb.mono HB9.out.size))); clear hb))
      go_ret
      exact ⟨rfl, HB10.out⟩
theorem csum_big (h : CaseIn w c AL AC AJ AX cL cC cJ cX) (z : ByteArray) (more : Int) (hg : c.great = true ∨ c.great = false ∧ 200 < z.size) :
    Calls Tryz.prog 7 #[c.val AL AC AJ AX cL cC cJ cX, .string z, .int .u8 more] w (RetTrue w) := by
  have HB0 := Lib.hid ((Below.refl w.heap.size w).alloc (Nat.le_refl _) (.cells #[.slice AL c.l.length cL, .slice AC c.cs.length cC, .slice AJ c.js.length cJ, .slice AX c.xs.length cX] 27))
  have HN0 := Lib.hid (blk_new w (.cells #[.slice AL c.l.length cL, .slice AC c.cs.length cC, .slice AJ c.js.length cJ, .slice AX c.xs.length cX] 27))
  have HGN : Hid (∀ V, Below w.heap.size w V → c.great = false → Calls Tryz.prog 16 #[.agg #[.slice AL c.l.length cL, .slice AC c.cs.length cC, .slice AJ c.js.length cJ, .slice AX c.xs.length cX]] V fun e w' => e = .returned (.int .i64 0) ∧ Below V.heap.size V w') := Lib.hid (fun V hV => great_no (h.below hV (Nat.le_refl _)))
  have HGY : Hid (∀ V, Below w.heap.size w V → c.great = true → Calls Tryz.prog 16 #[.agg #[.slice AL c.l.length cL, .slice AC c.cs.length cC, .slice AJ c.js.length cJ, .slice AX c.xs.length cX]] V fun e w' => e = .returned (.int .i64 1) ∧ Below V.heap.size V w') := Lib.hid (fun V hV => great_yes (h.below hV (Nat.le_refl _)))
  unfold CaseP.val
  clear h
  go_enter Tryz.func7, Tryz.ntmps7
  go_upto_region 1 with fail
  obtain ⟨cb, hcb⟩ : ∃ b, w.heap.size = b := ⟨_, rfl⟩
  rw [hcb] at HN0 ⊢
  clear hcb
  generalize w.alloc (.cells #[.slice AL c.l.length cL, .slice AC c.cs.length cC, .slice AJ c.js.length cJ, .slice AX c.xs.length cX] 27) = w1 at *
  have s0 := blk_cell HN0.out 0
  have s1 := blk_cell HN0.out 1
  have s2 := blk_cell HN0.out 2
  have s3 := blk_cell HN0.out 3
  simp only [List.getElem?_toArray, List.getElem?_cons_zero, List.getElem?_cons_succ] at s0 s1 s2 s3
  rcases hg with hg | ⟨hg, hn⟩
  · have HG := Lib.hid (HGY.out _ HB0.out hg)
    clear hg HGN HGY
    go_wp2_with (first
      | (go_at_call 16; refine HG.out.mono ?_; rintro e w2 ⟨rfl, hb⟩; (have HB1 := Lib.hid (HB0.out.trans (hb.mono HB0.out.size))); clear hb s0 s1 s2 s3)
      | (go_at_call 22; refine (awake21_any _).mono ?_; rintro e w3 ⟨rfl, hb⟩; (have HB2 := Lib.hid (HB1.out.trans (hb.mono HB1.out.size))); clear hb))
    go_ret
    exact ⟨rfl, HB2.out⟩
  · have HG := Lib.hid (HGN.out _ HB0.out hg)
    have hn' : (200 : Int) < (z.size : Int) := by omega
    clear hg HGN HGY hn
    go_wp2_with (first
      | (go_at_call 16; refine HG.out.mono ?_; rintro e w2 ⟨rfl, hb⟩; (have HB1 := Lib.hid (HB0.out.trans (hb.mono HB0.out.size))); clear hb s0 s1 s2 s3)
      | (go_at_call 22; refine (awake21_any _).mono ?_; rintro e w3 ⟨rfl, hb⟩; (have HB2 := Lib.hid (HB1.out.trans (hb.mono HB1.out.size))); clear hb))
    go_ret
    exact ⟨rfl, HB2.out⟩
theorem csum_law {P : Prop} (x0 : List Int) (A0 : Option Addr) (c0 : Nat) (x1 : List (List Int)) (A1 : Option Addr) (c1 : Nat) (x2 : List (List Int)) (A2 : Option Addr) (c2 : Nat) (x3 : List (Int × List UInt8)) (A3 : Option Addr) (c3 : Nat) (z : ByteArray) (more : Int) (w : World)
    (l0 : x0.length ≤ c0) (m0 : c0 ≤ maxLen) (w0 : ∀ y ∈ x0, (Lit.int .u16 y).wf = true) (s0 : Sl1 w A0 (Value.int .u16) x0)
    (l1 : x1.length ≤ c1) (m1 : c1 ≤ maxLen) (w1 : ∀ y ∈ x1, y.length = 3 ∧ ∀ z ∈ y, (Lit.int .i64 z).wf = true) (s1 : Sl w A1 (encInts .i64) 3 x1)
    (l2 : x2.length ≤ c2) (m2 : c2 ≤ maxLen) (w2 : ∀ y ∈ x2, y.length = 2 ∧ ∀ z ∈ y, (Lit.int .i64 z).wf = true) (s2 : Sl w A2 (encInts .i64) 2 x2)
    (l3 : x3.length ≤ c3) (m3 : c3 ≤ maxLen) (w3 : ∀ y ∈ x3, (Lit.int .i64 y.1).wf = true ∧ y.2.length ≤ maxLen) (s3 : Sl w A3 encIS 2 x3)
    (_ : P) (wm : (Lit.int .u8 more).wf = true) :
    Calls Tryz.prog 7 #[.agg #[.slice A0 x0.length c0, .slice A1 x1.length c1, .slice A2 x2.length c2, .slice A3 x3.length c3], .string z, .int .u8 more] w (RetTrue w) := by
  obtain ⟨c, hc, e⟩ := case_in l0 m0 w0 s0 l1 m1 w1 s1 l2 m2 w2 s2 l3 m3 w3 s3
  rw [e]
  cases hg : c.great with
  | true => exact csum_big hc z more (.inl hg)
  | false =>
    by_cases hn : z.size ≤ 200
    · obtain ⟨k, rfl, hk⟩ : ∃ k : Nat, more = (k : Int) ∧ k < 256 := by
        have h9 : 0 ≤ more ∧ more ≤ 255 := wf_u8S wm
        exact ⟨more.toNat, by omega, by omega⟩
      have h2 := csum_small hc hg z.data.toList k hk (by rw [← bs_size, bs_data]; exact hn)
      rw [bs_data] at h2
      exact h2
    · exact csum_big hc z more (.inr ⟨hg, by omega⟩)
end
end Go.Proofs.YtkkcekgbnloegaaGreat
namespace Go.Proofs.YtkkcekgbnloegaaGreat.countSums
open Go.ChangeShapes Go.WideShapes Go.ChangeAt Go.RowKit Go.Joins
open Go.ChangeMaps (open_string shut_string)
theorem own : ownKnob Tryz.prog.godebug = none := by kernel_rfl
theorem laidOut : laidOutB Tryz.prog = true := by kernel_rfl
set_option maxRecDepth 100000 in
theorem lifted (os : Os) (started : os.Started) (H : Type) (enc : TypeId × Value → H) :
    ReturnsInHanded {} Tryz.checked os 7 .any (Rows.countSumsSpec.pre6 enc Tryz.prog Tryz.f7 Rows.countSumsRow.domain false) (Rows.countSumsSpec.post enc Tryz.prog Tryz.f7 false true false false) := by
  refine returnsInHanded_of_change (C := Tryz.checked) own started (by kernel_rfl) Tryz.func7
    (ChangeSpec.witness6 (enc := enc) (C := Tryz.checked) false ⟨#[], #[.agg #[.slice none 0 0, .slice none 0 0, .slice none 0 0, .slice none 0 0], .string ByteArray.empty, .int .u8 0], []⟩ 8 (by kernel_rfl) (by kernel_rfl) (by kernel_rfl) (by kernel_rfl)) ?_
  intro W base args ds gs before hval0 hW hcnd _
  have hval : ∀ (j : Nat) t v, Tryz.f7.params[j]? = some t → args[j]? = some v → Value.okWide Tryz.prog W .any base t v := hval0
  have hW' := hW
  obtain ⟨p, q, hA0, hV, rfl, hfz, hnd⟩ := hW
  have hA : DataW.TrodAll enc Tryz.prog W 0 (fun _ => true) true Tryz.f7.params.toList args.toList ds p := hA0
  rw [Tryz.params7] at hA hval
  obtain ⟨v0, vs0, d0, ds0, p0, q0, hargs, rfl, rfl, h0, r0⟩ := trodAll_cons hA
  obtain ⟨v1, vs1, d1, ds1, p1, q1, rfl, rfl, rfl, h1, r1⟩ := trodAll_cons r0
  obtain ⟨v2, vs2, d2, ds2, p2, q2, rfl, rfl, rfl, h2, r2⟩ := trodAll_cons r1
  obtain ⟨rfl, rfl, rfl⟩ := trodAll_nil r2
  obtain rfl : args = #[v0, v1, v2] := by cases args; simp_all
  obtain ⟨rfl, rfl⟩ := trodVars_none hV
  have k0 := h0
  have lt0 : ∀ x ∈ p0, x.block < W.heap.size := by obtain ⟨m, hm⟩ := k0; exact DataW.trod_lt m _ _ _ hm
  obtain ⟨vs0, m0, rfl, hl0, hf0⟩ := open_fields Tryz.underlying27 (by kernel_rfl) (by kernel_rfl) (hval 0 27 v0 rfl rfl) h0
  obtain ⟨z0_0, z0_1, z0_2, z0_3, rfl⟩ := list4 hl0
  clear hl0
  obtain ⟨zz0_0, y0_0, ez0_0, t0_0⟩ := hf0 0 _ rfl
  simp only [List.getElem?_cons_zero, List.getElem?_cons_succ, Option.some.injEq] at ez0_0
  subst ez0_0
  obtain ⟨a0_0, n0_0, c0_0, e0_0⟩ := slice_form Tryz.underlying22 t0_0
  simp only [List.cons.injEq, and_true] at e0_0
  subst e0_0
  obtain ⟨x0_0, rfl, l0_0, m0_0, w0_0, s0_0⟩ := arg_ints Tryz.underlying22 Tryz.underlying99 (by kernel_rfl) t0_0
  obtain ⟨zz0_1, y0_1, ez0_1, t0_1⟩ := hf0 1 _ rfl
  simp only [List.getElem?_cons_zero, List.getElem?_cons_succ, Option.some.injEq] at ez0_1
  subst ez0_1
  obtain ⟨a0_1, n0_1, c0_1, e0_1⟩ := slice_form Tryz.underlying23 t0_1
  simp only [List.cons.injEq, and_true] at e0_1
  subst e0_1
  obtain ⟨x0_1, rfl, l0_1, m0_1, w0_1, s0_1⟩ := arg_structs Tryz.underlying23 Tryz.underlying181 (by kernel_rfl) (by kernel_rfl) (by intro j f h; rcases j with _ | _ | _ | j <;> simp at h <;> subst h <;> exact Tryz.underlying3) (by decide) t0_1
  obtain ⟨zz0_2, y0_2, ez0_2, t0_2⟩ := hf0 2 _ rfl
  simp only [List.getElem?_cons_zero, List.getElem?_cons_succ, Option.some.injEq] at ez0_2
  subst ez0_2
  obtain ⟨a0_2, n0_2, c0_2, e0_2⟩ := slice_form Tryz.underlying24 t0_2
  simp only [List.cons.injEq, and_true] at e0_2
  subst e0_2
  obtain ⟨x0_2, rfl, l0_2, m0_2, w0_2, s0_2⟩ := arg_structs Tryz.underlying24 Tryz.underlying182 (by kernel_rfl) (by kernel_rfl) (by intro j f h; rcases j with _ | _ | j <;> simp at h <;> subst h <;> exact Tryz.underlying3) (by decide) t0_2
  obtain ⟨zz0_3, y0_3, ez0_3, t0_3⟩ := hf0 3 _ rfl
  simp only [List.getElem?_cons_zero, List.getElem?_cons_succ, Option.some.injEq] at ez0_3
  subst ez0_3
  obtain ⟨a0_3, n0_3, c0_3, e0_3⟩ := slice_form Tryz.underlying25 t0_3
  simp only [List.cons.injEq, and_true] at e0_3
  subst e0_3
  obtain ⟨x0_3, rfl, l0_3, m0_3, w0_3, s0_3⟩ := arg_pairs Tryz.underlying25 Tryz.underlying170 (by kernel_rfl) (by kernel_rfl) Tryz.underlying3 Tryz.underlying9 t0_3
  obtain ⟨a1, rfl, rfl, rfl, w1⟩ := open_string Tryz.underlying9 (hval 1 9 v1 rfl rfl) h1
  obtain ⟨a2, rfl, rfl, rfl, w2⟩ := open_int Tryz.underlying5 (hval 2 5 v2 rfl rfl) h2
  clear hA0 hval0
  refine (csum_law x0_0 a0_0 c0_0 x0_1 a0_1 c0_1 x0_2 a0_2 c0_2 x0_3 a0_3 c0_3 a1 a2 W l0_0 m0_0 w0_0 s0_0 l0_1 m0_1 w0_1 s0_1 l0_2 m0_2 w0_2 s0_2 l0_3 m0_3 w0_3 s0_3 w1 w2).mono fun e W' ⟨he, bel⟩ => ?_
  subst he
  exact ⟨_, rfl, _, _, _, [], _, [], hW', trodAll_mk1 (shut_bool Tryz.underlying4 _), (trodAll_cons_mk (Below.trod laidOut (by kernel_rfl) (of_decide_eq_true (by kernel_rfl)) k0 bel lt0) (trodAll_cons_mk (shut_string Tryz.underlying9 w1) (trodAll_cons_mk (shut_int Tryz.underlying5 w2) trodAll_mk0))), rfl, bel.frame _, fun h => by cases h⟩
end Go.Proofs.YtkkcekgbnloegaaGreat.countSums
