/- Layer 5 (chain): ChainNone. -/
import Derived.Test.YtpkmcokkapfnmaaChainH
import Derived.Test.YtpkmcokkapfnmaaOpen
namespace Go.Proofs.Ytpkmcokkapfnmaa
open Go.RowKit Go.Maps Go.WideMaps
set_option maxRecDepth 100000
set_option linter.unusedVariables false
set_option linter.unusedSimpArgs false

theorem encT_base (bel : Int) (s : List UInt8) : encT baseT bel s = bysI s := by
  have : mrgsB baseT bel = [] := by
    unfold mrgsB
    have e : mrgsT baseT = [] := by
      apply List.eq_nil_of_length_eq_zero
      rw [mrgs_len, base_len]
    rw [e]; simp
  unfold encT
  rw [this]; rfl
theorem hasT_base (id : Int) : hasT baseT id = (decide (0 ≤ id) && decide (id < 256)) := by
  unfold hasT
  rw [base_len]; rfl
set_option maxHeartbeats 4000000 in
theorem cnone_small (s : ByteArray) (l : List Int) (A : Option Addr) (c : Nat) (w : World) (hs : s.size ≤ 100) (hl : l.length ≤ 20) (hsl : Sl1 w A (Value.int .i64) l) :
    Calls Try.prog 6 #[.string s, .slice A l.length c] w (RetTrue w) := by
  have HL := Lib.hid hsl
  have h1 : ¬ (100 : Int) < (s.size : Int) := by omega
  have h2 : ¬ (20 : Int) < (l.length : Int) := by omega
  clear hsl
  go_enter Try.func6, Try.ntmps6
  go_wp2_with fail
  refine (awake5_any _).mono ?_
  rintro e w1 ⟨rfl, hb1⟩
  have HB1 := Lib.hid hb1
  clear hb1
  go_wp2_with fail
  refine (new_ok (l := []) (T := baseT) rfl none 0 w1 (Sl.nil _ _ _ _) (by decide)).mono ?_
  rintro e w2 ⟨tb, sv, mb, mp, rfl, hok, ht, hb⟩
  have HB2 := Lib.hid (HB1.out.trans (hb.mono HB1.out.size))
  have HT := Lib.hid ht
  have HOK := Lib.hid hok
  have HLZ : Hid (((([] : List (Int × Int)).length : Nat) : Int) = 0) := Lib.hid rfl
  rw [HLZ.out]
  clear hb ht hok HB1 HLZ
  go_wp2_with fail
  go_loopg [8, 9] l.length (fun n u i W => ∃ k B, k + n = l.length ∧ i = .int .i64 ((k : Nat) : Int) ∧ u = .bool B ∧ B = !((l.take k).all (hasT baseT)) ∧ W = w2)
  case atStart => exact ⟨0, false, by omega, rfl, rfl, by simp, rfl⟩
  case round =>
    obtain ⟨k, B, hk, rfl, rfl, hB, rfl⟩ := hrel
    have HK := Lib.hid hk
    have HBB := Lib.hid hB
    clear hB
    rename World => W
    by_cases hlt : k < l.length
    · have p0 : (0 : Int) ≤ (k : Int) := by omega
      have p1 : (k : Int) < (l.length : Int) := by omega
      have wk : IntKind.i64.wrap ((k : Int) + 1) = (k : Int) + 1 := IntWalk.i64_in _ (by omega)
      obtain ⟨b1, o1, hA, c1⟩ := (HL.out.below HB2.out (Nat.le_refl _)).at k hlt
      subst hA
      have HTK := Lib.hid (take_snoc hlt)
      generalize l[k] = x at *
      have HHB := Lib.hid (hasT_base x)
      clear hk
      have HN : Hid (∀ B', B' = (B || !hasT baseT x) → B' = !((l.take (k + 1)).all (hasT baseT))) := Lib.hid (fun B' e => by rw [HTK.out, List.all_append, e, HBB.out]; simp [Bool.not_and])
      cases B with
      | true =>
        go_wp2_with fail
        go_roundg (gk - 1)
        case measure => have := HK.out; omega
        case rel => exact ⟨k + 1, true, by have := HK.out; omega, rfl, rfl, HN.out true (by simp), rfl⟩
      | false =>
        by_cases hx : x < 0
        · go_wp2_with fail
          go_roundg (gk - 1)
          case measure => have := HK.out; omega
          case rel => exact ⟨k + 1, true, by have := HK.out; omega, rfl, rfl, HN.out true (by rw [HHB.out]; have : ¬ 0 ≤ x := by omega
                                                                                              simp [this]), rfl⟩
        · by_cases hx2 : 255 < x
          · go_wp2_with fail
            go_roundg (gk - 1)
            case measure => have := HK.out; omega
            case rel => exact ⟨k + 1, true, by have := HK.out; omega, rfl, rfl, HN.out true (by rw [HHB.out]; have : ¬ x < 256 := by omega
                                                                                                simp [this]), rfl⟩
          · go_wp2_with fail
            go_roundg (gk - 1)
            case measure => have := HK.out; omega
            case rel => exact ⟨k + 1, false, by have := HK.out; omega, rfl, rfl, HN.out false (by rw [HHB.out]; have h3 : 0 ≤ x := by omega
                                                                                                  have h4 : x < 256 := by omega
                                                                                                  simp [h3, h4]), rfl⟩
    · have hke : k = l.length := by omega
      subst hke
      have HALL := Lib.hid (show B = !(l.all (hasT baseT)) from by have := HBB.out; rwa [List.take_length] at this)
      clear hk HK HBB
      go_wp2_with fail
      refine (spans_any HT.out HOK.out l A c (HL.out.below HB2.out (Nat.le_refl _)) (by omega)).mono ?_
      rintro e w3 ⟨⟨v, rfl, hv⟩, hb⟩
      obtain ⟨A3, c3, rfl, hs3⟩ := ints_sl hv
      have HSP : Hid ((spansT baseT l).length = if B = true then 0 else l.length) := Lib.hid (by
        unfold spansT
        rw [HALL.out]
        cases l.all (hasT baseT) with
        | true => simp [endsT_len]
        | false => simp)
      generalize (spansT baseT l).length = N at *
      have HB3 := Lib.hid (HB2.out.trans (hb.mono HB2.out.size))
      replace HT := Lib.hid (HT.out.below hb (Nat.le_refl _))
      clear hv hb hs3
      go_wp2_with fail
      refine (encode_nil s).mono ?_
      rintro e w4 ⟨rfl, rfl⟩
      go_wp2_with fail
      refine (steps_nil s).mono ?_
      rintro e w4 ⟨rfl, rfl⟩
      go_wp2_with fail
      refine (encode_any HT.out HOK.out _ (by decide)).mono ?_
      rintro e w5 ⟨⟨v, rfl, hv⟩, hb⟩
      rw [encT_base] at hv
      obtain ⟨A5, c5, rfl, hs5⟩ := ints_sl hv
      have HB5 := Lib.hid (HB3.out.trans (hb.mono HB3.out.size))
      replace HT := Lib.hid (HT.out.below hb (Nat.le_refl _))
      have hz : (bysI (ByteArray.mk #[]).data.toList).length = 0 := rfl
      clear hv hb hs5
      rw [hz]
      clear hz
      go_wp2_with fail
      refine (encode_any HT.out HOK.out s (by omega)).mono ?_
      rintro e w6 ⟨⟨v, rfl, hv⟩, hb⟩
      rw [encT_base] at hv
      obtain ⟨A6, c6, rfl, hs6⟩ := ints_sl hv
      have HB6 := Lib.hid (HB5.out.trans (hb.mono HB5.out.size))
      have hz : (bysI s.data.toList).length = s.size := by unfold bysI; rw [List.length_map, dataLen]
      clear hv hb hs6 HT
      rw [hz]
      clear hz
      have hsp := HSP.out
      cases B with
      | true =>
        simp only [if_true] at hsp
        subst hsp
        go_wp2_with fail
        go_ret
        exact ⟨rfl, HB6.out⟩
      | false =>
        simp only [Bool.false_eq_true, if_false] at hsp
        subst hsp
        go_wp2_with fail
        go_ret
        exact ⟨rfl, HB6.out⟩
theorem cnone_law (s : ByteArray) (l : List Int) (A : Option Addr) (c : Nat) (w : World) (_ : s.size ≤ maxLen) (_ : l.length ≤ c) (_ : c ≤ maxLen) (_ : ∀ y ∈ l, (Lit.int .i64 y).wf = true) (hsl : Sl1 w A (Value.int .i64) l) :
    Calls Try.prog 6 #[.string s, .slice A l.length c] w (RetTrue w) := by
  by_cases h1 : s.size ≤ 100
  · by_cases h2 : l.length ≤ 20
    · exact cnone_small s l A c w h1 h2 hsl
    · have h1' : ¬ (100 : Int) < (s.size : Int) := by omega
      have h2' : (20 : Int) < (l.length : Int) := by omega
      go_enter Try.func6, Try.ntmps6
      go_wp2_with fail
      refine (awake5_any _).mono ?_
      rintro e w1 ⟨rfl, hb1⟩
      go_wp2_with fail
      go_ret
      exact ⟨rfl, hb1⟩
  · have h1' : (100 : Int) < (s.size : Int) := by omega
    go_enter Try.func6, Try.ntmps6
    go_wp2_with fail
    refine (awake5_any _).mono ?_
    rintro e w1 ⟨rfl, hb1⟩
    go_wp2_with fail
    go_ret
    exact ⟨rfl, hb1⟩
end Go.Proofs.Ytpkmcokkapfnmaa
