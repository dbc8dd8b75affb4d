/- Layer 4 (token): TokenNone. -/
import Derived.Test.YtdppdjiigecjoaaTokenAwake
import Derived.Test.YtdppdjiigecjoaaOpen
namespace Go.Proofs.Ytdppdjiigecjoaa
open Go.RowKit Go.Maps Go.WideMaps
set_option maxRecDepth 100000
set_option linter.unusedVariables false
set_option linter.unusedSimpArgs false

theorem merges_nil (w : World) : Calls Try.prog 58 #[.pointer none] w fun e w' => e = .returned (.slice none 0 0) ∧ w' = w := by
  go_enter Try.func58, Try.ntmps58
  go_wp2
  go_ret
  exact ⟨rfl, rfl⟩

set_option maxHeartbeats 2000000 in
theorem tnone_small (a b : Int) (s : ByteArray) (w : World) (hs : s.size ≤ 100) : Calls Try.prog 13 #[.agg #[.int .i64 a, .int .i64 b], .string s] w (RetTrue w) := by
  have hb0 := (Below.refl w.heap.size w).alloc (Nat.le_refl _) (.cells #[.int .i64 a, .int .i64 b] 52)
  have HN0 := Lib.hid (blk_new w (.cells #[.int .i64 a, .int .i64 b] 52))
  have HB0 := Lib.hid hb0
  have h100 : ¬ (100 : Int) < (s.size : Int) := by omega
  clear hb0
  go_enter Try.func13, Try.ntmps13
  go_wp2_with fail
  generalize w.alloc (.cells #[.int .i64 a, .int .i64 b] 52) = w0 at *
  refine (add_nil a b w0).mono ?_
  rintro e w1 ⟨rfl, hb1⟩
  have hn1 := blk_below hb1 (blk_lt HN0.out) HN0.out
  have HN1 := Lib.hid hn1
  have HB1 := Lib.hid (HB0.out.trans (hb1.mono HB0.out.size))
  have n0 := blk_cell hn1 0
  have n1 := blk_cell hn1 1
  simp only [List.getElem?_toArray, List.getElem?_cons_zero, List.getElem?_cons_succ] at n0 n1
  clear hb1 hn1
  go_wp2_with fail
  refine (bytes_nil a w1).mono ?_
  rintro e w' ⟨rfl, rfl⟩
  go_wp2_with fail
  refine (find_nil s _).mono ?_
  rintro e w' ⟨rfl, rfl⟩
  go_wp2_with fail
  refine (par_nil a _).mono ?_
  rintro e w2 ⟨rfl, hb2⟩
  have hn2 := blk_below hb2 (blk_lt HN1.out) HN1.out
  have HN2 := Lib.hid hn2
  have HB2 := Lib.hid (HB1.out.trans (hb2.mono HB1.out.size))
  unfold pairV
  clear hb2 hn2 n0 n1
  go_upto_region 8 with fail
  have hb3 := (Below.refl w2.heap.size w2).alloc (Nat.le_refl _) (.cells #[.int .i64 0, .int .i64 0] 52)
  have hn3 := blk_below hb3 (blk_lt HN2.out) HN2.out
  have HB3 := Lib.hid (HB2.out.trans (hb3.mono HB2.out.size))
  have n0 := blk_cell hn3 0
  have n1 := blk_cell hn3 1
  simp only [List.getElem?_toArray, List.getElem?_cons_zero, List.getElem?_cons_succ] at n0 n1
  clear hb3 hn3
  generalize w2.alloc (.cells #[.int .i64 0, .int .i64 0] 52) = w3 at *
  go_wp2_with fail
  refine (pair_nil a b _).mono ?_
  rintro e w' ⟨rfl, rfl⟩
  go_wp2_with fail
  refine (len_nil _).mono ?_
  rintro e w' ⟨rfl, rfl⟩
  go_wp2_with fail
  refine (longest_nil _).mono ?_
  rintro e w' ⟨rfl, rfl⟩
  go_wp2_with fail
  refine (merges_nil _).mono ?_
  rintro e w' ⟨rfl, rfl⟩
  go_wp2_with fail
  refine (awake4_any _).mono ?_
  rintro e w5 ⟨rfl, hb5⟩
  have HB5 := Lib.hid (HB3.out.trans (hb5.mono HB3.out.size))
  clear hb5
  go_wp2_with fail
  go_ret
  exact ⟨by simp, HB5.out⟩

theorem tnone_any (a b : Int) (s : ByteArray) (w : World) : Calls Try.prog 13 #[.agg #[.int .i64 a, .int .i64 b], .string s] w (RetTrue w) := by
  by_cases hs : s.size ≤ 100
  · exact tnone_small a b s w hs
  · have h1 : (100 : Int) < (s.size : Int) := by omega
    have HB0 := Lib.hid ((Below.refl w.heap.size w).alloc (Nat.le_refl _) (.cells #[.int .i64 a, .int .i64 b] 52))
    go_enter Try.func13, Try.ntmps13
    go_wp2_with fail
    refine (awake4_any _).mono ?_
    rintro e w1 ⟨rfl, hb1⟩
    have HB1 := Lib.hid (HB0.out.trans (hb1.mono HB0.out.size))
    clear hb1
    go_wp2_with fail
    go_ret
    exact ⟨by simp, HB1.out⟩
theorem tnone_law (a b : Int) (s : ByteArray) (w : World) (_ : (Lit.int .i64 a).wf = true) (_ : (Lit.int .i64 b).wf = true) (_ : s.size ≤ maxLen) :
    Calls Try.prog 13 #[.agg #[.int .i64 a, .int .i64 b], .string s] w (RetTrue w) := tnone_any a b s w
end Go.Proofs.Ytdppdjiigecjoaa
