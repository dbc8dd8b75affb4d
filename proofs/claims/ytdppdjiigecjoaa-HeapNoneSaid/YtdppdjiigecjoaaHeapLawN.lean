/- Layer 3 (heap): HeapNone. -/
import Derived.Test.YtdppdjiigecjoaaHeapAwake
import Derived.Test.YtdppdjiigecjoaaOpen
namespace Go.Proofs.Ytdppdjiigecjoaa
open Go.RowKit Go.Maps Go.WideMaps
set_option maxRecDepth 100000
set_option linter.unusedVariables false
set_option linter.unusedSimpArgs false

theorem hpush_nil (r p : Int) (x : ByteArray) (w : World) : Calls Try.prog 42 #[.pointer none, .int .i64 r, .int .i64 p, .string x] w fun e w' => e = .returned (.tuple #[]) ∧ w' = w := by
  go_enter Try.func42, Try.ntmps42
  go_wp2_with fail
  exact bodyPost_ret (results_none rfl _ _ _) rfl ⟨rfl, rfl⟩
theorem hclear_nil (w : World) : Calls Try.prog 43 #[.pointer none] w fun e w' => e = .returned (.tuple #[]) ∧ w' = w := by
  go_enter Try.func43, Try.ntmps43
  go_wp2_with fail
  go_end0
  exact ⟨rfl, rfl⟩
theorem hlen_nil (w : World) : Calls Try.prog 46 #[.pointer none] w fun e w' => e = .returned (.int .i64 0) ∧ w' = w := by
  go_enter Try.func46, Try.ntmps46
  go_wp2_with fail
  go_ret
  exact ⟨rfl, rfl⟩
theorem hpeek_nil (w : World) : Calls Try.prog 45 #[.pointer none] w fun e w' => e = .returned (.tuple #[.string ⟨#[]⟩, .int .i64 0, .int .i64 0, .bool false]) ∧ w' = w := by
  go_enter Try.func45, Try.ntmps45
  go_wp2_with fail
  refine (hlen_nil w).mono ?_
  rintro e w' ⟨rfl, rfl⟩
  go_wp2_with fail
  exact bodyPost_ret (hs.results_tmp4 rfl _ _ _) rfl ⟨rfl, rfl⟩
theorem hpop_nil (w : World) : Calls Try.prog 44 #[.pointer none] w fun e w' => e = .returned (.tuple #[.string ⟨#[]⟩, .int .i64 0, .int .i64 0, .bool false]) ∧ w' = w := by
  go_enter Try.func44, Try.ntmps44
  go_wp2_with fail
  refine (hpeek_nil w).mono ?_
  rintro e w' ⟨rfl, rfl⟩
  go_wp2_with fail
  exact bodyPost_ret (hs.results_tmp4 rfl _ _ _) rfl ⟨rfl, rfl⟩
theorem hdrain_nil (w : World) : Calls Try.prog 47 #[.pointer none] w fun e w' => e = .returned (.slice none 0 0) ∧ w' = w := by
  go_enter Try.func47, Try.ntmps47
  go_wp2_with fail
  go_loopg [3] 0 (fun n u W => u = .slice none 0 0 ∧ W = w)
  case atStart => exact ⟨rfl, rfl⟩
  case round =>
    obtain ⟨rfl, hW⟩ := hrel
    subst hW
    go_wp2_with fail
    refine (hlen_nil _).mono ?_
    rintro e w' ⟨rfl, rfl⟩
    go_wp2_with fail
    go_ret
    exact ⟨rfl, rfl⟩

set_option maxHeartbeats 2000000 in
theorem hnone_law (k r p : Int) (w : World) (_ : (Lit.int .i64 k).wf = true) (_ : (Lit.int .i64 r).wf = true) (_ : (Lit.int .i64 p).wf = true) :
    Calls Try.prog 10 #[.agg #[.int .i64 k, .int .i64 r, .int .i64 p]] w (RetTrue w) := by
  have hb0 := (Below.refl w.heap.size w).alloc (Nat.le_refl _) (.cells #[.int .i64 k, .int .i64 r, .int .i64 p] 65)
  have hn := blk_new w (.cells #[.int .i64 k, .int .i64 r, .int .i64 p] 65)
  have n1 := blk_cell hn 1
  have n2 := blk_cell hn 2
  simp only [List.getElem?_toArray, List.getElem?_cons_zero, List.getElem?_cons_succ] at n1 n2
  have HB := Lib.hid hb0
  clear hb0 hn
  go_enter Try.func10, Try.ntmps10
  go_wp2_with fail
  refine (hpush_nil _ _ _ _).mono ?_
  rintro e w' ⟨rfl, rfl⟩
  go_wp2_with fail
  refine (hclear_nil _).mono ?_
  rintro e w' ⟨rfl, rfl⟩
  go_wp2_with fail
  refine (hpop_nil _).mono ?_
  rintro e w' ⟨rfl, rfl⟩
  go_wp2_with fail
  refine (hpeek_nil _).mono ?_
  rintro e w' ⟨rfl, rfl⟩
  go_wp2_with fail
  refine (hlen_nil _).mono ?_
  rintro e w' ⟨rfl, rfl⟩
  go_wp2_with fail
  refine (hdrain_nil _).mono ?_
  rintro e w' ⟨rfl, rfl⟩
  go_wp2_with fail
  refine (hawake_any _).mono ?_
  rintro e w5 ⟨rfl, hb5⟩
  have HB5 := Lib.hid (HB.out.trans (hb5.mono HB.out.size))
  clear hb5
  go_wp2_with fail
  go_ret
  exact ⟨rfl, HB5.out⟩
end Go.Proofs.Ytdppdjiigecjoaa
