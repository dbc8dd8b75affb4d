/- Layer 4 (token): the document's example. -/
import Derived.Test.YtdppdjiigecjoaaToken5
namespace Go.Proofs.Ytdppdjiigecjoaa
open Go.RowKit Go.Maps Go.WideMaps
set_option maxRecDepth 100000
set_option linter.unusedVariables false
set_option linter.unusedSimpArgs false

def aw0 : List (Int × Int) := [(97, 98), (256, 99)]
def awT1 : List Ent := baseT ++ [([97, 98], 97, 98)]
def awT2 : List Ent := awT1 ++ [([97, 98, 99], 256, 99)]
def awT3 : List Ent := awT2 ++ [([98, 99], 98, 99)]
theorem aw_add1 : addT baseT 97 98 = (256, 0, awT1) := by kernel_rfl
theorem aw_add2 : addT awT1 256 99 = (257, 0, awT2) := by kernel_rfl
theorem aw_add3 : addT awT2 98 99 = (258, 0, awT3) := by kernel_rfl
theorem aw_add4 : (addT awT3 97 258).2.1 = 10 := by kernel_rfl
theorem aw_bytes : bytesT awT2 257 = [97, 98, 99] := by kernel_rfl
theorem aw_has : hasT awT2 257 = true := by kernel_rfl
theorem aw_adds : addsT baseT aw0 = some awT2 := by
  simp only [aw0, addsT, aw_add1, aw_add2, if_true]

set_option maxHeartbeats 2000000 in
theorem awake4_any (w : World) : Calls Try.prog 26 #[] w fun e w' => e = .returned (.bool true) ∧ Below w.heap.size w w' := by
  have hb0 := (Below.refl w.heap.size w).alloc (Nat.le_refl _) (.cells #[.int .i64 97, .int .i64 98, .int .i64 256, .int .i64 99] 52)
  have bn := blk_new w (.cells #[.int .i64 97, .int .i64 98, .int .i64 256, .int .i64 99] 52)
  have HB0 := Lib.hid hb0
  have HSL := Lib.hid (show Sl (w.alloc (.cells #[.int .i64 97, .int .i64 98, .int .i64 256, .int .i64 99] 52)) (some ⟨w.heap.size, 0, none⟩) encM 2 aw0 from by
    intro i x hx
    refine ⟨_, _, rfl, fun j v hv => ?_⟩
    rw [blk_cell bn]
    match i, j, hx, hv with
    | 0, 0, hx, hv => simp [aw0] at hx; subst hx; simpa [encM] using hv
    | 0, 1, hx, hv => simp [aw0] at hx; subst hx; simpa [encM] using hv
    | 1, 0, hx, hv => simp [aw0] at hx; subst hx; simpa [encM] using hv
    | 1, 1, hx, hv => simp [aw0] at hx; subst hx; simpa [encM] using hv
    | 0, j + 2, hx, hv => simp [aw0] at hx; subst hx; simp [encM] at hv
    | 1, j + 2, hx, hv => simp [aw0] at hx; subst hx; simp [encM] at hv
    | i + 2, j, hx, hv => simp [aw0] at hx)
  clear hb0 bn
  go_enter Try.func26, Try.ntmps26
  go_wp2_with fail
  generalize w.alloc (.cells #[.int .i64 97, .int .i64 98, .int .i64 256, .int .i64 99] 52) = w1 at *
  refine (new_any aw0 _ 2 w1 HSL.out (by decide)).mono ?_
  rintro e w2 ⟨hb2, (⟨T, tb, sv, mb, mp, rfl, ha, hok, ht⟩ | ⟨k, hk, T, ha, hok, he, rfl⟩)⟩
  · rw [aw_adds] at ha
    cases ha
    have HB2 := Lib.hid (HB0.out.trans (hb2.mono HB0.out.size))
    have HOK := Lib.hid hok
    have HT := Lib.hid ht
    have HB := Lib.hid (bytes_tab 257 ht)
    rw [aw_bytes, aw_has] at HB
    have HSZ := Lib.hid hb2.size
    clear hok ht hb2 HSL
    go_wp2_with fail
    refine HB.out.mono ?_
    rintro e w' ⟨rfl, rfl⟩
    clear HB
    go_wp2_with fail
    refine (add_ok 98 99 HT.out HOK.out (by rw [aw_add3]) HSZ.out).mono ?_
    rintro e w3 ⟨rfl, had⟩
    obtain ⟨sv', ht3, _⟩ := had.ex
    have hok3 := okT_add HOK.out 98 99 (by rw [aw_add3])
    have hb3 := had.keep.below HSZ.out (fun g hg => by
          rcases hg with rfl | hg | rfl | rfl
          · exact HT.out.lt.1
          · exact own_base HT.out.row g hg
          · exact HT.out.lt.2.1
          · exact HT.out.lt.2.2)
    rw [aw_add3] at ht3 hok3
    have HT3 := Lib.hid ht3
    have HOK3 := Lib.hid hok3
    have HB3 := Lib.hid (HB2.out.trans (hb3.mono HB0.out.size))
    rw [aw_add3]
    clear ht3 hok3 hb3 had
    go_wp2_with fail
    refine (add_err 97 258 HT3.out HOK3.out (by rw [aw_add4]; decide)).mono ?_
    rintro e w4 ⟨rfl, hb4⟩
    have HB4 := Lib.hid (HB3.out.trans (hb4.mono HB3.out.size))
    rw [aw_add4]
    clear hb4
    unfold strV bs
    go_wp2_with fail
    go_ret
    exact ⟨rfl, HB4.out⟩
  · exfalso
    have hk2 : k < 2 := hk
    match k, hk2, hk, ha, he with
    | 0, _, hk, ha, he =>
      simp only [aw0, List.take_zero, addsT, Option.some.injEq] at ha
      subst ha
      exact he (by simp only [aw0, List.getElem_cons_zero, aw_add1])
    | 1, _, hk, ha, he =>
      simp only [aw0, List.take_succ_cons, List.take_zero, addsT, aw_add1, if_true, Option.some.injEq] at ha
      subst ha
      exact he (by simp only [aw0, List.getElem_cons_zero, List.getElem_cons_succ, aw_add2])
end Go.Proofs.Ytdppdjiigecjoaa
