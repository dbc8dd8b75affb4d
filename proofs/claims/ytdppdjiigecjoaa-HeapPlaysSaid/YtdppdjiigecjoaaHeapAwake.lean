/- Layer 3 (heap): the document's example. -/
import Derived.Test.YtdppdjiigecjoaaHeapS6
namespace Go.Proofs.Ytdppdjiigecjoaa
open Go.RowKit Go.Maps Go.WideMaps
set_option maxRecDepth 100000
set_option linter.unusedVariables false
set_option linter.unusedSimpArgs false

def awX : Th ByteArray := ⟨5, 1, 0, ⟨#[120]⟩⟩
def awY : Th ByteArray := ⟨3, 9, 1, ⟨#[121]⟩⟩
def awZ : Th ByteArray := ⟨3, 2, 2, ⟨#[122]⟩⟩
theorem aw_push1 : pushT [] awX = [awX] := by simp [pushT, upT]
theorem aw_push2 : pushT [awX] awY = [awY, awX] := by simp [pushT, upT, awX, awY, ltB, swapT]
theorem aw_push3 : pushT [awY, awX] awZ = [awZ, awX, awY] := by simp [pushT, upT, awX, awY, awZ, ltB, swapT]
theorem aw_pop1 : popT [awZ, awX, awY] = [awY, awX] := by
  unfold popT
  simp [swapT]
  rw [downT]
  simp [leastT, lstT, awX, awY, awZ, ltB]
theorem aw_pop2 : (popT [awY, awX]).length = 1 := by rw [pop_len]; rfl

set_option maxHeartbeats 2000000 in
theorem hawake_any (w : World) : Calls Try.prog 33 #[] w fun e w' => e = .returned (.bool true) ∧ Below w.heap.size w w' := by
  go_enter Try.func33, Try.ntmps33
  go_wp2_with fail
  refine (hs.new_any w).mono ?_
  rintro e w1 ⟨rfl, h1, hb1⟩
  have H1 := Lib.hid h1
  have HB1 := Lib.hid hb1
  clear h1 hb1
  obtain ⟨hb, hhb⟩ : ∃ hb, w.heap.size = hb := ⟨_, rfl⟩
  have HHB := Lib.hid hhb
  rw [hhb] at H1 ⊢
  clear hhb
  go_wp2_with fail
  refine (hs.push_any H1.out 5 1 ⟨#[120]⟩ (by simp) (by omega) (by omega) (by rw [← HHB.out]; exact HB1.out.size)).mono ?_
  rintro e w2 ⟨rfl, ⟨A2, c2, h2, _⟩, hk2⟩
  rw [show pushT [] (⟨5, 1, 0, ⟨#[120]⟩⟩ : Th ByteArray) = [awX] from aw_push1] at h2
  have HB2 := Lib.hid (HB1.out.trans (hk2.below HB1.out.size (by rw [HHB.out]; exact H1.out.base)))
  have H2 := Lib.hid h2
  clear h2 hk2 H1
  go_wp2_with fail
  refine (hs.push_any H2.out 3 9 ⟨#[121]⟩ (by simp) (by omega) (by omega) (by rw [← HHB.out]; exact HB2.out.size)).mono ?_
  rintro e w3 ⟨rfl, ⟨A3, c3, h3, _⟩, hk3⟩
  rw [show pushT [awX] (⟨3, 9, 0 + 1, ⟨#[121]⟩⟩ : Th ByteArray) = [awY, awX] from aw_push2] at h3
  have HB3 := Lib.hid (HB2.out.trans (hk3.below HB2.out.size (by rw [HHB.out]; exact H2.out.base)))
  have H3 := Lib.hid h3
  clear h3 hk3 H2
  go_wp2_with fail
  refine (hs.push_any H3.out 3 2 ⟨#[122]⟩ (by simp) (by omega) (by omega) (by rw [← HHB.out]; exact HB3.out.size)).mono ?_
  rintro e w4 ⟨rfl, ⟨A4, c4, h4, _⟩, hk4⟩
  rw [show pushT [awY, awX] (⟨3, 2, 0 + 1 + 1, ⟨#[122]⟩⟩ : Th ByteArray) = [awZ, awX, awY] from aw_push3] at h4
  have HB4 := Lib.hid (HB3.out.trans (hk4.below HB3.out.size (by rw [HHB.out]; exact H3.out.base)))
  have H4 := Lib.hid h4
  clear h4 hk4 H3
  go_wp2_with fail
  refine (hs.pop_h H4.out (by simp) (by simp)).mono ?_
  rintro e w5 ⟨rfl, h5, hk5⟩
  rw [aw_pop1] at h5
  have HB5 := Lib.hid (HB4.out.trans (hk5.below HB4.out.size (by rw [HHB.out]; exact H4.out.base)))
  have H5 := Lib.hid h5
  clear h5 hk5 H4
  go_wp2_with fail
  refine (hs.pop_h H5.out (by simp) (by simp)).mono ?_
  rintro e w6 ⟨rfl, h6, hk6⟩
  have HB6 := Lib.hid (HB5.out.trans (hk6.below HB5.out.size (by rw [HHB.out]; exact H5.out.base)))
  have HL := Lib.hid (hs.len_h h6)
  rw [aw_pop2] at HL
  clear h6 hk6 H5
  show _
  simp only [List.getElem_cons_zero, awX, awY, awZ]
  go_wp2_with fail
  refine HL.out.mono ?_
  rintro e w' ⟨rfl, rfl⟩
  go_wp2_with fail
  go_ret
  exact ⟨rfl, HB6.out⟩
end Go.Proofs.Ytdppdjiigecjoaa
