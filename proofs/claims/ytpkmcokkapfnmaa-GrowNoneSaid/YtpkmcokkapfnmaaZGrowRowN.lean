/- GrowNone returns true for every number, and its argument read afterwards is as before. -/
import Derived.Test.YtpkmcokkapfnmaaZ4
import Derived.Test.YtpkmcokkapfnmaaRows
import Derived.WalkKit
import Derived.ProofKit
import Derived.OpenShut
import Derived.ShutString
import Derived.ChangeOld
import Derived.Below
import Derived.Lib.SmallJoins
/- Layer 7 (grow): GrowNone. -/
namespace Go.Proofs.Ytpkmcokkapfnmaa
open Go.RowKit Go.Maps Go.WideMaps
set_option maxRecDepth 100000
set_option linter.unusedVariables false
set_option linter.unusedSimpArgs false

theorem plain_base : plainT baseT = true := by
  unfold plainT
  rw [expT_base]
  simp [impsT]
set_option maxHeartbeats 4000000 in
theorem gnone_law (n : Int) (w : World) (_ : (Lit.int .u8 n).wf = true) :
    Calls Try.prog 10 #[.int .u8 n] w (RetTrue w) := by
  go_enter Try.func10, Try.ntmps10
  go_wp2_with fail
  refine (import_any [] none 0 w (Sl1.nil _ _ _) (by decide) (by simp)).mono ?_
  rintro e w1 ⟨hb, (⟨T, tb, sv, mb, mp, rfl, ha, hok, ht⟩ | ⟨k, hk, _⟩)⟩
  · simp only [impsT, Option.some.injEq] at ha
    subst ha
    have HB := Lib.hid hb
    have HT := Lib.hid ht
    have HOK := Lib.hid hok
    have HL0 : Hid (((([] : List (List UInt8)).length : Nat) : Int) = 0) := Lib.hid rfl
    rw [HL0.out]
    clear hb ht hok HL0
    go_wp2_with fail
    refine (len_tab HT.out).mono ?_
    rintro e w2 ⟨rfl, rfl⟩
    have HL1 : Hid (((baseT.length : Nat) : Int) = 256) := Lib.hid (by rw [base_len]; rfl)
    rw [HL1.out]
    go_wp2_with fail
    refine (plain_any HT.out HOK.out).mono ?_
    rintro e w3 ⟨rfl, hb⟩
    rw [plain_base]
    have HB3 := Lib.hid (HB.out.trans (hb.mono HB.out.size))
    clear hb
    go_wp2_with fail
    refine (plain_nil w3).mono ?_
    rintro e w4 ⟨rfl, rfl⟩
    go_wp2_with fail
    refine (export_nil w4).mono ?_
    rintro e w5 ⟨rfl, rfl⟩
    go_wp2_with fail
    refine (awake7_any _).mono ?_
    rintro e w6 ⟨rfl, hb⟩
    have HB6 := Lib.hid (HB3.out.trans (hb.mono HB3.out.size))
    clear hb
    go_wp2_with fail
    go_ret
    exact ⟨rfl, HB6.out⟩
  · exact absurd hk (by simp)
end Go.Proofs.Ytpkmcokkapfnmaa
/- GrowNone returns true for every number, and its argument read afterwards is as before. -/
namespace Go.Proofs.Ytpkmcokkapfnmaa.growNone
open Go.ChangeShapes Go.WideShapes Go.ChangeAt Go.RowKit Go.Joins
open Go.ChangeMaps (open_string shut_string)
set_option linter.unusedVariables false

theorem own : ownKnob Try.prog.godebug = none := by kernel_rfl
theorem laidOut : laidOutB Try.prog = true := by kernel_rfl

set_option maxRecDepth 100000 in
theorem lifted (os : Os) (started : os.Started) (H : Type) (enc : TypeId × Value → H) :
    ReturnsInHanded {} Try.checked os 10 .any (Rows.growNoneSpec.pre6 enc Try.prog Try.f10 Rows.growNoneRow.domain false) (Rows.growNoneSpec.post enc Try.prog Try.f10 false true false false) := by
  refine returnsInHanded_of_change (C := Try.checked) own started (by kernel_rfl) Try.func10
    (ChangeSpec.witness6 (enc := enc) (C := Try.checked) false ⟨#[], #[.int .u8 0], []⟩ 8 (by kernel_rfl) (by kernel_rfl) (by kernel_rfl) (by kernel_rfl)) ?_
  intro W base args ds gs before hval0 hW hcnd _
  have hval : ∀ (j : Nat) t v, Try.f10.params[j]? = some t → args[j]? = some v → Value.okWide Try.prog W .any base t v := hval0
  have hW' := hW
  obtain ⟨p, q, hA0, hV, rfl, hfz, hnd⟩ := hW
  have hA : DataW.TrodAll enc Try.prog W 0 (fun _ => true) true Try.f10.params.toList args.toList ds p := hA0
  rw [Try.params10] at hA hval
  obtain ⟨v0, vs0, d0, ds0, p0, q0, hargs, rfl, rfl, h0, r0⟩ := trodAll_cons hA
  obtain ⟨rfl, rfl, rfl⟩ := trodAll_nil r0
  obtain rfl : args = #[v0] := by cases args; simp_all
  obtain ⟨rfl, rfl⟩ := trodVars_none hV
  obtain ⟨a0, rfl, rfl, rfl, w0⟩ := open_int Try.underlying5 (hval 0 5 v0 rfl rfl) h0
  clear hA0 hval0
  refine (gnone_law a0 W w0).mono fun e W' ⟨he, bel⟩ => ?_
  subst he
  exact ⟨_, rfl, _, _, _, [], _, [], hW', trodAll_mk1 (shut_bool Try.underlying4 _), (trodAll_cons_mk (shut_int Try.underlying5 w0) trodAll_mk0), rfl, bel.frame _, fun h => by cases h⟩

theorem over : Rows.growNoneRow.holds Try.pinned (OpenSpec.ofChange Rows.growNoneSpec) :=
  OpenClaim.holds_of_wide 10 Try.f10 rfl rfl rfl rfl rfl rfl rfl ⟨rfl, rfl, rfl, rfl, rfl⟩ rfl rfl rfl rfl rfl (by kernel_rfl) Try.func10 (by kernel_rfl)
    (of_decide_eq_true (by kernel_rfl)) (by unfold Func.isWrapper; first | (rw [if_pos (by decide +kernel)]; kernel_rfl) | (rw [if_neg (by decide +kernel)]; exact ⟨rfl, rfl⟩))
    (fun os started H enc _ => lifted os started H enc)
end Go.Proofs.Ytpkmcokkapfnmaa.growNone
namespace Go.Proofs.Ytpkmcokkapfnmaa
theorem growNone_holds : Rows.GrowNoneSaid := growNone.over
#print axioms growNone_holds
end Go.Proofs.Ytpkmcokkapfnmaa
