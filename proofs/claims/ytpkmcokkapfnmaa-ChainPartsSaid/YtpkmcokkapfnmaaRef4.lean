/- Layer 4 (token): the document's answer: Add, where it adds nothing. -/
import Derived.Test.YtpkmcokkapfnmaaRef3
namespace Go.Proofs.Ytpkmcokkapfnmaa
open Go.RowKit Go.Maps Go.WideMaps
set_option maxRecDepth 100000
set_option linter.unusedVariables false
set_option linter.unusedSimpArgs false

/-- what the document's Add answers -/
def RAddOk (w : World) (base : Nat) (T : List Ent) (a b : Int) (e : Ending) (w' : World) : Prop :=
  Below w.heap.size w w' ∧ ∃ A' n' c' A2' m' c2', e = .returned (.tuple #[.agg #[.slice A' n' c', .slice A2' m' c2'], .int .i64 (addT T a b).2.1]) ∧ RefIs w' base (addT T a b).2.2 (.slice A' n' c') (.slice A2' m' c2')
theorem RAdd.err {w W : World} {base : Nat} {T : List Ent} {A : Option Addr} {c : Nat} {A2 : Option Addr} {c2 : Nat} {a b : Int} {r0 r1 r2 : Nat} (h : RAdd w W base T A c A2 c2 a b r0 r1 r2) {x : Int} (hx : addT T a b = (0, x, T)) :
    RAddOk w base T a b (.returned (.tuple #[.agg #[.slice A T.length c, .slice A2 (mrgsT T).length c2], .int .i64 x])) ((W.setCell ⟨r2, 0, none⟩ (.slice A T.length c)).setCell ⟨r2, 1, none⟩ (.slice A2 (mrgsT T).length c2)) :=
  ⟨h.same.2.1, _, _, _, _, _, _, by rw [hx], by rw [hx]; exact h.same.2.2⟩

set_option maxHeartbeats 2000000 in
theorem radd_err {w : World} {base : Nat} {T : List Ent} {A : Option Addr} {c : Nat} {A2 : Option Addr} {c2 : Nat} (a b : Int) (h : RefIs w base T (.slice A T.length c) (.slice A2 (mrgsT T).length c2)) (hT : OkT T) (he : (addT T a b).2.1 ≠ 0) :
    Calls Try.prog 49 #[.agg #[.slice A T.length c, .slice A2 (mrgsT T).length c2], .agg #[.int .i64 a, .int .i64 b]] w (RAddOk w base T a b) := by
  have HS := Lib.hid (radd_start a b h)
  have HOK := Lib.hid hT
  have HE := Lib.hid he
  obtain ⟨t0, t1, m0, m1, _, _, _, _⟩ := HS.out.cells
  clear h hT he
  go_enter Try.func49, Try.ntmps49
  go_wp2_with fail
  generalize hW : ((w.alloc (.cells #[.slice A T.length c, .slice A2 (mrgsT T).length c2] 28)).alloc (.cells #[.int .i64 a, .int .i64 b] 71)).alloc (.cells #[.slice none 0 0, .slice none 0 0] 28) = W at *
  clear hW
  obtain ⟨r2, hr2⟩ : ∃ r2, w.heap.size + 1 + 1 = r2 := ⟨_, rfl⟩
  obtain ⟨r1, hr1⟩ : ∃ r1, w.heap.size + 1 = r1 := ⟨_, rfl⟩
  obtain ⟨r0, hr0⟩ : ∃ r0, w.heap.size = r0 := ⟨_, rfl⟩
  have HS1 : Hid (RAdd w W base T A c A2 c2 a b r0 r1 r2) := Lib.hid (by rw [← hr2, ← hr1, ← hr0]; exact HS.out)
  rw [hr2, hr1, hr0]
  clear HS hr2 hr1 hr0 t0 t1 m0 m1
  refine (rhas_any a HS1.out.ref).mono ?_
  rintro e W1 ⟨rfl, hb1⟩
  have HS2 := Lib.hid (HS1.out.step hb1)
  obtain ⟨t0, t1, m0, m1, d0, d1, z0, z1⟩ := HS2.out.cells
  clear hb1 HS1
  cases ha : hasT T a with
  | false =>
    go_wp2_with fail
    refine ret_ref (r := r2) rfl rfl rfl HS2.out.same.1 (HS2.out.err (x := 4) ?_)
    simp [addT, ha]
  | true =>
    have HA := Lib.hid ha
    clear ha
    go_wp2_with fail
    refine (rhas_any b HS2.out.ref).mono ?_
    rintro e W2 ⟨rfl, hb2⟩
    have HS3 := Lib.hid (HS2.out.step hb2)
    clear t0 t1 m0 m1 d0 d1 z0 z1 hb2 HS2
    obtain ⟨t0, t1, m0, m1, d0, d1, z0, z1⟩ := HS3.out.cells
    cases hb : hasT T b with
    | false =>
      go_wp2_with fail
      refine ret_ref (r := r2) rfl rfl rfl HS3.out.same.1 (HS3.out.err (x := 4) ?_)
      simp [addT, hb]
    | true =>
      have HAB := Lib.hid hb
      obtain ⟨k, rfl, hk, ek⟩ := hasT_at HA.out
      obtain ⟨l, rfl, hl, el⟩ := hasT_at hb
      obtain ⟨ba, o, rfl, g0⟩ := (own_sl1 HS3.out.ref.row).at k (by simpa [bytsT] using hk)
      obtain ⟨ba', o', e', g1⟩ := (own_sl1 HS3.out.ref.row).at l (by simpa [bytsT] using hl)
      cases e'
      simp only [bytsT, List.getElem_map, strV] at g0 g1
      have hX := HOK.out.len T[k] (List.getElem_mem hk)
      have hY := HOK.out.len T[l] (List.getElem_mem hl)
      have EK := Lib.hid ek
      have EL := Lib.hid el
      have HSM := Lib.hid HOK.out.small
      obtain ⟨X, hXe⟩ : ∃ X, T[k].1 = X := ⟨_, rfl⟩
      obtain ⟨Y, hYe⟩ : ∃ Y, T[l].1 = Y := ⟨_, rfl⟩
      rw [hXe] at g0 hX
      rw [hYe] at g1 hY
      have HXE := Lib.hid hXe
      have HYE := Lib.hid hYe
      have hbig : (9223372036854775807 < (bs X).size + (bs Y).size) = False := by rw [eq_iff_iff, iff_false, bs_size, bs_size]; omega
      have HX := Lib.hid hX
      have HY := Lib.hid hY
      have q0 : 0 ≤ (k : Int) := by omega
      have q1 : (k : Int) < (T.length : Int) := by omega
      have q2 : 0 ≤ (l : Int) := by omega
      have q3 : (l : Int) < (T.length : Int) := by omega
      clear hb ek el hXe hYe hX hY
      go_wp2_with fail
      go_quiet (fail)
      rw [bs_append]
      obtain ⟨z, hz⟩ : ∃ z, bs (X ++ Y) = z := ⟨_, rfl⟩
      have hzs : z.size = (X ++ Y).length := by rw [← hz, bs_size]
      have HZ := Lib.hid hz
      have HZS := Lib.hid hzs
      rw [hz]
      clear hz hbig g0 g1 q0 q1 q2 q3 hzs
      have HS4 := Lib.hid (HS3.out.drewN nq)
      clear t0 t1 m0 m1 d0 d1 z0 z1 HS3
      generalize W2.drewN nq = W3 at *
      obtain ⟨t0, t1, m0, m1, d0, d1, z0, z1⟩ := HS4.out.cells
      by_cases h64 : (64 : Int) < (z.size : Int)
      · go_wp2_with fail
        refine ret_ref (r := r2) rfl rfl rfl HS4.out.same.1 (HS4.out.err (x := 3) ?_)
        exact addT_long HA.out HAB.out (by rw [EK.out, HXE.out]) (by rw [EL.out, HYE.out]) (by have := HZS.out; omega)
      · by_cases h1000 : (1000 : Int) ≤ (T.length : Int)
        · go_wp2_with fail
          refine ret_ref (r := r2) rfl rfl rfl HS4.out.same.1 (HS4.out.err (x := 5) ?_)
          exact addT_full HA.out HAB.out (by rw [EK.out, HXE.out]) (by rw [EL.out, HYE.out]) (by have := HZS.out; omega) (by omega)
        · have HRF := Lib.hid (rfind_any (X ++ Y) HS4.out.ref HSM.out)
          unfold strV at HRF
          rw [HZ.out] at HRF
          go_wp2_with fail
          refine HRF.out.mono ?_
          rintro e W4 ⟨rfl, hb4⟩
          have HS5 := Lib.hid (HS4.out.step hb4)
          clear t0 t1 m0 m1 d0 d1 z0 z1 HS4 HRF hb4
          obtain ⟨t0, t1, m0, m1, d0, d1, z0, z1⟩ := HS5.out.cells
          cases hf : findT T (X ++ Y) with
          | none =>
            exfalso
            have := HE.out
            rw [addT_ok HA.out HAB.out (by rw [EK.out, HXE.out]) (by rw [EL.out, HYE.out]) (by have := HZS.out; omega) (by omega) (by rw [hf]; rfl)] at this
            exact this rfl
          | some i =>
            have hi : findI T (X ++ Y) = (i : Int) := by unfold findI; rw [hf]
            rw [hi]
            have HF := Lib.hid hf
            have h0i : 0 ≤ (i : Int) := by omega
            clear hf hi
            go_wp2_with fail
            refine ret_ref (r := r2) rfl rfl rfl HS5.out.same.1 (HS5.out.err (x := 10) ?_)
            exact addT_twice HA.out HAB.out (by rw [EK.out, HXE.out]) (by rw [EL.out, HYE.out]) (by have := HZS.out; omega) (by omega) (by rw [HF.out]; rfl)
end Go.Proofs.Ytpkmcokkapfnmaa
