/- Layer 1 (nat), the document's answer: Of, Small, Compare. -/
import Derived.Test.YtnfehhblmoliaaaNatF
namespace Go.Proofs.Ytnfehhblmoliaaa
open Go.RowKit Go.Maps Go.WideMaps
set_option maxRecDepth 100000
set_option linter.unusedVariables false
set_option linter.unusedSimpArgs false

theorem dec_len (l : List Nat) (h : ∀ x ∈ l, x < B32) : ∀ z, z ≤ vl B32 l → (dg 10 z).length ≤ 10 * l.length := by
  intro z hz
  have h1 := Nat.lt_of_le_of_lt hz (vl_lt (b := B32) (by decide) h)
  have h2 : B32 ^ l.length ≤ 10 ^ (10 * l.length) := by
    rw [Nat.pow_mul]
    exact Nat.pow_le_pow_left (by decide) _
  exact dg_len_le (by decide) (Nat.lt_of_lt_of_le h1 h2)
set_option maxHeartbeats 4000000 in
theorem rof_any (l : List Nat) (A : Option Addr) (c : Nat) (w : World) (h : Sl1 w A u32V l) (hb : ∀ x ∈ l, x < B32) (hlen : l.length ≤ 1000) :
    Calls Try.prog 14 #[.slice A l.length c] w fun e w' => ∃ v, e = .returned v ∧ DecIs w' v (vl B32 l) ∧ Below w.heap.size w w' := by
  have HL := Lib.hid h
  have HX := Lib.hid hb
  clear h hb
  have wl : IntKind.i64.wrap ((l.length : Int) - 1) = (l.length : Int) - 1 := IntWalk.i64_in _ (by omega)
  go_enter Try.func14, Try.ntmps14
  go_wp2_with fail
  clear wl
  go_loopg [3, 4] l.length (fun m v3 v4 W => ∃ (j : Nat) (i : Int), j = m ∧ v4 = .int .i64 i ∧ i = (j : Int) - 1 ∧ j ≤ l.length ∧ DecIs W v3 (vl B32 (l.drop j)) ∧ Below w.heap.size w W)
  case atStart => exact ⟨l.length, _, rfl, rfl, rfl, Nat.le_refl _, by rw [List.drop_length]; exact DecIs.zero _, Below.refl _ _⟩
  case round =>
    obtain ⟨j, i, rfl, rfl, hi, hj, hD, hB⟩ := hrel
    rename World => W
    have HD := Lib.hid hD
    have HB := Lib.hid hB
    clear hD hB
    rcases Nat.eq_zero_or_pos j with rfl | hj0
    · obtain rfl : i = -1 := by omega
      clear hi
      rw [List.drop_zero] at HD
      go_wp2_with fail
      go_ret
      exact ⟨_, rfl, HD.out, HB.out⟩
    · obtain ⟨q, rfl⟩ : ∃ q, j = q + 1 := ⟨j - 1, by omega⟩
      obtain rfl : i = (q : Int) := by omega
      clear hi
      have q0 : (0 : Int) ≤ (q : Int) := by omega
      have q1 : (q : Int) < (l.length : Int) := by omega
      have hq1 : q < l.length := by omega
      obtain ⟨b1, o1, rfl, hcc1⟩ := HL.out.at q hq1
      have hcc := below_cell HB.out (Nat.le_refl _) hcc1
      have hdrop := vl_drop B32 l q hq1
      rw [atL_get hq1] at hdrop
      have hx : l[q] < 4294967296 := HX.out _ (List.getElem_mem _)
      generalize l[q] = x at *
      unfold u32V at hcc
      have wx : IntKind.u64.wrap (x : Int) = (x : Int) := IntWalk.u64_in _ (by omega)
      have hdl := dec_len (l.drop (q + 1)) (fun y hy => HX.out y (List.mem_of_mem_drop hy)) _ (Nat.le_refl _)
      have HDL : Hid ((dg 10 (vl B32 (l.drop (q + 1)))).length ≤ 1000000000) := Lib.hid (by rw [List.length_drop] at hdl; omega)
      have HDR := Lib.hid hdrop
      have wq : IntKind.i64.wrap ((q : Int) - 1) = (q : Int) - 1 := IntWalk.i64_in _ (by omega)
      clear hcc1 hdrop hdl
      obtain ⟨acc, hacc⟩ : ∃ acc, vl B32 (l.drop (q + 1)) = acc := ⟨_, rfl⟩
      rw [hacc] at HD HDL HDR
      clear hacc
      go_wp2_with fail
      refine (rtimes_any _ acc 4294967296 x W HD.out (by omega) (by omega) HDL.out).mono ?_
      rintro e w3 ⟨v3, rfl, hn3, hb3⟩
      have HN3 : Hid (DecIs w3 v3 (vl B32 (l.drop q))) := Lib.hid (by rw [HDR.out]; exact hn3)
      have HB3 := Lib.hid (HB.out.trans (hb3.mono HB.out.size))
      clear hn3 hb3
      go_wp2_with fail
      go_roundg q
      case measure => omega
      case rel => exact ⟨q, _, rfl, rfl, rfl, by omega, HN3.out, HB3.out⟩

structure SmIs (w W : World) (n : Nat) (out : List Nat) (A : Option Addr) (c m : Nat) : Prop where
  row : W.ownsRow w.heap.size 5 1 (.slice A out.length c) out.length (out.map u8V)
  below : Below w.heap.size w W
  val : dg 10 n = out ++ dg 10 m
  le : m ≤ n
set_option maxHeartbeats 4000000 in
theorem small_any (n : Nat) (w : World) (hn : n < 18446744073709551616) :
    Calls Try.prog 23 #[.int .u64 (n : Int)] w fun e w' => ∃ v, e = .returned v ∧ DecIs w' v n ∧ Below w.heap.size w w' := by
  have HI : Hid (SmIs w w n [] none 0 n) := Lib.hid ⟨own_nil _ _ _ _, Below.refl _ _, rfl, Nat.le_refl _⟩
  have HL : Hid ((dg 10 n).length ≤ 20) := Lib.hid (dg_len_le (by decide) (Nat.lt_trans hn (by decide)))
  go_enter Try.func23, Try.ntmps23
  go_wp2_with fail
  go_loopg [0, 3] n (fun ms v0 v3 W => ∃ (m : Nat) (out : List Nat) (A : Option Addr) (c : Nat), m = ms ∧ v0 = .int .u64 (m : Int) ∧ v3 = .slice A out.length c ∧ SmIs w W n out A c m)
  case atStart => exact ⟨n, [], none, 0, rfl, rfl, rfl, HI.out⟩
  case round =>
    obtain ⟨m, out, A, c, rfl, rfl, rfl, hW⟩ := hrel
    rename World => W
    clear HI
    have HW := Lib.hid hW
    have hle := hW.le
    have hol : out.length ≤ 20 := by have h1 := congrArg List.length hW.val; rw [List.length_append] at h1; have := HL.out; omega
    clear hW
    by_cases hm : 0 < m
    · have hm' : (0 : Int) < (m : Int) := by omega
      obtain ⟨d, hd⟩ : ∃ d, m % 10 = d := ⟨_, rfl⟩
      obtain ⟨q, hq⟩ : ∃ q, m / 10 = q := ⟨_, rfl⟩
      have e0 : (m : Int) % 10 = (d : Int) := by omega
      have e1 : (m : Int) / 10 = (q : Int) := by omega
      have e2 : (d : Int) % 256 = (d : Int) := by omega
      have w1 : IntKind.u64.wrap (q : Int) = (q : Int) := IntWalk.u64_in _ (by omega)
      have hqm : q < m := by omega
      have hst := dg_step hm out n HW.out.val
      rw [hd, hq] at hst
      have HST := Lib.hid hst
      have HRW := Lib.hid HW.out.row
      have HSZ := Lib.hid HW.out.below.size
      clear hd hq hst
      go_wp2_with (at_builtin; refine app_one (w.heap.size) 30 5 (.int .u8 0) 1 1 [_] 1 _ _ rfl rfl Try.underlying30 info_u8 rfl (by decide) _ _ _ rfl rfl rfl (by intro u hu; simp at hu; subst hu; rfl) HRW.out (by omega) (by omega) HSZ.out ?_)
      intro v' w9 hown hg9
      have hk9 : Keep (fun g => (Value.slice A out.length c).ownBlock = some g) W w9 := Keep.of_grown hg9 (fun g hg => hg)
      obtain ⟨A9, c9, rfl⟩ := own_slice hown
      have HN9 : Hid (SmIs w w9 n (out ++ [d]) A9 c9 q) := Lib.hid (by
        refine ⟨by rw [List.map_append, List.length_append]; exact hown, HW.out.below.trans (hk9.below HW.out.below.size (own_base HRW.out)), HST.out, by omega⟩)
      clear hown hg9 hk9
      go_wp2_with fail
      go_roundg q
      case measure => exact hqm
      case rel => exact ⟨q, _, A9, c9, rfl, rfl, by simp, HN9.out⟩
    · have hm' : ¬ (0 : Int) < (m : Int) := by omega
      have HV : Hid (DecIs W (.slice A out.length c) n) := Lib.hid (by
        have h := HW.out.val
        rw [show m = 0 by omega, dg_zero, List.append_nil] at h
        exact ⟨A, c, by rw [h], by rw [h]; exact own_sl1 HW.out.row, by rw [h]; exact own_len HW.out.row⟩)
      go_wp2_with fail
      go_ret
      exact ⟨_, rfl, HV.out, HW.out.below⟩
end Go.Proofs.Ytnfehhblmoliaaa
