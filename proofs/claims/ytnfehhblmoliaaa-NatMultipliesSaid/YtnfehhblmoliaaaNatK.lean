/- Layer 1 (nat), the document's answer: Parse. -/
import Derived.Test.YtnfehhblmoliaaaNatJ
namespace Go.Proofs.Ytnfehhblmoliaaa
open Go.RowKit Go.Maps Go.WideMaps
set_option maxRecDepth 100000
set_option linter.unusedVariables false
set_option linter.unusedSimpArgs false

def digs (l : List UInt8) : List Nat := l.reverse.map fun x => x.toNat - 48
theorem digs_snoc (l : List UInt8) (x : UInt8) : digs (l ++ [x]) = (x.toNat - 48) :: digs l := by simp [digs]
theorem digs_cons (l : List UInt8) (x : UInt8) : digs (x :: l) = digs l ++ [x.toNat - 48] := by simp [digs]
theorem digs_len (l : List UInt8) : (digs l).length = l.length := by simp [digs]
theorem vl_digs (l : List UInt8) : vl 10 (digs l) = valP l := by
  have key : ∀ n (l : List UInt8), l.length = n → vl 10 (digs l) = valP l := by
    intro n
    induction n with
    | zero => intro l h; have := List.eq_nil_of_length_eq_zero h; subst this; rfl
    | succ n ih =>
      intro l h
      have hne : l ≠ [] := by intro e; rw [e] at h; simp at h
      have e := (List.dropLast_concat_getLast hne).symm
      rw [e, digs_snoc, valP_snoc, vl, ih _ (by rw [List.length_dropLast, h]; rfl)]
      omega
  exact key _ l rfl
theorem digs_lt (l : List UInt8) (h : ∀ x ∈ l, isDig x = true) : ∀ d ∈ digs l, d < 10 := by
  intro d hd
  simp only [digs, List.mem_map, List.mem_reverse] at hd
  obtain ⟨x, hx, rfl⟩ := hd
  have := (digV x (h x hx)).2
  omega

structure RPrs (w W : World) (l : List UInt8) (A : Option Addr) (c j n : Nat) : Prop where
  row : W.ownsRow w.heap.size 5 1 (.slice A n c) n ((digs (l.drop j)).map u8V)
  below : Below w.heap.size w W
  dig : ∀ x ∈ l.drop j, isDig x = true

set_option maxHeartbeats 8000000 in
theorem rparse_any (l : List UInt8) (w : World) (b : Bool) (hb : b = decide ((∀ x ∈ l, isDig x = true) ∧ l ≠ [] ∧ l.length ≤ 10000 ∧ decS (valP l) = bs l)) (hlen : l.length < 140737488355328) :
    Calls Try.prog 30 #[.string (bs l)] w fun e w' => ∃ v, e = .returned (.tuple #[v, .bool b]) ∧ (b = true → DecIs w' v (valP l)) ∧ Below w.heap.size w w' := by
  have HB := Lib.hid hb
  clear hb
  have HLN := Lib.hid (bs_size l)
  have HSB : Hid (∀ i (hi : i < l.length), ∃ hi2 : i < (bs l).size, (bs l)[i]'hi2 = l[i]'hi) := Lib.hid (fun i hi => ⟨by rw [bs_size]; exact hi, bs_get l i hi _⟩)
  have HTL := Lib.hid (bs_toList l)
  have HI : Hid (RPrs w w l none 0 l.length 0) := Lib.hid ⟨by rw [List.drop_length]; exact own_nil _ _ _ _, Below.refl _ _, by rw [List.drop_length]; simp⟩
  generalize bs l = s at *
  have wl : IntKind.i64.wrap ((s.size : Int) - 1) = (s.size : Int) - 1 := IntWalk.i64_in _ (by have := HLN.out; omega)
  go_enter Try.func30, Try.ntmps30
  go_wp2_with fail
  clear wl
  go_loopg [4, 5] l.length (fun m v4 v5 W => ∃ (j : Nat) (i : Int) (A : Option Addr) (c n : Nat), j = m ∧ v5 = .int .i64 i ∧ i = (j : Int) - 1 ∧ j ≤ l.length ∧ n + j = l.length ∧ v4 = .slice A n c ∧ RPrs w W l A c j n)
  case atStart => exact ⟨l.length, _, none, 0, 0, rfl, rfl, by rw [HLN.out], Nat.le_refl _, by omega, rfl, HI.out⟩
  case round =>
    obtain ⟨j, i, A, c, n, rfl, rfl, hi, hj, hn, rfl, hW⟩ := hrel
    rename World => W
    clear HI
    have HW := Lib.hid hW
    clear hW
    rcases Nat.eq_zero_or_pos j with rfl | hj0
    · obtain rfl : i = -1 := by omega
      clear hi
      obtain rfl : n = l.length := by omega
      have hall : ∀ x ∈ l, isDig x = true := by have h := HW.out.dig; rwa [List.drop_zero] at h
      have hrow : W.ownsRow w.heap.size 5 1 (.slice A l.length c) l.length ((digs l).map u8V) := by have h := HW.out.row; rwa [List.drop_zero] at h
      have HTR : Hid (Calls Try.prog 37 #[.slice A l.length c] W fun e w' => ∃ v, e = .returned v ∧ DecIs W v (valP l) ∧ w' = W) := Lib.hid (by
        rw [← vl_digs l]
        have hdl := digs_len l
        have h := rtrim_any (digs l) A c W (own_sl1 (base := w.heap.size) (e := 5) (n := l.length) hrow) (by rw [hdl]; exact own_len hrow) (digs_lt l hall) (by rw [hdl]; omega)
        rwa [hdl] at h)
      have HALL := Lib.hid hall
      have hdl : (dg 10 (valP l)).length ≤ l.length := dg_len_le (by decide) (valP_lt l (List.all_eq_true.2 hall))
      have HDL := Lib.hid hdl
      have HBW := Lib.hid HW.out.below
      clear hdl hall hrow hn HW hj
      go_wp2_with fail
      refine HTR.out.mono ?_
      rintro e w2 ⟨v, rfl, h2, rfl⟩
      rename World => W
      have H2 := Lib.hid h2
      clear h2 HTR
      by_cases hl0 : l = []
      · have HBF : Hid (b = false) := Lib.hid (by rw [HB.out]; exact decide_eq_false (fun h => h.2.1 hl0))
        have hz : ¬ (0 : Int) < (s.size : Int) := by have h1 := HLN.out; rw [hl0] at h1; have h2 : s.size = 0 := h1; omega
        clear hl0
        go_wp2_with fail
        refine bodyPost_ret (results_tmp2 rfl _ _ _) rfl ?_
        refine ⟨_, by rw [HBF.out]; rfl, ?_, HBW.out⟩
        intro h; rw [HBF.out] at h; cases h
      · have hz : (0 : Int) < (s.size : Int) := by have h1 := HLN.out; have := List.length_pos_iff.2 hl0; omega
        by_cases hbig : l.length ≤ 10000
        · have hz2 : (s.size : Int) ≤ 10000 := by have h1 := HLN.out; omega
          have HPR : Hid (Calls Try.prog 18 #[v] W fun e w' => e = .returned (.string (decS (valP l))) ∧ Below W.heap.size W w') := Lib.hid (print_any v (valP l) W H2.out (by have := HDL.out; omega))
          have HNE := Lib.hid hl0
          have HBG := Lib.hid hbig
          clear hl0
          generalize decS (valP l) = t0 at *
          go_wp2_with fail
          refine HPR.out.mono ?_
          rintro e w3 ⟨rfl, hb3⟩
          have HB3 := Lib.hid (HBW.out.trans (hb3.mono HBW.out.size))
          have HD3 := Lib.hid (H2.out.below hb3 (Nat.le_refl _))
          clear hb3
          by_cases heq : t0 = s
          · have HBT : Hid (b = true) := Lib.hid (by rw [HB.out]; exact decide_eq_true ⟨HALL.out, HNE.out, HBG.out, heq⟩)
            subst heq
            go_wp2_with fail
            refine bodyPost_ret (results_tmp2 rfl _ _ _) rfl ?_
            refine ⟨_, by rw [HBT.out]; simp, fun _ => HD3.out, HB3.out⟩
          · have HBF : Hid (b = false) := Lib.hid (by rw [HB.out]; exact decide_eq_false (fun h => heq h.2.2.2))
            have hne : ¬ t0.toList = s.toList := fun e => heq (ByteArray.ext (by
              have := congrArg List.toArray e
              rw [ByteArray.toList_eq, ByteArray.toList_eq] at this
              simpa using this))
            go_wp2_with fail
            refine bodyPost_ret (results_tmp2 rfl _ _ _) rfl ?_
            have hq : (t0.toList == s.toList) = false := by rw [beq_eq_false_iff_ne]; exact hne
            refine ⟨v, ?_, ?_, HB3.out⟩
            · rw [HBF.out, ← hq]; rfl
            · intro h; rw [HBF.out] at h; cases h
        · have HBF : Hid (b = false) := Lib.hid (by rw [HB.out]; exact decide_eq_false (fun h => hbig h.2.2.1))
          have hz2 : ¬ (s.size : Int) ≤ 10000 := by have h1 := HLN.out; omega
          clear hl0
          go_wp2_with fail
          refine bodyPost_ret (results_tmp2 rfl _ _ _) rfl ?_
          refine ⟨_, by rw [HBF.out]; rfl, ?_, HBW.out⟩
          intro h; rw [HBF.out] at h; cases h
    · obtain ⟨q, rfl⟩ : ∃ q, j = q + 1 := ⟨j - 1, by omega⟩
      obtain rfl : i = (q : Int) := by omega
      clear hi
      have q0 : (0 : Int) ≤ (q : Int) := by omega
      have hq1 : q < l.length := by omega
      obtain ⟨hi2, hget⟩ := HSB.out q hq1
      have q2 : (q : Int) < (s.size : Int) := by omega
      have hdr := List.drop_eq_getElem_cons hq1
      obtain ⟨x, hx⟩ : ∃ x, l[q] = x := ⟨_, rfl⟩
      rw [hx] at hget hdr
      obtain ⟨xn, hxn⟩ : ∃ xn : Nat, (s[q]'hi2).toNat = xn := ⟨_, rfl⟩
      have hxe : x.toNat = xn := by rw [← hget]; exact hxn
      have HMEM : Hid (x ∈ l) := Lib.hid (by rw [← hx]; exact List.getElem_mem _)
      have wq : IntKind.i64.wrap ((q : Int) - 1) = (q : Int) - 1 := IntWalk.i64_in _ (by omega)
      clear hx hget
      by_cases hd : isDig x = true
      · obtain ⟨e1, e2⟩ := digV x hd
        have hxr : ¬ (xn : Int) < 48 ∧ ¬ (57 : Int) < (xn : Int) := by simp [isDig] at hd; omega
        obtain ⟨hxr1, hxr2⟩ := hxr
        rw [hxe] at e1 e2
        obtain ⟨d, hdd⟩ : ∃ d, xn - 48 = d := ⟨_, rfl⟩
        rw [hdd] at e1 e2
        have HDG : Hid (digs (l.drop q) = digs (l.drop (q + 1)) ++ [d]) := Lib.hid (by rw [hdr, digs_cons, hxe, hdd])
        have HAL : Hid (∀ y ∈ l.drop q, isDig y = true) := Lib.hid (by
          rw [hdr]
          intro y hy
          rcases List.mem_cons.1 hy with rfl | hy
          · exact hd
          · exact HW.out.dig y hy)
        have HSZ := Lib.hid HW.out.below.size
        have HRW := Lib.hid HW.out.row
        have HDD : Hid ((xn : Int) - 48 = (d : Int)) := Lib.hid (by omega)
        clear hdr hxe hdd hd
        go_wp2_with (at_builtin; refine app_one (w.heap.size) 30 5 (.int .u8 0) 1 1 [_] 1 _ _ rfl rfl Try.underlying30 info_u8 rfl (by decide) _ _ _ rfl rfl rfl (by intro u hu; simp at hu; subst hu; rfl) HRW.out (by omega) (by omega) HSZ.out ?_)
        intro v' w9 hown hg9
        have hk9 : Keep (fun g => (Value.slice A n c).ownBlock = some g) W w9 := Keep.of_grown hg9 (fun g hg => hg)
        obtain ⟨A9, c9, rfl⟩ := own_slice hown
        have HN9 : Hid (RPrs w w9 l A9 c9 q (n + 1)) := Lib.hid (by
          refine ⟨by rw [HDG.out, List.map_append]; have h := hown; rw [HDD.out] at h; exact h, HW.out.below.trans (hk9.below HW.out.below.size (own_base HRW.out)), HAL.out⟩)
        clear hown hg9 hk9
        go_wp2_with fail
        go_roundg q
        case measure => omega
        case rel => exact ⟨q, _, A9, c9, n + 1, rfl, rfl, rfl, by omega, by omega, rfl, HN9.out⟩
      · have HBF : Hid (b = false) := Lib.hid (by rw [HB.out]; exact decide_eq_false (fun h => hd (h.1 x HMEM.out)))
        have hxr : (xn : Int) < 48 ∨ (¬ (xn : Int) < 48 ∧ (57 : Int) < (xn : Int)) := by
          have h2 : ¬ (48 ≤ x.toNat ∧ x.toNat ≤ 57) := by simpa [isDig] using hd
          rw [hxe] at h2
          omega
        clear hdr hd hxe
        rcases hxr with hxr | ⟨hxr, hxr2⟩
        · go_wp2_with fail
          refine bodyPost_ret (results_tmp2 rfl _ _ _) rfl ?_
          refine ⟨_, by rw [HBF.out]; rfl, ?_, HW.out.below⟩
          intro h; rw [HBF.out] at h; cases h
        · go_wp2_with fail
          refine bodyPost_ret (results_tmp2 rfl _ _ _) rfl ?_
          refine ⟨_, by rw [HBF.out]; rfl, ?_, HW.out.below⟩
          intro h; rw [HBF.out] at h; cases h
end Go.Proofs.Ytnfehhblmoliaaa
