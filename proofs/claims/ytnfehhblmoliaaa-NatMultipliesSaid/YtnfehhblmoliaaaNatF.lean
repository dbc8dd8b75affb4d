/- Layer 1 (nat), the document's answer: trim, Times, Of. -/
import Derived.Test.YtnfehhblmoliaaaNatE
namespace Go.Proofs.Ytnfehhblmoliaaa
open Go.RowKit Go.Maps Go.WideMaps
set_option maxRecDepth 100000
set_option linter.unusedVariables false
set_option linter.unusedSimpArgs false

/-- a number in memory: its decimal digits, the lowest first -/
def DecIs (w : World) (v : Value) (n : Nat) : Prop := ∃ A c, v = .slice A (dg 10 n).length c ∧ Sl1 w A u8V (dg 10 n) ∧ (dg 10 n).length ≤ c
theorem DecIs.below {w w' : World} {v : Value} {n : Nat} (h : DecIs w v n) {B : Nat} (hb : Below B w w') (hB : w.heap.size ≤ B) : DecIs w' v n := by
  obtain ⟨A, c, rfl, h1, h2⟩ := h
  exact ⟨A, c, rfl, h1.below hb hB, h2⟩
theorem DecIs.zero (w : World) : DecIs w (.slice none 0 0) 0 := ⟨none, 0, by rw [dg_zero]; rfl, by rw [dg_zero]; exact Sl1.nil _ _ _, by rw [dg_zero]; exact Nat.le_refl _⟩

theorem rtrim_at (l : List Nat) (A : Option Addr) (c : Nat) (w : World) (h : Sl1 w A u8V l) (hc : l.length ≤ c) (hb : ∀ x ∈ l, x < 10) (hlen : l.length < 1000000000000000000) :
    Calls Try.prog 37 #[.slice A l.length c] w fun e w' => ∃ v, e = .returned v ∧ DecIs w v (vl 10 l) ∧ w' = w ∧ ∃ n c', v = .slice A n c' := by
  have HL := Lib.hid h
  have HB := Lib.hid hb
  clear h hb
  go_enter Try.func37, Try.ntmps37
  go_wp2_with fail
  go_loopg [3] l.length (fun m v W => ∃ k : Nat, k = m ∧ v = .int .i64 (k : Int) ∧ k ≤ l.length ∧ (∀ i, k ≤ i → atL l i = 0) ∧ W = w)
  case atStart => exact ⟨l.length, rfl, rfl, Nat.le_refl _, fun i hi => atL_ge hi, rfl⟩
  case round =>
    obtain ⟨k, rfl, rfl, hk, hz, rfl⟩ := hrel
    rename World => W1
    have HZ := Lib.hid hz
    clear hz
    rcases Nat.eq_zero_or_pos k with rfl | hk0
    · have hE : (dg 10 (vl 10 l)) = [] := by rw [trim_dg (by decide) l HB.out 0 (Nat.zero_le _) HZ.out (Or.inl rfl)]; rfl
      have HE : Hid (∀ n c', n = 0 → DecIs W1 (.slice A n c') (vl 10 l)) := Lib.hid (fun n c' hn => by
        subst hn
        exact ⟨A, c', by rw [hE]; rfl, by rw [hE]; exact Sl1.nil _ _ _, by rw [hE]; exact Nat.zero_le _⟩)
      clear hE
      have hcc : (0 : Int) ≤ (c : Int) := by omega
      go_wp2_with fail
      go_ret
      exact ⟨_, rfl, HE.out _ _ rfl, rfl, _, _, rfl⟩
    · obtain ⟨j, rfl⟩ : ∃ j, k = j + 1 := ⟨k - 1, by omega⟩
      obtain ⟨b, o, rfl, hcell'⟩ := HL.out.at j (by omega)
      have j0 : (0 : Int) ≤ (j : Int) := by omega
      have j1 : (j : Int) < (l.length : Int) := by omega
      have wk : IntKind.i64.wrap ((j : Int) + 1 - 1) = (j : Int) := by rw [IntWalk.i64_in _ (by omega)]; omega
      have HAJ := Lib.hid (atL_get (l := l) (i := j) (by omega))
      unfold u8V at hcell'
      generalize l[j] = x at *
      by_cases hx : x = 0
      · subst hx
        go_wp2_with fail
        go_roundg j
        case measure => omega
        case rel => exact ⟨j, rfl, rfl, by omega, fun i hi => by
          rcases Nat.eq_or_lt_of_le hi with e | e
          · rw [← e]; exact HAJ.out
          · exact HZ.out i (by omega), rfl⟩
      · have hx' : ¬ (x : Int) = 0 := by omega
        have hE : dg 10 (vl 10 l) = l.take (j + 1) := trim_dg (by decide) l HB.out (j + 1) hk HZ.out (Or.inr (by rw [Nat.add_sub_cancel, HAJ.out]; exact hx))
        have hln : (l.take (j + 1)).length = j + 1 := by rw [List.length_take, Nat.min_eq_left hk]
        have HE : Hid (∀ n, n = j + 1 → DecIs W1 (.slice (some ⟨b, o, none⟩) n c) (vl 10 l)) := Lib.hid (fun n hn => by
          subst hn
          exact ⟨some ⟨b, o, none⟩, c, by rw [hE, hln], by rw [hE]; exact HL.out.take _, by rw [hE, hln]; omega⟩)
        clear hE hln
        have hkc : ((j : Int) + 1) ≤ (c : Int) := by omega
        go_wp2_with fail
        go_ret
        exact ⟨_, rfl, HE.out _ rfl, rfl, _, _, rfl⟩
theorem rtrim_any (l : List Nat) (A : Option Addr) (c : Nat) (w : World) (h : Sl1 w A u8V l) (hc : l.length ≤ c) (hb : ∀ x ∈ l, x < 10) (hlen : l.length < 1000000000000000000) :
    Calls Try.prog 37 #[.slice A l.length c] w fun e w' => ∃ v, e = .returned v ∧ DecIs w v (vl 10 l) ∧ w' = w := by
  refine (rtrim_at l A c w h hc hb hlen).mono ?_
  rintro e w1 ⟨v, h1, h2, h3, _⟩
  exact ⟨v, h1, h2, h3⟩

structure RTim (w W : World) (l : List Nat) (n more : Nat) (out : List Nat) (A : Option Addr) (c k cy : Nat) : Prop where
  row : W.ownsRow w.heap.size 5 1 (.slice A k c) k (out.map u8V)
  below : Below w.heap.size w W
  len : out.length = k
  lt : ∀ x ∈ out, x < 10
  cyb : cy ≤ 4294967296
  kb : k + cy ≤ l.length + 4294967296
  val : vl 10 out + 10 ^ k * cy = more + n * vl 10 (l.take k)
theorem rtimes_step {k c x m xm q s : Nat} {va vo more : Nat} (hp : c + m * x = s) (hx : s % 10 = xm) (hq : s / 10 = q) (h : vo + 10 ^ k * c = more + m * va) : (vo + 10 ^ k * xm) + 10 ^ (k + 1) * q = more + m * (va + 10 ^ k * x) := by
  have e : xm + 10 * q = s := by subst hx; subst hq; exact Nat.mod_add_div s 10
  have e2 : 10 ^ k * xm + 10 ^ (k + 1) * q = 10 ^ k * (xm + 10 * q) := by rw [Nat.mul_add, Nat.pow_succ, Nat.mul_assoc]
  have e3 : m * (10 ^ k * x) = 10 ^ k * (m * x) := by rw [Nat.mul_left_comm]
  rw [Nat.add_assoc, e2, e, ← hp, Nat.mul_add, Nat.mul_add, e3]
  generalize 10 ^ k * (m * x) = a1 at *
  generalize 10 ^ k * c = a2 at *
  generalize m * va = a3 at *
  omega

set_option maxHeartbeats 8000000 in
theorem rtimes_any (v1 : Value) (a n more : Nat) (w : World) (h1 : DecIs w v1 a) (hn : n ≤ 4294967296) (hm : more ≤ 4294967296) (hl1 : (dg 10 a).length ≤ 1000000000) :
    Calls Try.prog 27 #[v1, .int .u64 (n : Int), .int .u64 (more : Int)] w fun e w' => ∃ v, e = .returned v ∧ DecIs w' v (more + n * a) ∧ Below w.heap.size w w' := by
  obtain ⟨A1, c1, rfl, s1, k1⟩ := h1
  have HD := Lib.hid (dg_lt (b := 10) (by decide) a)
  have HV := Lib.hid (vl_dg (b := 10) (by decide) a)
  have HS1 := Lib.hid s1
  clear s1 k1
  generalize dg 10 a = l at *
  have HI : Hid (RTim w w l n more [] none 0 0 more) := Lib.hid ⟨own_nil _ _ _ _, Below.refl _ _, rfl, by simp, hm, by omega, by simp [vl]⟩
  go_enter Try.func27, Try.ntmps27
  go_wp2_with fail
  go_loopg [7, 8, 9] (l.length * 8589934592 + more) (fun ms v7 v8 v9 W => ∃ (k cy : Nat) (out : List Nat) (A : Option Addr) (c : Nat), (l.length - k) * 8589934592 + cy = ms ∧ v9 = .int .i64 (k : Int) ∧ v7 = .slice A k c ∧ v8 = .int .u64 (cy : Int) ∧ RTim w W l n more out A c k cy)
  case atStart => exact ⟨0, more, [], none, 0, rfl, rfl, rfl, rfl, HI.out⟩
  case round =>
    obtain ⟨k, cy, out, A, c, hms, rfl, rfl, rfl, hW⟩ := hrel
    rename World => W
    clear HI
    have HW := Lib.hid hW
    have hcyb := hW.cyb
    have hkb' := hW.kb
    clear hW
    by_cases hlt : k < l.length
    · have hlt' : (k : Int) < (l.length : Int) := by omega
      have k0 : (0 : Int) ≤ (k : Int) := by omega
      obtain ⟨b1, o1, rfl, hcc1⟩ := HS1.out.at k hlt
      have hcc := below_cell HW.out.below (Nat.le_refl _) hcc1
      have hxe := atL_get hlt
      have hx : l[k] < 10 := HD.out _ (List.getElem_mem _)
      generalize l[k] = x at *
      unfold u8V at hcc
      have HX := Lib.hid hxe
      obtain ⟨pr, hpr⟩ : ∃ pr, n * x = pr := ⟨_, rfl⟩
      have hprl : pr ≤ 4294967296 * 9 := by rw [← hpr]; exact Nat.mul_le_mul hn (by omega)
      obtain ⟨s, hs⟩ : ∃ s, cy + n * x = s := ⟨_, rfl⟩
      obtain ⟨xm, hxm⟩ : ∃ xm, s % 10 = xm := ⟨_, rfl⟩
      obtain ⟨q, hq⟩ : ∃ q, s / 10 = q := ⟨_, rfl⟩
      have wx : IntKind.u64.wrap (x : Int) = (x : Int) := IntWalk.u64_in _ (by omega)
      have wp : IntKind.u64.wrap ((n : Int) * (x : Int)) = (pr : Int) := by rw [show (n : Int) * (x : Int) = (pr : Int) by rw [← hpr]; simp]; exact IntWalk.u64_in _ (by omega)
      have wq : IntKind.u64.wrap ((cy : Int) + (pr : Int)) = (s : Int) := by rw [show (cy : Int) + (pr : Int) = (s : Int) by rw [hpr] at hs; omega]; exact IntWalk.u64_in _ (by rw [hpr] at hs; omega)
      have hsl : s ≤ 42949672960 := by rw [hpr] at hs; omega
      have HMS : Hid ((l.length - (k + 1)) * 8589934592 + q < gk) := Lib.hid (by
        rw [← hms]
        have h3 : l.length - k = (l.length - (k + 1)) + 1 := by omega
        rw [h3, Nat.add_mul]
        omega)
      clear hxe hcc1 hms hpr
      have e0 : (s : Int) % 10 = (xm : Int) := by omega
      have e1 : (s : Int) / 10 = (q : Int) := by omega
      have e2 : (xm : Int) % 256 = (xm : Int) := by omega
      have w1 : IntKind.u64.wrap (q : Int) = (q : Int) := IntWalk.u64_in _ (by omega)
      have hxml : xm < 10 := by omega
      have hql : q ≤ 4294967296 := by omega
      have hkb : k + 1 + q ≤ l.length + 4294967296 := by omega
      have HP := Lib.hid (And.intro hs (And.intro hxm hq))
      have HSZ := Lib.hid HW.out.below.size
      have HRW := Lib.hid HW.out.row
      have HKL : Hid (k + q < l.length + 5000000000) := Lib.hid (by omega)
      clear hs hxm hq hkb'
      go_wp2_with (at_builtin; refine app_one (w.heap.size) 30 5 (.int .u8 0) 1 1 [_] 1 _ _ rfl rfl Try.underlying30 info_u8 rfl (by decide) _ _ _ rfl rfl rfl (by intro u hu; simp at hu; subst hu; rfl) HRW.out (by omega) (by omega) HSZ.out ?_)
      intro v' w9 hown hg9
      have hk9 : Keep (fun g => (Value.slice A k c).ownBlock = some g) W w9 := Keep.of_grown hg9 (fun g hg => hg)
      obtain ⟨A9, c9, rfl⟩ := own_slice hown
      have HN9 : Hid (RTim w w9 l n more (out ++ [xm]) A9 c9 (k + 1) q) := Lib.hid (by
        refine ⟨by rw [List.map_append]; exact hown, HW.out.below.trans (hk9.below HW.out.below.size (own_base HRW.out)), by rw [List.length_append, HW.out.len]; rfl, ?_, hql, hkb, ?_⟩
        · intro z hz
          rcases List.mem_append.1 hz with hz | hz
          · exact HW.out.lt z hz
          · simp at hz; subst hz; exact hxml
        · rw [vl_snoc, HW.out.len, vl_take_succ, HX.out]
          exact rtimes_step HP.out.1 HP.out.2.1 HP.out.2.2 HW.out.val)
      clear hown hg9 hk9
      have wk : IntKind.i64.wrap ((k : Int) + 1) = (k : Int) + 1 := IntWalk.i64_in _ (by omega)
      go_wp2_with fail
      go_roundg ((l.length - (k + 1)) * 8589934592 + q)
      case measure => exact HMS.out
      case rel => exact ⟨k + 1, q, _, A9, c9, rfl, by simp, rfl, rfl, HN9.out⟩
    · have hlt' : ¬ (k : Int) < (l.length : Int) := by omega
      by_cases hcy0 : 0 < cy
      · have hcy0' : (0 : Int) < (cy : Int) := by omega
        have HX := Lib.hid (atL_ge (l := l) (i := k) (by omega))
        obtain ⟨s, hs'⟩ : ∃ s, cy = s := ⟨_, rfl⟩
        have hs : cy + n * 0 = s := by rw [Nat.mul_zero, Nat.add_zero]; exact hs'
        subst hs'
        obtain ⟨xm, hxm⟩ : ∃ xm, cy % 10 = xm := ⟨_, rfl⟩
        obtain ⟨q, hq⟩ : ∃ q, cy / 10 = q := ⟨_, rfl⟩
        have HMS : Hid ((l.length - (k + 1)) * 8589934592 + q < gk) := Lib.hid (by
          rw [← hms, show l.length - k = 0 by omega, show l.length - (k + 1) = 0 by omega]
          omega)
        clear hms
        have e0 : (cy : Int) % 10 = (xm : Int) := by omega
        have e1 : (cy : Int) / 10 = (q : Int) := by omega
        have e2 : (xm : Int) % 256 = (xm : Int) := by omega
        have w1 : IntKind.u64.wrap (q : Int) = (q : Int) := IntWalk.u64_in _ (by omega)
        have hxml : xm < 10 := by omega
        have hql : q ≤ 4294967296 := by omega
        have hkb : k + 1 + q ≤ l.length + 4294967296 := by omega
        have HP := Lib.hid (And.intro hs (And.intro hxm hq))
        have HSZ := Lib.hid HW.out.below.size
        have HRW := Lib.hid HW.out.row
        have HKL : Hid (k + q < l.length + 5000000000) := Lib.hid (by omega)
        clear hs hxm hq hkb'
        go_wp2_with (at_builtin; refine app_one (w.heap.size) 30 5 (.int .u8 0) 1 1 [_] 1 _ _ rfl rfl Try.underlying30 info_u8 rfl (by decide) _ _ _ rfl rfl rfl (by intro u hu; simp at hu; subst hu; rfl) HRW.out (by omega) (by omega) HSZ.out ?_)
        intro v' w9 hown hg9
        have hk9 : Keep (fun g => (Value.slice A k c).ownBlock = some g) W w9 := Keep.of_grown hg9 (fun g hg => hg)
        obtain ⟨A9, c9, rfl⟩ := own_slice hown
        have HN9 : Hid (RTim w w9 l n more (out ++ [xm]) A9 c9 (k + 1) q) := Lib.hid (by
          refine ⟨by rw [List.map_append]; exact hown, HW.out.below.trans (hk9.below HW.out.below.size (own_base HRW.out)), by rw [List.length_append, HW.out.len]; rfl, ?_, hql, hkb, ?_⟩
          · intro z hz
            rcases List.mem_append.1 hz with hz | hz
            · exact HW.out.lt z hz
            · simp at hz; subst hz; exact hxml
          · rw [vl_snoc, HW.out.len, vl_take_succ, HX.out]
            exact rtimes_step HP.out.1 HP.out.2.1 HP.out.2.2 HW.out.val)
        clear hown hg9 hk9
        have wk : IntKind.i64.wrap ((k : Int) + 1) = (k : Int) + 1 := IntWalk.i64_in _ (by omega)
        go_wp2_with fail
        go_roundg ((l.length - (k + 1)) * 8589934592 + q)
        case measure => exact HMS.out
        case rel => exact ⟨k + 1, q, _, A9, c9, rfl, by simp, rfl, rfl, HN9.out⟩
      · have hcy0' : ¬ (0 : Int) < (cy : Int) := by omega
        have hv : vl 10 out = more + n * a := by
          have h := HW.out.val
          rw [show cy = 0 by omega, Nat.mul_zero, Nat.add_zero, List.take_of_length_le (by omega), HV.out] at h
          exact h
        have HTR : Hid (Calls Try.prog 37 #[.slice A k c] W fun e w' => ∃ v, e = .returned v ∧ DecIs W v (more + n * a) ∧ w' = W) := Lib.hid (by
          rw [← hv]
          have h := rtrim_any out A c W (own_sl1 (base := w.heap.size) (e := 5) (n := k) HW.out.row) (by rw [HW.out.len]; exact own_len HW.out.row) HW.out.lt (by rw [HW.out.len]; omega)
          rwa [HW.out.len] at h)
        clear hv hms
        go_wp2_with fail
        refine HTR.out.mono ?_
        rintro e w2 ⟨v, rfl, h2, rfl⟩
        have H2 := Lib.hid h2
        clear h2
        go_wp2_with fail
        go_ret
        exact ⟨_, rfl, H2.out, HW.out.below⟩
end Go.Proofs.Ytnfehhblmoliaaa
