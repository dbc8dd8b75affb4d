/- Layer 1 (nat): Parse. -/
import Derived.Test.YtnfehhblmoliaaaNatD
namespace Go.Proofs.Ytnfehhblmoliaaa
open Go.RowKit Go.Maps Go.WideMaps
set_option maxRecDepth 100000
set_option linter.unusedVariables false
set_option linter.unusedSimpArgs false

def isDig (x : UInt8) : Bool := decide (48 ≤ x.toNat ∧ x.toNat ≤ 57)
def valP (l : List UInt8) : Nat := l.foldl (fun a d => a * 10 + (d.toNat - 48)) 0
def okP (l : List UInt8) : Bool := decide (l ≠ [] ∧ l.length ≤ 10000 ∧ ¬ (1 < l.length ∧ l.head? = some 48)) && l.all isDig

theorem bs_toList (l : List UInt8) : (bs l).toList = l := by rw [ByteArray.toList_eq]; rfl
theorem bs_size (l : List UInt8) : (bs l).size = l.length := by simp [bs, ByteArray.size]
theorem bs_get (l : List UInt8) (i : Nat) (h : i < l.length) (h2 : i < (bs l).size) : (bs l)[i]'h2 = l[i]'h := by
  rfl
theorem parse_nil (w : World) : Calls Try.prog 29 #[.string (bs [])] w fun e w' => ∃ v, e = .returned (.tuple #[v, .bool false]) ∧ NatIs w' v 0 ∧ Below w.heap.size w w' := by
  have hX := blk_new w (.cells #[.slice none 0 0] 26)
  have HP := Lib.hid (cell_put hX (.slice none 0 0))
  have HX := Lib.hid hX
  have HB := Lib.hid ((Below.refl w.heap.size w).alloc (Nat.le_refl _) (.cells #[.slice none 0 0] 26))
  have h0 : (bs []).toList = [] := bs_toList []
  clear hX
  go_enter Try.func29, Try.ntmps29
  go_wp2_with fail
  refine ret_cells_bool (x := .bool false) rfl rfl rfl (load_nat HX.out) ?_
  exact ⟨_, rfl, ⟨none, 0, by rw [dg_zero]; rfl, by rw [dg_zero]; exact Sl1.nil _ _ _, by rw [dg_zero]; exact Nat.le_refl _⟩, HB.out⟩
theorem parse_long (l : List UInt8) (w : World) (h : 10000 < l.length) (hlen : l.length < 9000000000000000000) :
    Calls Try.prog 29 #[.string (bs l)] w fun e w' => ∃ v, e = .returned (.tuple #[v, .bool false]) ∧ NatIs w' v 0 ∧ Below w.heap.size w w' := by
  have hX := blk_new w (.cells #[.slice none 0 0] 26)
  have HX := Lib.hid hX
  have HB := Lib.hid ((Below.refl w.heap.size w).alloc (Nat.le_refl _) (.cells #[.slice none 0 0] 26))
  have h0 : ¬ (bs l).toList = [] := by rw [bs_toList]; intro e; rw [e] at h; simp at h
  have hsz : (bs l).size = l.length := by simp [bs, ByteArray.size]
  have h1 : (10000 : Int) < (l.length : Int) := by omega
  clear hX
  generalize bs l = s at *
  generalize l.length = L at *
  subst hsz
  go_enter Try.func29, Try.ntmps29
  go_wp2_with fail
  refine ret_cells_bool (x := .bool false) rfl rfl rfl (load_nat HX.out) ?_
  exact ⟨_, rfl, ⟨none, 0, by rw [dg_zero]; rfl, by rw [dg_zero]; exact Sl1.nil _ _ _, by rw [dg_zero]; exact Nat.le_refl _⟩, HB.out⟩
theorem parse_nought (l : List UInt8) (w : World) (h : l.length ≤ 10000) (h2 : 1 < l.length) (h3 : l.head? = some 48) :
    Calls Try.prog 29 #[.string (bs l)] w fun e w' => ∃ v, e = .returned (.tuple #[v, .bool false]) ∧ NatIs w' v 0 ∧ Below w.heap.size w w' := by
  have hX := blk_new w (.cells #[.slice none 0 0] 26)
  have HX := Lib.hid hX
  have HB := Lib.hid ((Below.refl w.heap.size w).alloc (Nat.le_refl _) (.cells #[.slice none 0 0] 26))
  have h0 : ¬ (bs l).toList = [] := by rw [bs_toList]; intro e; rw [e] at h2; simp at h2
  have hsz : (bs l).size = l.length := by simp [bs, ByteArray.size]
  have h1 : ¬ (10000 : Int) < (l.length : Int) := by omega
  have h4 : (1 : Int) < (l.length : Int) := by omega
  have hp : 0 < (bs l).size := by omega
  have hc : ((bs l)[0]'hp).toNat = 48 := by
    rw [bs_get l 0 (by omega)]
    rw [List.head?_eq_getElem?, List.getElem?_eq_getElem (by omega)] at h3
    rw [Option.some.inj h3]; rfl
  have he : (bs l).toList.isEmpty = false := by rw [bs_toList]; cases l with | nil => simp at h2 | cons a l => rfl
  clear hX
  generalize bs l = s at *
  generalize l.length = L at *
  subst hsz
  go_enter Try.func29, Try.ntmps29
  go_wp2_with fail
  refine ret_cells_bool (x := .bool false) rfl rfl rfl (load_nat HX.out) ?_
  exact ⟨_, rfl, ⟨none, 0, by rw [dg_zero]; rfl, by rw [dg_zero]; exact Sl1.nil _ _ _, by rw [dg_zero]; exact Nat.le_refl _⟩, HB.out⟩

theorem digV (x : UInt8) : isDig x = true → (((x.toNat : Int) - 48) % 256 = ((x.toNat - 48 : Nat) : Int)) ∧ x.toNat - 48 ≤ 9 := by
  intro h
  simp [isDig] at h
  omega
theorem digN (x : UInt8) : isDig x = false → 9 < ((x.toNat : Int) - 48) % 256 := by
  intro h
  have h2 : ¬ (48 ≤ x.toNat ∧ x.toNat ≤ 57) := by simpa [isDig] using h
  have h3 := x.toNat_lt
  omega
theorem valP_snoc (l : List UInt8) (x : UInt8) : valP (l ++ [x]) = valP l * 10 + (x.toNat - 48) := by simp [valP]
theorem valP_lt_aux (l : List UInt8) (h : ∀ x ∈ l, isDig x = true) : ∀ a, l.foldl (fun a d => a * 10 + (d.toNat - 48)) a < (a + 1) * 10 ^ l.length := by
  induction l with
  | nil => intro a; simp
  | cons x l ih =>
    intro a
    rw [List.foldl_cons]
    have h1 := ih (fun y hy => h y (List.mem_cons_of_mem _ hy)) (a * 10 + (x.toNat - 48))
    have h2 := (digV x (h x (List.mem_cons_self ..))).2
    have h3 : (a * 10 + (x.toNat - 48) + 1) * 10 ^ l.length ≤ ((a + 1) * 10) * 10 ^ l.length := Nat.mul_le_mul_right _ (by omega)
    rw [List.length_cons, Nat.pow_succ, Nat.mul_comm (10 ^ l.length) 10, ← Nat.mul_assoc]
    omega
theorem valP_lt (l : List UInt8) (h : l.all isDig = true) : valP l < 10 ^ l.length := by
  have := valP_lt_aux l (fun x hx => List.all_eq_true.1 h x hx) 0
  rwa [Nat.zero_add, Nat.one_mul] at this
theorem valP_dg (l : List UInt8) (h : l.all isDig = true) (hlen : l.length ≤ 10000) : ∀ z, z ≤ valP l → (dg B32 z).length ≤ 100000 := by
  intro z hz
  have h1 := Nat.lt_of_le_of_lt hz (valP_lt l h)
  have h2 : 10 ^ l.length ≤ B32 ^ l.length := Nat.pow_le_pow_left (by decide) _
  have h3 := dg_len_le (b := B32) (by decide) (Nat.lt_of_lt_of_le h1 h2)
  omega
structure PrsIs (w W : World) (r : Nat) (s : Value) (acc : Nat) : Prop where
  below : Below w.heap.size w W
  c0 : W.heap[r]? = some (.cells #[.slice none 0 0] 26)
  c1 : W.heap[r + 1]? = some (.cells #[s] 26)
  sl : ∀ x : Nat, s ≠ u32V x
  nat : NatIs W (.agg #[s]) acc
theorem PrsIs.step {w W V : World} {r : Nat} {s : Value} {acc : Nat} (h : PrsIs w W r s acc) (hb : Below W.heap.size W V) : PrsIs w V r s acc :=
  ⟨h.below.trans (hb.mono h.below.size), blk_below hb (blk_lt h.c0) h.c0, blk_below hb (blk_lt h.c1) h.c1, h.sl, h.nat.below hb (Nat.le_refl _)⟩

set_option maxHeartbeats 8000000 in
theorem parse_rest (l : List UInt8) (w : World) (b : Bool) (m : Nat) (hb : l.all isDig = b) (hm : m = if b = true then valP l else 0) (h0 : l ≠ []) (h : l.length ≤ 10000) (h2 : ¬ (1 < l.length ∧ l.head? = some 48)) :
    Calls Try.prog 29 #[.string (bs l)] w fun e w' => ∃ v, e = .returned (.tuple #[v, .bool b]) ∧ NatIs w' v m ∧ Below w.heap.size w w' := by
  have HBB := Lib.hid hb
  have HMM := Lib.hid hm
  clear hb hm
  have hsz := bs_size l
  have h1 : ¬ (10000 : Int) < (l.length : Int) := by omega
  have hp : 0 < (bs l).size := by rw [hsz]; exact List.length_pos_iff.2 h0
  have he : (bs l).toList.isEmpty = false := by rw [bs_toList]; cases l with | nil => exact absurd rfl h0 | cons a l => rfl
  have he2 : ¬ (bs l).toList = [] := by rw [bs_toList]; exact h0
  have hc : ¬ (1 : Int) < ((bs l).size : Int) ∨ ((((bs l)[0]'hp).toNat : Int) == 48) = false := by
    by_cases hl : 1 < l.length
    · right
      rw [beq_eq_false_iff_ne]
      intro e
      apply h2
      refine ⟨hl, ?_⟩
      rw [bs_get l 0 (by omega)] at e
      rw [List.head?_eq_getElem?, List.getElem?_eq_getElem (by omega)]
      congr 1
      apply UInt8.toNat_inj.1
      have e2 : l[0].toNat = 48 := by omega
      exact e2.trans rfl
    · left; omega
  have hX := two_cells w (.cells #[.slice none 0 0] 26) (.cells #[.slice none 0 0] 26)
  have HI : Hid (PrsIs w ((w.alloc (.cells #[.slice none 0 0] 26)).alloc (.cells #[.slice none 0 0] 26)) w.heap.size (.slice none 0 0) 0) :=
    Lib.hid ⟨hX.2.2.1, hX.1, hX.2.1, sl_ne_u32 _ _ _, none, 0, by rw [dg_zero]; rfl, by rw [dg_zero]; exact Sl1.nil _ _ _, by rw [dg_zero]; exact Nat.le_refl _⟩
  clear hX
  have HSB : Hid (∀ i (hi : i < l.length), ∃ hi2 : i < (bs l).size, (bs l)[i]'hi2 = l[i]'hi) := Lib.hid (fun i hi => ⟨by rw [hsz]; exact hi, bs_get l i hi _⟩)
  have h1' : ¬ (10000 : Int) < ((bs l).size : Int) := by rw [hsz]; exact h1
  have HLN := Lib.hid hsz
  clear hsz h1 h2
  generalize bs l = s at *
  go_enter Try.func29, Try.ntmps29
  generalize hr : w.heap.size = r at HI
  have HR := Lib.hid hr
  by_cases h9 : (1 : Int) < (s.size : Int)
  · have hc' := hc.resolve_left (fun h => h h9)
    clear hc
    have hs0 := hp
    go_upto_region 5 with fail

    clear hr
    generalize (w.alloc (.cells #[.slice none 0 0] 26)).alloc (.cells #[.slice none 0 0] 26) = W0 at *
    clear hc'
    go_wp2_with fail
    go_loopg [27] l.length (fun n v27 W => ∃ (k : Nat) (s' : Value), k + n = l.length ∧ v27 = .int .i64 (k : Int) ∧ (∀ x ∈ l.take k, isDig x = true) ∧ PrsIs w W r s' (valP (l.take k)))
    case atStart => exact ⟨0, _, by omega, rfl, by simp, HI.out⟩
    case round =>
      obtain ⟨k, s', hk, rfl, hdg, hW⟩ := hrel
      rename World => W
      have HW := Lib.hid hW
      have HDG := Lib.hid hdg
      clear hW hdg
      by_cases hlt : k < l.length
      · obtain ⟨hi2, hget⟩ := HSB.out k hlt
        have hlt' : (k : Int) < (s.size : Int) := by omega
        have k0 : (0 : Int) ≤ (k : Int) := by omega
        have htk := take_snoc hlt
        have hval := valP_snoc (l.take k) l[k]
        rw [← htk] at hval
        have hpart : ∀ x ∈ l.take (k + 1), x ∈ l := fun x hx => List.mem_of_mem_take hx
        obtain ⟨x, hx⟩ : ∃ x, l[k] = x := ⟨_, rfl⟩
        rw [hx] at hget hval htk
        obtain ⟨xn, hxn⟩ : ∃ xn : Nat, (s[k]'hi2).toNat = xn := ⟨_, rfl⟩
        have hxe : x.toNat = xn := by rw [← hget]; exact hxn
        have hmem : x ∈ l := by rw [← hx]; exact List.getElem_mem _
        have HMEM := Lib.hid hmem
        have HHX := Lib.hid hx
        clear hx hpart hget hmem
        by_cases hd : isDig x = true
        · obtain ⟨e1, e2⟩ := digV x hd
          rw [hxe] at e1 e2 hval
          have hall : ∀ y ∈ l.take (k + 1), isDig y = true := by
            intro y hy
            rw [htk] at hy
            rcases List.mem_append.1 hy with hy | hy
            · exact HDG.out y hy
            · simp at hy; subst hy; exact hd
          have HALL := Lib.hid hall
          have hdl := valP_dg (l.take (k + 1)) (List.all_eq_true.2 hall) (by rw [List.length_take]; omega)
          obtain ⟨acc, hacc⟩ : ∃ acc, valP (l.take k) = acc := ⟨_, rfl⟩
          obtain ⟨d, hdd⟩ : ∃ d, xn - 48 = d := ⟨_, rfl⟩
          rw [hdd] at e1 e2 hval
          rw [hacc] at hval HW
          rw [hval] at hdl
          have HL1 := Lib.hid (hdl acc (by omega))
          have HL2 := Lib.hid (hdl (10 * acc) (by omega))
          have HL3 := Lib.hid (hdl d (by omega))
          have HVAL := Lib.hid hval
          have w1 : IntKind.u64.wrap (d : Int) = (d : Int) := IntWalk.u64_in _ (by omega)
          have e3 : ¬ (9 : Int) < (d : Int) := by omega
          have HDX := Lib.hid hdd
          have hd18 : d < B32 * B32 := Nat.lt_of_le_of_lt e2 (by decide)
          have HD18 := Lib.hid hd18
          obtain ⟨y0, y1⟩ := cell_facts HW.out.c1
          clear htk hval hall hdl hacc hdd hd18 hd hxe
          go_wp2_with fail
          refine (times_any _ acc 10 W HW.out.nat (by omega) HL1.out).mono ?_
          rintro e w3 ⟨v3, rfl, hn3, hb3⟩
          have HW3 := Lib.hid (HW.out.step hb3)
          have HN3 := Lib.hid hn3
          clear hn3 hb3
          go_wp2_with fail
          refine (int_any d w3 HD18.out).mono ?_
          rintro e w4 ⟨v4, rfl, hn4, hb4⟩
          have HW4 := Lib.hid (HW3.out.step hb4)
          have HN4 := Lib.hid hn4
          have HN3' := Lib.hid (HN3.out.below hb4 (Nat.le_refl _))
          clear hn4 hb4
          go_wp2_with fail
          refine (plus_any v3 v4 (10 * acc) d w4 HN3'.out HN4.out HL2.out HL3.out).mono ?_
          rintro e w6 ⟨v6, rfl, hn6, hb6⟩
          have HW6 := Lib.hid (HW4.out.step hb6)
          obtain ⟨A6, c6, rfl, hs6, hc6⟩ := hn6
          obtain ⟨p0, p1⟩ := cell_facts HW6.out.c1
          have HNX : Hid (PrsIs w (w6.setCell ⟨r + 1, 0, none⟩ (.slice A6 (dg B32 (10 * acc + d)).length c6)) r (.slice A6 (dg B32 (10 * acc + d)).length c6) (valP (l.take (k + 1)))) := Lib.hid (by
            have h := HW6.out
            refine ⟨h.below.setCell (p := ⟨r + 1, 0, none⟩) (by rw [HR.out]; show r ≤ r + 1; omega) _, blk_far (p := ⟨r + 1, 0, none⟩) h.c0 (by show r ≠ r + 1; omega) _, cell_put h.c1 _, sl_ne_u32 _ _ _, ?_⟩
            rw [HVAL.out, Nat.mul_comm acc 10]
            exact NatIs.put ⟨A6, c6, rfl, hs6, hc6⟩ h.c1 h.sl _)
          have wk : IntKind.i64.wrap ((k : Int) + 1) = (k : Int) + 1 := IntWalk.i64_in _ (by omega)
          clear hs6 hc6 hb6 y0 y1
          generalize (dg B32 (10 * acc + d)).length = l6 at HNX ⊢
          go_wp2_with fail
          go_roundg (gk - 1)
          case measure => omega
          case rel => exact ⟨k + 1, _, by omega, by simp, HALL.out, HNX.out⟩
        · have e1 := digN x (by simpa using hd)
          rw [hxe] at e1
          have HALL : Hid (l.all isDig = false) := Lib.hid (by
            cases ha : l.all isDig with
            | false => rfl
            | true => exact absurd (List.all_eq_true.1 ha x HMEM.out) hd)
          obtain ⟨y0, y1⟩ := cell_facts HW.out.c0
          obtain ⟨dz, hdz⟩ : ∃ dz, ((xn : Int) - 48) % 256 = dz := ⟨_, rfl⟩
          rw [hdz] at e1
          have HP := Lib.hid (cell_put HW.out.c0 (.slice none 0 0))
          have HB := Lib.hid (HW.out.below.setCell (p := ⟨r, 0, none⟩) (by rw [HR.out]; exact Nat.le_refl _) (.slice none 0 0))
          have HBF : Hid (b = false) := Lib.hid (by rw [← HBB.out]; exact HALL.out)
          have HZ : Hid (m = 0) := Lib.hid (by rw [HMM.out, HBF.out]; rfl)
          clear htk hval hd hxe

          go_wp2_with fail
          refine ret_cells_bool (x := .bool false) rfl rfl rfl (load_nat HP.out) ?_
          refine ⟨_, by rw [HBF.out], ?_, by first | exact HB.out | (have h := HB.out; rw [HR.out] at h; exact h)⟩
          rw [HZ.out]
          exact ⟨none, 0, by rw [dg_zero]; rfl, by rw [dg_zero]; exact Sl1.nil _ _ _, by rw [dg_zero]; exact Nat.le_refl _⟩
      · have hke : k = l.length := by omega
        have hlt' : ¬ (k : Int) < (s.size : Int) := by rw [HLN.out]; omega
        have HALL : Hid (l.all isDig = true) := Lib.hid (List.all_eq_true.2 (by have := HDG.out; rw [hke, List.take_length] at this; exact this))
        have HE : Hid (valP (l.take k) = valP l) := Lib.hid (by rw [hke, List.take_length])
        rw [HE.out] at HW
        have HBF : Hid (b = true) := Lib.hid (by rw [← HBB.out]; exact HALL.out)
        have HZ : Hid (m = valP l) := Lib.hid (by rw [HMM.out, HBF.out]; rfl)
        clear hke
        obtain ⟨A, c, hs, h1, h2⟩ := HW.out.nat
        simp only [Value.agg.injEq, List.cons.injEq, Array.mk.injEq, and_true] at hs
        subst hs
        have HQ := Lib.hid (NatIs.put HW.out.nat HW.out.c0 (sl_ne_u32 _ _ _) (.slice A (dg B32 (valP l)).length c))
        have HP := Lib.hid (cell_put HW.out.c0 (.slice A (dg B32 (valP l)).length c))
        have HB := Lib.hid (HW.out.below.setCell (p := ⟨r, 0, none⟩) (by rw [HR.out]; exact Nat.le_refl _) (.slice A (dg B32 (valP l)).length c))
        obtain ⟨z0, z1⟩ := cell_facts HW.out.c0
        obtain ⟨y0, y1⟩ := cell_facts HW.out.c1
        clear h1 h2 HW HE hk hlt
        generalize (dg B32 (valP l)).length = L at HP HQ HB y0 y1 ⊢
        go_wp2_with fail
        refine ret_cells_bool (x := .bool true) rfl rfl rfl (load_nat HP.out) ?_
        exact ⟨_, by rw [HBF.out], by rw [HZ.out]; exact HQ.out, by first | exact HB.out | (have h := HB.out; rw [HR.out] at h; exact h)⟩
  · clear hc
    go_upto_region 5 with fail

    clear hr
    generalize (w.alloc (.cells #[.slice none 0 0] 26)).alloc (.cells #[.slice none 0 0] 26) = W0 at *
    go_wp2_with fail
    go_loopg [27] l.length (fun n v27 W => ∃ (k : Nat) (s' : Value), k + n = l.length ∧ v27 = .int .i64 (k : Int) ∧ (∀ x ∈ l.take k, isDig x = true) ∧ PrsIs w W r s' (valP (l.take k)))
    case atStart => exact ⟨0, _, by omega, rfl, by simp, HI.out⟩
    case round =>
      obtain ⟨k, s', hk, rfl, hdg, hW⟩ := hrel
      rename World => W
      have HW := Lib.hid hW
      have HDG := Lib.hid hdg
      clear hW hdg
      by_cases hlt : k < l.length
      · obtain ⟨hi2, hget⟩ := HSB.out k hlt
        have hlt' : (k : Int) < (s.size : Int) := by omega
        have k0 : (0 : Int) ≤ (k : Int) := by omega
        have htk := take_snoc hlt
        have hval := valP_snoc (l.take k) l[k]
        rw [← htk] at hval
        have hpart : ∀ x ∈ l.take (k + 1), x ∈ l := fun x hx => List.mem_of_mem_take hx
        obtain ⟨x, hx⟩ : ∃ x, l[k] = x := ⟨_, rfl⟩
        rw [hx] at hget hval htk
        obtain ⟨xn, hxn⟩ : ∃ xn : Nat, (s[k]'hi2).toNat = xn := ⟨_, rfl⟩
        have hxe : x.toNat = xn := by rw [← hget]; exact hxn
        have hmem : x ∈ l := by rw [← hx]; exact List.getElem_mem _
        have HMEM := Lib.hid hmem
        have HHX := Lib.hid hx
        clear hx hpart hget hmem
        by_cases hd : isDig x = true
        · obtain ⟨e1, e2⟩ := digV x hd
          rw [hxe] at e1 e2 hval
          have hall : ∀ y ∈ l.take (k + 1), isDig y = true := by
            intro y hy
            rw [htk] at hy
            rcases List.mem_append.1 hy with hy | hy
            · exact HDG.out y hy
            · simp at hy; subst hy; exact hd
          have HALL := Lib.hid hall
          have hdl := valP_dg (l.take (k + 1)) (List.all_eq_true.2 hall) (by rw [List.length_take]; omega)
          obtain ⟨acc, hacc⟩ : ∃ acc, valP (l.take k) = acc := ⟨_, rfl⟩
          obtain ⟨d, hdd⟩ : ∃ d, xn - 48 = d := ⟨_, rfl⟩
          rw [hdd] at e1 e2 hval
          rw [hacc] at hval HW
          rw [hval] at hdl
          have HL1 := Lib.hid (hdl acc (by omega))
          have HL2 := Lib.hid (hdl (10 * acc) (by omega))
          have HL3 := Lib.hid (hdl d (by omega))
          have HVAL := Lib.hid hval
          have w1 : IntKind.u64.wrap (d : Int) = (d : Int) := IntWalk.u64_in _ (by omega)
          have e3 : ¬ (9 : Int) < (d : Int) := by omega
          have HDX := Lib.hid hdd
          have hd18 : d < B32 * B32 := Nat.lt_of_le_of_lt e2 (by decide)
          have HD18 := Lib.hid hd18
          obtain ⟨y0, y1⟩ := cell_facts HW.out.c1
          clear htk hval hall hdl hacc hdd hd18 hd hxe
          go_wp2_with fail
          refine (times_any _ acc 10 W HW.out.nat (by omega) HL1.out).mono ?_
          rintro e w3 ⟨v3, rfl, hn3, hb3⟩
          have HW3 := Lib.hid (HW.out.step hb3)
          have HN3 := Lib.hid hn3
          clear hn3 hb3
          go_wp2_with fail
          refine (int_any d w3 HD18.out).mono ?_
          rintro e w4 ⟨v4, rfl, hn4, hb4⟩
          have HW4 := Lib.hid (HW3.out.step hb4)
          have HN4 := Lib.hid hn4
          have HN3' := Lib.hid (HN3.out.below hb4 (Nat.le_refl _))
          clear hn4 hb4
          go_wp2_with fail
          refine (plus_any v3 v4 (10 * acc) d w4 HN3'.out HN4.out HL2.out HL3.out).mono ?_
          rintro e w6 ⟨v6, rfl, hn6, hb6⟩
          have HW6 := Lib.hid (HW4.out.step hb6)
          obtain ⟨A6, c6, rfl, hs6, hc6⟩ := hn6
          obtain ⟨p0, p1⟩ := cell_facts HW6.out.c1
          have HNX : Hid (PrsIs w (w6.setCell ⟨r + 1, 0, none⟩ (.slice A6 (dg B32 (10 * acc + d)).length c6)) r (.slice A6 (dg B32 (10 * acc + d)).length c6) (valP (l.take (k + 1)))) := Lib.hid (by
            have h := HW6.out
            refine ⟨h.below.setCell (p := ⟨r + 1, 0, none⟩) (by rw [HR.out]; show r ≤ r + 1; omega) _, blk_far (p := ⟨r + 1, 0, none⟩) h.c0 (by show r ≠ r + 1; omega) _, cell_put h.c1 _, sl_ne_u32 _ _ _, ?_⟩
            rw [HVAL.out, Nat.mul_comm acc 10]
            exact NatIs.put ⟨A6, c6, rfl, hs6, hc6⟩ h.c1 h.sl _)
          have wk : IntKind.i64.wrap ((k : Int) + 1) = (k : Int) + 1 := IntWalk.i64_in _ (by omega)
          clear hs6 hc6 hb6 y0 y1
          generalize (dg B32 (10 * acc + d)).length = l6 at HNX ⊢
          go_wp2_with fail
          go_roundg (gk - 1)
          case measure => omega
          case rel => exact ⟨k + 1, _, by omega, by simp, HALL.out, HNX.out⟩
        · have e1 := digN x (by simpa using hd)
          rw [hxe] at e1
          have HALL : Hid (l.all isDig = false) := Lib.hid (by
            cases ha : l.all isDig with
            | false => rfl
            | true => exact absurd (List.all_eq_true.1 ha x HMEM.out) hd)
          obtain ⟨y0, y1⟩ := cell_facts HW.out.c0
          obtain ⟨dz, hdz⟩ : ∃ dz, ((xn : Int) - 48) % 256 = dz := ⟨_, rfl⟩
          rw [hdz] at e1
          have HP := Lib.hid (cell_put HW.out.c0 (.slice none 0 0))
          have HB := Lib.hid (HW.out.below.setCell (p := ⟨r, 0, none⟩) (by rw [HR.out]; exact Nat.le_refl _) (.slice none 0 0))
          have HBF : Hid (b = false) := Lib.hid (by rw [← HBB.out]; exact HALL.out)
          have HZ : Hid (m = 0) := Lib.hid (by rw [HMM.out, HBF.out]; rfl)
          clear htk hval hd hxe

          go_wp2_with fail
          refine ret_cells_bool (x := .bool false) rfl rfl rfl (load_nat HP.out) ?_
          refine ⟨_, by rw [HBF.out], ?_, by first | exact HB.out | (have h := HB.out; rw [HR.out] at h; exact h)⟩
          rw [HZ.out]
          exact ⟨none, 0, by rw [dg_zero]; rfl, by rw [dg_zero]; exact Sl1.nil _ _ _, by rw [dg_zero]; exact Nat.le_refl _⟩
      · have hke : k = l.length := by omega
        have hlt' : ¬ (k : Int) < (s.size : Int) := by rw [HLN.out]; omega
        have HALL : Hid (l.all isDig = true) := Lib.hid (List.all_eq_true.2 (by have := HDG.out; rw [hke, List.take_length] at this; exact this))
        have HE : Hid (valP (l.take k) = valP l) := Lib.hid (by rw [hke, List.take_length])
        rw [HE.out] at HW
        have HBF : Hid (b = true) := Lib.hid (by rw [← HBB.out]; exact HALL.out)
        have HZ : Hid (m = valP l) := Lib.hid (by rw [HMM.out, HBF.out]; rfl)
        clear hke
        obtain ⟨A, c, hs, h1, h2⟩ := HW.out.nat
        simp only [Value.agg.injEq, List.cons.injEq, Array.mk.injEq, and_true] at hs
        subst hs
        have HQ := Lib.hid (NatIs.put HW.out.nat HW.out.c0 (sl_ne_u32 _ _ _) (.slice A (dg B32 (valP l)).length c))
        have HP := Lib.hid (cell_put HW.out.c0 (.slice A (dg B32 (valP l)).length c))
        have HB := Lib.hid (HW.out.below.setCell (p := ⟨r, 0, none⟩) (by rw [HR.out]; exact Nat.le_refl _) (.slice A (dg B32 (valP l)).length c))
        obtain ⟨z0, z1⟩ := cell_facts HW.out.c0
        obtain ⟨y0, y1⟩ := cell_facts HW.out.c1
        clear h1 h2 HW HE hk hlt
        generalize (dg B32 (valP l)).length = L at HP HQ HB y0 y1 ⊢
        go_wp2_with fail
        refine ret_cells_bool (x := .bool true) rfl rfl rfl (load_nat HP.out) ?_
        exact ⟨_, by rw [HBF.out], by rw [HZ.out]; exact HQ.out, by first | exact HB.out | (have h := HB.out; rw [HR.out] at h; exact h)⟩
end Go.Proofs.Ytnfehhblmoliaaa
