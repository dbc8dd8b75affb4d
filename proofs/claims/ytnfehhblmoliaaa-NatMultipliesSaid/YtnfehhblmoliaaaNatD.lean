/- Layer 1 (nat): String. -/
import Derived.Test.YtnfehhblmoliaaaNatC
import Derived.Laws.IdiomStrings
namespace Go.Proofs.Ytnfehhblmoliaaa
open Go.RowKit Go.Maps Go.WideMaps
set_option maxRecDepth 100000
set_option linter.unusedVariables false
set_option linter.unusedSimpArgs false

/-- a number's decimal digits, as bytes -/
def decB (n : Nat) : List Nat := if n = 0 then [48] else (dg 10 n).reverse.map (· + 48)
def decS (n : Nat) : ByteArray := bs ((decB n).map UInt8.ofNat)
/-- what is still to be told: r and 10^e q -/
theorem dg_step {m : Nat} (hm : 0 < m) (out : List Nat) (n : Nat) (h : dg 10 n = out ++ dg 10 m) : dg 10 n = (out ++ [m % 10]) ++ dg 10 (m / 10) := by
  rw [h, dg_pos (by decide) hm, List.append_assoc]; rfl
theorem rest_step (r q e : Nat) : (r + 10 ^ (e + 1) * q) % 10 = r % 10 ∧ (r + 10 ^ (e + 1) * q) / 10 = r / 10 + 10 ^ e * q := by
  have h : 10 ^ (e + 1) * q = 10 * (10 ^ e * q) := by rw [Nat.pow_succ, Nat.mul_comm (10 ^ e) 10, Nat.mul_assoc]
  rw [h]
  generalize 10 ^ e * q = z
  omega
theorem rest_lt (r e : Nat) (h : r < 10 ^ (e + 1)) : r / 10 < 10 ^ e := by
  rw [Nat.pow_succ] at h
  exact Nat.div_lt_of_lt_mul (by rw [Nat.mul_comm]; exact h)

theorem row_ne {w : World} {base e : TypeId} {size n : Nat} {v : Value} {xs : List Value} {tb : Nat} {cs : Array Value} {t : TypeId} {fz : Nat × Nat} (h : w.ownsRow base e size v n xs) (hb : w.heap[tb]? = some (.cells cs t fz)) (hne : t ≠ e) : v.ownBlock ≠ some tb := by
  rcases h.2 with ⟨rfl, _⟩ | ⟨g, cap, cur, rfl, _, hg, _⟩
  · simp [Value.ownBlock]
  · simp only [Value.ownBlock, ne_eq, Option.some.injEq]
    rintro rfl
    rw [hb] at hg
    simp only [Option.some.injEq, Obj.cells.injEq] at hg
    exact hne hg.2.1
theorem own_lt {w : World} {base : Nat} {e : TypeId} {size n : Nat} {v : Value} {xs : List Value} (h : w.ownsRow base e size v n xs) : ∀ k, v.ownBlock = some k → k < w.heap.size := by
  intro k hk
  rcases h.2 with ⟨rfl, _⟩ | ⟨g, cap, cur, rfl, hb, hg, _⟩
  · simp [Value.ownBlock] at hk
  · simp only [Value.ownBlock, Option.some.injEq] at hk; subst hk; exact blk_lt hg
structure InIs (w W : World) (r g4 : Nat) (q rv e n : Nat) (Aq : Option Addr) (cq : Nat) (out : List Nat) (A : Option Addr) (c : Nat) : Prop where
  below : Below w.heap.size w W
  c0 : ∃ s, W.heap[r]? = some (.cells #[s] 26) ∧ (∀ x : Nat, s ≠ u32V x)
  c4 : W.heap[g4]? = some (.cells #[.slice Aq (dg B32 q).length cq] 26)
  nq : NatIs W (.agg #[.slice Aq (dg B32 q).length cq]) q
  fr : 0 < q → ∀ a, Aq = some a → (Value.slice A out.length c).ownBlock ≠ some a.block ∧ a.block < W.heap.size
  row : W.ownsRow (w.heap.size + 1) 5 1 (.slice A out.length c) out.length (out.map fun d => u8V (d + 48))
  val : dg 10 n = out ++ dg 10 (rv + 10 ^ e * q)
  lt : rv < 10 ^ e
  small : q ≤ n
theorem InIs.grow {w W V : World} {r g4 q rv e n : Nat} {Aq : Option Addr} {cq : Nat} {out : List Nat} {A : Option Addr} {c : Nat} (h : InIs w W r g4 q rv (e + 1) n Aq cq out A c) {v' : Value} (hpos : 0 < rv ∨ 0 < q)
    (hown : V.ownsRow (w.heap.size + 1) 5 1 v' (out.length + 1) ((out.map fun d => u8V (d + 48)) ++ [u8V (rv % 10 + 48)])) (hg : W.grownBy V (Value.slice A out.length c).ownBlock) (hn : v'.ownBlock = (Value.slice A out.length c).ownBlock ∨ ∃ g, v'.ownBlock = some g ∧ W.heap.size ≤ g) :
    ∃ A' c', v' = .slice A' (out.length + 1) c' ∧ InIs w V r g4 q (rv / 10) e n Aq cq (out ++ [rv % 10]) A' c' := by
  obtain ⟨A', c', rfl⟩ := own_slice hown
  have hk : Keep (fun g => (Value.slice A out.length c).ownBlock = some g) W V := Keep.of_grown hg (fun g hg => hg)
  obtain ⟨s, hs1, hs2⟩ := h.c0
  have hl : (out ++ [rv % 10]).length = out.length + 1 := by simp
  obtain ⟨hm1, hm2⟩ := rest_step rv q e
  refine ⟨A', c', rfl, h.below.trans (hk.below (B := w.heap.size) h.below.size (fun x hx => by have := own_base h.row x hx; omega)), ⟨s, hk.blk hs1 (fun e => row_ne h.row hs1 (by decide) e), hs2⟩, hk.blk h.c4 (fun e => row_ne h.row h.c4 (by decide) e), ?_, ?_, ?_, ?_, rest_lt _ _ h.lt, h.small⟩
  · obtain ⟨A2, c2, e2, h1, h2⟩ := h.nq
    refine ⟨A2, c2, e2, ?_, h2⟩
    simp only [Value.agg.injEq, List.cons.injEq, Array.mk.injEq, and_true, Value.slice.injEq] at e2
    obtain ⟨e3, _, _⟩ := e2
    subst e3
    rcases Nat.eq_zero_or_pos q with hq | hq
    · subst hq; rw [dg_zero]; exact Sl1.nil _ _ _
    · exact sl1_keep h1 hk (fun a ha e => (h.fr hq a ha).1 e)
  · intro hq a ha
    obtain ⟨h1, h2⟩ := h.fr hq a ha
    refine ⟨?_, Nat.lt_of_lt_of_le h2 hk.size⟩
    rw [hl]
    rcases hn with hn | ⟨g, hn, hgg⟩
    · rw [hn]; exact h1
    · rw [hn]
      intro e
      simp at e
      omega
  · rw [hl, List.map_append]; exact hown
  · have hp : 0 < rv + 10 ^ (e + 1) * q := by
      rcases hpos with h1 | h1
      · omega
      · have : 0 < 10 ^ (e + 1) * q := Nat.mul_pos (Nat.pow_pos (by decide)) h1
        omega
    have := dg_step hp out n h.val
    rwa [hm1, hm2] at this
structure StrIs (w W : World) (r : Nat) (m n : Nat) (out : List Nat) (A : Option Addr) (c : Nat) : Prop where
  below : Below w.heap.size w W
  c0 : ∃ s, W.heap[r]? = some (.cells #[s] 26) ∧ (∀ x : Nat, s ≠ u32V x) ∧ NatIs W (.agg #[s]) m
  row : W.ownsRow (w.heap.size + 1) 5 1 (.slice A out.length c) out.length (out.map fun d => u8V (d + 48))
  val : dg 10 n = out ++ dg 10 m
  small : m ≤ n

set_option maxHeartbeats 8000000 in
theorem string_any (v1 : Value) (n : Nat) (w : World) (h1 : NatIs w v1 n) (hl : (dg B32 n).length ≤ 100000) (hd10 : (dg 10 n).length ≤ 100000000) :
    Calls Try.prog 24 #[v1] w fun e w' => e = .returned (.string (decS n)) ∧ Below w.heap.size w w' := by
  have HSM := Lib.hid (fun m (h : m ≤ n) => Nat.le_trans (dg_len_mono (b := B32) (by decide) h) hl)
  obtain ⟨A1, c1, rfl, s1, k1⟩ := h1
  have hb0 := (Below.refl w.heap.size w).alloc (Nat.le_refl _) (.cells #[.slice A1 (dg B32 n).length c1] 26)
  have hx0 := blk_new w (.cells #[.slice A1 (dg B32 n).length c1] 26)
  have HN0 := Lib.hid (NatIs.below ⟨A1, c1, rfl, s1, k1⟩ hb0 (Nat.le_refl _))
  have HI : Hid (StrIs w (w.alloc (.cells #[.slice A1 (dg B32 n).length c1] 26)) w.heap.size n n [] none 0) :=
    Lib.hid ⟨hb0, ⟨_, hx0, sl_ne_u32 _ _ _, NatIs.below ⟨A1, c1, rfl, s1, k1⟩ hb0 (Nat.le_refl _)⟩, own_nil _ _ _ _, rfl, Nat.le_refl _⟩
  have HB0 := Lib.hid hb0
  obtain ⟨f0, f1⟩ := cell_facts hx0
  clear s1 k1 hb0 hx0 hl
  go_enter Try.func24, Try.ntmps24
  go_upto_region 1 with fail
  generalize w.alloc (.cells #[.slice A1 (dg B32 n).length c1] 26) = W0 at *
  generalize Value.slice A1 (dg B32 n).length c1 = s0 at *
  have HRR : Hid (w.heap.size = w.heap.size) := Lib.hid rfl
  generalize hr : w.heap.size = r at HI f0 f1 ⊢
  have HR := Lib.hid hr
  clear hr HRR
  go_wp2_with fail
  refine (zero_any _ n W0 HN0.out).mono ?_
  rintro e W1 ⟨rfl, hb1⟩
  by_cases hz : n = 0
  · subst hz
    have hB1 := HB0.out.trans (hb1.mono HB0.out.size)
    have hd : decide ((0 : Nat) = 0) = true := rfl
    rw [hd]
    clear hd
    go_wp2_with fail
    go_ret
    exact ⟨rfl, hB1⟩
  · have hd : decide (n = 0) = false := by simp [hz]
    rw [hd]
    have HI1 : Hid (StrIs w W1 r n n [] none 0) := Lib.hid (by
      obtain ⟨s, hs1, hs2, hs3⟩ := HI.out.c0
      exact ⟨HI.out.below.trans (hb1.mono HI.out.below.size), ⟨s, blk_below hb1 (blk_lt hs1) hs1, hs2, hs3.below hb1 (Nat.le_refl _)⟩, own_below HI.out.row hb1 (Nat.le_refl _), HI.out.val, HI.out.small⟩)
    clear hd hb1 HI f0 f1
    go_wp2_with fail
    go_loopg [3] n (fun m v3 W => ∃ (out : List Nat) (A : Option Addr) (c : Nat), v3 = .slice A out.length c ∧ StrIs w W r m n out A c)
    case atStart => exact ⟨[], none, 0, rfl, HI1.out⟩
    case round =>
      obtain ⟨out, A, c, rfl, hW⟩ := hrel
      rename World => W
      clear HI1
      have HW := Lib.hid hW
      clear hW
      obtain ⟨s, hs1, hs2, hs3⟩ := HW.out.c0
      have HS3 := Lib.hid hs3
      obtain ⟨z0, z1⟩ := cell_facts hs1
      have HC0 := Lib.hid (And.intro hs1 hs2)
      clear hs1 hs2 hs3
      go_wp2_with fail
      refine (zero_any (.agg #[s]) gk W HS3.out).mono ?_
      rintro e W2 ⟨rfl, hb2⟩
      have HB2 := Lib.hid (HW.out.below.trans (hb2.mono HW.out.below.size))
      have HR2 := Lib.hid (own_below HW.out.row hb2 (Nat.le_refl _))
      have HC2 := Lib.hid (And.intro (blk_below hb2 (blk_lt HC0.out.1) HC0.out.1) HC0.out.2)
      have HS2 := Lib.hid (HS3.out.below hb2 (Nat.le_refl _))
      obtain ⟨y0, y1⟩ := cell_facts HC2.out.1
      have HV := Lib.hid HW.out.val
      have HSMM := Lib.hid HW.out.small
      have hlt10 : ∀ d ∈ out, d < 10 := by
        intro d hd
        have : d ∈ dg 10 n := by rw [HV.out]; exact List.mem_append_left _ hd
        exact dg_lt (by decide) n d this
      have HL10 := Lib.hid hlt10
      clear z0 z1 hb2 HC0 HS3 HW hlt10
      rcases Nat.eq_zero_or_pos gk with hg0 | hg0
      · subst hg0
        have hout : out = dg 10 n := by have := HV.out; rw [dg_zero, List.append_nil] at this; exact this.symm
        have hne : 0 < out.length := by rw [hout]; exact List.length_pos_iff.2 (dg_ne_nil (by decide) (Nat.pos_of_ne_zero hz))
        obtain ⟨g, cap, hA, hgb, _, _⟩ := own_open HR2.out hne
        simp only [Value.slice.injEq, true_and] at hA
        obtain ⟨rfl, rfl⟩ := hA
        have hl8 : (out.map (· + 48)).length = out.length := by simp
        have hrow : W2.ownsRow (w.heap.size + 1) 5 1 (.slice (some ⟨g, 0, none⟩) (out.map (· + 48)).length c) (out.map (· + 48)).length ((out.map (· + 48)).map u8V) := by
          rw [hl8, List.map_map]; exact HR2.out
        have hol : out.length < 1000000000000000000 := by
          have h9 : out.length ≤ 100000000 := by rw [hout]; exact hd10
          omega
        have HREV := Lib.hid (reverse_any (out.map (· + 48)) _ g c W2 hrow hgb (by rw [hl8]; exact hol))
        rw [hl8] at HREV
        have HOUT := Lib.hid hout
        have hdd : decide ((0 : Nat) = 0) = true := rfl
        rw [hdd]
        clear hdd hout hl8 hrow
        go_wp2_with fail
        refine HREV.out.mono ?_
        rintro e W3 ⟨rfl, hr3, hk3⟩
        have hb3 : Below w.heap.size w W3 := HB2.out.trans (hk3.below (B := w.heap.size) HB2.out.size (fun x hx => by omega))
        have hcv : (convert 29 9 (.slice (some ⟨g, 0, none⟩) out.length c)).run Try.prog W3 = .ok (.string (decS n)) W3 := by
          have hl9 : (((out.map (· + 48)).reverse).map UInt8.ofNat).length = out.length := by simp
          have := run_convert_bytes_back (P := Try.prog) W3 29 9 5 ⟨g, 0, none⟩ c (((out.map (· + 48)).reverse).map UInt8.ofNat) Try.underlying29 Try.underlying5 Try.underlying9 ?_
          · rw [hl9] at this
            rw [this]
            unfold decS decB
            rw [if_neg hz, ← HOUT.out, ← List.map_reverse]
            rfl
          · intro j hj
            rw [hl9] at hj
            have hj2 : j < ((out.map (· + 48)).reverse).length := by simpa using hj
            have hx := (own_at hr3 j (u8V (((out.map (· + 48)).reverse)[j])) (by rw [List.getElem?_map, List.getElem?_eq_getElem hj2]; rfl)).1
            rw [add_plain, Nat.zero_add, hx]
            have hm : ((out.map (· + 48)).reverse)[j] ∈ (out.map (· + 48)).reverse := List.getElem_mem _
            rw [List.mem_reverse, List.mem_map] at hm
            obtain ⟨d, hd, he⟩ := hm
            have hd10 := HL10.out d hd
            simp only [List.getElem_map, u8V]
            rw [← he]
            simp
            omega
        have HB3 := Lib.hid hb3
        clear hr3 hk3 hb3 hgb hne
        go_wp2_with fail
        go_ret
        exact ⟨rfl, HB3.out⟩
      · have hdd : decide (gk = 0) = false := by simp; omega
        rw [hdd]
        clear hdd
        go_wp2_with fail
        refine (divide_any (.agg #[s]) gk 1000000000 W2 HS2.out (by decide) (by decide) (HSM.out _ HSMM.out)).mono ?_
        rintro e W3 ⟨v, rfl, hq3, hb3, hfr⟩
        obtain ⟨Aq, cq, rfl, hq4, hq5⟩ := hq3
        obtain ⟨qd, hqd⟩ : ∃ qd, gk / 1000000000 = qd := ⟨_, rfl⟩
        obtain ⟨rv, hrv⟩ : ∃ rv, gk % 1000000000 = rv := ⟨_, rfl⟩
        rw [hqd] at hq4 hq5 hfr ⊢
        rw [hrv]
        have hgm : gk = rv + 10 ^ 9 * qd := by rw [← hqd, ← hrv]; exact (Nat.mod_add_div gk 1000000000).symm
        have HLTQ : Hid (qd < gk) := Lib.hid (by rw [← hqd]; exact Nat.div_lt_self hg0 (by decide))
        have hrvl : rv < 1000000000 := by rw [← hrv]; exact Nat.mod_lt _ (by decide)
        have hb4 := hb3.alloc hb3.size (.cells #[.slice Aq (dg B32 qd).length cq] 26)
        have hb4' : Below W3.heap.size W3 (W3.alloc (.cells #[.slice Aq (dg B32 qd).length cq] 26)) := (Below.refl _ _).alloc (Nat.le_refl _) _
        have HG4 : Hid (w.heap.size ≤ W3.heap.size) := Lib.hid (Nat.le_trans HB2.out.size hb3.size)
        have HIN0 : Hid (InIs w (W3.alloc (.cells #[.slice Aq (dg B32 qd).length cq] 26)) r W3.heap.size qd rv 9 n Aq cq out A c) := Lib.hid (by
          refine ⟨HB2.out.trans (hb4.mono HB2.out.size), ⟨s, blk_below hb4 (blk_lt HC2.out.1) HC2.out.1, HC2.out.2⟩, blk_new W3 _, NatIs.below ⟨Aq, cq, rfl, hq4, hq5⟩ hb4' (Nat.le_refl _), ?_, own_below HR2.out hb4 (Nat.le_refl _), by rw [← hgm]; exact HV.out, hrvl, by have := HSMM.out; have := HLTQ.out; omega⟩
          intro hq a ha
          have h1 := hfr _ _ _ rfl a ha
          refine ⟨fun e => by have := own_lt HR2.out _ e; omega, ?_⟩
          obtain ⟨x, l', hx⟩ := List.exists_cons_of_ne_nil (dg_ne_nil (b := B32) (by decide) hq)
          obtain ⟨b, o, e1, hc1⟩ := hq4 0 x (by rw [hx]; rfl)
          rw [e1] at ha
          cases ha
          have := World.block_lt_of_cell? _ _ hc1
          exact Nat.lt_of_lt_of_le this hb4'.size)
        have HRVL := Lib.hid hrvl
        clear hb3 hb4 hb4' hq4 hq5 hfr hqd hrv hgm hrvl HR2 y0 y1 HV HC2 HS2 HL10 HB2
        go_wp2_with fail
        generalize W3.alloc (.cells #[.slice Aq (dg B32 qd).length cq] 26) = W4 at *
        generalize W3.heap.size = g4 at *
        go_loopg [3, 5, 6] 9 (fun e v3 v5 v6 V => ∃ (i rv : Nat) (out : List Nat) (A : Option Addr) (c : Nat), i + e = 9 ∧ v6 = .int .i64 (i : Int) ∧ v5 = .int .u32 (rv : Int) ∧ v3 = .slice A out.length c ∧ rv < 1000000000 ∧ InIs w V r g4 qd rv e n Aq cq out A c)
        case atStart => exact ⟨0, rv, out, A, c, rfl, rfl, rfl, rfl, HRVL.out, HIN0.out⟩
        case round =>
          clear HRVL HIN0
          obtain ⟨i, r5, o5, A5, c5, hi, rfl, rfl, rfl, hrvl, hIN⟩ := hrel
          rename World => V
          have HIN := Lib.hid hIN
          have HRVL := Lib.hid hrvl
          clear hIN hrvl
          rcases Nat.eq_zero_or_pos gk with he0 | he0
          · subst he0
            have hi9 : i = 9 := by omega
            subst hi9
            have HVAL : Hid (dg 10 n = o5 ++ dg 10 qd) := Lib.hid (by
              have h1 := HIN.out.val
              have h2 := HIN.out.lt
              rw [show r5 = 0 by simpa using h2] at h1
              simpa using h1)
            have hX := HIN.out
            obtain ⟨sx, hsx1, hsx2⟩ := hX.c0
            obtain ⟨x0, x1⟩ := cell_facts hsx1
            obtain ⟨x4, x5⟩ := cell_facts hX.c4
            have HSX : Hid (StrIs w (V.setCell ⟨r, 0, none⟩ (.slice Aq (dg B32 qd).length cq)) r qd n o5 A5 c5) := Lib.hid (by
              refine ⟨hX.below.setCell (p := ⟨r, 0, none⟩) (by rw [HR.out]; exact Nat.le_refl _) _, ⟨_, cell_put hsx1 _, sl_ne_u32 _ _ _, NatIs.put hX.nq hsx1 hsx2 _⟩, ?_, HVAL.out, hX.small⟩
              exact own_keep hX.row (Keep.setCell (F := fun x => x = r) (p := ⟨r, 0, none⟩) (Keep.refl _ _) (.inl rfl) _) (fun g hg e => by subst e; exact row_ne hX.row hsx1 (by decide) hg))
            clear hX hsx1 hsx2
            go_wp2_with fail
            go_roundg qd
            case measure => exact HLTQ.out
            case rel => exact ⟨o5, A5, c5, rfl, HSX.out⟩
          · obtain ⟨e, rfl⟩ : ∃ e, gk = e + 1 := ⟨gk - 1, by omega⟩
            have hi9 : (i : Int) < 9 := by omega
            rcases Nat.eq_zero_or_pos r5 with hr0 | hr0
            · subst hr0
              have hr1 : ¬ (0 : Int) < 0 := by omega
              obtain ⟨x4, x5⟩ := cell_facts HIN.out.c4
              go_wp2_with fail
              refine (zero_any _ qd V HIN.out.nq).mono ?_
              rintro e9 V2 ⟨rfl, hb9⟩
              have HIN2 : Hid (InIs w V2 r g4 qd 0 (e + 1) n Aq cq o5 A5 c5) := Lib.hid (by
                have h := HIN.out
                obtain ⟨s', h1, h2⟩ := h.c0
                exact ⟨h.below.trans (hb9.mono h.below.size), ⟨s', blk_below hb9 (blk_lt h1) h1, h2⟩, blk_below hb9 (blk_lt h.c4) h.c4, h.nq.below hb9 (Nat.le_refl _), fun hq a ha => ⟨(h.fr hq a ha).1, Nat.lt_of_lt_of_le (h.fr hq a ha).2 hb9.size⟩, own_below h.row hb9 (Nat.le_refl _), h.val, h.lt, h.small⟩)
              clear hb9 x4 x5 HIN
              have HIN := HIN2
              clear HIN2
              rename World => V
              rcases Nat.eq_zero_or_pos qd with hq0 | hq0
              · have hdd : decide (qd = 0) = true := by simp [hq0]
                rw [hdd]
                clear hdd
                have HVAL : Hid (dg 10 n = o5 ++ dg 10 qd) := Lib.hid (by
                  have h1 := HIN.out.val
                  rw [hq0] at h1 ⊢
                  simpa using h1)
                clear hq0
                have hX := HIN.out
                obtain ⟨sx, hsx1, hsx2⟩ := hX.c0
                obtain ⟨x0, x1⟩ := cell_facts hsx1
                obtain ⟨x4, x5⟩ := cell_facts hX.c4
                have HSX : Hid (StrIs w (V.setCell ⟨r, 0, none⟩ (.slice Aq (dg B32 qd).length cq)) r qd n o5 A5 c5) := Lib.hid (by
                  refine ⟨hX.below.setCell (p := ⟨r, 0, none⟩) (by rw [HR.out]; exact Nat.le_refl _) _, ⟨_, cell_put hsx1 _, sl_ne_u32 _ _ _, NatIs.put hX.nq hsx1 hsx2 _⟩, ?_, HVAL.out, hX.small⟩
                  exact own_keep hX.row (Keep.setCell (F := fun x => x = r) (p := ⟨r, 0, none⟩) (Keep.refl _ _) (.inl rfl) _) (fun g hg e => by subst e; exact row_ne hX.row hsx1 (by decide) hg))
                clear hX hsx1 hsx2
                go_wp2_with fail
                go_roundg qd
                case measure => exact HLTQ.out
                case rel => exact ⟨o5, A5, c5, rfl, HSX.out⟩
              · have hdd : decide (qd = 0) = false := by simp; omega
                rw [hdd]
                clear hdd hr1
                have HR5 : Hid ((0 : Nat) = 0) := Lib.hid rfl
                have HROW := Lib.hid HIN.out.row
                have HGEN : Hid (w.heap.size + 1 ≤ V.heap.size) := Lib.hid (by have h1 := blk_lt HIN.out.c4; have h2 := HG4.out; omega)
                have hol : o5.length ≤ 100000000 := by
                  have h1 := congrArg List.length HIN.out.val
                  rw [List.length_append] at h1
                  omega
                go_wp2_with (at_builtin; refine app_new (w.heap.size + 1) 29 5 (.int .u8 0) 1 1 [_] 1 _ _ rfl rfl Try.underlying29 info_u8 rfl (by decide) _ _ _ rfl rfl rfl (by intro u hu; simp at hu; subst hu; rfl) HROW.out (by omega) (by omega) HGEN.out ?_)
                intro v' w9 hown hg9 hnew
                have HGR : Hid (∃ A' c', v' = .slice A' (o5.length + 1) c' ∧ InIs w w9 r g4 qd (0 / 10) e n Aq cq (o5 ++ [0 % 10]) A' c') := Lib.hid (HIN.out.grow (Or.inr hq0) (by exact hown) hg9 hnew)
                obtain ⟨A6, c6, rfl, hN6⟩ := HGR.out
                have HN6 := Lib.hid hN6
                clear hown hg9 hnew HGR hN6
                have wi : IntKind.i64.wrap ((i : Int) + 1) = (i : Int) + 1 := IntWalk.i64_in _ (by omega)
                go_wp2_with fail
                go_roundg e
                case measure => omega
                case rel => exact ⟨i + 1, 0, _, A6, c6, by omega, by simp, rfl, by simp, by omega, HN6.out⟩
            · have hr1 : (0 : Int) < (r5 : Int) := by omega
              have HROW := Lib.hid HIN.out.row
              have HGEN : Hid (w.heap.size + 1 ≤ V.heap.size) := Lib.hid (by have h1 := blk_lt HIN.out.c4; have h2 := HG4.out; omega)
              have hol : o5.length ≤ 100000000 := by
                have h1 := congrArg List.length HIN.out.val
                rw [List.length_append] at h1
                omega
              obtain ⟨d, hd⟩ : ∃ d, r5 % 10 = d := ⟨_, rfl⟩
              obtain ⟨rq, hrq⟩ : ∃ rq, r5 / 10 = rq := ⟨_, rfl⟩
              have wd : ((r5 : Int) % 10) = (d : Int) := by omega
              have wq : ((r5 : Int) / 10) = (rq : Int) := by omega
              have hd9 : d < 10 := by omega
              have hrv : r5 < 1000000000 := HRVL.out
              have w1 : IntKind.u32.wrap (48 + (d : Int)) = 48 + (d : Int) := IntWalk.u32_in _ (by omega)
              have w2 : (48 + (d : Int)) % 4294967296 = 48 + (d : Int) := by omega
              have w3 : (48 + (d : Int)) % 256 = ((d + 48 : Nat) : Int) := by omega
              have w4 : IntKind.u32.wrap (rq : Int) = (rq : Int) := IntWalk.u32_in _ (by omega)
              have w5 : (rq : Int) % 4294967296 = (rq : Int) := by omega
              have hrql : rq < 1000000000 := by omega
              have HDQ := Lib.hid (And.intro hd hrq)
              clear hd hrq
              go_wp2_with (at_builtin; refine app_new (w.heap.size + 1) 29 5 (.int .u8 0) 1 1 [_] 1 _ _ rfl rfl Try.underlying29 info_u8 rfl (by decide) _ _ _ rfl rfl rfl (by intro u hu; simp at hu; subst hu; rfl) HROW.out (by omega) (by omega) HGEN.out ?_)
              intro v' w9 hown hg9 hnew
              have HGR : Hid (∃ A' c', v' = .slice A' (o5.length + 1) c' ∧ InIs w w9 r g4 qd (r5 / 10) e n Aq cq (o5 ++ [r5 % 10]) A' c') := Lib.hid (HIN.out.grow (Or.inl hr0) (by rw [HDQ.out.1]; have h := hown; rw [show (48 + (d : Int)) = ((d + 48 : Nat) : Int) by omega] at h; exact h) hg9 hnew)
              obtain ⟨A6, c6, rfl, hN6⟩ := HGR.out
              rw [HDQ.out.1, HDQ.out.2] at hN6
              have HN6 := Lib.hid hN6
              clear hown hg9 hnew HGR hN6
              have wi : IntKind.i64.wrap ((i : Int) + 1) = (i : Int) + 1 := IntWalk.i64_in _ (by omega)
              go_wp2_with fail
              go_roundg e
              case measure => omega
              case rel => exact ⟨i + 1, rq, _, A6, c6, by omega, by simp, rfl, by simp, hrql, HN6.out⟩
end Go.Proofs.Ytnfehhblmoliaaa
