/- Layer 8 (bound): the contracts of the document's answer: Class, Cuts, Right, Pieces. -/
import Derived.Test.YtdppdjiigecjoaaBound1
import Derived.Test.YtdppdjiigecjoaaBound2
import Derived.Deep.RegionHeld3
namespace Go.Proofs.Ytdppdjiigecjoaa
open Go.RowKit
set_option maxRecDepth 100000
set_option linter.unusedVariables false
set_option linter.unusedSimpArgs false

def hasC (c : Cls) (b : Nat) : Bool := decide (c.lo ≤ (b : Int)) && decide ((b : Int) ≤ c.hi)
theorem putC_hit {C : Nat → Int} {c : Cls} {b : Nat} (h : hasC c b = true) : putC C c b = c.n := by
  simp only [hasC, Bool.and_eq_true, decide_eq_true_eq] at h
  simp only [putC, if_pos h]
theorem putC_miss {C : Nat → Int} {c : Cls} {b : Nat} (h : hasC c b = false) : putC C c b = C b := by
  simp only [hasC, Bool.and_eq_false_iff, decide_eq_false_iff_not] at h
  simp only [putC]
  rw [if_neg (by omega)]
theorem foldC_miss (l : List Cls) (b : Nat) : ∀ C : Nat → Int, (∀ c ∈ l, hasC c b = false) → l.foldl putC C b = C b := by
  induction l with
  | nil => intro C _; rfl
  | cons c l ih =>
    intro C h
    rw [List.foldl_cons, ih _ (fun c hc => h c (List.mem_cons_of_mem _ hc)), putC_miss (h c List.mem_cons_self)]
theorem Cof_at {l : List Cls} {k b : Nat} (hk : k < l.length) (h : hasC l[k] b = true) (hr : ∀ c ∈ l.drop (k + 1), hasC c b = false) : Cof l b = l[k].n := by
  have e : l = l.take k ++ (l[k] :: l.drop (k + 1)) := by rw [← List.drop_eq_getElem_cons hk, List.take_append_drop]
  unfold Cof
  conv => lhs; rw [e]
  rw [List.foldl_append, List.foldl_cons, foldC_miss _ _ _ hr, putC_hit h]
theorem Cof_none {l : List Cls} {b : Nat} (h : ∀ c ∈ l, hasC c b = false) : Cof l b = 0 := foldC_miss l b _ h

set_option maxHeartbeats 1000000 in
theorem rcls_any (cs : List Cls) (A : Option Addr) (B : Value) (cA : Nat) (b : Nat) (w : World) (hA : Sl w A encCls 3 cs) (hcs : cs.length < 9000000000000000000) (hb : b < 256) (hB : B.oneCell' = true) :
    Calls Try.prog 24 #[.agg #[.slice A cs.length cA, B], .int .u8 (b : Int)] w fun e w' => e = .returned (.int .i64 (Cof cs b)) ∧ Below w.heap.size w w' := by
  have HSA := Lib.hid hA
  clear hA
  go_enter Try.func24, Try.ntmps24
  go_wp2_with fail
  have hS := HSA.out.below ((Below.refl w.heap.size w).alloc (Nat.le_refl _) (.cells #[.slice A cs.length cA, B] 30)) (Nat.le_refl _)
  have c0 := blk_cell (blk_new w (.cells #[.slice A cs.length cA, B] 30)) 0
  have HS := Lib.hid hS
  have HBL := Lib.hid ((Below.refl w.heap.size w).alloc (Nat.le_refl _) (.cells #[.slice A cs.length cA, B] 30))
  clear hS
  simp only [List.getElem?_toArray, List.getElem?_cons_zero] at c0
  generalize hW : w.alloc (.cells #[.slice A cs.length cA, B] 30) = W at *
  clear hW
  go_loop [5] (fun i => ∃ k : Nat, k ≤ cs.length ∧ i = .int .i64 ((k : Int) - 1) ∧ (∀ c ∈ cs.drop k, hasC c b = false)) (fun i => (intOf i + 1).toNat)
  case atStart => exact ⟨cs.length, Nat.le_refl _, by simp, by simp⟩
  case round =>
    obtain ⟨k, hk, rfl, hr⟩ := hrel
    have HR := Lib.hid hr
    clear hr
    cases k with
    | zero =>
      go_wp2_with fail
      go_ret
      refine ⟨ret_int ?_, HBL.out⟩
      rw [Cof_none (by simpa using HR.out)]
    | succ k =>
      have hlt : k < cs.length := by omega
      obtain ⟨ba, o, rfl, hc0⟩ := HS.out.at k hlt
      have g0 : W.cell? ⟨ba, o + k * 3, none⟩ = some (.int .i64 cs[k].lo) := hc0 0 _ rfl
      have g1 : W.cell? ⟨ba, o + k * 3 + 1, none⟩ = some (.int .i64 cs[k].hi) := hc0 1 _ rfl
      have g2 : W.cell? ⟨ba, o + k * 3 + 2, none⟩ = some (.int .i64 cs[k].n) := hc0 2 _ rfl
      have HAT := Lib.hid (fun h => @Cof_at cs k b hlt h HR.out)
      have HD := Lib.hid (List.drop_eq_getElem_cons hlt)
      obtain ⟨c, hc⟩ : ∃ c, cs[k] = c := ⟨_, rfl⟩
      rw [hc] at g0 g1 g2
      have HC := Lib.hid hc
      clear hc0 hc
      go_wp2_with fail
      · have h1 : c.lo ≤ (b : Int) := by assumption
        have h2 : (b : Int) ≤ c.hi := by assumption
        go_ret
        refine ⟨ret_int ?_, HBL.out⟩
        rw [HAT.out (by rw [HC.out]; simp [hasC, h1, h2]), HC.out]
      · have h1 : c.hi < (b : Int) := by assumption
        go_round
        case rel =>
          refine ⟨k, by omega, rfl, ?_⟩
          rw [HD.out, HC.out]
          intro d hd
          rcases List.mem_cons.1 hd with rfl | hd
          · simp [hasC]; omega
          · exact HR.out d hd
        case measure => (simp [intOf]; try omega)
      · have h1 : ¬ c.lo ≤ (b : Int) := by assumption
        go_round
        case rel =>
          refine ⟨k, by omega, rfl, ?_⟩
          rw [HD.out, HC.out]
          intro d hd
          rcases List.mem_cons.1 hd with rfl | hd
          · simp [hasC]; omega
          · exact HR.out d hd
        case measure => (simp [intOf]; try omega)

theorem Jof_foldl (l : List Jn) (x y : Nat) : ∀ J : Nat → Nat → Bool, l.foldl putJ J x y = (l.any (fun j => decide ((x : Int) = j.a ∧ (y : Int) = j.b)) || J x y) := by
  induction l with
  | nil => intro J; simp
  | cons c l ih =>
    intro J
    rw [List.foldl_cons, ih, List.any_cons]
    unfold putJ
    by_cases h : (x : Int) = c.a ∧ (y : Int) = c.b
    · simp [h]
    · simp [h]
theorem Jof_any (l : List Jn) (x y : Nat) : Jof l x y = l.any (fun j => decide ((x : Int) = j.a ∧ (y : Int) = j.b)) := by
  unfold Jof
  rw [Jof_foldl]; simp

/-- what a walk over the document's table keeps -/
structure RTab (w0 : World) (cs : List Cls) (js : List Jn) (A B : Option Addr) (w : World) : Prop where
  below : Below w0.heap.size w0 w
  cl0 : Sl w0 A encCls 3 cs
  jn0 : Sl w0 B encJn 2 js
theorem RTab.cl {w0 w : World} {cs : List Cls} {js : List Jn} {A B : Option Addr} (h : RTab w0 cs js A B w) : Sl w A encCls 3 cs := h.cl0.below h.below (Nat.le_refl _)
theorem RTab.jn {w0 w : World} {cs : List Cls} {js : List Jn} {A B : Option Addr} (h : RTab w0 cs js A B w) : Sl w B encJn 2 js := h.jn0.below h.below (Nat.le_refl _)
theorem RTab.keep {w0 w w' : World} {cs : List Cls} {js : List Jn} {A B : Option Addr} (h : RTab w0 cs js A B w) (hb : Below w0.heap.size w w') : RTab w0 cs js A B w' := ⟨h.1.trans hb, h.2, h.3⟩
theorem RTab.step {w0 w w' : World} {cs : List Cls} {js : List Jn} {A B : Option Addr} (h : RTab w0 cs js A B w) (hb : Below w.heap.size w w') : RTab w0 cs js A B w' :=
  ⟨below_then h.1 h.1.size hb, h.2, h.3⟩
theorem RTab.drew {w0 w : World} {cs : List Cls} {js : List Jn} {A B : Option Addr} (h : RTab w0 cs js A B w) : RTab w0 cs js A B w.drew := ⟨h.1.drew, h.2, h.3⟩

set_option maxHeartbeats 1000000 in
theorem rcuts_any (cs : List Cls) (js : List Jn) (A B : Option Addr) (cA cB : Nat) (a b : Int) (w : World) (hA : Sl w A encCls 3 cs) (hB : Sl w B encJn 2 js) (hcs : cs.length < 9000000000000000000) (hjs : js.length < 9000000000000000000) (ha0 : 0 ≤ a) (ha : a < 256) (hb0 : 0 ≤ b) (hb : b < 256) (hr : cs.all spanB = true) :
    Calls Try.prog 18 #[.agg #[.slice A cs.length cA, .slice B js.length cB], .int .u8 a, .int .u8 b] w fun e w' => e = .returned (.bool (cutB (Cof cs) (Jof js) a.toNat b.toNat)) ∧ Below w.heap.size w w' := by
  obtain ⟨a, rfl⟩ := Int.eq_ofNat_of_zero_le ha0
  obtain ⟨b, rfl⟩ := Int.eq_ofNat_of_zero_le hb0
  have RA := Cof_small cs hr a
  have RB := Cof_small cs hr b
  simp only [Int.toNat_natCast]
  have H0 : RTab w cs js A B (w.alloc (.cells #[.slice A cs.length cA, .slice B js.length cB] 30)) := RTab.step ⟨Below.refl _ _, hA, hB⟩ ((Below.refl w.heap.size w).alloc (Nat.le_refl _) _)
  have c0 := blk_cell (blk_new w (.cells #[.slice A cs.length cA, .slice B js.length cB] 30)) 0
  have c1 := blk_cell (blk_new w (.cells #[.slice A cs.length cA, .slice B js.length cB] 30)) 1
  simp only [List.getElem?_toArray, List.getElem?_cons_zero, List.getElem?_cons_succ] at c0 c1
  have HC : ∀ (c : Nat) (W : World), c < 256 → W.cell? ⟨w.heap.size, 0, none⟩ = some (.slice A cs.length cA) ∧ W.cell? ⟨w.heap.size, 1, none⟩ = some (.slice B js.length cB) ∧ RTab w cs js A B W →
      Calls Try.prog 24 #[.agg #[.slice A cs.length cA, .slice B js.length cB], .int .u8 (c : Int)] W fun e W' => e = .returned (.int .i64 (Cof cs c)) ∧ W'.cell? ⟨w.heap.size, 0, none⟩ = some (.slice A cs.length cA) ∧ W'.cell? ⟨w.heap.size, 1, none⟩ = some (.slice B js.length cB) ∧ RTab w cs js A B W' := by
    intro c W hc ⟨h1, h2, h3⟩
    refine (rcls_any cs A (.slice B js.length cB) cA c W h3.cl hcs hc rfl).mono ?_
    rintro e W' ⟨rfl, hbW⟩
    exact ⟨rfl, below_cell hbW (Nat.le_refl _) h1, below_cell hbW (Nat.le_refl _) h2, h3.step hbW⟩
  have HCC := Lib.hid HC
  clear hA hB HC ha0 hb0
  go_enter Try.func18, Try.ntmps18
  go_wp2_with fail
  generalize w.alloc (.cells #[.slice A cs.length cA, .slice B js.length cB] 30) = W0 at *
  have HH := Lib.hid H0
  clear H0
  go_region_held3 (fun w' => w'.cell? ⟨w.heap.size, 0, none⟩ = some (.slice A cs.length cA) ∧ w'.cell? ⟨w.heap.size, 1, none⟩ = some (.slice B js.length cB) ∧ RTab w cs js A B w') (first | exact ⟨c0, c1, HH.out.drew⟩ | assumption | (refine ⟨?_, ?_, ?_⟩ <;> assumption))
    (first | (go_at_call 24; refine (HCC.out _ _ (by omega) (by assumption)).mono ?_; rintro e w' ⟨rfl, h⟩))
  rename World => W
  obtain ⟨d0, d1, dR⟩ := h
  have HR := Lib.hid dR
  clear c0 c1 dR HH HCC
  go_wp2_with fail
  go_loop [9] (fun i => ∃ k : Nat, k ≤ js.length ∧ i = .int .i64 (k : Int) ∧ (∀ j ∈ js.take k, ¬ (Cof cs a = j.a ∧ Cof cs b = j.b))) (fun i => js.length - (intOf i).toNat)
  case atStart => exact ⟨0, Nat.zero_le _, rfl, by simp⟩
  case round =>
    obtain ⟨k, hk, rfl, hno⟩ := hrel
    have HNO := Lib.hid hno
    clear hno
    by_cases hlt : k < js.length
    · obtain ⟨ba, o, rfl, hc0⟩ := HR.out.jn.at k hlt
      have g0 : W.cell? ⟨ba, o + k * 2, none⟩ = some (.int .i64 js[k].a) := hc0 0 _ rfl
      have g1 : W.cell? ⟨ba, o + k * 2 + 1, none⟩ = some (.int .i64 js[k].b) := hc0 1 _ rfl
      have HT := Lib.hid (take_snoc hlt)
      have HMEM := Lib.hid (List.getElem_mem hlt)
      obtain ⟨c, hc⟩ : ∃ c, js[k] = c := ⟨_, rfl⟩
      rw [hc] at g0 g1
      have HC := Lib.hid hc
      clear hc0 hc
      by_cases e1 : c.a = Cof cs a
      · by_cases e2 : c.b = Cof cs b
        · have E1 := Lib.hid e1
          have E2 := Lib.hid e2
          have t1 : (c.a == Cof cs a) = true := beq_iff_eq.2 e1
          have t2 : (c.b == Cof cs b) = true := beq_iff_eq.2 e2
          clear e1 e2
          go_wp2_with fail
          go_ret
          refine ⟨ret_bool ?_, HR.out.below⟩
          have hJ : Jof js (Cof cs a).toNat (Cof cs b).toNat = true := by
            rw [Jof_any, List.any_eq_true]
            refine ⟨c, by rw [← HC.out]; exact HMEM.out, ?_⟩
            rw [decide_eq_true_eq, E1.out, E2.out, Int.toNat_of_nonneg RA.1, Int.toNat_of_nonneg RB.1]
            exact ⟨rfl, rfl⟩
          simp [cutB, hJ]
        · have E2 := Lib.hid e2
          have t1 : (c.a == Cof cs a) = true := beq_iff_eq.2 e1
          have t2 : (c.b == Cof cs b) = false := beq_eq_false_iff_ne.2 e2
          clear e1 e2
          go_wp2_with fail
          go_round
          case rel =>
            refine ⟨k + 1, by omega, by go_num, ?_⟩
            rw [HT.out, HC.out]
            intro j hj
            rcases List.mem_append.1 hj with hj | hj
            · exact HNO.out j hj
            · rw [List.mem_singleton] at hj; subst hj; exact fun h => E2.out h.2.symm
          case measure => (simp [intOf]; try omega)
      · have E1 := Lib.hid e1
        have t1 : (c.a == Cof cs a) = false := beq_eq_false_iff_ne.2 e1
        clear e1
        go_wp2_with fail
        go_round
        case rel =>
          refine ⟨k + 1, by omega, by go_num, ?_⟩
          rw [HT.out, HC.out]
          intro j hj
          rcases List.mem_append.1 hj with hj | hj
          · exact HNO.out j hj
          · rw [List.mem_singleton] at hj; subst hj; exact fun h => E1.out h.1.symm
        case measure => (simp [intOf]; try omega)
    · obtain rfl : k = js.length := by omega
      go_wp2_with fail
      go_ret
      refine ⟨ret_bool ?_, HR.out.below⟩
      have hJ : Jof js (Cof cs a).toNat (Cof cs b).toNat = false := by
        rw [Jof_any, List.any_eq_false]
        intro j hj h
        rw [decide_eq_true_eq, Int.toNat_of_nonneg RA.1, Int.toNat_of_nonneg RB.1] at h
        exact HNO.out j (by rw [List.take_length]; exact hj) h
      rw [cutB, hJ]; by_cases e : Cof cs a = Cof cs b <;> simp [e]
end Go.Proofs.Ytdppdjiigecjoaa
