/- Layer 8 (bound): the contract of New: a table of any classes and joins, or that they aren't right. -/
import Derived.Test.YtdppdjiigecjoaaBound0
import Derived.StillTailTactics
namespace Go.Proofs.Ytdppdjiigecjoaa
open Go.RowKit
set_option maxRecDepth 100000
set_option linter.unusedVariables false
set_option linter.unusedSimpArgs false

def putC (C : Nat → Int) (c : Cls) : Nat → Int := fun j => if c.lo ≤ (j : Int) ∧ (j : Int) ≤ c.hi then c.n else C j
def putJ (J : Nat → Nat → Bool) (j : Jn) : Nat → Nat → Bool := fun x y => if (x : Int) = j.a ∧ (y : Int) = j.b then true else J x y
def Cof (l : List Cls) : Nat → Int := l.foldl putC (fun _ => 0)
def Jof (l : List Jn) : Nat → Nat → Bool := l.foldl putJ (fun _ _ => false)
theorem Cof_snoc (l : List Cls) (c : Cls) : Cof (l ++ [c]) = putC (Cof l) c := by simp [Cof]
theorem Jof_snoc (l : List Jn) (c : Jn) : Jof (l ++ [c]) = putJ (Jof l) c := by simp [Jof]
theorem all_snoc {α : Type} (p : α → Bool) (l : List α) (c : α) : (l ++ [c]).all p = (l.all p && p c) := by simp
theorem all_false {α : Type} {p : α → Bool} {l : List α} {c : α} {k : Nat} (h : l[k]? = some c) (hp : p c = false) : l.all p = false := by
  rw [List.all_eq_false]
  exact ⟨c, List.mem_of_getElem? h, by simp [hp]⟩

def NewPost (cs : List Cls) (js : List Jn) (w : World) (e : Ending) (w' : World) : Prop :=
  Below w.heap.size w w' ∧
  if cs.all spanB && js.all jnB then ∃ bk, w.heap.size ≤ bk ∧ e = .returned (.tuple #[.pointer (some ⟨bk, 0, none⟩), .int .i64 0]) ∧ BTab w' bk (Cof cs) (Jof js)
  else e = .returned (.tuple #[.pointer none, .int .i64 1])

theorem Cof_small0 (l : List Cls) : ∀ C : Nat → Int, (∀ i, 0 ≤ C i ∧ C i < 16) → l.all spanB = true → ∀ i, 0 ≤ l.foldl putC C i ∧ l.foldl putC C i < 16 := by
  induction l with
  | nil => intro C h _ i; exact h i
  | cons c l ih =>
    intro C h ha i
    rw [List.all_cons, Bool.and_eq_true] at ha
    rw [List.foldl_cons]
    refine ih _ (fun j => ?_) ha.2 i
    unfold putC
    split
    · have := ha.1
      simp only [spanB, decide_eq_true_eq] at this
      omega
    · exact h j
theorem Cof_small (l : List Cls) (h : l.all spanB = true) (i : Nat) : 0 ≤ Cof l i ∧ Cof l i < 16 := Cof_small0 l _ (fun _ => by simp) h i

theorem new_bad {cs : List Cls} {js : List Jn} {w w' : World} (hb : Below w.heap.size w w') (h : cs.all spanB = false ∨ js.all jnB = false) : NewPost cs js w (.returned (.tuple #[.pointer none, .int .i64 1])) w' := by
  refine ⟨hb, ?_⟩
  rw [if_neg (by rcases h with h | h <;> simp [h])]
theorem new_good {cs : List Cls} {js : List Jn} {w w' : World} {bk : Nat} (hb : Below w.heap.size w w') (h : cs.all spanB = true) (h' : js.all jnB = true) (hbk : w.heap.size ≤ bk)
    (ht : w'.heap[bk]? = some (.cells (tabArr (Cof cs) (Jof js)) 105 (0, 0))) : NewPost cs js w (.returned (.tuple #[.pointer (some ⟨bk, 0, none⟩), .int .i64 0])) w' := by
  refine ⟨hb, ?_⟩
  rw [if_pos (by simp [h, h'])]
  exact ⟨bk, hbk, rfl, ht, Cof_small cs h⟩

/-- after the classes: what is known -/
def Half (cs : List Cls) (js : List Jn) (w : World) (k : Nat) (wr : World) : Prop :=
  Below w.heap.size w wr ∧ w.heap.size < wr.heap.size ∧ (js.take k).all jnB = true ∧ wr.heap[w.heap.size]? = some (.cells (tabArr (Cof cs) (Jof (js.take k))) 105 (0, 0))

def HalfC (cs : List Cls) (w : World) (k : Nat) (wr : World) : Prop :=
  Below w.heap.size w wr ∧ w.heap.size < wr.heap.size ∧ (cs.take k).all spanB = true ∧ wr.heap[w.heap.size]? = some (.cells (tabArr (Cof (cs.take k)) (fun _ _ => false)) 105 (0, 0))

theorem fill_step (C : Nat → Int) (lo q : Nat) (n : Int) (h : lo ≤ q) : (fun j => if j = q then n else if lo ≤ j ∧ j < q then n else C j) = (fun j => if lo ≤ j ∧ j < q + 1 then n else C j) := by
  funext j
  by_cases e : j = q
  · rw [if_pos e, if_pos (by omega)]
  · rw [if_neg e]
    by_cases f : lo ≤ j ∧ j < q
    · rw [if_pos f, if_pos (by omega)]
    · rw [if_neg f, if_neg (by omega)]

set_option maxHeartbeats 1000000 in
theorem new_any (cs : List Cls) (js : List Jn) (A B : Option Addr) (cA cB : Nat) (w : World) (hA : Sl w A encCls 3 cs) (hB : Sl w B encJn 2 js) (hcs : cs.length < 9000000000000000000) (hjs : js.length < 9000000000000000000) :
  Calls Try.prog 15 #[.slice A cs.length cA, .slice B js.length cB] w (NewPost cs js w) := by
  have HB := Lib.hid hB
  have HSA := Lib.hid hA
  clear hB hA
  go_enter Try.func15, Try.ntmps15
  go_wp2
  go_loopw [16] (fun i wr => ∃ k : Nat, k ≤ cs.length ∧ i = .int .i64 k ∧ HalfC cs w k wr) (fun i wr => cs.length - (intOf i).toNat)
  case atStart =>
    refine ⟨0, by omega, rfl, (Below.refl _ _).alloc (Nat.le_refl _) _, by simp, rfl, ?_⟩
    simp only [List.take_zero, List.foldl_nil, Cof]; rw [← zero_tab]; exact blk_new _ _
  case round =>
   obtain ⟨k, hk, rfl, hb, hsz, hall, hblk⟩ := hrel
   by_cases hlt : k < cs.length
   · have hck : cs[k]? = some cs[k] := by simp
     obtain ⟨b, o, rfl, hc0⟩ := HSA.out.at k hlt
     have g0 : wr.cell? ⟨b, o + k * 3, none⟩ = some (.int .i64 cs[k].lo) := below_cell hb (Nat.le_refl _) (hc0 0 _ rfl)
     have g1 : wr.cell? ⟨b, o + k * 3 + 1, none⟩ = some (.int .i64 cs[k].hi) := below_cell hb (Nat.le_refl _) (hc0 1 _ rfl)
     have g2 : wr.cell? ⟨b, o + k * 3 + 2, none⟩ = some (.int .i64 cs[k].n) := below_cell hb (Nat.le_refl _) (hc0 2 _ rfl)
     have HT := Lib.hid (take_snoc hlt)
     have HCK := Lib.hid hck
     generalize cs[k] = c at *
     have HA := Lib.hid hall
     have HK := Lib.hid hblk
     have HBE := Lib.hid hb
     clear hc0 hck hall hblk hb
     go_wp2_with fail
     refine (span_any c _).mono ?_
     rintro e w1 ⟨rfl, hb1⟩
     have hs1 := hb1.size
     rw [size_alloc] at hs1 hb1
     have hw1 : w1.heap[wr.heap.size]? = some (.cells #[.int .i64 c.lo, .int .i64 c.hi, .int .i64 c.n] 99 (0, 0)) := blk_below hb1 (by omega) (blk_new _ _)
     have hw2 : w1.heap[w.heap.size]? = some (.cells (tabArr (Cof (cs.take k)) (fun _ _ => false)) 105 (0, 0)) := blk_below hb1 (by omega) (blk_alloc HK.out _)
     have hb2 : Below w.heap.size w w1 := below_then (HBE.out.alloc HBE.out.size _) (by omega) hb1
     have c0 : w1.cell? ⟨wr.heap.size, 0, none⟩ = some (.int .i64 c.lo) := blk_cell hw1 0
     have c1 : w1.cell? ⟨wr.heap.size, 1, none⟩ = some (.int .i64 c.hi) := blk_cell hw1 1
     have c2 : w1.cell? ⟨wr.heap.size, 2, none⟩ = some (.int .i64 c.n) := blk_cell hw1 2
     have HB2 := Lib.hid hb2
     have HW2 := Lib.hid hw2
     have HW1 := Lib.hid hw1
     clear hb1 hb2 hw1 hw2 HBE HK g0 g1 g2
     cases hs : spanB c with
     | false =>
       have HF := Lib.hid (all_false HCK.out hs)
       clear hs
       go_wp2_with fail
       go_ret2
       exact new_bad HB2.out (.inl HF.out)
     | true =>
       have hsb := hs
       simp only [spanB, decide_eq_true_eq] at hsb
       obtain ⟨s0, s1, s2, s3, s4⟩ := hsb
       have HS := Lib.hid hs
       clear hs
       obtain ⟨lo, hi, n⟩ := c
       simp only at *
       obtain ⟨lo, rfl⟩ := Int.eq_ofNat_of_zero_le s0
       obtain ⟨hi, rfl⟩ := Int.eq_ofNat_of_zero_le (show 0 ≤ hi by omega)
       have HT2 := Lib.hid (show lo ≤ hi from by omega)
       go_wp2_with fail
       go_loopw [9] (fun i wi => ∃ q : Nat, lo ≤ q ∧ q ≤ hi + 1 ∧ i = .int .i64 q ∧ Below w.heap.size w wi ∧ wr.heap.size < wi.heap.size ∧
          wi.heap[wr.heap.size]? = some (.cells #[.int .i64 (lo : Int), .int .i64 (hi : Int), .int .i64 n] 99 (0, 0)) ∧
          wi.heap[w.heap.size]? = some (.cells (tabArr (fun j => if lo ≤ j ∧ j < q then n else Cof (cs.take k) j) (fun _ _ => false)) 105 (0, 0))) (fun i _ => hi + 1 - (intOf i).toNat)
       case atStart =>
         refine ⟨lo, Nat.le_refl _, by omega, rfl, HB2.out, by omega, HW1.out, ?_⟩
         rw [HW2.out]
         congr 3
         funext j
         rw [if_neg (by omega)]
       case round =>
         obtain ⟨q, q1, q2, rfl, k1, k2, k3, k4⟩ := hrel
         have H1 := Lib.hid k1
         have H3 := Lib.hid k3
         have H4 := Lib.hid k4
         clear c0 c1 c2
         rename World => wi
         have c1 : wi.cell? ⟨wr.heap.size, 1, none⟩ = some (.int .i64 (hi : Int)) := blk_cell k3 1
         have c2 : wi.cell? ⟨wr.heap.size, 2, none⟩ = some (.int .i64 n) := blk_cell k3 2
         clear k1 k3 k4
         by_cases hq : q ≤ hi
         · have d1 := blk_cell H4.out q
           rw [tab_cls _ _ _ (by omega)] at d1
           have d2 := blk_froz H4.out q
           go_wp2_with fail
           go_region
           go_wp2_with fail
           go_roundw
           case rel =>
             refine ⟨q + 1, by omega, by omega, by go_num, ?_, ?_, ?_, ?_⟩
             · exact ((H1.out.drew).setCell (Nat.le_refl _) _)
             · simpa using k2
             · exact blk_far H3.out (by simp; omega) _
             · refine (blk_set (w := wi.drew) H4.out q _).trans ?_
               rw [tab_setC _ _ _ _ (by omega), fill_step _ _ _ _ q1]
           case measure => simp [intOf]; omega
         · obtain rfl : q = hi + 1 := by omega
           go_wp2_with fail
           go_roundw
           case rel =>
             refine ⟨k + 1, by omega, by go_num, H1.out, by omega, ?_, ?_⟩
             · rw [HT.out, all_snoc, HA.out, HS.out]; rfl
             · rw [H4.out, HT.out, Cof_snoc]
               congr 3
               funext j
               unfold putC
               simp only
               congr 1
               simp only [eq_iff_iff]
               omega
           case measure => simp [intOf]; omega
   · obtain rfl : k = cs.length := by omega
     rw [List.take_length] at hall hblk
     have HA := Lib.hid hall
     have HBE := Lib.hid hb
     have HK := Lib.hid hblk
     clear hall hb hblk
     go_wp2_with fail
     go_loopw [41] (fun i wr => ∃ k : Nat, k ≤ js.length ∧ i = .int .i64 k ∧ Half cs js w k wr) (fun i wr => js.length - (intOf i).toNat)
     case atStart => exact ⟨0, by omega, rfl, HBE.out, hsz, rfl, HK.out⟩
     case round =>
      obtain ⟨k, hk, rfl, hb, hsz, hall, hblk⟩ := hrel
      clear HK HBE
      rename World => wj
      by_cases hlt : k < js.length
      · have hck : js[k]? = some js[k] := by simp
        obtain ⟨b, o, rfl, hc0⟩ := HB.out.at k hlt
        have g0 : wj.cell? ⟨b, o + k * 2, none⟩ = some (.int .i64 js[k].a) := below_cell hb (Nat.le_refl _) (hc0 0 _ rfl)
        have g1 : wj.cell? ⟨b, o + k * 2 + 1, none⟩ = some (.int .i64 js[k].b) := below_cell hb (Nat.le_refl _) (hc0 1 _ rfl)
        have HT := Lib.hid (take_snoc hlt)
        have HCK := Lib.hid hck
        generalize js[k] = c at *
        have HAJ := Lib.hid hall
        have HK := Lib.hid hblk
        have HBE := Lib.hid hb
        clear hc0 hck hall hblk hb
        cases ha : clsB c.a with
        | false =>
          have HF := Lib.hid (all_false (p := jnB) HCK.out (by simp [jnB, ha]))
          have HNA := Lib.hid ha
          clear ha
          go_wp2_with (go_at_call 60; refine (class_any _ _).mono ?_; rw [HNA.out]; rintro e w' ⟨rfl, rfl⟩)
          go_ret2
          exact new_bad (HBE.out.alloc HBE.out.size _) (.inr HF.out)
        | true =>
          have HNA := Lib.hid ha
          clear ha
          cases hb' : clsB c.b with
          | false =>
            have HF := Lib.hid (all_false (p := jnB) HCK.out (by simp [jnB, hb']))
            have HNB := Lib.hid hb'
            clear hb'
            go_wp2_with (go_at_call 60; refine (class_any _ _).mono ?_; (first | rw [HNA.out] | rw [HNB.out]); rintro e w' ⟨rfl, rfl⟩)
            go_ret2
            exact new_bad (HBE.out.alloc HBE.out.size _) (.inr HF.out)
          | true =>
            have HJ := Lib.hid (show jnB c = true by simp [jnB, HNA.out, hb'])
            have HNB := Lib.hid hb'
            clear hb'
            obtain ⟨ja, jb⟩ := c
            simp only at *
            have ba := HNA.out
            have bb := HNB.out
            simp only [clsB, decide_eq_true_eq] at ba bb
            obtain ⟨ba0, ba1⟩ := ba
            obtain ⟨bb0, bb1⟩ := bb
            obtain ⟨ja, rfl⟩ := Int.eq_ofNat_of_zero_le ba0
            obtain ⟨jb, rfl⟩ := Int.eq_ofNat_of_zero_le bb0
            have d1 := blk_cell HK.out (256 + ja * 16 + jb)
            rw [tab_jn _ _ _ _ (by omega) (by omega)] at d1
            have d2 := blk_froz HK.out (256 + ja * 16 + jb)
            have d1' : (wj.alloc (.cells #[.int .i64 (ja : Int), .int .i64 (jb : Int)] 100)).cell? ⟨w.heap.size, 256 + ja * 16 + jb, none⟩ = _ := below_cell ((Below.refl wj.heap.size wj).alloc (Nat.le_refl _) _) (Nat.le_refl _) d1
            have d2' : (wj.alloc (.cells #[.int .i64 (ja : Int), .int .i64 (jb : Int)] 100)).frozen? ⟨w.heap.size, 256 + ja * 16 + jb, none⟩ = false := blk_froz (blk_alloc HK.out _) _
            go_wp2_with (go_at_call 60; refine (class_any _ _).mono ?_; (first | rw [HNA.out] | rw [HNB.out]); rintro e w' ⟨rfl, rfl⟩)
            go_region
            go_wp2_with fail
            go_roundw
            case rel =>
              refine ⟨k + 1, by omega, by go_num, ?_, ?_, ?_, ?_⟩
              · exact (((HBE.out.setCell (p := ⟨w.heap.size, _, none⟩) (Nat.le_refl _) _).alloc (by have := HBE.out.size; simp; omega) _).drew)
              · simp; omega
              · rw [HT.out, all_snoc, HAJ.out, HJ.out]; rfl
              · refine (blk_drew (blk_alloc (blk_set HK.out _ _) _)).trans ?_
                rw [tab_setJ _ _ _ _ _ (by omega) (by omega), HT.out, Jof_snoc]
                congr 3
                funext x y
                unfold putJ
                simp only
                congr 1
                simp only [eq_iff_iff]
                omega
            case measure => simp [intOf]; omega
      · obtain rfl : k = js.length := by omega
        rw [List.take_length] at hall hblk
        have HAJ := Lib.hid hall
        have HBE := Lib.hid hb
        have HK := Lib.hid hblk
        clear hall hb hblk
        go_wp2_with fail
        go_ret2
        exact new_good HBE.out HA.out HAJ.out (Nat.le_refl _) HK.out
end Go.Proofs.Ytdppdjiigecjoaa
