/- Layer 3 (heap): heaps of numbers: Drain. -/
import Derived.Test.YtdppdjiigecjoaaHeapI6
namespace Go.Proofs.Ytdppdjiigecjoaa
section
variable {X : Type}
/-- what is popped, one by one -/
def drainT (l : List (Th X)) : List (Th X) := if h : 0 < l.length then l[0] :: drainT (popT l) else []
termination_by l.length
decreasing_by rw [pop_len]; omega
theorem drain_nil : drainT ([] : List (Th X)) = [] := by rw [drainT]; simp
theorem drain_cons (l : List (Th X)) (h : 0 < l.length) : drainT l = l[0] :: drainT (popT l) := by rw [drainT, dif_pos h]
theorem drain_perm (l : List (Th X)) : (drainT l).Perm l := by
  fun_induction drainT l with
  | case1 l h ih => exact (List.Perm.cons _ ih).trans (pop_perm l h).symm
  | case2 l h =>
    have : l = [] := List.eq_nil_of_length_eq_zero (by omega)
    subst this; exact List.Perm.refl _
theorem drain_len (l : List (Th X)) : (drainT l).length = l.length := (drain_perm l).length_eq
theorem drain_sorted (l : List (Th X)) (hl : HeapT l) : (drainT l).Pairwise leT := by
  fun_induction drainT l with
  | case1 l h ih =>
    refine List.Pairwise.cons ?_ (ih (pop_heap l hl))
    intro a ha
    have h1 : a ∈ l := (pop_perm l h).mem_iff.2 (List.mem_cons_of_mem _ ((drain_perm _).mem_iff.1 ha))
    obtain ⟨j, hj, rfl⟩ := List.getElem_of_mem h1
    exact heap_min l hl j hj
  | case2 => exact List.Pairwise.nil
end
end Go.Proofs.Ytdppdjiigecjoaa
namespace Go.Proofs.Ytdppdjiigecjoaa.hi
open Go.RowKit Go.Maps Go.WideMaps
set_option maxRecDepth 100000
set_option linter.unusedVariables false
set_option linter.unusedSimpArgs false

theorem HeapIs.lt {w : World} {base hb : Nat} {l : List (Th Int)} {turn : Int} {A : Option Addr} {c : Nat} (h : HeapIs w base hb l turn A c) : ∀ g, heapF hb A g → g < w.heap.size := by
  intro g hg
  rcases hg with rfl | hg
  · exact blk_lt h.blk
  · subst hg
    rcases h.row.2 with ⟨e1, _⟩ | ⟨g', cap, cur, e1, _, hg', _⟩
    · cases e1
    · injection e1 with e1
      injection e1 with e1
      injection e1 with e1
      subst e1
      exact blk_lt hg'
theorem info_int : (Try.prog.info? 3).map (fun i => (i.zero, i.size, i.bytes)) = some (some (.int .i64 0), 1, 8) := by kernel_rfl
def outV (a : Th Int) : Value := .int .i64 a.x

structure DrIs (w W : World) (base hb : Nat) (l m : List (Th Int)) (turn : Int) (A : Option Addr) (c : Nat) (A2 : Option Addr) (c2 : Nat) (pre : List (Th Int)) : Prop where
  heap : HeapIs W base hb m turn A c
  row : W.ownsRow w.heap.size 3 1 (.slice A2 pre.length c2) pre.length (pre.map outV)
  eq : pre ++ drainT m = drainT l
  keep : Keep (heapF hb A) w W
  len : pre.length + m.length = l.length

set_option maxHeartbeats 4000000 in
theorem drain_any {w : World} {base hb : Nat} {l : List (Th Int)} {turn : Int} {A : Option Addr} {c : Nat} (h : HeapIs w base hb l turn A c) (hlen : l.length < 1000000) :
    Calls Try.prog 41 #[.pointer (some ⟨hb, 0, none⟩)] w fun e w' => (∃ A2 c2, e = .returned (.slice A2 l.length c2) ∧ w'.ownsRow w.heap.size 3 1 (.slice A2 l.length c2) l.length ((drainT l).map outV)) ∧ HeapIs w' base hb [] turn A c ∧ Keep (heapF hb A) w w' := by
  have HLT := Lib.hid h.lt
  have HS : Hid (DrIs w w base hb l l turn A c none 0 []) := Lib.hid ⟨h, by simpa using own_nil _ _ _ _, by simp, Keep.refl _ _, by simp⟩
  clear h
  go_enter Try.func41, Try.ntmps41
  go_wp2_with fail
  go_loopg [3] l.length (fun n u W => ∃ m A2 c2 pre, m.length = n ∧ u = .slice A2 (pre : List (Th Int)).length c2 ∧ DrIs w W base hb l m turn A c A2 c2 pre)
  case atStart => exact ⟨l, none, 0, [], rfl, rfl, HS.out⟩
  case round =>
    obtain ⟨m, A2, c2, pre, hm, rfl, hW⟩ := hrel
    clear HS
    rename World => W
    have HW := Lib.hid hW
    have hml : m.length ≤ l.length := by have := hW.len; omega
    have hpl : pre.length ≤ l.length := by have := hW.len; omega
    have HM := Lib.hid hm
    clear hW hm
    go_wp2_with fail
    refine (len_h HW.out.heap).mono ?_
    rintro e w' ⟨rfl, rfl⟩
    by_cases h0 : 0 < m.length
    · have h0' : (0 : Int) < (m.length : Int) := by omega
      go_wp2_with fail
      refine (pop_h HW.out.heap h0 (by omega)).mono ?_
      rintro e w4 ⟨rfl, h4, hk4⟩
      have hrow4 := own_keep HW.out.row hk4 (fun g hg hF => by
        have := own_base HW.out.row g hg
        have := HLT.out g hF
        omega)
      have HDC := Lib.hid (drain_cons m h0)
      generalize hx : m[0] = x at *
      have hb5 := (Below.refl w4.heap.size w4).alloc (Nat.le_refl _) (.cells #[.int .i64 x.x] 3)
      have HROW := Lib.hid hrow4
      have H4 := Lib.hid h4
      have HK4 := Lib.hid (HW.out.keep.trans hk4 (fun g hg => .inl hg))
      have HSZ := Lib.hid (HK4.out.size)
      have HPL := Lib.hid (pop_len m)
      have HOV : Hid (Value.int .i64 x.x = outV x) := Lib.hid rfl
      generalize x.x = xx at *
      clear hrow4 h4 hk4 hx hb5
      go_wp2_with (at_builtin; refine app_one (w.heap.size) 73 3 (.int .i64 0) 1 8 [_] 1 _ _ rfl rfl Try.underlying73 info_int rfl (by decide) _ _ _ rfl rfl rfl (by intro u hu; simp at hu; subst hu; rfl) HROW.out (by omega) (by omega) HSZ.out ?_)
      intro v' w6 hown hg6
      obtain ⟨A3, c3, rfl⟩ := own_slice hown
      have hk6 : Keep (fun g => (Value.slice A2 pre.length c2).ownBlock = some g) w4 w6 := Keep.of_grown hg6 (fun g hg => hg)
      have hnew : DrIs w w6 base hb l (popT m) turn A c A3 c3 (pre ++ [x]) := by
        refine ⟨H4.out.keep hk6 (fun g hF hg => ?_), ?_, ?_, ?_, ?_⟩
        · have := own_base HROW.out g hg
          have := HLT.out g hF
          omega
        · rw [List.length_append, List.map_append]
          have := hown
          rw [HOV.out] at this
          exact this
        · rw [← HW.out.eq, HDC.out, List.append_assoc]; rfl
        · exact HK4.out.trans hk6 (fun g hg => .inr (own_base HROW.out g hg))
        · rw [List.length_append, HPL.out]; have := HW.out.len; simp; omega
      have HNEW := Lib.hid hnew
      have HPP := Lib.hid (show (pre ++ [x]).length = pre.length + 1 from by simp)
      clear hown hg6 hk6 hnew
      go_wp2_with fail
      go_roundg (m.length - 1)
      case measure => have := HM.out; omega
      case rel => exact ⟨popT m, A3, c3, pre ++ [x], HPL.out, by rw [HPP.out], HNEW.out⟩
    · have hm0 : m = [] := List.eq_nil_of_length_eq_zero (by omega)
      subst hm0
      go_wp2_with fail
      go_ret
      have e1 := HW.out.eq
      rw [drain_nil, List.append_nil] at e1
      have e2 := HW.out.len
      rw [List.length_nil, Nat.add_zero] at e2
      have e3 := HW.out.row
      rw [e2, e1] at e3
      exact ⟨⟨A2, c2, by rw [← e2]; rfl, e3⟩, HW.out.heap, HW.out.keep⟩
end Go.Proofs.Ytdppdjiigecjoaa.hi
