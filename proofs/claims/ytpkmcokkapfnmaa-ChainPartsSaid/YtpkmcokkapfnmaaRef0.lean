/- Layer 4 (token): the document's answer: a table by value. -/
import Derived.Test.YtpkmcokkapfnmaaToken5
namespace Go.Proofs.Ytpkmcokkapfnmaa
open Go.RowKit Go.Maps Go.WideMaps
set_option maxRecDepth 100000
set_option linter.unusedVariables false
set_option linter.unusedSimpArgs false

theorem info_str4 : (Try.prog.info? 9).map (fun i => (i.zero, i.size, i.bytes)) = some (some (.string ⟨#[]⟩), 1, 16) := by kernel_rfl
theorem info_mrg : (Try.prog.info? 71).map (fun i => (i.zero, i.size, i.bytes)) = some (some (.agg #[.int .i64 0, .int .i64 0]), 2, 16) := by kernel_rfl

def bytsT (T : List Ent) : List (List UInt8) := T.map (·.1)
def mrgsT (T : List Ent) : List (Int × Int) := (T.drop 256).map (·.2)
/-- a table of the document's answer, by value: two lists, each with its own memory -/
structure RefIs (w : World) (base : Nat) (T : List Ent) (vb vm : Value) : Prop where
  row : w.ownsRow base 9 1 vb T.length ((bytsT T).map strV)
  mrg : w.ownsRow base 71 2 vm (mrgsT T).length ((mrgsT T).flatMap encM)
  nil : (mrgsT T).length = 0 → vm = .slice none 0 0
theorem RefIs.below {B : Nat} {w w' : World} {base : Nat} {T : List Ent} {vb vm : Value} (h : RefIs w base T vb vm) (hb : Below B w w') (hB : w.heap.size ≤ B) : RefIs w' base T vb vm := ⟨own_below h.row hb hB, own_below h.mrg hb hB, h.nil⟩
theorem RefIs.keep {F : Nat → Prop} {w w' : World} {base : Nat} {T : List Ent} {vb vm : Value} (h : RefIs w base T vb vm) (k : Keep F w w') (hF : ∀ g, F g → g < base) : RefIs w' base T vb vm :=
  ⟨own_keep h.row k (fun g hg hf => by have := own_base h.row g hg; have := hF g hf; omega), own_keep h.mrg k (fun g hg hf => by have := own_base h.mrg g hg; have := hF g hf; omega), h.nil⟩
theorem RefIs.less {w : World} {b base : Nat} {T : List Ent} {vb vm : Value} (h : RefIs w b T vb vm) (hle : base ≤ b) : RefIs w base T vb vm := ⟨own_less h.row hle, own_less h.mrg hle, h.nil⟩

section
variable {w : World} {base : Nat} {T : List Ent} {vb vm : Value}
theorem rhas_any (id : Int) (h : RefIs w base T vb vm) : Calls Try.prog 40 #[.agg #[vb, vm], .int .i64 id] w fun e w' => e = .returned (.bool (hasT T id)) ∧ Below w.heap.size w w' := by
  obtain ⟨A, c, rfl⟩ := own_slice h.row
  obtain ⟨A2, c2, hvm⟩ := own_slice h.mrg
  subst hvm
  have hb0 := (Below.refl w.heap.size w).alloc (Nat.le_refl _) (.cells #[.slice A T.length c, .slice A2 (mrgsT T).length c2] 28)
  have n0 := blk_cell (blk_new w (.cells #[.slice A T.length c, .slice A2 (mrgsT T).length c2] 28)) 0
  simp only [List.getElem?_toArray, List.getElem?_cons_zero] at n0
  have HB := Lib.hid hb0
  clear hb0 h
  go_enter Try.func40, Try.ntmps40
  by_cases h0 : 0 ≤ id
  · go_wp2_with fail
    go_ret
    exact ⟨ret_bool (by simp [hasT, h0]), HB.out⟩
  · go_wp2_with fail
    go_ret
    exact ⟨ret_bool (by simp [hasT]; omega), HB.out⟩

theorem find_take {T : List Ent} {s : List UInt8} {k : Nat} (hk : k < T.length) (h : findT (T.take k) s = none) (he : T[k].1 = s) : findT T s = some k := by
  unfold findT at *
  have e : T = T.take k ++ (T[k] :: T.drop (k + 1)) := by rw [← List.drop_eq_getElem_cons hk, List.take_append_drop]
  have h0 : (T[k] :: T.drop (k + 1)).findIdx? (fun e => e.1 == s) = some 0 := by simp only [List.findIdx?_cons, he, beq_self_eq_true, if_true]
  rw [e, List.findIdx?_append, h, h0]
  simp only [Option.none_or, Option.map_some, Option.some.injEq, List.length_take]
  omega
theorem find_take_next {T : List Ent} {s : List UInt8} {k : Nat} (hk : k < T.length) (h : findT (T.take k) s = none) (he : T[k].1 ≠ s) : findT (T.take (k + 1)) s = none := by
  rw [take_snoc hk]
  unfold findT at *
  rw [find_snoc, h]
  simp [he]

/-- what Find answers -/
def findI (T : List Ent) (s : List UInt8) : Int := match findT T s with | some i => (i : Int) | none => -1

set_option maxHeartbeats 1000000 in
theorem rfind_any (s : List UInt8) (h : RefIs w base T vb vm) (hlen : T.length ≤ 1000) : Calls Try.prog 57 #[.agg #[vb, vm], strV s] w fun e w' => e = .returned (.int .i64 (findI T s)) ∧ Below w.heap.size w w' := by
  obtain ⟨A, c, rfl⟩ := own_slice h.row
  obtain ⟨A2, c2, hvm⟩ := own_slice h.mrg
  subst hvm
  have hb0 := (Below.refl w.heap.size w).alloc (Nat.le_refl _) (.cells #[.slice A T.length c, .slice A2 (mrgsT T).length c2] 28)
  have n0 := blk_cell (blk_new w (.cells #[.slice A T.length c, .slice A2 (mrgsT T).length c2] 28)) 0
  simp only [List.getElem?_toArray, List.getElem?_cons_zero] at n0
  have HSL := Lib.hid ((own_sl1 h.row).below hb0 (Nat.le_refl _))
  have HB := Lib.hid hb0
  clear hb0 h
  unfold strV
  go_enter Try.func57, Try.ntmps57
  go_wp2_with fail
  generalize hW : w.alloc (.cells #[.slice A T.length c, .slice A2 (mrgsT T).length c2] 28) = W at *
  clear hW
  go_loopg [5] T.length (fun n i W' => ∃ k : Nat, k + n = T.length ∧ i = .int .i64 (k : Int) ∧ findT (T.take k) s = none ∧ W' = W)
  case atStart => exact ⟨0, by omega, rfl, rfl, rfl⟩
  case round =>
    obtain ⟨k, hk, rfl, hf, hW⟩ := hrel
    subst hW
    have HF := Lib.hid hf
    clear hf
    by_cases hlt : k < T.length
    · obtain ⟨ba, o, rfl, g0⟩ := HSL.out.at k (by simpa [bytsT] using hlt)
      simp only [bytsT, List.getElem_map, strV] at g0
      have q0 : 0 ≤ (k : Int) := by omega
      have q1 : (k : Int) < (T.length : Int) := by omega
      by_cases he : T[k].1 = s
      · have HE := Lib.hid he
        rw [he] at g0
        clear he
        go_wp2_with fail
        go_ret
        refine ⟨ret_int ?_, HB.out⟩
        unfold findI
        rw [find_take hlt HF.out HE.out]
      · have HE := Lib.hid he
        have hne : ¬ bs T[k].1 = bs s := fun e => he (bs_inj e)
        generalize bs T[k].1 = x at *
        generalize bs s = y at *
        have hbe : (x.toList == y.toList) = false := by
          rw [beq_eq_false_iff_ne, ByteArray.toList_eq, ByteArray.toList_eq]
          intro e
          apply hne
          apply ByteArray.ext
          exact Array.ext' e
        clear he
        go_wp2_with fail
        go_roundg (gk - 1)
        case measure => omega
        case rel => exact ⟨k + 1, by omega, by simp, find_take_next hlt HF.out HE.out, rfl⟩
    · have : k = T.length := by omega
      subst this
      go_wp2_with fail
      go_ret
      refine ⟨ret_int ?_, HB.out⟩
      have := HF.out
      rw [List.take_length] at this
      unfold findI
      rw [this]
end
end Go.Proofs.Ytpkmcokkapfnmaa
