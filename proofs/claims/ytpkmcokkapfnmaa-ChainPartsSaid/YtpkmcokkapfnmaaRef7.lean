/- Layer 4 (token): the document's answer: Pair. -/
import Derived.Test.YtpkmcokkapfnmaaRef6
namespace Go.Proofs.Ytpkmcokkapfnmaa
open Go.RowKit Go.Maps Go.WideMaps
set_option maxRecDepth 100000
set_option linter.unusedVariables false
set_option linter.unusedSimpArgs false

def pairI (T : List Ent) (m : Int × Int) : Int := match pairT T m with | some i => (i : Int) | none => -1
def findM (M : List (Int × Int)) (m : Int × Int) : Option Nat := M.findIdx? (fun e => e == m)

theorem findM_take {M : List (Int × Int)} {m : Int × Int} {k : Nat} (hk : k < M.length) (h : findM (M.take k) m = none) (he : M[k] = m) : findM M m = some k := by
  unfold findM at *
  have e : M = M.take k ++ (M[k] :: M.drop (k + 1)) := by rw [← List.drop_eq_getElem_cons hk, List.take_append_drop]
  have h0 : (M[k] :: M.drop (k + 1)).findIdx? (fun e => e == m) = some 0 := by simp only [List.findIdx?_cons, he, beq_self_eq_true, if_true]
  rw [e, List.findIdx?_append, h, h0]
  simp only [Option.none_or, Option.map_some, Option.some.injEq, List.length_take]
  omega
theorem findM_next {M : List (Int × Int)} {m : Int × Int} {k : Nat} (hk : k < M.length) (h : findM (M.take k) m = none) (he : M[k] ≠ m) : findM (M.take (k + 1)) m = none := by
  rw [take_snoc hk]
  unfold findM at *
  rw [find_snoc, h]
  simp [he]
theorem findIdx_congr {α : Type} {p q : α → Bool} : ∀ {l : List α}, (∀ x ∈ l, p x = q x) → l.findIdx? p = l.findIdx? q
  | [], _ => rfl
  | a :: l, h => by
    rw [List.findIdx?_cons, List.findIdx?_cons, h a (by simp), findIdx_congr (fun x hx => h x (by simp [hx]))]
theorem pairT_mrgs {T : List Ent} (h : OkT T) (m : Int × Int) : pairT T m = (findM (mrgsT T) m).map (· + 256) := by
  have h256 := okT_256 h
  have e : T = T.take 256 ++ T.drop 256 := (List.take_append_drop _ _).symm
  have hB : (T.take 256).findIdx? (fun e => e.2 == m && m != (-1, -1)) = none := by
    rw [List.findIdx?_eq_none_iff]
    intro x hx
    obtain ⟨i, hi, rfl⟩ := List.getElem_of_mem hx
    rw [List.length_take] at hi
    have := base_ent h (i := i) (by omega)
    rw [entT_nat _ _ (by omega)] at this
    rw [List.getElem_take, this, Bool.eq_false_iff]
    intro hh
    simp only [Bool.and_eq_true, beq_iff_eq, bne_iff_ne, ne_eq] at hh
    exact hh.2 hh.1.symm
  have hM : (T.drop 256).findIdx? (fun e => e.2 == m && m != (-1, -1)) = findM (mrgsT T) m := by
    unfold findM mrgsT
    rw [List.findIdx?_map]
    refine findIdx_congr (fun x hx => ?_)
    obtain ⟨i, hi, rfl⟩ := List.getElem_of_mem hx
    rw [List.length_drop] at hi
    obtain ⟨q1, _⟩ := h.made (256 + i) (by omega) (by omega)
    rw [entT_nat _ _ (by omega)] at q1
    simp only [List.getElem_drop, Function.comp]
    by_cases hm : T[256 + i].2 = m
    · have : m ≠ (-1, -1) := by intro e; rw [hm, e] at q1; simp at q1
      simp [hm, this]
    · have h1 : (T[256 + i].2 == m) = false := by simpa using hm
      rw [h1]; rfl
  have e2 : pairT T m = (T.take 256 ++ T.drop 256).findIdx? (fun e => e.2 == m && m != (-1, -1)) := by rw [List.take_append_drop]; rfl
  rw [e2, List.findIdx?_append, hB, hM]
  simp only [Option.none_or, List.length_take]
  have : min 256 T.length = 256 := by omega
  rw [this]

set_option maxHeartbeats 1000000 in
theorem rpair_any {w : World} {base : Nat} {T : List Ent} {vb vm : Value} (a b : Int) (h : RefIs w base T vb vm) (hT : OkT T) : Calls Try.prog 21 #[.agg #[vb, vm], .int .i64 a, .int .i64 b] w fun e w' => e = .returned (.int .i64 (pairI T (a, b))) ∧ Below w.heap.size w w' := by
  obtain ⟨A, c, rfl⟩ := own_slice h.row
  obtain ⟨A2, c2, hvm⟩ := own_slice h.mrg
  subst hvm
  have hb0 := (Below.refl w.heap.size w).alloc (Nat.le_refl _) (.cells #[.slice A T.length c, .slice A2 (mrgsT T).length c2] 28)
  have n0 := blk_cell (blk_new w (.cells #[.slice A T.length c, .slice A2 (mrgsT T).length c2] 28)) 1
  simp only [List.getElem?_toArray, List.getElem?_cons_zero, List.getElem?_cons_succ] at n0
  have HSL := Lib.hid ((own_sl (enc := encM) (fun _ => rfl) h.mrg (by decide)).below hb0 (Nat.le_refl _))
  have HB := Lib.hid hb0
  have HP := Lib.hid (pairT_mrgs hT (a, b))
  have hsm := hT.small
  have hml : (mrgsT T).length ≤ 1000 := by rw [mrgs_len]; omega
  clear hb0 h
  go_enter Try.func21, Try.ntmps21
  go_wp2_with fail
  generalize hW : w.alloc (.cells #[.slice A T.length c, .slice A2 (mrgsT T).length c2] 28) = W at *
  clear hW
  obtain ⟨M, hM⟩ : ∃ M, mrgsT T = M := ⟨_, rfl⟩
  rw [hM] at n0 HSL HP hml ⊢
  clear hM
  go_loopg [7] M.length (fun n i W' => ∃ k : Nat, k + n = M.length ∧ i = .int .i64 (k : Int) ∧ findM (M.take k) (a, b) = none ∧ W' = W)
  case atStart => exact ⟨0, by omega, rfl, rfl, rfl⟩
  case round =>
    obtain ⟨k, hk, rfl, hf, hW⟩ := hrel
    subst hW
    have HF := Lib.hid hf
    clear hf
    by_cases hlt : k < M.length
    · obtain ⟨ba, o, rfl, hcc⟩ := HSL.out.at k hlt
      obtain ⟨x, y, hxy⟩ : ∃ x y, M[k] = (x, y) := ⟨_, _, rfl⟩
      have HXY := Lib.hid hxy
      rw [hxy] at hcc
      have g0 : World.cell? _ ⟨ba, o + k * 2, none⟩ = some (.int .i64 x) := hcc 0 _ rfl
      have g1 : World.cell? _ ⟨ba, o + k * 2 + 1, none⟩ = some (.int .i64 y) := hcc 1 _ rfl
      clear hcc hxy
      have q0 : 0 ≤ (k : Int) := by omega
      have q1 : (k : Int) < (M.length : Int) := by omega
      have w1 : IntKind.i64.wrap (256 + (k : Int)) = 256 + (k : Int) := IntWalk.i64_in _ (by omega)
      by_cases hx : x = a
      · subst hx
        by_cases hy : y = b
        · subst hy
          go_wp2_with fail
          go_ret
          refine ⟨ret_int ?_, HB.out⟩
          unfold pairI
          rw [HP.out, findM_take hlt HF.out HXY.out]
          simp only [Option.map_some]
          omega
        · have HN : Hid (M[k] ≠ (x, b)) := Lib.hid (by rw [HXY.out]; intro e; injection e with e1 e2; exact hy e2)
          go_wp2_with fail
          go_roundg (gk - 1)
          case measure => omega
          case rel => exact ⟨k + 1, by omega, by simp, findM_next hlt HF.out HN.out, rfl⟩
      · have HN : Hid (M[k] ≠ (a, b)) := Lib.hid (by rw [HXY.out]; intro e; injection e with e1 e2; exact hx e1)
        go_wp2_with fail
        go_roundg (gk - 1)
        case measure => omega
        case rel => exact ⟨k + 1, by omega, by simp, findM_next hlt HF.out HN.out, rfl⟩
    · have : k = M.length := by omega
      subst this
      go_wp2_with fail
      go_ret
      refine ⟨ret_int ?_, HB.out⟩
      have := HF.out
      rw [List.take_length] at this
      unfold pairI
      rw [HP.out, this]
      rfl
end Go.Proofs.Ytpkmcokkapfnmaa
