/- Layer 1 (nat), the document's answer: Print. -/
import Derived.Test.YtnfehhblmoliaaaNatH
namespace Go.Proofs.Ytnfehhblmoliaaa
open Go.RowKit Go.Maps Go.WideMaps
set_option maxRecDepth 100000
set_option linter.unusedVariables false
set_option linter.unusedSimpArgs false

def txt (l : List Nat) : ByteArray := bs (l.reverse.map fun d => UInt8.ofNat (d + 48))
theorem bs_app (a b : List UInt8) : bs a ++ bs b = bs (a ++ b) := by
  apply ByteArray.ext
  simp [bs, ByteArray.data_append]
theorem txt_snoc (l : List Nat) (x : Nat) : bs [UInt8.ofNat (x + 48)] ++ txt l = txt (l ++ [x]) := by
  unfold txt; rw [bs_app]; simp
theorem txt_dec (n : Nat) (h : 0 < n) : txt (dg 10 n) = decS n := by
  unfold txt decS decB
  rw [if_neg (by omega)]
  simp [List.map_map, Function.comp_def]
set_option maxHeartbeats 4000000 in
theorem print_any (v : Value) (n : Nat) (w : World) (h1 : DecIs w v n) (hl : (dg 10 n).length ≤ 1000000000000000) :
    Calls Try.prog 18 #[v] w fun e w' => e = .returned (.string (decS n)) ∧ Below w.heap.size w w' := by
  obtain ⟨A1, c1, rfl, s1, k1⟩ := h1
  have HD := Lib.hid (dg_lt (b := 10) (by decide) n)
  have HTX := Lib.hid (fun h => txt_dec n h)
  have HNE := Lib.hid (fun (h : 0 < n) => dg_ne_nil (b := 10) (by decide) h)
  have HZ : Hid (n = 0 → dg 10 n = []) := Lib.hid (by rintro rfl; exact dg_zero 10)
  have HS1 := Lib.hid s1
  clear s1 k1
  generalize dg 10 n = l at *
  have hE : txt ([] : List Nat) = ⟨#[]⟩ := rfl
  go_enter Try.func18, Try.ntmps18
  go_wp2_with fail
  go_loopg [3, 4] l.length (fun m v3 v4 W => ∃ k : Nat, k + m = l.length ∧ v4 = .int .i64 (k : Int) ∧ v3 = .string (txt (l.take k)) ∧ Below w.heap.size w W)
  case atStart => exact ⟨0, by omega, rfl, rfl, Below.refl _ _⟩
  case round =>
    obtain ⟨k, hk, rfl, rfl, hB⟩ := hrel
    rename World => W
    have HB := Lib.hid hB
    clear hB hE
    by_cases hlt : k < l.length
    · have hlt' : (k : Int) < (l.length : Int) := by omega
      have k0 : (0 : Int) ≤ (k : Int) := by omega
      obtain ⟨b1, o1, rfl, hcc1⟩ := HS1.out.at k hlt
      have hcc := below_cell HB.out (Nat.le_refl _) hcc1
      have hx : l[k] < 10 := HD.out _ (List.getElem_mem _)
      have htx := txt_snoc (l.take k) l[k]
      rw [← take_snoc hlt] at htx
      unfold u8V at hcc
      generalize l[k] = x at *
      obtain ⟨y, hy⟩ : ∃ y, x + 48 = y := ⟨_, rfl⟩
      rw [hy] at htx
      have hcv : (convert 29 9 (.slice (some ⟨W.heap.size, 0, none⟩) 1 1)).run Try.prog (W.alloc (.cells #[.int .u8 (48 + (x : Int))] 5)) = .ok (.string (bs [UInt8.ofNat y])) (W.alloc (.cells #[.int .u8 (48 + (x : Int))] 5)) := by
        refine run_convert_bytes_back (P := Try.prog) _ 29 9 5 ⟨W.heap.size, 0, none⟩ 1 [UInt8.ofNat y] Try.underlying29 Try.underlying5 Try.underlying9 ?_
        intro j hj
        have hj0 : j = 0 := by simpa using hj
        subst hj0
        rw [add_plain, (cell_facts (blk_new W _)).1]
        simp
        omega
      have HB5 := Lib.hid (HB.out.alloc HB.out.size (.cells #[.int .u8 (48 + (x : Int))] 5))
      have HTT := Lib.hid htx
      have wk : IntKind.i64.wrap ((k : Int) + 1) = (k : Int) + 1 := IntWalk.i64_in _ (by omega)
      clear hcc1 htx hy
      have hts : (txt (l.take k)).size ≤ 1000000000000000 := by unfold txt; rw [bs_size]; simp; omega
      have hts1 : (bs [UInt8.ofNat y]).size ≤ 1 := by rw [bs_size]; simp
      have hts2 : (bs [UInt8.ofNat y]).size + (txt (l.take k)).size ≤ 9223372036854775807 := by omega
      generalize bs [UInt8.ofNat y] = t1 at *
      generalize txt (l.take k) = t0 at *
      go_wp2_with fail
      go_roundg (gk - 1)
      case measure => omega
      case rel => exact ⟨k + 1, by omega, by simp, by rw [HTT.out], HB5.out⟩
    · have hke : k = l.length := by omega
      have hlt' : ¬ (k : Int) < (l.length : Int) := by omega
      rw [List.take_of_length_le (by omega)]
      clear hke
      rcases Nat.eq_zero_or_pos n with hn | hn
      · have hl0 := HZ.out hn
        have HE : Hid (decS n = ⟨#[48]⟩) := Lib.hid (by rw [hn]; rfl)
        have ht : (txt l).toList = [] := by rw [hl0]; exact bs_toList []
        clear hl0 hn
        generalize txt l = t0 at *
        go_wp2_with fail
        go_ret
        exact ⟨by rw [HE.out]; rfl, HB.out⟩
      · have HE := Lib.hid (HTX.out hn)
        have ht : ¬ (txt l).toList = [] := by
          unfold txt
          rw [bs_toList]
          simp
          exact HNE.out hn
        have ht2 : (txt l).toList.isEmpty = false := by cases h : (txt l).toList with | nil => exact absurd h ht | cons a b => rfl
        generalize txt l = t0 at *
        clear hn
        go_wp2_with fail
        go_ret
        exact ⟨by rw [← HE.out]; rfl, HB.out⟩
end Go.Proofs.Ytnfehhblmoliaaa
