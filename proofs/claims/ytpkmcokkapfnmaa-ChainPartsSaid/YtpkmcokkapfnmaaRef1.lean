/- Layer 4 (token): the document's answer: Begin. -/
import Derived.Test.YtpkmcokkapfnmaaRef0
import Derived.Test.YtpkmcokkapfnmaaCell
namespace Go.Proofs.Ytpkmcokkapfnmaa
open Go.RowKit Go.Maps Go.WideMaps
set_option maxRecDepth 100000
set_option linter.unusedVariables false
set_option linter.unusedSimpArgs false

theorem load_ref {w : World} {r : Nat} {A B : Option Addr} {n m c d : Nat} (h : w.heap[r]? = some (.cells #[.slice A n c, .slice B m d] 28)) : (loadVar 28 ⟨r, 0, none⟩).run Try.prog w = .ok (.agg #[.slice A n c, .slice B m d]) w := by
  have n0 := blk_cell h 0
  have n1 := blk_cell h 1
  simp only [List.getElem?_toArray, List.getElem?_cons_zero, List.getElem?_cons_succ] at n0 n1
  simp [go_sem, n0, n1]

def basV (k : Nat) : List Value := ((baseT.take k).map (·.1)).map strV
structure RBegIs (w0 w : World) (r tb k : Nat) : Prop where
  ex : ∃ sv, w.heap[tb]? = some (.cells #[sv, .slice none 0 0] 28) ∧ w.ownsRow w0.heap.size 9 1 sv k (basV k)
  res : w.heap[r]? = some (.cells #[.slice none 0 0, .slice none 0 0] 28)
  below : Below w0.heap.size w0 w
  lt : w0.heap.size ≤ tb ∧ w0.heap.size ≤ r
  ne : r ≠ tb

theorem rbeg_start (w : World) : RBegIs w ((w.alloc (.cells #[.slice none 0 0, .slice none 0 0] 28)).alloc (.cells #[.slice none 0 0, .slice none 0 0] 28)) w.heap.size (w.heap.size + 1) 0 := by
  refine ⟨⟨.slice none 0 0, ?_, own_nil _ _ _ _⟩, ?_, ?_, by omega, by omega⟩
  · have := blk_new (w.alloc (.cells #[.slice none 0 0, .slice none 0 0] 28)) (.cells #[.slice none 0 0, .slice none 0 0] 28)
    rwa [size_alloc] at this
  · exact blk_alloc (blk_new w _) _
  · exact ((Below.refl _ _).alloc (Nat.le_refl _) _).alloc (by simp) _

set_option maxHeartbeats 1000000 in
theorem rbegin_any (w : World) : Calls Try.prog 48 #[] w fun e w' => ∃ vb, e = .returned (.agg #[vb, .slice none 0 0]) ∧ RefIs w' w.heap.size baseT vb (.slice none 0 0) ∧ Below w.heap.size w w' := by
  have HS := Lib.hid (rbeg_start w)
  go_enter Try.func48, Try.ntmps48
  go_wp2_with fail
  generalize hW : (w.alloc (.cells #[.slice none 0 0, .slice none 0 0] 28)).alloc (.cells #[.slice none 0 0, .slice none 0 0] 28) = W0 at *
  clear hW
  obtain ⟨tb, ht⟩ : ∃ tb, w.heap.size + 1 = tb := ⟨_, rfl⟩
  obtain ⟨r, hr⟩ : ∃ r, w.heap.size = r := ⟨_, rfl⟩
  have HS1 : Hid (RBegIs w W0 r tb 0) := Lib.hid (by rw [← ht, ← hr]; exact HS.out)
  have HTB : Hid (w.heap.size ≤ tb) := Lib.hid (by omega)
  rw [ht, hr]
  clear HS ht hr
  go_loopg [2] 256 (fun n i W => ∃ k : Nat, k + n = 256 ∧ i = .int .i64 (k : Int) ∧ RBegIs w W r tb k)
  case atStart => exact ⟨0, rfl, rfl, HS1.out⟩
  case round =>
    obtain ⟨k, hk, rfl, hW⟩ := hrel
    have HW := Lib.hid hW
    clear HS1
    rename World => W
    by_cases hlt : k < 256
    · obtain ⟨sv, hbk, hrow⟩ := hW.ex
      have c0 := blk_cell hbk 0
      simp only [List.getElem?_toArray, List.getElem?_cons_zero] at c0
      obtain ⟨svA, svc, rfl⟩ := own_slice hrow
      have hlt' : (k : Int) < 256 := by omega
      have hbyte : IntKind.u8.wrap (k : Int) = k := IntWalk.u8_in _ (by omega)
      have hconv : (convert 79 9 (.slice (some ⟨W.heap.size, 0, none⟩) 1 1)).run Try.prog (W.alloc (.cells #[.int .u8 (k : Int)] 5)) = .ok (.string (bs [UInt8.ofNat k])) (W.alloc (.cells #[.int .u8 (k : Int)] 5)) := by
        refine run_convert_bytes_back _ _ _ 5 ⟨W.heap.size, 0, none⟩ 1 [UInt8.ofNat k] Try.underlying79 Try.underlying5 Try.underlying9 ?_
        intro j hj
        have : j = 0 := by simpa using hj
        subst this
        rw [add_plain, blk_cell (blk_new W _) 0]
        have : k % 256 = k := by omega
        simp [this]
      obtain ⟨x, hx⟩ : ∃ x, bs [UInt8.ofNat k] = x := ⟨_, rfl⟩
      rw [hx] at hconv
      have HX := Lib.hid hx
      have hb5 := (Below.refl W.heap.size W).alloc (Nat.le_refl _) (.cells #[.int .u8 (k : Int)] 5)
      have hb6 := hb5.alloc (by simp) (.cells #[.string x] 9)
      have HG : Hid (((W.alloc (.cells #[.int .u8 (k : Int)] 5)).alloc (.cells #[.string x] 9)).heap[W.heap.size + 1]? = some (.cells [Value.string x].toArray 9)) := Lib.hid (by
        have := blk_new (W.alloc (.cells #[.int .u8 (k : Int)] 5)) (.cells #[.string x] 9)
        rwa [size_alloc] at this)
      have HROW := Lib.hid (own_below hrow hb6 (Nat.le_refl _))
      have HBK := Lib.hid (blk_below hb6 (blk_lt hbk) hbk)
      have HRES := Lib.hid (blk_below hb6 (blk_lt hW.res) hW.res)
      have HB6 := Lib.hid (hW.below.trans (hb6.mono hW.below.size))
      have HLE := Lib.hid hb6.size
      have HGEN := Lib.hid (Nat.le_trans hW.below.size hb6.size)
      clear hx hb5 hb6 hbk hrow hW
      go_wp2_with (at_builtin; refine app_at (w.heap.size) 25 9 (.string ⟨#[]⟩) 1 16 [_] 1 (W.heap.size + 1) _ _ rfl rfl Try.underlying25 info_str4 rfl (by decide) _ _ _ rfl rfl rfl (by intro u hu; simp at hu; subst hu; rfl) HG.out HROW.out (by omega) (by omega) HGEN.out ?_)
      intro v' w1 hown1 hg1 _
      obtain ⟨A1, cA1, rfl⟩ := own_slice hown1
      have hk1 : Keep (fun g => (Value.slice svA k svc).ownBlock = some g) ((W.alloc (.cells #[.int .u8 (k : Int)] 5)).alloc (.cells #[.string x] 9)) w1 := Keep.of_grown hg1 (fun g hg => hg)
      have b1 := hk1.blk HBK.out (row_ne HROW.out HBK.out (by decide))
      have r1 := hk1.blk HRES.out (row_ne HROW.out HRES.out (by decide))
      have hb1 := HB6.out.trans (hk1.below HGEN.out (own_base HROW.out))
      have c0 := blk_cell b1 0
      have z0 := blk_froz b1 0
      simp only [List.getElem?_toArray, List.getElem?_cons_zero] at c0
      have b2 := blk_set b1 0 (.slice A1 (k + 1) cA1)
      simp only [List.setIfInBounds_toArray, List.set_cons_zero] at b2
      have HB2 := Lib.hid b2
      have HR2 := Lib.hid (blk_far (p := ⟨tb, 0, none⟩) r1 HW.out.ne (.slice A1 (k + 1) cA1))
      have K2 : Keep (fun g => g = tb) w1 (w1.setCell ⟨tb, 0, none⟩ (.slice A1 (k + 1) cA1)) := Keep.setCell (F := fun g => g = tb) (p := ⟨tb, 0, none⟩) (Keep.refl _ _) (Or.inl rfl) _
      have HO2 := Lib.hid (own_keep hown1 K2 (fun g hg e => row_ne hown1 b1 (by decide) (by rw [hg, e])))
      have HBE2 := Lib.hid (hb1.setCell (p := ⟨tb, 0, none⟩) HTB.out (.slice A1 (k + 1) cA1))
      rename_i c0o _
      clear hown1 hg1 hk1 b1 r1 hb1 b2 K2 hconv
      go_wp2_with fail
      go_roundg (gk - 1)
      case measure => omega
      case rel =>
        refine ⟨k + 1, by omega, by simp, ⟨⟨_, HB2.out, ?_⟩, HR2.out, HBE2.out, HW.out.lt, HW.out.ne⟩⟩
        have e5 : basV (k + 1) = basV k ++ [.string x] := by
          unfold basV
          rw [base_take k hlt]
          simp [strV, HX.out]
        rw [e5]
        exact HO2.out
    · have : k = 256 := by omega
      subst this
      obtain ⟨sv, hbk, hrow⟩ := hW.ex
      obtain ⟨svA, svc, rfl⟩ := own_slice hrow
      have c0 := blk_cell hbk 0
      have c1 := blk_cell hbk 1
      have z0 := blk_froz hW.res 0
      have z1 := blk_froz hW.res 1
      have d0 := blk_cell hW.res 0
      have d1 := blk_cell hW.res 1
      simp only [List.getElem?_toArray, List.getElem?_cons_zero, List.getElem?_cons_succ] at c0 c1 d0 d1
      have HROW := Lib.hid hrow
      clear hW hbk hrow
      go_wp2_with fail
      refine ret_cell1 (r := r) rfl rfl (load_ref (by exact blk_set (blk_set HW.out.res 0 _) 1 _)) ?_
      refine ⟨_, rfl, ?_, (HW.out.below.setCell (p := ⟨r, 0, none⟩) HW.out.lt.2 _).setCell (p := ⟨r, 1, none⟩) HW.out.lt.2 _⟩
      have K3 : ∀ (W : World) (i : Nat) (u : Value), Keep (fun g => g = r) W (W.setCell ⟨r, i, none⟩ u) := fun W i u => Keep.setCell (F := fun g => g = r) (p := ⟨r, i, none⟩) (Keep.refl _ _) (Or.inl rfl) _
      have hne : ∀ g, (Value.slice svA 256 svc).ownBlock = some g → ¬ g = r := fun g hg e => row_ne HROW.out HW.out.res (by decide) (by rw [hg, e])
      refine ⟨?_, own_nil _ _ _ _, fun _ => rfl⟩
      have e6 : basV 256 = (bytsT baseT).map strV := by
        unfold basV bytsT
        rw [List.take_of_length_le (by rw [base_len]; decide)]
      rw [← e6, base_len]
      exact own_keep (own_keep HROW.out (K3 _ 0 _) hne) (K3 _ 1 _) hne
end Go.Proofs.Ytpkmcokkapfnmaa
