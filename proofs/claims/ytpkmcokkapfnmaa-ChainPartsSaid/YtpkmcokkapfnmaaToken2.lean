/- Layer 4 (token): begin. -/
import Derived.Test.YtpkmcokkapfnmaaToken1
import Derived.Laws.IdiomStrings
namespace Go.Proofs.Ytpkmcokkapfnmaa
open Go.RowKit Go.Maps Go.WideMaps
set_option maxRecDepth 100000
set_option linter.unusedVariables false
set_option linter.unusedSimpArgs false

theorem info_ent : (Try.prog.info? 93).map (fun i => (i.zero, i.size, i.bytes)) = some (some (.agg #[.string ⟨#[]⟩, .int .i64 0, .int .i64 0]), 3, 32) := by kernel_rfl

theorem wf_i64 {c : Int} (h1 : -9223372036854775808 ≤ c) (h2 : c ≤ 9223372036854775807) : (Lit.int .i64 c).wf = true := by
  have e1 : IntKind.i64.min = -9223372036854775808 := by decide
  have e2 : IntKind.i64.max = 9223372036854775807 := by decide
  simp only [Lit.wf, e1, e2, Bool.and_eq_true, decide_eq_true_eq]
  exact ⟨h1, h2⟩
/-! pure -/
theorem base_take (k : Nat) (h : k < 256) : baseT.take (k + 1) = baseT.take k ++ [([UInt8.ofNat k], -1, -1)] := by
  rw [take_snoc (by rw [base_len]; exact h), base_at k h]
theorem base_take_len (k : Nat) (h : k ≤ 256) : (baseT.take k).length = k := by rw [List.length_take, base_len]; omega
theorem base_take_find (k : Nat) (h : k < 256) : findT (baseT.take k) [UInt8.ofNat k] = none := by
  unfold findT
  rw [List.findIdx?_eq_none_iff]
  intro e he
  obtain ⟨i, hi, rfl⟩ := List.getElem_of_mem he
  rw [base_take_len k (by omega)] at hi
  rw [List.getElem_take, base_at i (by omega)]
  simp only [beq_eq_false_iff_ne, ne_eq, List.cons.injEq, and_true]
  intro e
  have h1 : (UInt8.ofNat i).toNat = (UInt8.ofNat k).toNat := by rw [e]
  simp only [UInt8.toNat_ofNat'] at h1
  omega
theorem base_pair (m : Int × Int) : pairT baseT m = none := by
  unfold pairT
  rw [List.findIdx?_eq_none_iff]
  intro e he
  obtain ⟨i, _, rfl⟩ := List.mem_map.1 he
  by_cases h : m = (-1, -1)
  · subst h; simp
  · have : (((-1 : Int), (-1 : Int)) == m) = false := by rw [beq_eq_false_iff_ne]; exact fun e => h e.symm
    simp [this]
theorem base_long : longT baseT = 1 := by
  have : ∀ l : List Nat, ((l.map fun i => (([UInt8.ofNat i], -1, -1) : Ent)).foldl (fun n e => max n e.1.length) 1) = 1 := by
    intro l
    induction l with
    | nil => rfl
    | cons a l ih => simpa using ih
  exact this _

theorem MapOf.mono {α : Type} {P : Program} {K E : TypeId} {kv : α → Value} {w : World} {b n m : Nat} {f : α → Option Int} (h : MapOf P K E kv w b n f) (hn : n ≤ m) : MapOf P K E kv w b m f := by
  obtain ⟨D, ⟨es, clock, hb, F, hs, hD⟩, h2⟩ := h
  exact ⟨D, ⟨es, clock, hb, F, Nat.le_trans hs hn, hD⟩, h2⟩
theorem MapOf.congr {α : Type} {P : Program} {K E : TypeId} {kv : α → Value} {w : World} {b n : Nat} {f g : α → Option Int} (h : MapOf P K E kv w b n f) (hg : ∀ a, f a = g a) : MapOf P K E kv w b n g := by
  have : f = g := funext hg
  rwa [← this]
theorem row_ne {w : World} {base e : TypeId} {size n : Nat} {v : Value} {xs : List Value} {tb : Nat} {cs : Array Value} {t : TypeId} {fz : Nat × Nat} (h : w.ownsRow base e size v n xs) (hb : w.heap[tb]? = some (.cells cs t fz)) (hne : t ≠ e) : v.ownBlock ≠ some tb := by
  rcases h.2 with ⟨rfl, _⟩ | ⟨g, cap, cur, rfl, _, hg, _⟩
  · simp [Value.ownBlock]
  · simp only [Value.ownBlock, ne_eq, Option.some.injEq]
    rintro rfl
    rw [hb] at hg
    simp only [Option.some.injEq, Obj.cells.injEq] at hg
    exact hne hg.2.1
theorem row_ne_map {w : World} {base e : TypeId} {size n : Nat} {v : Value} {xs : List Value} {mb : Nat} {es : Array MapEntry} {c : Nat} (h : w.ownsRow base e size v n xs) (hb : w.heap[mb]? = some (.map es c)) : v.ownBlock ≠ some mb := by
  rcases h.2 with ⟨rfl, _⟩ | ⟨g, cap, cur, rfl, _, hg, _⟩
  · simp [Value.ownBlock]
  · simp only [Value.ownBlock, ne_eq, Option.some.injEq]
    rintro rfl
    rw [hb] at hg
    cases hg
theorem MapOf.row_ne {α : Type} {P : Program} {K E : TypeId} {kv : α → Value} {w : World} {b m : Nat} {f : α → Option Int} {base e : TypeId} {size n : Nat} {v : Value} {xs : List Value} (h : MapOf P K E kv w b m f) (hr : w.ownsRow base e size v n xs) : v.ownBlock ≠ some b := by
  obtain ⟨es, c, hb⟩ := h.isMap
  exact row_ne_map hr hb
theorem MapOf.blk_ne {α : Type} {P : Program} {K E : TypeId} {kv : α → Value} {w : World} {b m : Nat} {f : α → Option Int} {tb : Nat} {cs : Array Value} {t : TypeId} {fz : Nat × Nat} (h : MapOf P K E kv w b m f) (hb : w.heap[tb]? = some (.cells cs t fz)) : b ≠ tb := by
  obtain ⟨es, c, hm⟩ := h.isMap
  rintro rfl
  rw [hb] at hm
  cases hm

/-- the table while begin fills it -/
structure BegIs (w0 w : World) (tb mb mp k : Nat) : Prop where
  ex : ∃ sv, w.heap[tb]? = some (.cells #[sv, .map (some mb), .map (some mp), .int .i64 1] 97) ∧ w.ownsRow w0.heap.size 93 3 sv k ((baseT.take k).flatMap encE)
  bys : MapOf Try.prog 9 3 strV w mb k (fun s => (findT (baseT.take k) s).map Int.ofNat)
  prs : MapOf Try.prog 71 3 pairV w mp 0 (fun _ => none)
  below : Below w0.heap.size w0 w
  ne : mb ≠ mp
  lt : w0.heap.size ≤ tb ∧ w0.heap.size ≤ mb ∧ w0.heap.size ≤ mp

theorem beg_done {w0 w : World} {tb mb mp : Nat} (h : BegIs w0 w tb mb mp 256) : ∃ sv, TabIs w w0.heap.size tb baseT sv mb mp := by
  obtain ⟨sv, h1, h2⟩ := h.ex
  have e : baseT.take 256 = baseT := by rw [List.take_of_length_le (by rw [base_len]; decide)]
  rw [e] at h2
  have h3 := h.bys
  rw [e] at h3
  refine ⟨sv, ⟨?_, ?_, ?_, ?_, h.ne, h.lt⟩⟩
  · rw [base_long]; exact h1
  · rw [base_len]; exact h2
  · rw [base_len]; exact h3
  · exact (h.prs.mono (Nat.zero_le _)).congr (fun a => by rw [base_pair]; rfl)

theorem beg_start (w : World) : BegIs w (((w.alloc (.map #[] 0)).alloc (.map #[] 0)).alloc (.cells #[.slice none 0 0, .map (some w.heap.size), .map (some (w.heap.size + 1)), .int .i64 1] 97)) (w.heap.size + 1 + 1) w.heap.size (w.heap.size + 1) 0 := by
  refine ⟨⟨.slice none 0 0, ?_, own_nil _ _ _ _⟩, ?_, ?_, ?_, by omega, by omega⟩
  · have := blk_new ((w.alloc (.map #[] 0)).alloc (.map #[] 0)) (.cells #[.slice none 0 0, .map (some w.heap.size), .map (some (w.heap.size + 1)), .int .i64 1] 97)
    simpa [size_alloc] using this
  · refine ((MapOf.made w Try.prog 9 3 strV).keep (F := fun _ => False) ((Keep.refl _ _).alloc _ |>.alloc _) (fun h => h)).congr (fun a => ?_)
    rfl
  · have := MapOf.made (w.alloc (.map #[] 0)) Try.prog 71 3 pairV
    rw [size_alloc] at this
    exact this.keep (F := fun _ => False) ((Keep.refl _ _).alloc _) (fun h => h)
  · exact (((Below.refl _ _).alloc (Nat.le_refl _) _).alloc (by simp) _).alloc (by simp; omega) _

set_option maxHeartbeats 1000000 in
theorem begin_any (w : World) : Calls Try.prog 42 #[] w fun e w' => ∃ tb sv mb mp, e = .returned (.pointer (some ⟨tb, 0, none⟩)) ∧ TabIs w' w.heap.size tb baseT sv mb mp ∧ Below w.heap.size w w' := by
  have hmm := @run_makeMap Try.prog
  have HS := Lib.hid (beg_start w)
  go_enter Try.func42, Try.ntmps42
  go_wp2_with fail
  clear hmm
  generalize hW : (((w.alloc (.map #[] 0)).alloc (.map #[] 0)).alloc (.cells #[.slice none 0 0, .map (some w.heap.size), .map (some (w.heap.size + 1)), .int .i64 1] 97)) = W0 at *
  clear hW
  obtain ⟨tb, ht⟩ : ∃ tb, w.heap.size + 1 + 1 = tb := ⟨_, rfl⟩
  obtain ⟨mp, hp⟩ : ∃ mp, w.heap.size + 1 = mp := ⟨_, rfl⟩
  obtain ⟨mb, hm⟩ : ∃ mb, w.heap.size = mb := ⟨_, rfl⟩
  have HS : Hid (BegIs w W0 tb mb mp 0) := Lib.hid (by rw [← ht, ← hp, ← hm]; exact HS.out)
  rw [ht, hp, hm]
  have HMB0 := Lib.hid hm
  have HTB : Hid (w.heap.size ≤ tb) := Lib.hid (by omega)
  clear ht hp hm
  go_loopg [8] 256 (fun n i W => ∃ k : Nat, k + n = 256 ∧ i = .int .i64 (k : Int) ∧ BegIs w W tb mb mp k)
  case atStart => exact ⟨0, rfl, rfl, HS.out⟩
  case round =>
    obtain ⟨k, hk, rfl, hW⟩ := hrel
    have HW := Lib.hid hW
    clear HS
    rename World => W
    by_cases hlt : k < 256
    · obtain ⟨sv, hbk, hrow⟩ := hW.ex
      have hfr0 := blk_froz hbk 0
      have c0 := blk_cell hbk 0
      simp only [List.getElem?_toArray, List.getElem?_cons_zero] at c0
      obtain ⟨svA, svc, rfl⟩ := own_slice hrow
      have hlt' : (k : Int) < 256 := by omega
      have hbyte : IntKind.u8.wrap (k : Int) = k := IntWalk.u8_in _ (by omega)
      have hconv : (convert 79 9 (.slice (some ⟨W.heap.size, 0, none⟩) 1 1)).run Try.prog (W.alloc (.cells #[.int .u8 (k : Int)] 5)) = .ok (.string (bs [UInt8.ofNat k])) (W.alloc (.cells #[.int .u8 (k : Int)] 5)) := by
        refine run_convert_bytes_back _ _ _ 5 ⟨W.heap.size, 0, none⟩ 1 [UInt8.ofNat k] Try.underlying79 Try.underlying5 Try.underlying9 ?_
        intro j hj
        have : j = 0 := by simpa using hj
        subst this
        rw [add_plain, blk_cell (blk_new W _) 0]
        have : k % 256 = k := by omega
        simp [this]
      obtain ⟨x, hx⟩ : ∃ x, bs [UInt8.ofNat k] = x := ⟨_, rfl⟩
      rw [hx] at hconv
      have HX := Lib.hid hx
      have hb5 := (Below.refl W.heap.size W).alloc (Nat.le_refl _) (.cells #[.int .u8 (k : Int)] 5)
      have c0 := below_cell hb5 (Nat.le_refl _) c0
      have hrow5 := own_below hrow hb5 (Nat.le_refl _)
      have hbk5 := blk_alloc hbk (.cells #[.int .u8 (k : Int)] 5)
      have hby5 := hW.bys.below hb5 hW.bys.lt
      have hpr5 := hW.prs.below hb5 hW.prs.lt
      have HB5 := Lib.hid (below_then hW.below hW.below.size hb5)
      have HNE := Lib.hid (row_ne hrow5 hbk5 (by decide))
      have HNM := Lib.hid (hby5.row_ne hrow5)
      have HNP := Lib.hid (hpr5.row_ne hrow5)
      have HMB := Lib.hid (hby5.blk_ne hbk5)
      have HMP := Lib.hid (hpr5.blk_ne hbk5)
      have HROW := Lib.hid hrow5
      have HBK := Lib.hid hbk5
      have HBY := Lib.hid hby5
      have HPR := Lib.hid hpr5
      have HLE := Lib.hid hW.below.size
      rename_i c0o
      clear c0o hx hbk hrow hrow5 hbk5 hby5 hpr5 hb5 hfr0 hW
      have HGEN := Lib.hid (show w.heap.size ≤ (W.alloc (.cells #[.int .u8 (k : Int)] 5)).heap.size by rw [size_alloc]; have := HLE.out; omega)
      go_upto_region 6 with fail
      clear hconv HLE
      generalize hW5 : W.alloc (.cells #[.int .u8 (k : Int)] 5) = W5 at *
      clear hW5
      go_wp2_with (at_builtin; refine app_one (w.heap.size) 90 93 (.agg #[.string ⟨#[]⟩, .int .i64 0, .int .i64 0]) 3 32 [_, _, _] 1 _ _ rfl rfl Try.underlying90 info_ent rfl (by decide) _ _ _ rfl rfl rfl (by intro u hu; simp at hu; rcases hu with rfl | rfl | rfl <;> rfl) HROW.out (by omega) (by omega) HGEN.out ?_)
      intro v' w1 hown1 hg1
      obtain ⟨A1, cA1, rfl⟩ := own_slice hown1
      have hk1 : Keep (fun g => (Value.slice svA k svc).ownBlock = some g) W5 w1 := Keep.of_grown hg1 (fun g hg => hg)
      have hbk1 := hk1.blk HBK.out HNE.out
      have hby1 := HBY.out.keep hk1 HNM.out
      have hpr1 := HPR.out.keep hk1 HNP.out
      have hb1 := HB5.out.trans (hk1.below HGEN.out (own_base HROW.out))
      have c0 := blk_cell hbk1 0
      have z0 := blk_froz hbk1 0
      simp only [List.getElem?_toArray, List.getElem?_cons_zero] at c0
      have hk2 : Keep (fun g => g = tb) w1 (w1.setCell ⟨tb, 0, none⟩ (.slice A1 (k + 1) cA1)) := Keep.setCell (F := fun g => g = tb) (p := ⟨tb, 0, none⟩) (Keep.refl _ _) (Or.inl rfl) (.slice A1 (k + 1) cA1)
      have hbk2 := blk_set hbk1 0 (.slice A1 (k + 1) cA1)
      have HROW2 := Lib.hid (own_keep hown1 hk2 (fun g hg e => row_ne hown1 hbk1 (by decide) (by rw [hg, e])))
      have HBY2 := Lib.hid (hby1.keep hk2 HMB.out)
      have HPR2 := Lib.hid (hpr1.keep hk2 HMP.out)
      have HB2 := Lib.hid (hb1.setCell (p := ⟨tb, 0, none⟩) HTB.out (.slice A1 (k + 1) cA1))
      have c1 := blk_cell hbk2 1
      have HBK2 := Lib.hid hbk2
      simp only [List.setIfInBounds_toArray, List.set_cons_zero, List.getElem?_toArray, List.getElem?_cons_zero, List.getElem?_cons_succ] at c1 HBK2
      rename_i c0o
      clear hown1 hg1 hk1 hbk1 hby1 hpr1 hb1 hk2 hbk2 HBY HPR HBK HROW HNE HNM HNP HGEN HB5 c0o
      go_upto_region 7 with fail
      generalize hw2 : w1.setCell ⟨tb, 0, none⟩ (.slice A1 (k + 1) cA1) = w2 at *
      clear hw2 c0 z0
      have hxs : strV [UInt8.ofNat k] = .string x := by unfold strV; rw [HX.out]
      have hwf : (Lit.int .i64 (k : Int)).wf = true := wf_i64 (by omega) (by omega)
      have hke := key_str [UInt8.ofNat k] (by unfold maxLen; simp)
      go_wp2_with (refine map_put 94 _ _ _ rfl rfl keyed_str Try.underlying94 Try.underlying3 strV_inj rfl HBY2.out (by unfold maxLen; omega) [UInt8.ofNat k] hxs.symm hke (k : Int) rfl hwf ?_)
      intro w3 hm3 hg3
      have hk3 : Keep (fun g => g = mb) w2 w3 := Keep.of_grown hg3 (fun g hg => (Option.some.inj hg).symm)
      have HM3 := Lib.hid hm3
      have HK3 := Lib.hid hk3
      clear hm3 hg3 hk3
      go_wp2_with fail
      go_roundg (gk - 1)
      case measure => omega
      case rel =>
        have hle := HTB.out
        have hro := HROW2.out
        have hlt3 := HW.out.lt
        refine ⟨k + 1, by omega, by simp, ⟨⟨_, HK3.out.blk HBK2.out HMB.out.symm, ?_⟩, ?_, HPR2.out.keep HK3.out HW.out.ne.symm, HB2.out.trans (HK3.out.below HB2.out.size (fun g hg => by rw [hg]; exact hlt3.2.1)), HW.out.ne, hlt3⟩⟩
        · have h5 := own_keep hro HK3.out (fun g hg e => HBY2.out.row_ne hro (by rw [hg, e]))
          rw [base_take k hlt, List.flatMap_append]
          have e5 : [(([UInt8.ofNat k], -1, -1) : Ent)].flatMap encE = [Value.string x, .int .i64 (-1), .int .i64 (-1)] := by simp [encE, strV, HX.out]
          rw [e5]
          exact h5
        · refine HM3.out.congr (fun s => ?_)
          rw [base_take k hlt, findT_snoc _ _ _ (base_take_find k hlt), base_take_len k (by omega)]
          simp only []
          split <;> rfl
    · have : k = 256 := by omega
      subst this
      clear hW
      go_wp2_with fail
      go_ret
      obtain ⟨sv, h⟩ := beg_done HW.out
      exact ⟨_, sv, _, _, rfl, h, HW.out.below⟩
end Go.Proofs.Ytpkmcokkapfnmaa
