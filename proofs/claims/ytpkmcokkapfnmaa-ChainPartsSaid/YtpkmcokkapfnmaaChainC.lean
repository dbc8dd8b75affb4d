/- Layer 5 (chain): Below, Encode, Steps. -/
import Derived.Test.YtpkmcokkapfnmaaChainB
import Derived.Test.YtpkmcokkapfnmaaRef7
namespace Go.Proofs.Ytpkmcokkapfnmaa
open Go.RowKit Go.Maps Go.WideMaps
set_option maxRecDepth 100000
set_option linter.unusedVariables false
set_option linter.unusedSimpArgs false

theorem mrgs_at {T : List Ent} {k : Nat} {m : Int × Int} (h : (mrgsT T)[k]? = some m) : 256 + k < T.length ∧ (entT T ((256 + k : Nat) : Int)).2 = m := by
  unfold mrgsT at h
  rw [List.getElem?_map, Option.map_eq_some_iff] at h
  obtain ⟨e, he, rfl⟩ := h
  rw [List.getElem?_drop] at he
  obtain ⟨hlt, he⟩ := List.getElem?_eq_some_iff.1 he
  exact ⟨hlt, by rw [entT_nat _ _ hlt, he]⟩
theorem mrgs_ok {T : List Ent} (hT : OkT T) {k : Nat} {m : Int × Int} (h : (mrgsT T)[k]? = some m) : pairT T m = some (256 + k) ∧ 0 ≤ m.1 ∧ 0 ≤ m.2 ∧ m.1 < 256 + (k : Int) ∧ m.2 < 256 + (k : Int) := by
  obtain ⟨h1, h2⟩ := mrgs_at h
  obtain ⟨q1, _, _, _, _, q2, q3, q4, q5, q6⟩ := made_all hT (i := 256 + k) (by omega) h1
  have e : parT T ((256 + k : Nat) : Int) = m := by unfold parT; rw [if_pos q1]; exact h2
  rw [e] at q2 q3 q4 q5 q6
  exact ⟨q2, q3, q4, by omega, by omega⟩
/-- the merges below a limit -/
def mrgsB (T : List Ent) (bel : Int) : List (Int × Int) := (mrgsT T).take (bel - 256).toNat
theorem pairB_iff {T : List Ent} (hT : OkT T) (bel a b r : Int) : pairB T bel a b = some r ↔ ∃ k : Nat, (mrgsB T bel)[k]? = some (a, b) ∧ r = 256 + k := by
  unfold pairB mrgsB
  constructor
  · intro h
    cases hp : pairT T (a, b) with
    | none => rw [hp] at h; simp at h
    | some i =>
      rw [hp] at h
      simp only [Option.bind_some] at h
      by_cases hlt : (i : Int) < bel
      · rw [if_pos hlt] at h
        have h := Option.some.inj h
        subst h
        rw [pairT_mrgs hT, Option.map_eq_some_iff] at hp
        obtain ⟨k, hk, rfl⟩ := hp
        unfold findM at hk
        rw [List.findIdx?_eq_some_iff_getElem] at hk
        obtain ⟨hk1, hk2, _⟩ := hk
        refine ⟨k, ?_, by omega⟩
        rw [List.getElem?_take, if_pos (by omega), List.getElem?_eq_getElem hk1]
        simpa using hk2
      · rw [if_neg hlt] at h; simp at h
  · rintro ⟨k, hk, rfl⟩
    rw [List.getElem?_take] at hk
    by_cases hlt : k < (bel - 256).toNat
    · rw [if_pos hlt] at hk
      rw [(mrgs_ok hT hk).1]
      simp only [Option.bind_some]
      rw [if_pos (by omega)]
      congr 1
    · rw [if_neg hlt] at hk; simp at hk
theorem mrgsB_ok {T : List Ent} (hT : OkT T) (bel : Int) : OkM (mrgsB T bel) 256 := by
  intro k m hk
  unfold mrgsB at hk
  rw [List.getElem?_take] at hk
  by_cases hlt : k < (bel - 256).toNat
  · rw [if_pos hlt] at hk
    have := mrgs_ok hT hk
    exact ⟨this.2.2.2.1, this.2.2.2.2⟩
  · rw [if_neg hlt] at hk; simp at hk
theorem pairB_small {T : List Ent} (hT : OkT T) (bel a b r : Int) (h : pairB T bel a b = some r) : r < 1000000 := by
  obtain ⟨k, hk, rfl⟩ := (pairB_iff hT bel a b r).1 h
  have h2 := (List.getElem?_eq_some_iff.1 hk).1
  unfold mrgsB at h2
  rw [List.length_take, mrgs_len] at h2
  have := hT.small
  omega
/-- what is made of bytes by the tokens below a limit -/
def encT (T : List Ent) (bel : Int) (s : List UInt8) : List Int := seqE (mrgsB T bel) 256 (bysI s)

section
variable {w w' : World} {tbase tb : Nat} {T : List Ent} {sv : Value} {mb mp : Nat}
theorem ints_less {w : World} {b base : Nat} {v : Value} {l : List Int} (h : IntsIs w b v l) (hle : base ≤ b) : IntsIs w base v l := by
  obtain ⟨A, c, e, hr⟩ := h
  exact ⟨A, c, e, own_less hr hle⟩
theorem ints_below {B : Nat} {base : Nat} {v : Value} {l : List Int} (h : IntsIs w base v l) (hb : Below B w w') (hB : w.heap.size ≤ B) : IntsIs w' base v l := by
  obtain ⟨A, c, e, hr⟩ := h
  exact ⟨A, c, e, own_below hr hb hB⟩
theorem below_nil (s : ByteArray) (bel : Int) : Calls Try.prog 16 #[.pointer none, .string s, .int .i64 bel] w fun e w' => e = .returned (.slice none 0 0) ∧ w' = w := by
  go_enter Try.func16, Try.ntmps16
  go_wp2_with fail
  go_ret
  exact ⟨rfl, rfl⟩
set_option maxHeartbeats 4000000 in
theorem below_any (h : TabIs w tbase tb T sv mb mp) (hT : OkT T) (s : ByteArray) (hs : s.size ≤ 100000000) (bel : Int) :
    Calls Try.prog 16 #[.pointer (some ⟨tb, 0, none⟩), .string s, .int .i64 bel] w fun e w' => (∃ v, e = .returned v ∧ IntsIs w' w.heap.size v (encT T bel s.data.toList)) ∧ Below w.heap.size w w' := by
  have HT := Lib.hid h
  have HOK := Lib.hid hT
  clear h hT
  go_enter Try.func16, Try.ntmps16
  go_wp2_with fail
  refine (chain_begin s bel HT.out hs).mono ?_
  rintro e w1 ⟨cb, A, c, Q, turn, Aq, cq, rfl, hb, hbs⟩
  have HB := Lib.hid hb
  have HR := Lib.hid (run_any hb.ch (RunS.start (M := mrgsB T bel) (beg_lives s.data.toList) (by rw [begN_len, begL_len]) (by rw [begL_len, dataLen]; exact hbs)) (by rw [begL_len, dataLen]; exact hs) (pairB_iff HOK.out bel) (mrgsB_ok HOK.out bel) (pairB_small HOK.out bel))
  clear hb hbs
  go_wp2_with fail
  refine HR.out.mono ?_
  rintro e w2 ⟨rfl, N', L', turn', steps', Aq', cq', h2⟩
  have H2 := Lib.hid h2
  have hfin := h2.run.fin (pairB_iff HOK.out bel)
  rw [begL_ids] at hfin
  have hbl : Below w.heap.size w w2 := HB.out.bl.trans h2.bl
  have HBL := Lib.hid hbl
  have hids : Calls Try.prog 39 #[.pointer (some ⟨cb, 0, none⟩)] w2 fun e w' => (∃ v, e = .returned v ∧ IntsIs w' w2.heap.size v (encT T bel s.data.toList)) ∧ Below w2.heap.size w2 w' := by
    have e1 : encT T bel s.data.toList = idsC L' := hfin.1.symm
    rw [e1]
    by_cases hN : N' = []
    · subst hN
      have : L' = [] := by
        rcases L' with _ | ⟨x, L'⟩
        · rfl
        · obtain ⟨k, _, hk⟩ := h2.run.lives.place (x := x) (by simp)
          simp at hk
      subst this
      exact ids_none h2.ch.lk
    · refine ids_any h2.ch.lk h2.run.lives hN ?_
      have := h2.run.steps
      have := h2.run.pos
      rw [begL_len, dataLen] at *
      omega
  have HI := Lib.hid hids
  clear h2 hfin hbl hids HR
  go_wp2_with fail
  refine HI.out.mono ?_
  rintro e w3 ⟨⟨v, rfl, hv⟩, hb3⟩
  have HV := Lib.hid (ints_less hv HBL.out.size)
  have HB3 := Lib.hid (HBL.out.trans (hb3.mono HBL.out.size))
  clear hv hb3
  go_wp2_with fail
  go_ret
  exact ⟨⟨v, rfl, HV.out⟩, HB3.out⟩
theorem encode_nil (s : ByteArray) : Calls Try.prog 13 #[.pointer none, .string s] w fun e w' => e = .returned (.slice none 0 0) ∧ w' = w := by
  go_enter Try.func13, Try.ntmps13
  go_wp2_with fail
  refine (len_nil w).mono ?_
  rintro e w1 ⟨rfl, rfl⟩
  go_wp2_with fail
  refine (below_nil s 0).mono ?_
  rintro e w1 ⟨rfl, rfl⟩
  go_wp2_with fail
  go_ret
  exact ⟨rfl, rfl⟩
theorem encode_any (h : TabIs w tbase tb T sv mb mp) (hT : OkT T) (s : ByteArray) (hs : s.size ≤ 100000000) :
    Calls Try.prog 13 #[.pointer (some ⟨tb, 0, none⟩), .string s] w fun e w' => (∃ v, e = .returned v ∧ IntsIs w' w.heap.size v (encT T T.length s.data.toList)) ∧ Below w.heap.size w w' := by
  have HT := Lib.hid h
  have HOK := Lib.hid hT
  clear h hT
  go_enter Try.func13, Try.ntmps13
  go_wp2_with fail
  refine (len_tab HT.out).mono ?_
  rintro e w1 ⟨rfl, rfl⟩
  go_wp2_with fail
  refine (below_any HT.out HOK.out s hs _).mono ?_
  rintro e w2 ⟨⟨v, rfl, hv⟩, hb⟩
  have HV := Lib.hid hv
  have HB := Lib.hid hb
  clear hv hb
  go_wp2_with fail
  go_ret
  exact ⟨⟨v, rfl, HV.out⟩, HB.out⟩
theorem steps_nil (s : ByteArray) : Calls Try.prog 18 #[.pointer none, .string s] w fun e w' => e = .returned (.int .i64 0) ∧ w' = w := by
  go_enter Try.func18, Try.ntmps18
  go_wp2_with fail
  go_ret
  exact ⟨rfl, rfl⟩
set_option maxHeartbeats 4000000 in
theorem steps_any (h : TabIs w tbase tb T sv mb mp) (hT : OkT T) (s : ByteArray) (hs : s.size ≤ 100000000) :
    Calls Try.prog 18 #[.pointer (some ⟨tb, 0, none⟩), .string s] w fun e w' => e = .returned (.int .i64 ((s.size : Int) - (encT T T.length s.data.toList).length)) ∧ Below w.heap.size w w' := by
  have HT := Lib.hid h
  have HOK := Lib.hid hT
  clear h hT
  go_enter Try.func18, Try.ntmps18
  go_wp2_with fail
  refine (len_tab HT.out).mono ?_
  rintro e w1 ⟨rfl, rfl⟩
  go_wp2_with fail
  refine (chain_begin s _ HT.out hs).mono ?_
  rintro e w2 ⟨cb, A, c, Q, turn, Aq, cq, rfl, hb, hbs⟩
  have HB := Lib.hid hb
  have HR := Lib.hid (run_any hb.ch (RunS.start (M := mrgsB T T.length) (beg_lives s.data.toList) (by rw [begN_len, begL_len]) (by rw [begL_len, dataLen]; exact hbs)) (by rw [begL_len, dataLen]; exact hs) (pairB_iff HOK.out _) (mrgsB_ok HOK.out _) (pairB_small HOK.out _))
  clear hb hbs
  go_wp2_with fail
  refine HR.out.mono ?_
  rintro e w3 ⟨rfl, N', L', turn', steps', Aq', cq', h2⟩
  have hfin := h2.run.fin (pairB_iff HOK.out _)
  rw [begL_ids, begL_len, dataLen] at hfin
  have HF := Lib.hid hfin.2
  have HBL := Lib.hid (HB.out.bl.trans h2.bl)
  have h4 := blk_cell h2.ch.lk.blk 4
  simp only [List.getElem?_toArray, List.getElem?_cons_zero, List.getElem?_cons_succ] at h4
  clear h2 hfin HR
  go_wp2_with fail
  go_ret
  exact ⟨ret_int HF.out, HBL.out⟩
end
end Go.Proofs.Ytpkmcokkapfnmaa
