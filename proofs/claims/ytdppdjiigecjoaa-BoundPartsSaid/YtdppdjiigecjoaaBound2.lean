/- Layer 8 (bound): the contracts of Pieces, Whole, Between. -/
import Derived.Test.YtdppdjiigecjoaaBound0
import Derived.Test.YtdppdjiigecjoaaPieces
namespace Go.Proofs.Ytdppdjiigecjoaa
open Go.RowKit
set_option maxRecDepth 100000
set_option linter.unusedVariables false
set_option linter.unusedSimpArgs false

/-- a table's pointer (nil: nothing is cut), and where it cuts -/
def TP (w : World) (p : Option Addr) (cut : Nat → Nat → Bool) : Prop :=
  (p = none ∧ cut = fun _ _ => false) ∨ ∃ bk C J, p = some ⟨bk, 0, none⟩ ∧ BTab w bk C J ∧ cut = cutB C J
theorem TP.below {B : Nat} {w w' : World} {p : Option Addr} {cut : Nat → Nat → Bool} (h : TP w p cut) (hb : Below B w w') (hB : w.heap.size ≤ B) : TP w' p cut := by
  rcases h with h | ⟨bk, C, J, h1, h2, h3⟩
  · exact .inl h
  · exact .inr ⟨bk, C, J, h1, h2.below hb (Nat.lt_of_lt_of_le (blk_lt h2.1) hB), h3⟩

theorem TP.drewN {w : World} {p : Option Addr} {cut : Nat → Nat → Bool} (h : TP w p cut) (n : Nat) : TP (w.drewN n) p cut := h
theorem cuts_any (p : Option Addr) (cut : Nat → Nat → Bool) (a b : Int) (w : World) (ha0 : 0 ≤ a) (ha : a < 256) (hb0 : 0 ≤ b) (hb : b < 256) (h : TP w p cut) :
    Calls Try.prog 25 #[.pointer p, .int .u8 a, .int .u8 b] w fun e w' => e = .returned (.bool (cut a.toNat b.toNat)) ∧ ∃ m, w' = w.drewN m := by
  rcases h with ⟨rfl, rfl⟩ | ⟨bk, C, J, rfl, h2, rfl⟩
  · exact cuts_nil a b w
  · obtain ⟨a, rfl⟩ := Int.eq_ofNat_of_zero_le ha0
    obtain ⟨b, rfl⟩ := Int.eq_ofNat_of_zero_le hb0
    exact cuts_tab bk C J a b w (by omega) (by omega) h2

theorem info_str : (Try.prog.info? 9).map (fun i => (i.zero, i.size, i.bytes)) = some (some (.string ⟨#[]⟩), 1, 16) := by kernel_rfl

/-- the loop of Pieces at its head -/
def PcRel (cut : Nat → Nat → Bool) (s : ByteArray) (w : World) (v : Value) (done : List (List UInt8)) (f i : Nat) (wr : World) : Prop :=
  Below w.heap.size w wr ∧ wr.ownsRow w.heap.size 9 1 v done.length (done.map strV) ∧ done.length < i ∧
  (i ≤ s.size → Open cut s.data.toList done f i) ∧ (s.size < i → done = pcs cut s.data.toList)

def PiecesPost (cut : Nat → Nat → Bool) (s : ByteArray) (w : World) (e : Ending) (w' : World) : Prop :=
  ∃ v, e = .returned v ∧ Below w.heap.size w w' ∧ w'.ownsRow w.heap.size 9 1 v (pcs cut s.data.toList).length ((pcs cut s.data.toList).map strV)

theorem data_len (s : ByteArray) : s.data.toList.length = s.size := by cases s; rfl
theorem data_get (s : ByteArray) (i : Nat) (h : i < s.size) : s.data.toList[i]'(by rw [data_len]; exact h) = s[i] := rfl

theorem grown_below {B : Nat} {w w1 w2 : World} {v : Value} {e : TypeId} {size n : Nat} {xs : List Value} (h : Below B w w1) (hB : B ≤ w1.heap.size) (hg : w1.grownBy w2 v.ownBlock) (ho : w1.ownsRow B e size v n xs) : Below B w w2 :=
  h.grown hg hB (own_base ho)

/-- one piece more is closed -/
theorem pc_add {s : ByteArray} {w wr w1 : World} {v v' : Value} {done : List (List UInt8)} {nf k : Nat} (hk : k + 1 ≤ s.size) (hf : nf ≤ k) (hb : Below w.heap.size w wr) (hg : wr.grownBy w1 v.ownBlock)
    (ho : wr.ownsRow w.heap.size 9 1 v done.length (done.map strV))
    (ho1 : w1.ownsRow w.heap.size 9 1 v' (done.length + 1) (done.map strV ++ [.string (s.extract nf (k + 1))])) :
    Below w.heap.size w w1 ∧ w1.ownsRow w.heap.size 9 1 v' (done ++ [(s.data.toList.drop nf).take (k + 1 - nf)]).length ((done ++ [(s.data.toList.drop nf).take (k + 1 - nf)]).map strV) := by
  refine ⟨grown_below hb hb.size hg ho, ?_⟩
  rw [extract_bs] at ho1
  simpa [strV] using ho1

set_option maxHeartbeats 1000000 in
theorem pieces_any (p : Option Addr) (cut : Nat → Nat → Bool) (s : ByteArray) (w : World) (hp : TP w p cut) (hs : s.size ≤ 1000000000) :
    Calls Try.prog 20 #[.pointer p, .string s] w (PiecesPost cut s w) := by
  have HP := Lib.hid hp
  clear hp
  go_enter Try.func20, Try.ntmps20
  go_wp2
  go_loopw [5, 6, 7] (fun v f i wr => ∃ (done : List (List UInt8)) (nf k : Nat), f = .int .i64 nf ∧ i = .int .i64 k ∧ 1 ≤ k ∧ k ≤ s.size + 1 ∧ nf < k ∧ PcRel cut s w v done nf k wr) (fun _ _ i _ => s.size + 1 - (intOf i).toNat)
  case atStart =>
    refine ⟨[], 0, 1, rfl, rfl, by omega, by omega, by omega, Below.refl _ _, own_nil _ _ _ _, by simp, fun h => open_start _ _ (by rw [data_len]; omega), fun h => ?_⟩
    have : s.data.toList = [] := List.eq_nil_of_length_eq_zero (by rw [data_len]; omega)
    rw [this]
    rfl
  case round =>
    obtain ⟨done, nf, k, rfl, rfl, hk1, hk2, hnf, hb, hown, hdl, hop, hdone⟩ := hrel
    have HB := Lib.hid hb
    have HO := Lib.hid hown
    have HOP := Lib.hid hop
    have HD := Lib.hid hdone
    have hsz := hb.size
    clear hb hown hop hdone
    obtain ⟨k, rfl⟩ : ∃ m, k = m + 1 := ⟨k - 1, by omega⟩
    by_cases hle : k + 1 ≤ s.size
    · have HOPEN := Lib.hid (HOP.out hle)
      have f1 : (nf : Int) ≤ (k : Int) + 1 := by omega
      have f2 : (k : Int) + 1 ≤ (s.size : Int) := by omega
      clear HOP HD
      by_cases he : k + 1 = s.size
      · have HE := Lib.hid he
        have hbk : ((k : Int) + 1 == (s.size : Int)) = true := by rw [beq_iff_eq]; omega
        have hbk' : (k + 1 == s.size) = true := by rw [beq_iff_eq]; omega
        clear he
        go_wp2_with fail
        go_quiet (fail)
        clear hbk hbk'
        go_wp2_with (at_builtin; refine app_one (w.heap.size) 32 9 (.string ⟨#[]⟩) 1 16 [_] 1 _ _ rfl rfl Try.underlying32 info_str rfl (by decide) _ _ _ rfl rfl rfl (by intro u hu; simp at hu; subst hu; rfl) HO.out (by omega) (by omega) hsz ?_)
        intro v' w1 hown1 hg1
        have HO1 := Lib.hid hown1
        have HG1 := Lib.hid hg1
        clear hown1 hg1
        go_wp2_with fail
        go_roundw
        case rel =>
          have h := pc_add (wr := wr.drewN nq) (nf := nf) (k := k) hle (by omega) (below_drewN HB.out _) HG1.out (own_drewN HO.out _) HO1.out
          refine ⟨done ++ [(s.data.toList.drop nf).take (k + 1 - nf)], k + 1, k + 2, by go_num, by go_num, by omega, by omega, by omega, h.1, h.2, by simp; omega, fun hh => absurd hh (by have := HE.out; omega), fun _ => ?_⟩
          have hop := HOPEN.out
          rw [HE.out, ← data_len s] at hop
          rw [open_end hop, HE.out, data_len]
        case measure => simp [intOf]; omega
      · have he1 : ((k : Int) + 1 == (s.size : Int)) = false := by rw [beq_eq_false_iff_ne]; omega
        have he2 : (k + 1 == s.size) = false := by rw [beq_eq_false_iff_ne]; omega
        have HE := Lib.hid he
        have hlt : (k : Int) + 1 < s.size := by omega
        have hlt1 : (k : Int) < s.size := by omega
        have q0 : 0 ≤ (k : Int) := by omega
        have q2 : 0 ≤ (k : Int) + 1 := by omega
        have q3 : ((k : Int) + 1).toNat = k + 1 := by omega
        clear he
        obtain ⟨x, hx⟩ : ∃ x, s[k]'(by omega) = x := ⟨_, rfl⟩
        obtain ⟨y, hy⟩ : ∃ y, s[k + 1]'(by omega) = y := ⟨_, rfl⟩
        have HX := Lib.hid hx
        have HY := Lib.hid hy
        clear hx hy
        have q1 : IntKind.i64.wrap (k : Int) = k := IntWalk.i64_in _ (by omega)
        have HC := Lib.hid (fun n => cuts_any p cut (s[k].toNat : Int) (s[k + 1].toNat : Int) (wr.drewN n) (by omega) (by have := s[k].toNat_lt; omega) (by omega) (by have := s[k + 1].toNat_lt; omega) ((HP.out.below HB.out (Nat.le_refl _)).drewN n))
        go_wp2_with fail
        go_quiet ((go_at_call 25; exact Calls.quiet_of (HC.out _)))
        clear HC
        simp only [Int.toNat_natCast]
        simp only [HX.out, HY.out]
        clear q1
        cases hc : cut x.toNat y.toNat with
        | true =>
          have HCUT := Lib.hid hc
          clear hc
          go_wp2_with (at_builtin; refine app_one (w.heap.size) 32 9 (.string ⟨#[]⟩) 1 16 [_] 1 _ _ rfl rfl Try.underlying32 info_str rfl (by decide) _ _ _ rfl rfl rfl (by intro u hu; simp at hu; subst hu; rfl) (own_drewN HO.out _) (by omega) (by omega) (by exact hsz) ?_)
          intro v' w1 hown1 hg1
          have HO1 := Lib.hid hown1
          have HG1 := Lib.hid hg1
          clear hown1 hg1
          go_wp2_with fail
          go_roundw
          case rel =>
            have h := pc_add (wr := wr.drewN nq) (nf := nf) (k := k) hle (by omega) (below_drewN HB.out _) HG1.out (own_drewN HO.out _) HO1.out
            refine ⟨done ++ [(s.data.toList.drop nf).take (k + 1 - nf)], k + 1, k + 2, by go_num, by go_num, by omega, by omega, by omega, h.1, h.2, by simp; omega, fun hh => ?_, fun hh => absurd hh (by omega)⟩
            exact open_cut HOPEN.out (by rw [data_len]; omega) (by have := HCUT.out; rw [← HX.out, ← HY.out] at this; exact this)
          case measure => simp [intOf]; omega
        | false =>
          have HCUT := Lib.hid hc
          clear hc
          go_wp2_with fail
          go_roundw
          case rel =>
            exact ⟨done, nf, k + 2, rfl, by go_num, by omega, by omega, by omega, below_drewN HB.out _, own_drewN HO.out _, by omega, fun hh => open_grow HOPEN.out (by rw [data_len]; omega) (by have := HCUT.out; rw [← HX.out, ← HY.out] at this; exact this), fun hh => absurd hh (by omega)⟩
          case measure => simp [intOf]; omega
    · have HDN := Lib.hid (HD.out (by omega))
      clear HOP HD
      go_wp2_with fail
      go_ret
      refine ⟨u5, by simp, HB.out, ?_⟩
      rw [← HDN.out]
      exact HO.out

theorem whole_any (p : Option Addr) (cut : Nat → Nat → Bool) (s : ByteArray) (w : World) (hp : TP w p cut) (hs : s.size ≤ 1000000000) :
    Calls Try.prog 21 #[.pointer p, .string s] w fun e w' => e = .returned (.bool (decide ((pcs cut s.data.toList).length ≤ 1))) ∧ Below w.heap.size w w' := by
  have HC := Lib.hid (pieces_any p cut s w hp hs)
  have hl := length_pcs_le cut s.data.toList
  rw [data_len] at hl
  clear hp
  go_enter Try.func21, Try.ntmps21
  go_wp2_with fail
  refine HC.out.mono ?_
  rintro e w' ⟨v, rfl, hb, ho⟩
  obtain ⟨A, c, rfl⟩ := own_slice ho
  clear ho HC
  go_wp2_with fail
  go_ret
  exact ⟨by simp; omega, hb⟩

/-- Between: nothing on a side is no cut -/
def betB (cut : Nat → Nat → Bool) (a b : List UInt8) : Bool :=
  match a.getLast?, b.head? with
  | some x, some y => cut x.toNat y.toNat
  | _, _ => false

theorem toList_data (s : ByteArray) : s.toList = s.data.toList := by
  rw [ByteArray.toList_eq]
theorem between_none (p : Option Addr) (s u : ByteArray) (w : World) (h : s.data.toList = [] ∨ u.data.toList = []) :
    Calls Try.prog 22 #[.pointer p, .string s, .string u] w fun e w' => e = .returned (.bool false) ∧ ∃ m, w' = w.drewN m := by
  by_cases hs : s.data.toList = []
  · have h1 : s.toList = [] := by rw [toList_data]; exact hs
    clear h hs
    go_enter Try.func22, Try.ntmps22
    go_wp2_with fail
    go_quiet (fail)
    go_wp2_with fail
    go_ret
    exact ⟨by simp, _, rfl⟩
  · have h1 : s.toList.isEmpty = false := by rw [toList_data]; simpa using hs
    have h1' : (!s.toList.isEmpty) = true := by rw [h1]; rfl
    have h2 : u.toList = [] := by rw [toList_data]; exact h.resolve_left hs
    clear h hs
    go_enter Try.func22, Try.ntmps22
    go_wp2_with fail
    go_quiet (fail)
    go_wp2_with fail
    go_ret
    exact ⟨by simp, _, rfl⟩

theorem between_some (p : Option Addr) (cut : Nat → Nat → Bool) (s u : ByteArray) (k : Nat) (x y : UInt8) (w : World) (hp : TP w p cut) (hs : s.size = k + 1) (hu : 0 < u.size) (hsz : s.size ≤ 1000000000) (hk : k < s.size) (hx : s[k]'hk = x) (hy : u[0] = y) :
    Calls Try.prog 22 #[.pointer p, .string s, .string u] w fun e w' => e = .returned (.bool (cut x.toNat y.toNat)) ∧ ∃ m, w' = w.drewN m := by
  have h1 : s.toList.isEmpty = false := by rw [toList_data, ← Bool.not_eq_true, List.isEmpty_iff]; intro h; have := data_len s; rw [h] at this; simp at this; omega
  have h1' : (!s.toList.isEmpty) = true := by rw [h1]; rfl
  have h2 : u.toList.isEmpty = false := by rw [toList_data, ← Bool.not_eq_true, List.isEmpty_iff]; intro h; have := data_len u; rw [h] at this; simp at this; omega
  have h2' : (!u.toList.isEmpty) = true := by rw [h2]; rfl
  have HX := Lib.hid hx
  have HY := Lib.hid hy
  have f0 : (0 : Int) < (u.size : Int) := by omega
  have f2 : (k : Int) < (s.size : Int) := by omega
  have f3 : 0 ≤ (k : Int) := by omega
  have q1 : IntKind.i64.wrap ((s.size : Int) - 1) = k := by rw [IntWalk.i64_in _ (by omega)]; omega
  have HC := Lib.hid (fun n => cuts_any p cut (x.toNat : Int) (y.toNat : Int) (w.drewN n) (by omega) (by have := x.toNat_lt; omega) (by omega) (by have := y.toNat_lt; omega) (hp.drewN n))
  clear hx hy hp hs
  go_enter Try.func22, Try.ntmps22
  go_wp2_with fail
  go_quiet (first | (go_at_call 25; simp only [HX.out, HY.out]; exact Calls.quiet_of (HC.out _)))
  go_wp2_with fail
  go_ret
  exact ⟨by simp, _, rfl⟩

theorem between_any (p : Option Addr) (cut : Nat → Nat → Bool) (s u : ByteArray) (w : World) (hp : TP w p cut) (hs : s.size ≤ 1000000000) :
    Calls Try.prog 22 #[.pointer p, .string s, .string u] w fun e w' => e = .returned (.bool (betB cut s.data.toList u.data.toList)) ∧ ∃ m, w' = w.drewN m := by
  by_cases h : s.data.toList = [] ∨ u.data.toList = []
  · have e : betB cut s.data.toList u.data.toList = false := by
      rcases h with h | h
      · simp [betB, h]
      · simp only [betB, h, List.head?_nil]; split <;> first | rfl | contradiction
    rw [e]
    exact between_none p s u w h
  · have h1 : 0 < s.size := by
      rcases Nat.eq_zero_or_pos s.size with e | e
      · exact absurd (.inl (List.eq_nil_of_length_eq_zero (by rw [data_len]; exact e))) h
      · exact e
    have h2 : 0 < u.size := by
      rcases Nat.eq_zero_or_pos u.size with e | e
      · exact absurd (.inr (List.eq_nil_of_length_eq_zero (by rw [data_len]; exact e))) h
      · exact e
    have e : betB cut s.data.toList u.data.toList = cut (s[s.size - 1]'(by omega)).toNat u[0].toNat := by
      unfold betB
      rw [List.getLast?_eq_getElem?, List.head?_eq_getElem?, data_len, List.getElem?_eq_getElem (by rw [data_len]; omega), List.getElem?_eq_getElem (by rw [data_len]; omega)]
      rfl
    rw [e]
    exact between_some p cut s u (s.size - 1) _ _ w hp (by omega) h2 hs (by omega) rfl rfl
end Go.Proofs.Ytdppdjiigecjoaa
