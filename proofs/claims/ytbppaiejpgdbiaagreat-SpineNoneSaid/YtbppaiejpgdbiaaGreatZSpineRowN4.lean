/- Texts of several layers, one behind the other: Once2, Vocab2, Pieces, Bound2, Find0, Find1, Spine0, Voc0, Find2, Alone0, Spine1. -/
import Derived.Test.YtbppaiejpgdbiaaGreatZSpineRowN3
import Derived.WalkKit
import Derived.KernelRfl
import Derived.Lib.Hide
import Derived.Deep.QuietTactic
import Derived.BigQuiet
import Derived.OwnWalk
import Derived.Lib.Strings
import Derived.Deep.DeepCutAuto
import Derived.Deep.RegionHeld3
import Derived.StillTailTactics
import Derived.Test.YtbppaiejpgdbiaaGreatProg
import Derived.Deep.Slices
import Derived.Deep.Fields
import Derived.ChangeSame
import Derived.SliceStrings
import Derived.OpenShut
import Derived.Maps.OwnSet
import Derived.Maps.OwnOps
import Derived.DeepKeys4
import Derived.WideKeyEntry
import Derived.Maps.AppendAt
import Derived.Laws.ResultCell
import Derived.Laws.IdiomStrings
import Derived.Laws.AppendOwnNone
import Derived.Lib.AppendStr
import Derived.Laws.LoneSync
import Derived.Tactics
import Derived.Tactics2
import Derived.Defers
import Derived.Laws.Pointers
import Derived.RegionTactic
import Derived.RegionCalls
import Derived.ChangeAlike
import Derived.Test.YtbppaiejpgdbiaaGreatRows
import Derived.ProofKit
import Derived.ShutString
import Derived.ChangeOld
import Derived.Below
import Derived.Lib.SmallJoins
/- sync.Once.Do, the first time (after LazySlow). -/
namespace Go.Proofs.YtbppaiejpgdbiaaGreat
open Go.RowKit Go.Maps Go.WideMaps
set_option linter.unusedVariables false
set_option linter.unusedSimpArgs false
set_option maxRecDepth 100000 in
set_option maxHeartbeats 1600000 in
theorem slow_any {R : World → Prop} (b o vb : Nat) (w : World)
    (h0 : w.cell? ⟨b, o, none⟩ = some (.int .u32 0)) (h1 : w.cell? ⟨b, o + 1, none⟩ = some (.int .i32 0)) (f1 : w.frozen? ⟨b, o + 1, none⟩ = false)
    (hF : Calls Tryz.prog 95 #[.pointer (some ⟨vb, 0, none⟩)] (w.setCell ⟨b, o + 1, none⟩ (.int .i32 1)) fun e w1 => e = .returned (.tuple #[]) ∧ R w1 ∧ w1.cell? ⟨b, o, none⟩ = some (.int .u32 0) ∧ w1.cell? ⟨b, o + 1, none⟩ = some (.int .i32 1) ∧ w1.frozen? ⟨b, o, none⟩ = false ∧ w1.frozen? ⟨b, o + 1, none⟩ = false) :
    Calls Tryz.prog 134 #[.pointer (some ⟨b, o, none⟩), .func (.func 95) #[.pointer (some ⟨vb, 0, none⟩)] #[]] w fun e w' => e = .returned (.tuple #[]) ∧
      ∃ w1, R w1 ∧ w' = (w1.drew.setCell ⟨b, o, none⟩ (.int .u32 1)).setCell ⟨b, o + 1, none⟩ (.int .i32 0) := by
  have hl := bload_any b o 0 (w.setCell ⟨b, o + 1, none⟩ (.int .i32 1)) ((World.cell?_setCell_other _ ⟨b, o + 1, none⟩ ⟨b, o, none⟩ _ (by simp)).trans h0)
  have HL := Lib.hid hl
  have HF := Lib.hid hF
  have HK := Lib.hid (lock_free b o.succ w h1 f1)
  clear hl hF h0 h1 f1
  go_enter_defers Tryz.func134, Tryz.ntmps134
  go_wp2_with (first | (go_at_call 154; refine HK.out.mono ?_; rintro e w' ⟨rfl, rfl⟩) | (go_at_call 133; refine HL.out.mono ?_; rintro e w' ⟨rfl, rfl⟩) | (go_at_call 95; refine HF.out.mono ?_; rintro e w1 ⟨rfl, hR, c0, c1, z0, z1⟩))
  refine leaves_cons (f := 156) (args := #[.pointer (some ⟨b, o, none⟩), .bool true]) (by simp) (by simp [go_sem]) ?_
  refine (store_def ⟨b, o, none⟩ (.int .u32 0) .returning _ c0 z0).mono ?_
  rintro e u' w'' ⟨rfl, rfl, rfl⟩
  refine leaves_cons (f := 155) (args := #[.pointer (some ⟨b, o + 1, none⟩)]) (by simp [settle]) (by simp [go_sem]) ?_
  refine (unlock_def b (o + 1) _ _ ?_ (by simp [z1])).mono ?_
  · refine (World.cell?_setCell_other _ ⟨b, o, none⟩ ⟨b, o + 1, none⟩ _ (by simp)).trans ?_
    rw [World.cell?_drew]
    exact c1
  rintro e u' w'' ⟨rfl, rfl, rfl⟩
  simp [Leaves, settle, results, Tryz.results134]
  exact ⟨_, hR, rfl⟩
set_option maxHeartbeats 1600000 in
theorem do_first {R : World → Prop} (b o vb : Nat) (w : World)
    (h0 : w.cell? ⟨b, o, none⟩ = some (.int .u32 0)) (h1 : w.cell? ⟨b, o + 1, none⟩ = some (.int .i32 0)) (f1 : w.frozen? ⟨b, o + 1, none⟩ = false)
    (hF : Calls Tryz.prog 95 #[.pointer (some ⟨vb, 0, none⟩)] (w.setCell ⟨b, o + 1, none⟩ (.int .i32 1)) fun e w1 => e = .returned (.tuple #[]) ∧ R w1 ∧ w1.cell? ⟨b, o, none⟩ = some (.int .u32 0) ∧ w1.cell? ⟨b, o + 1, none⟩ = some (.int .i32 1) ∧ w1.frozen? ⟨b, o, none⟩ = false ∧ w1.frozen? ⟨b, o + 1, none⟩ = false) :
    Calls Tryz.prog 94 #[.pointer (some ⟨b, o, none⟩), .func (.func 95) #[.pointer (some ⟨vb, 0, none⟩)] #[]] w fun e w' => e = .returned (.tuple #[]) ∧
      ∃ w1, R w1 ∧ w' = (w1.drew.setCell ⟨b, o, none⟩ (.int .u32 1)).setCell ⟨b, o + 1, none⟩ (.int .i32 0) := by
  have HL := Lib.hid (bload_any b o 0 w h0)
  have HS := Lib.hid (slow_any b o vb w h0 h1 f1 hF)
  clear h0 h1 f1 hF
  go_enter Tryz.func94, Tryz.ntmps94
  go_wp2_with (first | (go_at_call 133; refine HL.out.mono ?_; rintro e w' ⟨rfl, rfl⟩) | (go_at_call 134; refine HS.out.mono ?_; rintro e w' ⟨rfl, w1, hR, rfl⟩))
  go_end0
  exact ⟨rfl, w1, hR, rfl⟩
end Go.Proofs.YtbppaiejpgdbiaaGreat

/- Layer 10 (vocab): what a vocabulary is made of: Table, Bounds, Marks, Size. -/
namespace Go.Proofs.YtbppaiejpgdbiaaGreat
open Go.RowKit Go.Maps Go.WideMaps
set_option maxRecDepth 100000
set_option linter.unusedVariables false
set_option linter.unusedSimpArgs false
section
variable {w : World} {base vb : Nat} {s : SpecP} {T : List Ent} {A1 A2 A3 A4 A5 : Option Addr} {c1 c2 c3 c4 c5 tbase tb bk kbase mk : Nat} {sv : Value} {mb mp : Nat} {sv2 : Value} {mi mt : Nat} {l : Value} {dn st se us : Int}
theorem vtable_any (h : VocIs w base vb s T A1 A2 A3 A4 A5 c1 c2 c3 c4 c5 tbase tb bk kbase mk sv mb mp sv2 mi mt l dn st se us) : Calls Tryz.prog 65 #[.pointer (some ⟨vb, 0, none⟩)] w fun e w' => e = .returned (.pointer (some ⟨tb, 0, none⟩)) ∧ w' = w := by
  have c := blk_cell h.blk 6
  simp only [List.getElem?_toArray, List.getElem?_cons_zero, List.getElem?_cons_succ] at c
  clear h
  go_enter Tryz.func65, Tryz.ntmps65
  go_wp2_with fail
  go_ret
  exact ⟨rfl, rfl⟩
theorem vbounds_any (h : VocIs w base vb s T A1 A2 A3 A4 A5 c1 c2 c3 c4 c5 tbase tb bk kbase mk sv mb mp sv2 mi mt l dn st se us) : Calls Tryz.prog 98 #[.pointer (some ⟨vb, 0, none⟩)] w fun e w' => e = .returned (.pointer (some ⟨bk, 0, none⟩)) ∧ w' = w := by
  have c := blk_cell h.blk 7
  simp only [List.getElem?_toArray, List.getElem?_cons_zero, List.getElem?_cons_succ] at c
  clear h
  go_enter Tryz.func98, Tryz.ntmps98
  go_wp2_with fail
  go_ret
  exact ⟨rfl, rfl⟩
theorem vmarks_any (h : VocIs w base vb s T A1 A2 A3 A4 A5 c1 c2 c3 c4 c5 tbase tb bk kbase mk sv mb mp sv2 mi mt l dn st se us) : Calls Tryz.prog 68 #[.pointer (some ⟨vb, 0, none⟩)] w fun e w' => e = .returned (.pointer (some ⟨mk, 0, none⟩)) ∧ w' = w := by
  have c := blk_cell h.blk 8
  simp only [List.getElem?_toArray, List.getElem?_cons_zero, List.getElem?_cons_succ] at c
  clear h
  go_enter Tryz.func68, Tryz.ntmps68
  go_wp2_with fail
  go_ret
  exact ⟨rfl, rfl⟩
theorem vsize_any (h : VocIs w base vb s T A1 A2 A3 A4 A5 c1 c2 c3 c4 c5 tbase tb bk kbase mk sv mb mp sv2 mi mt l dn st se us) : Calls Tryz.prog 36 #[.pointer (some ⟨vb, 0, none⟩)] w fun e w' => e = .returned (.int .i64 (T.length : Nat)) ∧ w' = w := by
  have h1 := vtable_any h
  have h2 := len_tab h.tab
  clear h
  go_enter Tryz.func36, Tryz.ntmps36
  go_wp2_with (first | (go_at_call 65; (refine h1.mono ?_); (rintro e V1 ⟨rfl, rfl⟩)) | (go_at_call 66; (refine h2.mono ?_); (rintro e V1 ⟨rfl, rfl⟩)))
  go_ret
  exact ⟨rfl, rfl⟩
end
end Go.Proofs.YtbppaiejpgdbiaaGreat

/- Layer 8 (bound): what the pieces of bytes are, as plain lists. -/
namespace Go.Proofs.YtbppaiejpgdbiaaGreat

/-- is it cut behind the last byte of a piece? -/
def cutLast (cut : Nat → Nat → Bool) (p : List UInt8) (c : UInt8) : Bool := match p.getLast? with | none => false | some d => cut d.toNat c.toNat
theorem cutLast_snoc (cut : Nat → Nat → Bool) (p : List UInt8) (d c : UInt8) : cutLast cut (p ++ [d]) c = cut d.toNat c.toNat := by simp [cutLast]
/-- one more byte: a new piece where it is cut (or nothing is there yet), else the last piece grows -/
def addByte (cut : Nat → Nat → Bool) (acc : List (List UInt8)) (c : UInt8) : List (List UInt8) :=
  match acc.getLast? with
  | none => [[c]]
  | some p => if cutLast cut p c then acc ++ [[c]] else acc.dropLast ++ [p ++ [c]]
def pcs (cut : Nat → Nat → Bool) (l : List UInt8) : List (List UInt8) := l.foldl (addByte cut) []
theorem pcs_snoc (cut : Nat → Nat → Bool) (l : List UInt8) (c : UInt8) : pcs cut (l ++ [c]) = addByte cut (pcs cut l) c := by simp [pcs]
theorem pcs_one (cut : Nat → Nat → Bool) (c : UInt8) : pcs cut [c] = [[c]] := rfl

theorem addByte_new {cut : Nat → Nat → Bool} {acc : List (List UInt8)} {p : List UInt8} {d c : UInt8} (h : cut d.toNat c.toNat = true) : addByte cut (acc ++ [p ++ [d]]) c = acc ++ [p ++ [d]] ++ [[c]] := by
  simp [addByte, cutLast_snoc, h]
theorem addByte_grow {cut : Nat → Nat → Bool} {acc : List (List UInt8)} {p : List UInt8} {d c : UInt8} (h : cut d.toNat c.toNat = false) : addByte cut (acc ++ [p ++ [d]]) c = acc ++ [p ++ [d] ++ [c]] := by
  simp [addByte, cutLast_snoc, h]

/-- The state of the walk over the bytes l: 'done' are closed, the open one begins at 'f'; i bytes are taken. -/
def Open (cut : Nat → Nat → Bool) (l : List UInt8) (done : List (List UInt8)) (f i : Nat) : Prop :=
  f < i ∧ i ≤ l.length ∧ pcs cut (l.take i) = done ++ [(l.drop f).take (i - f)]

theorem open_start (cut : Nat → Nat → Bool) (l : List UInt8) (h : 0 < l.length) : Open cut l [] 0 1 := by
  refine ⟨by omega, by omega, ?_⟩
  cases l with
  | nil => simp at h
  | cons c l => simp [pcs_one]

theorem slice_snoc (l : List UInt8) (f i : Nat) (h : f ≤ i) (hi : i < l.length) : (l.drop f).take (i + 1 - f) = (l.drop f).take (i - f) ++ [l[i]] := by
  rw [show i + 1 - f = (i - f) + 1 by omega, List.take_succ_eq_append_getElem (by rw [List.length_drop]; omega)]
  congr 2
  rw [List.getElem_drop]
  congr 1
  omega

theorem open_last {l : List UInt8} {f i : Nat} (h : f < i) (hi : i ≤ l.length) : (l.drop f).take (i - f) = (l.drop f).take (i - 1 - f) ++ [l[i - 1]] := by
  have := slice_snoc l f (i - 1) (by omega) (by omega)
  rwa [show i - 1 + 1 = i by omega] at this

theorem open_cut {cut : Nat → Nat → Bool} {l : List UInt8} {done : List (List UInt8)} {f i : Nat} (h : Open cut l done f i) (hi : i < l.length) (hc : cut (l[i - 1]'(by omega)).toNat l[i].toNat = true) :
    Open cut l (done ++ [(l.drop f).take (i - f)]) i (i + 1) := by
  obtain ⟨h1, h2, h3⟩ := h
  refine ⟨by omega, by omega, ?_⟩
  rw [take_snoc hi, pcs_snoc, h3, open_last h1 h2, addByte_new hc, show i + 1 - i = 0 + 1 by omega, List.take_succ_eq_append_getElem (by rw [List.length_drop]; omega)]
  simp

theorem open_grow {cut : Nat → Nat → Bool} {l : List UInt8} {done : List (List UInt8)} {f i : Nat} (h : Open cut l done f i) (hi : i < l.length) (hc : cut (l[i - 1]'(by omega)).toNat l[i].toNat = false) :
    Open cut l done f (i + 1) := by
  obtain ⟨h1, h2, h3⟩ := h
  refine ⟨by omega, by omega, ?_⟩
  rw [take_snoc hi, pcs_snoc, h3, open_last h1 h2, addByte_grow hc, ← open_last h1 h2, slice_snoc l f i (by omega) hi]

theorem open_end {cut : Nat → Nat → Bool} {l : List UInt8} {done : List (List UInt8)} {f : Nat} (h : Open cut l done f l.length) : pcs cut l = done ++ [(l.drop f).take (l.length - f)] := by
  have := h.2.2
  rwa [List.take_length] at this

/-! what the pieces are: none is empty, together they are the bytes, each is whole, between each two there is a cut -/
theorem length_pcs_le (cut : Nat → Nat → Bool) (l : List UInt8) : (pcs cut l).length ≤ l.length := by
  have key : ∀ (l : List UInt8) (acc : List (List UInt8)), (l.foldl (addByte cut) acc).length ≤ acc.length + l.length := by
    intro l
    induction l with
    | nil => intro acc; simp
    | cons c l ih =>
      intro acc
      rw [List.foldl_cons]
      refine Nat.le_trans (ih _) ?_
      have : (addByte cut acc c).length ≤ acc.length + 1 := by
        unfold addByte
        split
        · simp
        · split
          · simp
          · simp
      simp only [List.length_cons]
      omega
  have := key l []
  simpa [pcs] using this

end Go.Proofs.YtbppaiejpgdbiaaGreat

/- Layer 8 (bound): the contracts of Pieces, Whole, Between. -/
namespace Go.Proofs.YtbppaiejpgdbiaaGreat
open Go.RowKit
set_option maxRecDepth 100000
set_option linter.unusedVariables false
set_option linter.unusedSimpArgs false

/-- a table's pointer (nil: nothing is cut), and where it cuts -/
def TP (w : World) (p : Option Addr) (cut : Nat → Nat → Bool) : Prop :=
  (p = none ∧ cut = fun _ _ => false) ∨ ∃ bk C J, p = some ⟨bk, 0, none⟩ ∧ BTab w bk C J ∧ cut = cutB C J
theorem TP.below {B : Nat} {w w' : World} {p : Option Addr} {cut : Nat → Nat → Bool} (h : TP w p cut) (hb : Below B w w') (hB : w.heap.size ≤ B) : TP w' p cut := by
  rcases h with h | ⟨bk, C, J, h1, h2, h3⟩
  · exact .inl h
  · exact .inr ⟨bk, C, J, h1, h2.below hb (Nat.lt_of_lt_of_le (blk_lt h2.1) hB), h3⟩

theorem TP.drewN {w : World} {p : Option Addr} {cut : Nat → Nat → Bool} (h : TP w p cut) (n : Nat) : TP (w.drewN n) p cut := h
theorem cuts_any (p : Option Addr) (cut : Nat → Nat → Bool) (a b : Int) (w : World) (ha0 : 0 ≤ a) (ha : a < 256) (hb0 : 0 ≤ b) (hb : b < 256) (h : TP w p cut) :
    Calls Tryz.prog 137 #[.pointer p, .int .u8 a, .int .u8 b] w fun e w' => e = .returned (.bool (cut a.toNat b.toNat)) ∧ ∃ m, w' = w.drewN m := by
  rcases h with ⟨rfl, rfl⟩ | ⟨bk, C, J, rfl, h2, rfl⟩
  · exact cuts_nil a b w
  · obtain ⟨a, rfl⟩ := Int.eq_ofNat_of_zero_le ha0
    obtain ⟨b, rfl⟩ := Int.eq_ofNat_of_zero_le hb0
    exact cuts_tab bk C J a b w (by omega) (by omega) h2

theorem info_str : (Tryz.prog.info? 9).map (fun i => (i.zero, i.size, i.bytes)) = some (some (.string ⟨#[]⟩), 1, 16) := by kernel_rfl

/-- the loop of Pieces at its head -/
def PcRel (cut : Nat → Nat → Bool) (s : ByteArray) (w : World) (v : Value) (done : List (List UInt8)) (f i : Nat) (wr : World) : Prop :=
  Below w.heap.size w wr ∧ wr.ownsRow w.heap.size 9 1 v done.length (done.map strV) ∧ done.length < i ∧
  (i ≤ s.size → Open cut s.data.toList done f i) ∧ (s.size < i → done = pcs cut s.data.toList)

def PiecesPost (cut : Nat → Nat → Bool) (s : ByteArray) (w : World) (e : Ending) (w' : World) : Prop :=
  ∃ v, e = .returned v ∧ Below w.heap.size w w' ∧ w'.ownsRow w.heap.size 9 1 v (pcs cut s.data.toList).length ((pcs cut s.data.toList).map strV)

theorem data_len (s : ByteArray) : s.data.toList.length = s.size := by cases s; rfl
theorem grown_below {B : Nat} {w w1 w2 : World} {v : Value} {e : TypeId} {size n : Nat} {xs : List Value} (h : Below B w w1) (hB : B ≤ w1.heap.size) (hg : w1.grownBy w2 v.ownBlock) (ho : w1.ownsRow B e size v n xs) : Below B w w2 :=
  h.grown hg hB (own_base ho)

/-- one piece more is closed -/
theorem pc_add {s : ByteArray} {w wr w1 : World} {v v' : Value} {done : List (List UInt8)} {nf k : Nat} (hk : k + 1 ≤ s.size) (hf : nf ≤ k) (hb : Below w.heap.size w wr) (hg : wr.grownBy w1 v.ownBlock)
    (ho : wr.ownsRow w.heap.size 9 1 v done.length (done.map strV))
    (ho1 : w1.ownsRow w.heap.size 9 1 v' (done.length + 1) (done.map strV ++ [.string (s.extract nf (k + 1))])) :
    Below w.heap.size w w1 ∧ w1.ownsRow w.heap.size 9 1 v' (done ++ [(s.data.toList.drop nf).take (k + 1 - nf)]).length ((done ++ [(s.data.toList.drop nf).take (k + 1 - nf)]).map strV) := by
  refine ⟨grown_below hb hb.size hg ho, ?_⟩
  rw [extract_bs] at ho1
  simpa [strV] using ho1

set_option maxHeartbeats 1000000 in
theorem pieces_any (p : Option Addr) (cut : Nat → Nat → Bool) (s : ByteArray) (w : World) (hp : TP w p cut) (hs : s.size ≤ 1000000000) :
    Calls Tryz.prog 158 #[.pointer p, .string s] w (PiecesPost cut s w) := by
  have HP := Lib.hid hp
  clear hp
  go_enter Tryz.func158, Tryz.ntmps158
  go_wp2
  go_loopw [5, 6, 7] (fun v f i wr => ∃ (done : List (List UInt8)) (nf k : Nat), f = .int .i64 nf ∧ i = .int .i64 k ∧ 1 ≤ k ∧ k ≤ s.size + 1 ∧ nf < k ∧ PcRel cut s w v done nf k wr) (fun _ _ i _ => s.size + 1 - (intOf i).toNat)
  case atStart =>
    refine ⟨[], 0, 1, rfl, rfl, by omega, by omega, by omega, Below.refl _ _, own_nil _ _ _ _, by simp, fun h => open_start _ _ (by rw [data_len]; omega), fun h => ?_⟩
    have : s.data.toList = [] := List.eq_nil_of_length_eq_zero (by rw [data_len]; omega)
    rw [this]
    rfl
  case round =>
    obtain ⟨done, nf, k, rfl, rfl, hk1, hk2, hnf, hb, hown, hdl, hop, hdone⟩ := hrel
    have HB := Lib.hid hb
    have HO := Lib.hid hown
    have HOP := Lib.hid hop
    have HD := Lib.hid hdone
    have hsz := hb.size
    clear hb hown hop hdone
    obtain ⟨k, rfl⟩ : ∃ m, k = m + 1 := ⟨k - 1, by omega⟩
    by_cases hle : k + 1 ≤ s.size
    · have HOPEN := Lib.hid (HOP.out hle)
      have f1 : (nf : Int) ≤ (k : Int) + 1 := by omega
      have f2 : (k : Int) + 1 ≤ (s.size : Int) := by omega
      clear HOP HD
      by_cases he : k + 1 = s.size
      · have HE := Lib.hid he
        have hbk : ((k : Int) + 1 == (s.size : Int)) = true := by rw [beq_iff_eq]; omega
        have hbk' : (k + 1 == s.size) = true := by rw [beq_iff_eq]; omega
        clear he
        go_wp2_with fail
        go_quiet (fail)
        clear hbk hbk'
        go_wp2_with (at_builtin; refine app_one (w.heap.size) 31 9 (.string ⟨#[]⟩) 1 16 [_] 1 _ _ rfl rfl Tryz.underlying31 info_str rfl (by decide) _ _ _ rfl rfl rfl (by intro u hu; simp at hu; subst hu; rfl) HO.out (by omega) (by omega) hsz ?_)
        intro v' w1 hown1 hg1
        have HO1 := Lib.hid hown1
        have HG1 := Lib.hid hg1
        clear hown1 hg1
        go_wp2_with fail
        go_roundw
        case rel =>
          have h := pc_add (wr := wr.drewN nq) (nf := nf) (k := k) hle (by omega) (below_drewN HB.out _) HG1.out (own_drewN HO.out _) HO1.out
          refine ⟨done ++ [(s.data.toList.drop nf).take (k + 1 - nf)], k + 1, k + 2, by go_num, by go_num, by omega, by omega, by omega, h.1, h.2, by simp; omega, fun hh => absurd hh (by have := HE.out; omega), fun _ => ?_⟩
          have hop := HOPEN.out
          rw [HE.out, ← data_len s] at hop
          rw [open_end hop, HE.out, data_len]
        case measure => simp [intOf]; omega
      · have he1 : ((k : Int) + 1 == (s.size : Int)) = false := by rw [beq_eq_false_iff_ne]; omega
        have he2 : (k + 1 == s.size) = false := by rw [beq_eq_false_iff_ne]; omega
        have HE := Lib.hid he
        have hlt : (k : Int) + 1 < s.size := by omega
        have hlt1 : (k : Int) < s.size := by omega
        have q0 : 0 ≤ (k : Int) := by omega
        have q2 : 0 ≤ (k : Int) + 1 := by omega
        have q3 : ((k : Int) + 1).toNat = k + 1 := by omega
        clear he
        obtain ⟨x, hx⟩ : ∃ x, s[k]'(by omega) = x := ⟨_, rfl⟩
        obtain ⟨y, hy⟩ : ∃ y, s[k + 1]'(by omega) = y := ⟨_, rfl⟩
        have HX := Lib.hid hx
        have HY := Lib.hid hy
        clear hx hy
        have q1 : IntKind.i64.wrap (k : Int) = k := IntWalk.i64_in _ (by omega)
        have HC := Lib.hid (fun n => cuts_any p cut (s[k].toNat : Int) (s[k + 1].toNat : Int) (wr.drewN n) (by omega) (by have := s[k].toNat_lt; omega) (by omega) (by have := s[k + 1].toNat_lt; omega) ((HP.out.below HB.out (Nat.le_refl _)).drewN n))
        go_wp2_with fail
        go_quiet ((go_at_call 137; exact Calls.quiet_of (HC.out _)))
        clear HC
        simp only [Int.toNat_natCast]
        simp only [HX.out, HY.out]
        clear q1
        cases hc : cut x.toNat y.toNat with
        | true =>
          have HCUT := Lib.hid hc
          clear hc
          go_wp2_with (at_builtin; refine app_one (w.heap.size) 31 9 (.string ⟨#[]⟩) 1 16 [_] 1 _ _ rfl rfl Tryz.underlying31 info_str rfl (by decide) _ _ _ rfl rfl rfl (by intro u hu; simp at hu; subst hu; rfl) (own_drewN HO.out _) (by omega) (by omega) (by exact hsz) ?_)
          intro v' w1 hown1 hg1
          have HO1 := Lib.hid hown1
          have HG1 := Lib.hid hg1
          clear hown1 hg1
          go_wp2_with fail
          go_roundw
          case rel =>
            have h := pc_add (wr := wr.drewN nq) (nf := nf) (k := k) hle (by omega) (below_drewN HB.out _) HG1.out (own_drewN HO.out _) HO1.out
            refine ⟨done ++ [(s.data.toList.drop nf).take (k + 1 - nf)], k + 1, k + 2, by go_num, by go_num, by omega, by omega, by omega, h.1, h.2, by simp; omega, fun hh => ?_, fun hh => absurd hh (by omega)⟩
            exact open_cut HOPEN.out (by rw [data_len]; omega) (by have := HCUT.out; rw [← HX.out, ← HY.out] at this; exact this)
          case measure => simp [intOf]; omega
        | false =>
          have HCUT := Lib.hid hc
          clear hc
          go_wp2_with fail
          go_roundw
          case rel =>
            exact ⟨done, nf, k + 2, rfl, by go_num, by omega, by omega, by omega, below_drewN HB.out _, own_drewN HO.out _, by omega, fun hh => open_grow HOPEN.out (by rw [data_len]; omega) (by have := HCUT.out; rw [← HX.out, ← HY.out] at this; exact this), fun hh => absurd hh (by omega)⟩
          case measure => simp [intOf]; omega
    · have HDN := Lib.hid (HD.out (by omega))
      clear HOP HD
      go_wp2_with fail
      go_ret
      refine ⟨u5, by simp, HB.out, ?_⟩
      rw [← HDN.out]
      exact HO.out

theorem whole_any (p : Option Addr) (cut : Nat → Nat → Bool) (s : ByteArray) (w : World) (hp : TP w p cut) (hs : s.size ≤ 1000000000) :
    Calls Tryz.prog 136 #[.pointer p, .string s] w fun e w' => e = .returned (.bool (decide ((pcs cut s.data.toList).length ≤ 1))) ∧ Below w.heap.size w w' := by
  have HC := Lib.hid (pieces_any p cut s w hp hs)
  have hl := length_pcs_le cut s.data.toList
  rw [data_len] at hl
  clear hp
  go_enter Tryz.func136, Tryz.ntmps136
  go_wp2_with fail
  refine HC.out.mono ?_
  rintro e w' ⟨v, rfl, hb, ho⟩
  obtain ⟨A, c, rfl⟩ := own_slice ho
  clear ho HC
  go_wp2_with fail
  go_ret
  exact ⟨by simp; omega, hb⟩

/-- Between: nothing on a side is no cut -/
def betB (cut : Nat → Nat → Bool) (a b : List UInt8) : Bool :=
  match a.getLast?, b.head? with
  | some x, some y => cut x.toNat y.toNat
  | _, _ => false

theorem toList_data (s : ByteArray) : s.toList = s.data.toList := by
  rw [ByteArray.toList_eq]
theorem between_none (p : Option Addr) (s u : ByteArray) (w : World) (h : s.data.toList = [] ∨ u.data.toList = []) :
    Calls Tryz.prog 99 #[.pointer p, .string s, .string u] w fun e w' => e = .returned (.bool false) ∧ ∃ m, w' = w.drewN m := by
  by_cases hs : s.data.toList = []
  · have h1 : s.toList = [] := by rw [toList_data]; exact hs
    clear h hs
    go_enter Tryz.func99, Tryz.ntmps99
    go_wp2_with fail
    go_quiet (fail)
    go_wp2_with fail
    go_ret
    exact ⟨by simp, _, rfl⟩
  · have h1 : s.toList.isEmpty = false := by rw [toList_data]; simpa using hs
    have h1' : (!s.toList.isEmpty) = true := by rw [h1]; rfl
    have h2 : u.toList = [] := by rw [toList_data]; exact h.resolve_left hs
    clear h hs
    go_enter Tryz.func99, Tryz.ntmps99
    go_wp2_with fail
    go_quiet (fail)
    go_wp2_with fail
    go_ret
    exact ⟨by simp, _, rfl⟩

theorem between_some (p : Option Addr) (cut : Nat → Nat → Bool) (s u : ByteArray) (k : Nat) (x y : UInt8) (w : World) (hp : TP w p cut) (hs : s.size = k + 1) (hu : 0 < u.size) (hsz : s.size ≤ 1000000000) (hk : k < s.size) (hx : s[k]'hk = x) (hy : u[0] = y) :
    Calls Tryz.prog 99 #[.pointer p, .string s, .string u] w fun e w' => e = .returned (.bool (cut x.toNat y.toNat)) ∧ ∃ m, w' = w.drewN m := by
  have h1 : s.toList.isEmpty = false := by rw [toList_data, ← Bool.not_eq_true, List.isEmpty_iff]; intro h; have := data_len s; rw [h] at this; simp at this; omega
  have h1' : (!s.toList.isEmpty) = true := by rw [h1]; rfl
  have h2 : u.toList.isEmpty = false := by rw [toList_data, ← Bool.not_eq_true, List.isEmpty_iff]; intro h; have := data_len u; rw [h] at this; simp at this; omega
  have h2' : (!u.toList.isEmpty) = true := by rw [h2]; rfl
  have HX := Lib.hid hx
  have HY := Lib.hid hy
  have f0 : (0 : Int) < (u.size : Int) := by omega
  have f2 : (k : Int) < (s.size : Int) := by omega
  have f3 : 0 ≤ (k : Int) := by omega
  have q1 : IntKind.i64.wrap ((s.size : Int) - 1) = k := by rw [IntWalk.i64_in _ (by omega)]; omega
  have HC := Lib.hid (fun n => cuts_any p cut (x.toNat : Int) (y.toNat : Int) (w.drewN n) (by omega) (by have := x.toNat_lt; omega) (by omega) (by have := y.toNat_lt; omega) (hp.drewN n))
  clear hx hy hp hs
  go_enter Tryz.func99, Tryz.ntmps99
  go_wp2_with fail
  go_quiet (first | (go_at_call 137; simp only [HX.out, HY.out]; exact Calls.quiet_of (HC.out _)))
  go_wp2_with fail
  go_ret
  exact ⟨by simp, _, rfl⟩

theorem between_any (p : Option Addr) (cut : Nat → Nat → Bool) (s u : ByteArray) (w : World) (hp : TP w p cut) (hs : s.size ≤ 1000000000) :
    Calls Tryz.prog 99 #[.pointer p, .string s, .string u] w fun e w' => e = .returned (.bool (betB cut s.data.toList u.data.toList)) ∧ ∃ m, w' = w.drewN m := by
  by_cases h : s.data.toList = [] ∨ u.data.toList = []
  · have e : betB cut s.data.toList u.data.toList = false := by
      rcases h with h | h
      · simp [betB, h]
      · simp only [betB, h, List.head?_nil]; split <;> first | rfl | contradiction
    rw [e]
    exact between_none p s u w h
  · have h1 : 0 < s.size := by
      rcases Nat.eq_zero_or_pos s.size with e | e
      · exact absurd (.inl (List.eq_nil_of_length_eq_zero (by rw [data_len]; exact e))) h
      · exact e
    have h2 : 0 < u.size := by
      rcases Nat.eq_zero_or_pos u.size with e | e
      · exact absurd (.inr (List.eq_nil_of_length_eq_zero (by rw [data_len]; exact e))) h
      · exact e
    have e : betB cut s.data.toList u.data.toList = cut (s[s.size - 1]'(by omega)).toNat u[0].toNat := by
      unfold betB
      rw [List.getLast?_eq_getElem?, List.head?_eq_getElem?, data_len, List.getElem?_eq_getElem (by rw [data_len]; omega), List.getElem?_eq_getElem (by rw [data_len]; omega)]
      rfl
    rw [e]
    exact between_some p cut s u (s.size - 1) _ _ w hp (by omega) h2 hs (by omega) rfl rfl
end Go.Proofs.YtbppaiejpgdbiaaGreat

/- Layer 10 (vocab): which ordinary tokens are alone: the plain part. -/
namespace Go.Proofs.YtbppaiejpgdbiaaGreat
open Go.RowKit Go.Maps Go.WideMaps
set_option maxRecDepth 100000
set_option linter.unusedVariables false
set_option linter.unusedSimpArgs false
/-- a token is what is made of its bytes, and lies in one piece -/
def aloneB (T : List Ent) (C : Nat → Int) (J : Nat → Nat → Bool) (id : Int) : Bool := decide (encT T T.length (bytesT T id) = [id]) && decide ((pcs (cutB C J) (bytesT T id)).length ≤ 1)
/-- the row that find fills: k done -/
def aloneL (T : List Ent) (C : Nat → Int) (J : Nat → Nat → Bool) (k : Nat) : List Bool := (List.range T.length).map (fun (i : Nat) => decide (i < k) && aloneB T C J (i : Int))
theorem aloneL_len (T : List Ent) (C : Nat → Int) (J : Nat → Nat → Bool) (k : Nat) : (aloneL T C J k).length = T.length := by simp [aloneL]
theorem aloneL_zero (T : List Ent) (C : Nat → Int) (J : Nat → Nat → Bool) : aloneL T C J 0 = List.replicate T.length false := by
  apply List.ext_getElem
  · simp [aloneL]
  · intro i h1 h2
    simp [aloneL]
theorem aloneL_succ (T : List Ent) (C : Nat → Int) (J : Nat → Nat → Bool) (k : Nat) : aloneL T C J (k + 1) = (aloneL T C J k).set k (aloneB T C J (k : Int)) := by
  apply List.ext_getElem
  · simp [aloneL]
  · intro i h1 h2
    rw [List.getElem_set]
    by_cases h : k = i
    · subst h; simp [aloneL]
    · rw [if_neg h]
      have : (i < k + 1) ↔ (i < k) := by omega
      simp [aloneL, this]
end Go.Proofs.YtbppaiejpgdbiaaGreat

/- Layer 10 (vocab): rows of bools that were just made. -/
namespace Go.Proofs.YtbppaiejpgdbiaaGreat
open Go.RowKit Go.Maps Go.WideMaps
set_option maxRecDepth 100000
set_option linter.unusedVariables false
set_option linter.unusedSimpArgs false
theorem info_bool : (Tryz.prog.info? 4).map (fun i => (i.zero, i.size, i.bytes)) = some (some (.bool false), 1, 1) := by kernel_rfl
theorem made_false (n : Nat) : (madeCells (Value.bool false).cells (n * 1)).toList = (List.replicate n false).map Value.bool := by
  apply List.ext_getElem
  · simp [madeCells]
  · intro i h1 h2
    simp [madeCells, Value.cells, Nat.mod_one]
/-- a slice that was just made -/
theorem make_bools (n : Nat) (w : World) (hn : n ≤ 100000) : ∃ w', (Instr.makeSlice 154 (.int .i64 (n : Int)) (.int .i64 (n : Int))).run Tryz.prog w = .ok (.slice (some ⟨w.heap.size, 0, none⟩) n n) w' ∧
    w'.ownsRow w.heap.size 4 1 (.slice (some ⟨w.heap.size, 0, none⟩) n n) n ((List.replicate n false).map Value.bool) ∧ Below w.heap.size w w' := by
  obtain ⟨i, hi, hz0, hz1, hz2⟩ := info_parts info_bool
  obtain ⟨w', h1, h2, h3⟩ := run_makeSlice_full (P := Tryz.prog) w w.heap.size 154 4 i (.bool false) 1 Tryz.underlying154 hi hz0 hz1 .i64 .i64 n (by omega) (by rw [hz2]; omega) (by unfold maxLen; omega) (Nat.le_refl _)
  rw [made_false] at h2
  exact ⟨w', h1, h2, (Keep.of_grown (F := fun _ => False) h3 (fun k hk => by cases hk)).below (Nat.le_refl _) (fun x hx => hx.elim)⟩
end Go.Proofs.YtbppaiejpgdbiaaGreat

/- Layer 14 (spine): the walk along two spines: the plain law. -/
namespace Go.Proofs.YtbppaiejpgdbiaaGreat
set_option linter.unusedVariables false
set_option linter.unusedSimpArgs false

/-- one taken apart: the two, and the limit -/
def nxtW (T : List Ent) (a b : Int) : Int × Int × Int := if b < 256 ∨ a > b then ((parT T a).2, b, a) else (a, (parT T b).1, b + 1)
/-- may two stand side by side; how many are taken apart -/
def walkT (T : List Ent) : Nat → Int → Int → Int → Bool × Nat
  | 0, _, _, _ => (true, 0)
  | f + 1, a, b, lim =>
    if (pairB T lim a b).isSome then (false, 0)
    else if a < 256 ∧ b < 256 then (true, 0)
    else ((walkT T f (nxtW T a b).1 (nxtW T a b).2.1 (nxtW T a b).2.2).1, (walkT T f (nxtW T a b).1 (nxtW T a b).2.1 (nxtW T a b).2.2).2 + 1)
theorem born_iff {T : List Ent} (hT : OkT T) {a : Int} (h : hasT T a = true) : bornT T a = decide (256 ≤ a) := by
  obtain ⟨k, rfl, hk, _⟩ := hasT_at h
  by_cases h2 : 256 ≤ k
  · rw [(made_all hT h2 hk).1]
    symm
    simp; omega
  · have : bornT T (k : Int) = false := by
      unfold bornT
      rw [base_ent hT (by omega)]
      simp
    rw [this]
    symm
    simp; omega
/-- a token's parents are there, and smaller -/
theorem par_has {T : List Ent} (hT : OkT T) {a : Int} (h : hasT T a = true) (h2 : 256 ≤ a) : hasT T (parT T a).1 = true ∧ hasT T (parT T a).2 = true ∧ (parT T a).1 < a ∧ (parT T a).2 < a := by
  obtain ⟨k, rfl, hk, _⟩ := hasT_at h
  obtain ⟨_, q1, q2, _, _, _, _, _, q3, q4⟩ := made_all hT (i := k) (by omega) hk
  exact ⟨q1, q2, q3, q4⟩
theorem hasT_iff {T : List Ent} {a : Int} : hasT T a = true ↔ 0 ≤ a ∧ a < T.length := by simp [hasT]
theorem nxt_has {T : List Ent} (hT : OkT T) {a b : Int} (ha : hasT T a = true) (hb : hasT T b = true) (hn : ¬ (a < 256 ∧ b < 256)) :
    hasT T (nxtW T a b).1 = true ∧ hasT T (nxtW T a b).2.1 = true ∧ (nxtW T a b).1.toNat + (nxtW T a b).2.1.toNat < a.toNat + b.toNat := by
  unfold nxtW
  by_cases h : b < 256 ∨ a > b
  · rw [if_pos h]
    have h2 : 256 ≤ a := by omega
    obtain ⟨q1, q2, q3, q4⟩ := par_has hT ha h2
    have := hasT_iff.1 q2
    exact ⟨q2, hb, by simp only; omega⟩
  · rw [if_neg h]
    have h2 : 256 ≤ b := by omega
    obtain ⟨q1, q2, q3, q4⟩ := par_has hT hb h2
    have := hasT_iff.1 q1
    exact ⟨ha, q1, by simp only; omega⟩
/-- enough is enough -/
theorem walk_more {T : List Ent} (hT : OkT T) : ∀ (f g : Nat) (a b lim : Int), hasT T a = true → hasT T b = true → a.toNat + b.toNat < f → f ≤ g → walkT T g a b lim = walkT T f a b lim
  | 0, _, _, _, _, _, _, h, _ => by omega
  | f + 1, 0, _, _, _, _, _, _, h => by omega
  | f + 1, g + 1, a, b, lim, ha, hb, hf, hg => by
    rw [walkT, walkT]
    split
    · rfl
    · split
      · rfl
      · rename_i hn
        obtain ⟨q1, q2, q3⟩ := nxt_has hT ha hb hn
        rw [walk_more hT f g _ _ _ q1 q2 (by omega) (by omega)]
/-- the walk -/
def wlkT (T : List Ent) (a b lim : Int) : Bool × Nat := walkT T (a.toNat + b.toNat + 1) a b lim
theorem wlk_blocked {T : List Ent} {a b lim : Int} (h : (pairB T lim a b).isSome = true) : wlkT T a b lim = (false, 0) := by
  unfold wlkT; rw [walkT, if_pos h]
theorem wlk_bytes {T : List Ent} {a b lim : Int} (h : (pairB T lim a b).isSome = false) (hb : a < 256 ∧ b < 256) : wlkT T a b lim = (true, 0) := by
  unfold wlkT; rw [walkT, if_neg (by rw [h]; decide), if_pos hb]
theorem wlk_next {T : List Ent} (hT : OkT T) {a b lim : Int} (ha : hasT T a = true) (hb : hasT T b = true) (h : (pairB T lim a b).isSome = false) (hn : ¬ (a < 256 ∧ b < 256)) :
    wlkT T a b lim = ((wlkT T (nxtW T a b).1 (nxtW T a b).2.1 (nxtW T a b).2.2).1, (wlkT T (nxtW T a b).1 (nxtW T a b).2.1 (nxtW T a b).2.2).2 + 1) := by
  obtain ⟨q1, q2, q3⟩ := nxt_has hT ha hb hn
  unfold wlkT
  rw [walkT, if_neg (by rw [h]; decide), if_neg hn, walk_more hT _ _ _ _ _ q1 q2 (Nat.lt_succ_self _) (by omega)]
end Go.Proofs.YtbppaiejpgdbiaaGreat

/- Layer 10 (vocab): a vocabulary in memory, its parts under one name; what keeps it. -/
namespace Go.Proofs.YtbppaiejpgdbiaaGreat
open Go.RowKit Go.Maps Go.WideMaps
set_option maxRecDepth 100000
set_option linter.unusedVariables false
set_option linter.unusedSimpArgs false
/-- where the parts of a vocabulary lie -/
structure VocP where
  (vb : Nat) (s : SpecP) (T : List Ent) (A1 A2 A3 A4 A5 : Option Addr) (c1 c2 c3 c4 c5 tbase tb bk kbase km : Nat) (sv : Value) (mb mp : Nat) (sv2 : Value) (mi mt : Nat)
def VocQ (w : World) (base : Nat) (p : VocP) (l : Value) (dn st se us : Int) : Prop :=
  VocIs w base p.vb p.s p.T p.A1 p.A2 p.A3 p.A4 p.A5 p.c1 p.c2 p.c3 p.c4 p.c5 p.tbase p.tb p.bk p.kbase p.km p.sv p.mb p.mp p.sv2 p.mi p.mt l dn st se us
section
variable {w w' : World} {base B : Nat} {p : VocP} {l : Value} {dn st se us : Int}
theorem VocQ.keep {F : Nat → Prop} (h : VocQ w base p l dn st se us) (k : Keep F w w') (hF : ∀ x, x ≤ p.vb → ¬ F x) : VocQ w' base p l dn st se us := by
  obtain ⟨V0, h1, h2, h3, h4, h5, h6⟩ := h.org
  exact ⟨k.blk h.blk (hF _ (Nat.le_refl _)), ⟨V0, h1, h2, h3, h4, h5, h6.trans (k.below h6.size (fun x hx => by
    apply Classical.byContradiction
    intro hn
    exact hF x (by omega) hx))⟩, h.lt⟩
theorem VocQ.lt_size (h : VocQ w base p l dn st se us) : p.vb < w.heap.size := blk_lt h.blk
theorem VocQ.below (h : VocQ w base p l dn st se us) (hb : Below B w w') (hB : w.heap.size ≤ B) : VocQ w' base p l dn st se us :=
  h.keep (F := fun x => B ≤ x) ⟨hb.os, hb.tape, hb.output, hb.size, fun x hx hf => hb.block x (by omega)⟩ (fun x hx hf => by have := h.lt_size; omega)
theorem VocQ.drew (h : VocQ w base p l dn st se us) : VocQ w.drew base p l dn st se us := h.below (B := w.heap.size) ⟨rfl, rfl, rfl, Nat.le_refl _, fun _ _ => rfl⟩ (Nat.le_refl _)
theorem VocQ.putL (h : VocQ w base p l dn st se us) (l' : Value) : VocQ (w.setCell ⟨p.vb, 12, none⟩ l') base p l' dn st se us := by
  obtain ⟨V0, h1, h2, h3, h4, h5, h6⟩ := h.org
  exact ⟨blk_set h.blk 12 l', ⟨V0, h1, h2, h3, h4, h5, h6.setCell h1 _⟩, h.lt⟩
theorem VocQ.putU (h : VocQ w base p l dn st se us) (u : Int) : VocQ (w.setCell ⟨p.vb, 13, none⟩ (.int .i64 u)) base p l dn st se u := by
  obtain ⟨V0, h1, h2, h3, h4, h5, h6⟩ := h.org
  exact ⟨blk_set h.blk 13 _, ⟨V0, h1, h2, h3, h4, h5, h6.setCell h1 _⟩, h.lt⟩
theorem VocQ.putD (h : VocQ w base p l dn st se us) (u : Int) : VocQ (w.setCell ⟨p.vb, 9, none⟩ (.int .u32 u)) base p l u st se us := by
  obtain ⟨V0, h1, h2, h3, h4, h5, h6⟩ := h.org
  exact ⟨blk_set h.blk 9 _, ⟨V0, h1, h2, h3, h4, h5, h6.setCell h1 _⟩, h.lt⟩
theorem VocQ.putS (h : VocQ w base p l dn st se us) (u : Int) : VocQ (w.setCell ⟨p.vb, 10, none⟩ (.int .i32 u)) base p l dn u se us := by
  obtain ⟨V0, h1, h2, h3, h4, h5, h6⟩ := h.org
  exact ⟨blk_set h.blk 10 _, ⟨V0, h1, h2, h3, h4, h5, h6.setCell h1 _⟩, h.lt⟩
theorem VocQ.cellL (h : VocQ w base p l dn st se us) : w.cell? ⟨p.vb, 12, none⟩ = some l := by have := blk_cell h.blk 12; simpa using this
theorem VocQ.cellD (h : VocQ w base p l dn st se us) : w.cell? ⟨p.vb, 9, none⟩ = some (.int .u32 dn) := by have := blk_cell h.blk 9; simpa using this
theorem VocQ.cellS (h : VocQ w base p l dn st se us) : w.cell? ⟨p.vb, 10, none⟩ = some (.int .i32 st) := by have := blk_cell h.blk 10; simpa using this
theorem VocQ.cellU (h : VocQ w base p l dn st se us) : w.cell? ⟨p.vb, 13, none⟩ = some (.int .i64 us) := by have := blk_cell h.blk 13; simpa using this
theorem VocQ.cellT (h : VocQ w base p l dn st se us) : w.cell? ⟨p.vb, 6, none⟩ = some (.pointer (some ⟨p.tb, 0, none⟩)) := by have := blk_cell h.blk 6; simpa using this
theorem VocQ.cellB (h : VocQ w base p l dn st se us) : w.cell? ⟨p.vb, 7, none⟩ = some (.pointer (some ⟨p.bk, 0, none⟩)) := by have := blk_cell h.blk 7; simpa using this
theorem VocQ.cellM (h : VocQ w base p l dn st se us) : w.cell? ⟨p.vb, 8, none⟩ = some (.pointer (some ⟨p.km, 0, none⟩)) := by have := blk_cell h.blk 8; simpa using this
theorem VocQ.froz (h : VocQ w base p l dn st se us) (i : Nat) : w.frozen? ⟨p.vb, i, none⟩ = false := blk_froz h.blk i
theorem VocQ.tab (h : VocQ w base p l dn st se us) : TabIs w p.tbase p.tb p.T p.sv p.mb p.mp := VocIs.tab h
theorem VocQ.bnd (h : VocQ w base p l dn st se us) : BTab w p.bk (Cof p.s.cs) (Jof p.s.js) := VocIs.bnd h
theorem VocQ.mrk (h : VocQ w base p l dn st se us) : MarkIs w p.kbase p.km p.s.xs p.sv2 p.mi p.mt := VocIs.mrk h
end
/-- where bytes are cut by a vocabulary -/
def VocP.cut (p : VocP) : Nat → Nat → Bool := cutB (Cof p.s.cs) (Jof p.s.js)
/-- the ordinary tokens that are alone -/
def VocP.al (p : VocP) (k : Nat) : List Bool := aloneL p.T (Cof p.s.cs) (Jof p.s.js) k
/-- a vocabulary; what find found, if it was asked: the row's block -/
def VocAt (w : World) (base : Nat) (p : VocP) (g : Option Nat) : Prop :=
  ∃ l dn st se us, VocQ w base p l dn st se us ∧ ((g = none ∧ l = .slice none 0 0 ∧ dn = 0 ∧ st = 0) ∨
    ∃ r, g = some r ∧ p.vb < r ∧ l = .slice (some ⟨r, 0, none⟩) p.T.length p.T.length ∧ dn = 1 ∧ w.ownsRow r 4 1 (.slice (some ⟨r, 0, none⟩) p.T.length p.T.length) p.T.length ((p.al p.T.length).map Value.bool))
section
variable {w w' : World} {base B : Nat} {p : VocP} {g : Option Nat}
theorem VocAt.keep {F : Nat → Prop} (h : VocAt w base p g) (k : Keep F w w') (hF : ∀ x, x ≤ p.vb ∨ g = some x → ¬ F x) : VocAt w' base p g := by
  obtain ⟨l, dn, st, se, us, h1, h2⟩ := h
  refine ⟨l, dn, st, se, us, h1.keep k (fun x hx => hF x (.inl hx)), ?_⟩
  rcases h2 with h2 | ⟨r, h3, h4, h5, h6, h7⟩
  · exact .inl h2
  · refine .inr ⟨r, h3, h4, h5, h6, own_keep h7 k (fun x hx => ?_)⟩
    simp only [Value.ownBlock, Option.some.injEq] at hx
    subst hx
    exact hF _ (.inr h3)
theorem VocAt.lt_size (h : VocAt w base p g) : p.vb < w.heap.size := by
  obtain ⟨l, dn, st, se, us, h1, h2⟩ := h
  exact h1.lt_size
theorem VocAt.below (h : VocAt w base p g) (hb : Below B w w') (hB : w.heap.size ≤ B) : VocAt w' base p g := by
  obtain ⟨l, dn, st, se, us, h1, h2⟩ := h
  refine ⟨l, dn, st, se, us, h1.below hb hB, ?_⟩
  rcases h2 with h2 | ⟨r, h3, h4, h5, h6, h7⟩
  · exact .inl h2
  · exact .inr ⟨r, h3, h4, h5, h6, own_below h7 hb hB⟩
end
end Go.Proofs.YtbppaiejpgdbiaaGreat

/- Layer 10 (vocab): find. -/
namespace Go.Proofs.YtbppaiejpgdbiaaGreat
open Go.RowKit Go.Maps Go.WideMaps
set_option maxRecDepth 100000
set_option linter.unusedVariables false
set_option linter.unusedSimpArgs false
/-- find under way -/
structure FindIs (w W : World) (base : Nat) (p : VocP) (r : Nat) (dn st se us : Int) (k : Nat) : Prop where
  voc : VocQ W base p (.slice (some ⟨r, 0, none⟩) p.T.length p.T.length) dn st se us
  row : W.ownsRow r 4 1 (.slice (some ⟨r, 0, none⟩) p.T.length p.T.length) p.T.length ((p.al k).map Value.bool)
  keep : Keep (fun x => x = p.vb) w W
  lt : w.heap.size ≤ r
  vlt : p.vb < w.heap.size
section
variable {w W W' : World} {base r k : Nat} {p : VocP} {dn st se us : Int} {l : Value}
theorem FindIs.below (h : FindIs w W base p r dn st se us k) (hb : Below W.heap.size W W') : FindIs w W' base p r dn st se us k :=
  ⟨h.voc.below hb (Nat.le_refl _), own_below h.row hb (Nat.le_refl _), h.keep.trans (G := fun _ => False) ⟨hb.os, hb.tape, hb.output, hb.size, fun x hx _ => hb.block x hx⟩ (fun x hx => hx.elim), h.lt, h.vlt⟩
theorem FindIs.put (h : FindIs w W base p r dn st se us k) (x : Bool) (hx : aloneB p.T (Cof p.s.cs) (Jof p.s.js) (k : Int) = x) : FindIs w (W.setCell ⟨r, k, none⟩ (.bool x)) base p r dn st se us (k + 1) := by
  have hne : ¬ r ≤ p.vb := by have := h.lt; have := h.vlt; omega
  have hkp : Keep (fun x => x = r) W (W.setCell ⟨r, k, none⟩ (.bool x)) := (Keep.refl (fun x => x = r) W).setCell (p := ⟨r, k, none⟩) (.inl rfl) _
  refine ⟨h.voc.keep hkp (fun y hy e => hne (e ▸ hy)), ?_, h.keep.trans hkp (fun y hy => .inr (by rw [hy]; exact h.lt)), h.lt, h.vlt⟩
  have := own_set h.row k (.bool x)
  unfold VocP.al at this ⊢
  rw [aloneL_succ, hx, List.map_set]
  exact this
theorem FindIs.drew (h : FindIs w W base p r dn st se us k) : FindIs w W.drew base p r dn st se us k := h.below ⟨rfl, rfl, rfl, Nat.le_refl _, fun _ _ => rfl⟩
theorem FindIs.cellAt (h : FindIs w W base p r dn st se us k) (j : Nat) (hj : j < p.T.length) : (∃ u, W.cell? ⟨r, j, none⟩ = some (.bool u)) ∧ W.frozen? ⟨r, j, none⟩ = false := by
  obtain ⟨g, cap, e, _, _, hc⟩ := own_open h.row (by omega)
  injection e with e _ _
  injection e with e
  injection e with e _
  subst e
  have hl : j < (p.al k).length := by unfold VocP.al; rw [aloneL_len]; exact hj
  obtain ⟨h1, h2⟩ := hc j (.bool (p.al k)[j]) (by simp [hl])
  exact ⟨⟨_, h1⟩, h2⟩
set_option maxHeartbeats 1000000 in
theorem find_any (h : VocQ w base p l dn st se us) (hT : OkT p.T) :
    Calls Tryz.prog 95 #[.pointer (some ⟨p.vb, 0, none⟩)] w fun e w' => e = .returned (.tuple #[]) ∧ ∃ r, FindIs w w' base p r dn st se us p.T.length := by
  have HZ := Lib.hid (vsize_any h)
  have hsm := hT.small
  have c12 := h.cellL
  obtain ⟨W1, hmk, hrow, hbl⟩ := make_bools p.T.length w (by omega)
  have d12 := below_cell hbl (Nat.le_refl _) c12
  have z12 := (h.below hbl (Nat.le_refl _)).froz 12
  rw [← aloneL_zero p.T (Cof p.s.cs) (Jof p.s.js)] at hrow
  have HF : Hid (FindIs w (W1.setCell ⟨p.vb, 12, none⟩ (.slice (some ⟨w.heap.size, 0, none⟩) p.T.length p.T.length)) base p w.heap.size dn st se us 0) := Lib.hid (by
    have hv := h.below hbl (Nat.le_refl _)
    refine ⟨hv.putL _, ?_, ?_, Nat.le_refl _, h.lt_size⟩
    · exact own_keep hrow ((Keep.refl (fun x => x = p.vb) W1).setCell (.inl rfl) _) (fun x hx => by
        simp only [Value.ownBlock, Option.some.injEq] at hx
        have := h.lt_size; omega)
    · exact (Keep.of_below hbl : Keep (fun x => x = p.vb) w W1).setCell (.inl rfl) _)
  have HT := Lib.hid hT
  have HSM := Lib.hid hsm
  clear hbl hrow h hT hsm
  go_enter Tryz.func95, Tryz.ntmps95
  go_upto_region 1 with (go_at_call 36; refine HZ.out.mono ?_; rintro e V1 ⟨rfl, rfl⟩)
  generalize V1.heap.size = r at *
  clear hmk c12 d12 z12
  generalize W1.setCell ⟨p.vb, 12, none⟩ (.slice (some ⟨r, 0, none⟩) p.T.length p.T.length) = W2 at *
  have c1 := HF.out.voc.cellL
  go_wp2_with fail
  clear c1
  obtain ⟨N, hN⟩ : ∃ N, p.T.length = N := ⟨_, rfl⟩
  have HN := Lib.hid hN
  rw [hN] at HSM HZ ⊢
  clear hN
  go_loopg [19] N (fun n i W => ∃ k : Nat, k + n = N ∧ i = .int .i64 (k : Int) ∧ FindIs V1 W base p r dn st se us k)
  case atStart => exact ⟨0, by omega, rfl, HF.out⟩
  case round =>
    obtain ⟨k, hk, rfl, hf⟩ := hrel
    clear HF
    rename World => W
    have HF := Lib.hid hf
    clear hf
    by_cases hlt : k < N
    · have hlt' : (k : Int) < (N : Int) := by omega
      have HB := Lib.hid (bytes_tab (k : Int) HF.out.voc.tab)
      have HE := Lib.hid (encode_any HF.out.voc.tab HT.out (bs (bytesT p.T (k : Int))) (by rw [bs_size]; have := bytesT_le HT.out (k : Int); omega))
      have c6 := HF.out.voc.cellT
      unfold strV at HB
      obtain ⟨z, hz⟩ : ∃ z, bs (bytesT p.T (k : Int)) = z := ⟨_, rfl⟩
      have HZS := Lib.hid (show z.data.toList = bytesT p.T (k : Int) by rw [← hz]; rfl)
      rw [hz] at HB HE
      clear hz
      go_upto_region 6 with (first | (go_at_call 97; refine HB.out.mono ?_; rintro e W1 ⟨rfl, rfl⟩) | (go_at_call 135; refine HE.out.mono ?_; rintro e W3 ⟨⟨v, rfl, hi⟩, hb⟩; (have HI := Lib.hid hi); (have HF3 := Lib.hid (HF.out.below hb)); clear hi hb))
      obtain ⟨E, hE⟩ : ∃ E, encT p.T p.T.length z.data.toList = E := ⟨_, rfl⟩
      have HEE := Lib.hid hE
      rw [hE] at HI
      clear hE HB HE
      have d12 := HF3.out.voc.cellL
      have d7 := HF3.out.voc.cellB
      rw [HN.out] at d12
      have q0 : (0 : Int) ≤ (k : Int) := by omega
      obtain ⟨A, c, rfl, hrow⟩ := HI.out
      have HROW := Lib.hid hrow
      clear hrow HI
      by_cases hE1 : E.length = 1
      · obtain ⟨e0, rfl⟩ := List.length_eq_one_iff.1 hE1
        obtain ⟨b, o, hA, hc⟩ := (own_sl1 HROW.out).at 0 (by simp)
        subst hA
        simp only [List.getElem_cons_zero, Nat.add_zero] at hc
        simp only [List.length_singleton, Int.cast_ofNat_Int] at *
        clear hE1
        by_cases he : e0 = (k : Int)
        · subst he
          obtain ⟨x, hx⟩ : ∃ x, decide ((pcs p.cut z.data.toList).length ≤ 1) = x := ⟨_, rfl⟩
          have HXW := Lib.hid hx
          have HX : Hid (aloneB p.T (Cof p.s.cs) (Jof p.s.js) (k : Int) = x) := Lib.hid (by
            unfold aloneB
            rw [← HZS.out, HEE.out, ← hx]
            simp [VocP.cut]
            rfl)
          clear hx
          have HC4 : Hid (W3.drew.cell? ⟨b, o, none⟩ = some (.int .i64 (k : Int))) := Lib.hid hc
          refine wp_region_G (D := 26) (S := fun V => V.cell? ⟨p.vb, 12, none⟩ = some (.slice (some ⟨r, 0, none⟩) N N) ∧ V.cell? ⟨p.vb, 7, none⟩ = some (.pointer (some ⟨p.bk, 0, none⟩)) ∧ V.cell? ⟨b, o, none⟩ = some (.int .i64 (k : Int))) (by kernel_rfl) (by exact And.intro d12 (And.intro d7 hc)) (fun hHeld => ?_)
          (replace HF3 := Lib.hid (HF3.out.drew)); (replace HX := HX); generalize W3.drew = W4 at *
          refine wpAnyG_takeD (i := 0) (oi := { dst := some 39, op := Op.move (Operand.tmp 0), type := 30, pos := "vocab.go:195", after := #[], guard := none }) (d := 39) (v := ?_) rfl rfl (by kernel_rfl) (by kernel_rfl) (by kernel_rfl) (by kernel_rfl) (fun _ _ _ h => h) (Or.inl ⟨by rfl, ?_⟩) hHeld ?_
          rotate_left
          · (intro w' hSw; (try dsimp only at hSw); go_simp; (try with_reducible rfl))
          simp only [List.setIfInBounds_toArray, List.set_cons_zero, List.set_cons_succ]
          refine wpAnyG_takeD (i := 1) (oi := { dst := some 40, op := Op.nilCheck (Operand.tmp 39), type := 0, pos := "vocab.go:195", after := #[{ on := 0, ground := Ground.data }], guard := none }) (d := 40) (v := ?_) rfl rfl (by kernel_rfl) (by kernel_rfl) (by kernel_rfl) (by kernel_rfl) (fun _ _ _ h => h) (Or.inl ⟨by rfl, ?_⟩) hHeld ?_
          rotate_left
          · (intro w' hSw; (try dsimp only at hSw); go_simp; (try with_reducible rfl))
          simp only [List.setIfInBounds_toArray, List.set_cons_zero, List.set_cons_succ]
          refine wpAnyG_takeD (i := 2) (oi := { dst := some 41, op := Op.fieldAddr 161 (Operand.tmp 40) 1, type := 0, pos := "vocab.go:195", after := #[{ on := 1, ground := Ground.data }], guard := none }) (d := 41) (v := ?_) rfl rfl (by kernel_rfl) (by kernel_rfl) (by kernel_rfl) (by kernel_rfl) (fun _ _ _ h => h) (Or.inl ⟨by rfl, ?_⟩) hHeld ?_
          rotate_left
          · (intro w' hSw; (try dsimp only at hSw); go_simp; (try with_reducible rfl))
          simp only [List.setIfInBounds_toArray, List.set_cons_zero, List.set_cons_succ]
          refine wpAnyG_takeD (i := 3) (oi := { dst := some 42, op := Op.fieldAddr 156 (Operand.tmp 41) 1, type := 0, pos := "vocab.go:195", after := #[{ on := 2, ground := Ground.data }], guard := none }) (d := 42) (v := ?_) rfl rfl (by kernel_rfl) (by kernel_rfl) (by kernel_rfl) (by kernel_rfl) (fun _ _ _ h => h) (Or.inl ⟨by rfl, ?_⟩) hHeld ?_
          rotate_left
          · (intro w' hSw; (try dsimp only at hSw); go_simp; (try with_reducible rfl))
          simp only [List.setIfInBounds_toArray, List.set_cons_zero, List.set_cons_succ]
          refine wpAnyG_takeD (i := 4) (oi := { dst := some 43, op := Op.load 154 (Operand.tmp 42), type := 154, pos := "vocab.go:195", after := #[{ on := 3, ground := Ground.data }], guard := none }) (d := 43) (v := ?_) rfl rfl (by kernel_rfl) (by kernel_rfl) (by kernel_rfl) (by kernel_rfl) (fun _ _ _ h => h) (Or.inl ⟨by rfl, ?_⟩) hHeld ?_
          rotate_left
          · (intro w' hSw; (try dsimp only at hSw); go_simp; (try with_reducible rfl))
          simp only [List.setIfInBounds_toArray, List.set_cons_zero, List.set_cons_succ]
          refine wpAnyG_takeD (i := 5) (oi := { dst := some 44, op := Op.move (Operand.tmp 2), type := 3, pos := "vocab.go:195", after := #[], guard := none }) (d := 44) (v := ?_) rfl rfl (by kernel_rfl) (by kernel_rfl) (by kernel_rfl) (by kernel_rfl) (fun _ _ _ h => h) (Or.inl ⟨by rfl, ?_⟩) hHeld ?_
          rotate_left
          · (intro w' hSw; (try dsimp only at hSw); go_simp; (try with_reducible rfl))
          simp only [List.setIfInBounds_toArray, List.set_cons_zero, List.set_cons_succ]
          refine wpAnyG_takeD (i := 6) (oi := { dst := some 45, op := Op.move (Operand.tmp 5), type := 57, pos := "vocab.go:195", after := #[], guard := none }) (d := 45) (v := ?_) rfl rfl (by kernel_rfl) (by kernel_rfl) (by kernel_rfl) (by kernel_rfl) (fun _ _ _ h => h) (Or.inl ⟨by rfl, ?_⟩) hHeld ?_
          rotate_left
          · (intro w' hSw; (try dsimp only at hSw); go_simp; (try with_reducible rfl))
          simp only [List.setIfInBounds_toArray, List.set_cons_zero, List.set_cons_succ]
          refine wpAnyG_takeD (i := 7) (oi := { dst := some 46, op := Op.call { callee := Callee.builtin Builtin.len, args := #[Operand.tmp 45], argTypes := #[57] }, type := 3, pos := "vocab.go:195", after := #[{ on := 6, ground := Ground.data }], guard := none }) (d := 46) (v := ?_) rfl rfl (by kernel_rfl) (by kernel_rfl) (by kernel_rfl) (by kernel_rfl) (fun _ _ _ h => h) (Or.inl ⟨by rfl, ?_⟩) hHeld ?_
          rotate_left
          · (intro w' hSw; (try dsimp only at hSw); go_simp; (try with_reducible rfl))
          simp only [List.setIfInBounds_toArray, List.set_cons_zero, List.set_cons_succ]
          refine wpAnyG_takeD (i := 8) (oi := { dst := some 47, op := Op.binOp BinOp.eql 3 (Operand.tmp 46) (Operand.const (Value.int IntKind.i64 1)) 3, type := 4, pos := "vocab.go:195", after := #[{ on := 7, ground := Ground.data }], guard := none }) (d := 47) (v := ?_) rfl rfl (by kernel_rfl) (by kernel_rfl) (by kernel_rfl) (by kernel_rfl) (fun _ _ _ h => h) (Or.inl ⟨by rfl, ?_⟩) hHeld ?_
          rotate_left
          · (intro w' hSw; (try dsimp only at hSw); go_simp; (try with_reducible rfl))
          simp only [List.setIfInBounds_toArray, List.set_cons_zero, List.set_cons_succ]
          refine wpAnyG_takeD (i := 9) (oi := { dst := some 48, op := Op.move (Operand.tmp 47), type := 4, pos := "vocab.go:195", after := #[{ on := 8, ground := Ground.data }], guard := none }) (d := 48) (v := ?_) rfl rfl (by kernel_rfl) (by kernel_rfl) (by kernel_rfl) (by kernel_rfl) (fun _ _ _ h => h) (Or.inl ⟨by rfl, ?_⟩) hHeld ?_
          rotate_left
          · (intro w' hSw; (try dsimp only at hSw); go_simp; (try with_reducible rfl))
          simp only [List.setIfInBounds_toArray, List.set_cons_zero, List.set_cons_succ]
          refine wpAnyG_takeD (i := 10) (oi := { dst := some 49, op := Op.move (Operand.tmp 5), type := 57, pos := "vocab.go:195", after := #[{ on := 9, ground := Ground.guard }], guard := some (9, true) }) (d := 49) (v := ?_) rfl rfl (by kernel_rfl) (by kernel_rfl) (by kernel_rfl) (by kernel_rfl) (fun _ _ _ h => h) (Or.inl ⟨by rfl, ?_⟩) hHeld ?_
          rotate_left
          · (intro w' hSw; (try dsimp only at hSw); go_simp; (try with_reducible rfl))
          simp only [List.setIfInBounds_toArray, List.set_cons_zero, List.set_cons_succ]
          refine wpAnyG_takeD (i := 11) (oi := { dst := some 50, op := Op.indexAddr 57 (Operand.tmp 49) (Operand.const (Value.int IntKind.i64 0)), type := 0, pos := "vocab.go:195", after := #[{ on := 10, ground := Ground.data }, { on := 9, ground := Ground.guard }], guard := some (9, true) }) (d := 50) (v := ?_) rfl rfl (by kernel_rfl) (by kernel_rfl) (by kernel_rfl) (by kernel_rfl) (fun _ _ _ h => h) (Or.inl ⟨by rfl, ?_⟩) hHeld ?_
          rotate_left
          · (intro w' hSw; (try dsimp only at hSw); go_simp; (try with_reducible rfl))
          simp only [List.setIfInBounds_toArray, List.set_cons_zero, List.set_cons_succ]
          refine wpAnyG_takeD (i := 12) (oi := { dst := some 51, op := Op.load 3 (Operand.tmp 50), type := 3, pos := "vocab.go:195", after := #[{ on := 11, ground := Ground.data }, { on := 9, ground := Ground.guard }], guard := some (9, true) }) (d := 51) (v := ?_) rfl rfl (by kernel_rfl) (by kernel_rfl) (by kernel_rfl) (by kernel_rfl) (fun _ _ _ h => h) (Or.inl ⟨by rfl, ?_⟩) hHeld ?_
          rotate_left
          · (intro w' hSw; (try dsimp only at hSw); go_simp; (try with_reducible rfl))
          simp only [List.setIfInBounds_toArray, List.set_cons_zero, List.set_cons_succ]
          refine wpAnyG_takeD (i := 13) (oi := { dst := some 52, op := Op.move (Operand.tmp 2), type := 3, pos := "vocab.go:195", after := #[{ on := 9, ground := Ground.guard }], guard := some (9, true) }) (d := 52) (v := ?_) rfl rfl (by kernel_rfl) (by kernel_rfl) (by kernel_rfl) (by kernel_rfl) (fun _ _ _ h => h) (Or.inl ⟨by rfl, ?_⟩) hHeld ?_
          rotate_left
          · (intro w' hSw; (try dsimp only at hSw); go_simp; (try with_reducible rfl))
          simp only [List.setIfInBounds_toArray, List.set_cons_zero, List.set_cons_succ]
          refine wpAnyG_takeD (i := 14) (oi := { dst := some 53, op := Op.binOp BinOp.eql 3 (Operand.tmp 51) (Operand.tmp 52) 3, type := 4, pos := "vocab.go:195", after := #[{ on := 12, ground := Ground.data }, { on := 13, ground := Ground.data }, { on := 9, ground := Ground.guard }], guard := some (9, true) }) (d := 53) (v := ?_) rfl rfl (by kernel_rfl) (by kernel_rfl) (by kernel_rfl) (by kernel_rfl) (fun _ _ _ h => h) (Or.inl ⟨by rfl, ?_⟩) hHeld ?_
          rotate_left
          · (intro w' hSw; (try dsimp only at hSw); go_simp; (try with_reducible rfl))
          simp only [List.setIfInBounds_toArray, List.set_cons_zero, List.set_cons_succ]
          refine wpAnyG_takeD (i := 15) (oi := { dst := some 54, op := Op.pick (Operand.tmp 48) (Operand.tmp 53) (Operand.const (Value.bool false)), type := 4, pos := "vocab.go:195", after := #[{ on := 9, ground := Ground.data }, { on := 14, ground := Ground.data }], guard := none }) (d := 54) (v := ?_) rfl rfl (by kernel_rfl) (by kernel_rfl) (by kernel_rfl) (by kernel_rfl) (fun _ _ _ h => h) (Or.inl ⟨by rfl, ?_⟩) hHeld ?_
          rotate_left
          · (intro w' hSw; (try dsimp only at hSw); go_simp; (try with_reducible rfl))
          simp only [List.setIfInBounds_toArray, List.set_cons_zero, List.set_cons_succ]
          refine wpAnyG_takeD (i := 16) (oi := { dst := some 55, op := Op.move (Operand.tmp 54), type := 4, pos := "vocab.go:195", after := #[{ on := 15, ground := Ground.data }, { on := 9, ground := Ground.chain }], guard := none }) (d := 55) (v := ?_) rfl rfl (by kernel_rfl) (by kernel_rfl) (by kernel_rfl) (by kernel_rfl) (fun _ _ _ h => h) (Or.inl ⟨by rfl, ?_⟩) hHeld ?_
          rotate_left
          · (intro w' hSw; (try dsimp only at hSw); go_simp; (try with_reducible rfl))
          simp only [List.setIfInBounds_toArray, List.set_cons_zero, List.set_cons_succ]
          refine wpAnyG_takeD (i := 17) (oi := { dst := some 56, op := Op.move (Operand.tmp 0), type := 30, pos := "vocab.go:195", after := #[{ on := 16, ground := Ground.guard }], guard := some (16, true) }) (d := 56) (v := ?_) rfl rfl (by kernel_rfl) (by kernel_rfl) (by kernel_rfl) (by kernel_rfl) (fun _ _ _ h => h) (Or.inl ⟨by rfl, ?_⟩) hHeld ?_
          rotate_left
          · (intro w' hSw; (try dsimp only at hSw); go_simp; (try with_reducible rfl))
          simp only [List.setIfInBounds_toArray, List.set_cons_zero, List.set_cons_succ]
          refine wpAnyG_takeD (i := 18) (oi := { dst := some 57, op := Op.nilCheck (Operand.tmp 56), type := 0, pos := "vocab.go:195", after := #[{ on := 17, ground := Ground.data }, { on := 16, ground := Ground.guard }], guard := some (16, true) }) (d := 57) (v := ?_) rfl rfl (by kernel_rfl) (by kernel_rfl) (by kernel_rfl) (by kernel_rfl) (fun _ _ _ h => h) (Or.inl ⟨by rfl, ?_⟩) hHeld ?_
          rotate_left
          · (intro w' hSw; (try dsimp only at hSw); go_simp; (try with_reducible rfl))
          simp only [List.setIfInBounds_toArray, List.set_cons_zero, List.set_cons_succ]
          refine wpAnyG_takeD (i := 19) (oi := { dst := some 58, op := Op.fieldAddr 161 (Operand.tmp 57) 0, type := 0, pos := "vocab.go:195", after := #[{ on := 18, ground := Ground.data }, { on := 16, ground := Ground.guard }], guard := some (16, true) }) (d := 58) (v := ?_) rfl rfl (by kernel_rfl) (by kernel_rfl) (by kernel_rfl) (by kernel_rfl) (fun _ _ _ h => h) (Or.inl ⟨by rfl, ?_⟩) hHeld ?_
          rotate_left
          · (intro w' hSw; (try dsimp only at hSw); go_simp; (try with_reducible rfl))
          simp only [List.setIfInBounds_toArray, List.set_cons_zero, List.set_cons_succ]
          refine wpAnyG_takeD (i := 20) (oi := { dst := some 59, op := Op.fieldAddr 141 (Operand.tmp 58) 2, type := 0, pos := "vocab.go:195", after := #[{ on := 19, ground := Ground.data }, { on := 16, ground := Ground.guard }], guard := some (16, true) }) (d := 59) (v := ?_) rfl rfl (by kernel_rfl) (by kernel_rfl) (by kernel_rfl) (by kernel_rfl) (fun _ _ _ h => h) (Or.inl ⟨by rfl, ?_⟩) hHeld ?_
          rotate_left
          · (intro w' hSw; (try dsimp only at hSw); go_simp; (try with_reducible rfl))
          simp only [List.setIfInBounds_toArray, List.set_cons_zero, List.set_cons_succ]
          refine wpAnyG_takeD (i := 21) (oi := { dst := some 60, op := Op.load 139 (Operand.tmp 59), type := 139, pos := "vocab.go:195", after := #[{ on := 20, ground := Ground.data }, { on := 16, ground := Ground.guard }], guard := some (16, true) }) (d := 60) (v := ?_) rfl rfl (by kernel_rfl) (by kernel_rfl) (by kernel_rfl) (by kernel_rfl) (fun _ _ _ h => h) (Or.inl ⟨by rfl, ?_⟩) hHeld ?_
          rotate_left
          · (intro w' hSw; (try dsimp only at hSw); go_simp; (try with_reducible rfl))
          simp only [List.setIfInBounds_toArray, List.set_cons_zero, List.set_cons_succ]
          refine wpAnyG_takeD (i := 22) (oi := { dst := some 61, op := Op.move (Operand.tmp 3), type := 9, pos := "vocab.go:195", after := #[{ on := 16, ground := Ground.guard }], guard := some (16, true) }) (d := 61) (v := ?_) rfl rfl (by kernel_rfl) (by kernel_rfl) (by kernel_rfl) (by kernel_rfl) (fun _ _ _ h => h) (Or.inl ⟨by rfl, ?_⟩) hHeld ?_
          rotate_left
          · (intro w' hSw; (try dsimp only at hSw); go_simp; (try with_reducible rfl))
          simp only [List.setIfInBounds_toArray, List.set_cons_zero, List.set_cons_succ]
          refine wpAnyG_one (i := 23) (o := { dst := some 62, op := Op.call { callee := Callee.value (Operand.func 136), args := #[Operand.tmp 60, Operand.tmp 61], argTypes := #[139, 9] }, type := 4, pos := "vocab.go:195", after := #[{ on := 21, ground := Ground.data }, { on := 22, ground := Ground.data }, { on := 16, ground := Ground.chain }, { on := 16, ground := Ground.guard }], guard := some (16, true) }) (by kernel_rfl) rfl (by rfl) (fun K hK => ?_)
          go_simp; refine (whole_any (some ⟨p.bk, 0, none⟩) p.cut z W4 (.inr ⟨p.bk, Cof p.s.cs, Jof p.s.js, rfl, HF3.out.voc.bnd, rfl⟩) (by rw [← data_len, HZS.out]; have := bytesT_le HT.out (k : Int); omega)).mono ?_; rintro e W5 ⟨rfl, hb⟩; rw [HXW.out]; have HF5 := Lib.hid (HF3.out.below hb); have h := And.intro HF5.out.voc.cellL (And.intro HF5.out.voc.cellB (below_cell hb (Nat.le_refl _) HC4.out)); rw [HN.out] at h; go_simp
          refine hK.out _ _ h (fun hHeld => ?_)
          clear hK K
          try simp only [Act.put, List.setIfInBounds_toArray, List.set_cons_zero, List.set_cons_succ]
          refine wpAnyG_takeD (i := 24) (oi := { dst := some 63, op := Op.pick (Operand.tmp 55) (Operand.tmp 62) (Operand.const (Value.bool false)), type := 4, pos := "vocab.go:195", after := #[{ on := 16, ground := Ground.data }, { on := 23, ground := Ground.data }], guard := none }) (d := 63) (v := ?_) rfl rfl (by kernel_rfl) (by kernel_rfl) (by kernel_rfl) (by kernel_rfl) (fun _ _ _ h => h) (Or.inl ⟨by rfl, ?_⟩) hHeld ?_
          rotate_left
          · (intro w' hSw; (try dsimp only at hSw); go_simp; (try with_reducible rfl))
          simp only [List.setIfInBounds_toArray, List.set_cons_zero, List.set_cons_succ]
          refine wpAnyG_takeD (i := 25) (oi := { dst := some 64, op := Op.indexAddr 154 (Operand.tmp 43) (Operand.tmp 44), type := 0, pos := "vocab.go:195", after := #[{ on := 4, ground := Ground.data }, { on := 5, ground := Ground.data }, { on := 0, ground := Ground.phase }, { on := 1, ground := Ground.phase }, { on := 2, ground := Ground.phase }, { on := 3, ground := Ground.phase }, { on := 4, ground := Ground.phase }, { on := 5, ground := Ground.phase }, { on := 6, ground := Ground.phase }, { on := 7, ground := Ground.phase }, { on := 8, ground := Ground.phase }, { on := 9, ground := Ground.phase }, { on := 10, ground := Ground.phase }, { on := 11, ground := Ground.phase }, { on := 12, ground := Ground.phase }, { on := 13, ground := Ground.phase }, { on := 14, ground := Ground.phase }, { on := 15, ground := Ground.phase }, { on := 16, ground := Ground.phase }, { on := 17, ground := Ground.phase }, { on := 18, ground := Ground.phase }, { on := 19, ground := Ground.phase }, { on := 20, ground := Ground.phase }, { on := 21, ground := Ground.phase }, { on := 22, ground := Ground.phase }, { on := 23, ground := Ground.phase }, { on := 24, ground := Ground.phase }], guard := none }) (d := 64) (v := ?_) rfl rfl (by kernel_rfl) (by kernel_rfl) (by kernel_rfl) (by kernel_rfl) (fun _ _ _ h => h) (Or.inl ⟨by rfl, ?_⟩) hHeld ?_
          rotate_left
          · (intro w' hSw; (try dsimp only at hSw); go_simp; (try with_reducible rfl))
          simp only [List.setIfInBounds_toArray, List.set_cons_zero, List.set_cons_succ]
          refine wpAnyG_last (o := { dst := none, op := Op.store 4 (Operand.tmp 64) (Operand.tmp 63), type := 0, pos := "vocab.go:195", after := #[{ on := 25, ground := Ground.data }, { on := 24, ground := Ground.data }, { on := 23, ground := Ground.chain }, { on := 0, ground := Ground.phase }, { on := 1, ground := Ground.phase }, { on := 2, ground := Ground.phase }, { on := 3, ground := Ground.phase }, { on := 4, ground := Ground.phase }, { on := 5, ground := Ground.phase }, { on := 6, ground := Ground.phase }, { on := 7, ground := Ground.phase }, { on := 8, ground := Ground.phase }, { on := 9, ground := Ground.phase }, { on := 10, ground := Ground.phase }, { on := 11, ground := Ground.phase }, { on := 12, ground := Ground.phase }, { on := 13, ground := Ground.phase }, { on := 14, ground := Ground.phase }, { on := 15, ground := Ground.phase }, { on := 16, ground := Ground.phase }, { on := 17, ground := Ground.phase }, { on := 18, ground := Ground.phase }, { on := 19, ground := Ground.phase }, { on := 20, ground := Ground.phase }, { on := 21, ground := Ground.phase }, { on := 22, ground := Ground.phase }, { on := 23, ground := Ground.phase }, { on := 24, ground := Ground.phase }], guard := none }) (by kernel_rfl) rfl (by rfl) (fun K hK => ?_)
          obtain ⟨⟨u0, cc⟩, zz⟩ := HF5.out.cellAt k (by rw [HN.out]; exact hlt); go_simp; have HF6 := Lib.hid (HF5.out.put x HX.out); clear cc zz; generalize W5.setCell ⟨r, k, none⟩ (.bool x) = W6 at *
          refine hK.out _ _ ?_
          clear hK K
          try simp only [Act.put, List.setIfInBounds_toArray, List.set_cons_zero, List.set_cons_succ]
          refine wpAnyG_done (by kernel_rfl) ?_ _
          have ws : IntKind.i64.wrap ((k : Int) + 1) = (k : Int) + 1 := IntWalk.i64_in _ (by have := HSM.out; omega)
          go_wp2_with fail
          go_roundg (gk - 1)
          case measure => omega
          case rel => exact ⟨k + 1, by omega, by simp, HF6.out⟩
        · have HX : Hid (aloneB p.T (Cof p.s.cs) (Jof p.s.js) (k : Int) = false) := Lib.hid (by
            unfold aloneB
            rw [← HZS.out, HEE.out]
            simp [he])
          refine wp_region_G (D := 26) (S := fun V => V.cell? ⟨p.vb, 12, none⟩ = some (.slice (some ⟨r, 0, none⟩) N N) ∧ V.cell? ⟨b, o, none⟩ = some (.int .i64 e0)) (by kernel_rfl) (by exact And.intro d12 hc) (fun hHeld => ?_)
          (replace HF3 := Lib.hid (HF3.out.drew)); (replace HX := HX); generalize W3.drew = W4 at *
          refine wpAnyG_takeD (i := 0) (oi := { dst := some 39, op := Op.move (Operand.tmp 0), type := 30, pos := "vocab.go:195", after := #[], guard := none }) (d := 39) (v := ?_) rfl rfl (by kernel_rfl) (by kernel_rfl) (by kernel_rfl) (by kernel_rfl) (fun _ _ _ h => h) (Or.inl ⟨by rfl, ?_⟩) hHeld ?_
          rotate_left
          · (intro w' hSw; (try dsimp only at hSw); go_simp; (try with_reducible rfl))
          simp only [List.setIfInBounds_toArray, List.set_cons_zero, List.set_cons_succ]
          refine wpAnyG_takeD (i := 1) (oi := { dst := some 40, op := Op.nilCheck (Operand.tmp 39), type := 0, pos := "vocab.go:195", after := #[{ on := 0, ground := Ground.data }], guard := none }) (d := 40) (v := ?_) rfl rfl (by kernel_rfl) (by kernel_rfl) (by kernel_rfl) (by kernel_rfl) (fun _ _ _ h => h) (Or.inl ⟨by rfl, ?_⟩) hHeld ?_
          rotate_left
          · (intro w' hSw; (try dsimp only at hSw); go_simp; (try with_reducible rfl))
          simp only [List.setIfInBounds_toArray, List.set_cons_zero, List.set_cons_succ]
          refine wpAnyG_takeD (i := 2) (oi := { dst := some 41, op := Op.fieldAddr 161 (Operand.tmp 40) 1, type := 0, pos := "vocab.go:195", after := #[{ on := 1, ground := Ground.data }], guard := none }) (d := 41) (v := ?_) rfl rfl (by kernel_rfl) (by kernel_rfl) (by kernel_rfl) (by kernel_rfl) (fun _ _ _ h => h) (Or.inl ⟨by rfl, ?_⟩) hHeld ?_
          rotate_left
          · (intro w' hSw; (try dsimp only at hSw); go_simp; (try with_reducible rfl))
          simp only [List.setIfInBounds_toArray, List.set_cons_zero, List.set_cons_succ]
          refine wpAnyG_takeD (i := 3) (oi := { dst := some 42, op := Op.fieldAddr 156 (Operand.tmp 41) 1, type := 0, pos := "vocab.go:195", after := #[{ on := 2, ground := Ground.data }], guard := none }) (d := 42) (v := ?_) rfl rfl (by kernel_rfl) (by kernel_rfl) (by kernel_rfl) (by kernel_rfl) (fun _ _ _ h => h) (Or.inl ⟨by rfl, ?_⟩) hHeld ?_
          rotate_left
          · (intro w' hSw; (try dsimp only at hSw); go_simp; (try with_reducible rfl))
          simp only [List.setIfInBounds_toArray, List.set_cons_zero, List.set_cons_succ]
          refine wpAnyG_takeD (i := 4) (oi := { dst := some 43, op := Op.load 154 (Operand.tmp 42), type := 154, pos := "vocab.go:195", after := #[{ on := 3, ground := Ground.data }], guard := none }) (d := 43) (v := ?_) rfl rfl (by kernel_rfl) (by kernel_rfl) (by kernel_rfl) (by kernel_rfl) (fun _ _ _ h => h) (Or.inl ⟨by rfl, ?_⟩) hHeld ?_
          rotate_left
          · (intro w' hSw; (try dsimp only at hSw); go_simp; (try with_reducible rfl))
          simp only [List.setIfInBounds_toArray, List.set_cons_zero, List.set_cons_succ]
          refine wpAnyG_takeD (i := 5) (oi := { dst := some 44, op := Op.move (Operand.tmp 2), type := 3, pos := "vocab.go:195", after := #[], guard := none }) (d := 44) (v := ?_) rfl rfl (by kernel_rfl) (by kernel_rfl) (by kernel_rfl) (by kernel_rfl) (fun _ _ _ h => h) (Or.inl ⟨by rfl, ?_⟩) hHeld ?_
          rotate_left
          · (intro w' hSw; (try dsimp only at hSw); go_simp; (try with_reducible rfl))
          simp only [List.setIfInBounds_toArray, List.set_cons_zero, List.set_cons_succ]
          refine wpAnyG_takeD (i := 6) (oi := { dst := some 45, op := Op.move (Operand.tmp 5), type := 57, pos := "vocab.go:195", after := #[], guard := none }) (d := 45) (v := ?_) rfl rfl (by kernel_rfl) (by kernel_rfl) (by kernel_rfl) (by kernel_rfl) (fun _ _ _ h => h) (Or.inl ⟨by rfl, ?_⟩) hHeld ?_
          rotate_left
          · (intro w' hSw; (try dsimp only at hSw); go_simp; (try with_reducible rfl))
          simp only [List.setIfInBounds_toArray, List.set_cons_zero, List.set_cons_succ]
          refine wpAnyG_takeD (i := 7) (oi := { dst := some 46, op := Op.call { callee := Callee.builtin Builtin.len, args := #[Operand.tmp 45], argTypes := #[57] }, type := 3, pos := "vocab.go:195", after := #[{ on := 6, ground := Ground.data }], guard := none }) (d := 46) (v := ?_) rfl rfl (by kernel_rfl) (by kernel_rfl) (by kernel_rfl) (by kernel_rfl) (fun _ _ _ h => h) (Or.inl ⟨by rfl, ?_⟩) hHeld ?_
          rotate_left
          · (intro w' hSw; (try dsimp only at hSw); go_simp; (try with_reducible rfl))
          simp only [List.setIfInBounds_toArray, List.set_cons_zero, List.set_cons_succ]
          refine wpAnyG_takeD (i := 8) (oi := { dst := some 47, op := Op.binOp BinOp.eql 3 (Operand.tmp 46) (Operand.const (Value.int IntKind.i64 1)) 3, type := 4, pos := "vocab.go:195", after := #[{ on := 7, ground := Ground.data }], guard := none }) (d := 47) (v := ?_) rfl rfl (by kernel_rfl) (by kernel_rfl) (by kernel_rfl) (by kernel_rfl) (fun _ _ _ h => h) (Or.inl ⟨by rfl, ?_⟩) hHeld ?_
          rotate_left
          · (intro w' hSw; (try dsimp only at hSw); go_simp; (try with_reducible rfl))
          simp only [List.setIfInBounds_toArray, List.set_cons_zero, List.set_cons_succ]
          refine wpAnyG_takeD (i := 9) (oi := { dst := some 48, op := Op.move (Operand.tmp 47), type := 4, pos := "vocab.go:195", after := #[{ on := 8, ground := Ground.data }], guard := none }) (d := 48) (v := ?_) rfl rfl (by kernel_rfl) (by kernel_rfl) (by kernel_rfl) (by kernel_rfl) (fun _ _ _ h => h) (Or.inl ⟨by rfl, ?_⟩) hHeld ?_
          rotate_left
          · (intro w' hSw; (try dsimp only at hSw); go_simp; (try with_reducible rfl))
          simp only [List.setIfInBounds_toArray, List.set_cons_zero, List.set_cons_succ]
          refine wpAnyG_takeD (i := 10) (oi := { dst := some 49, op := Op.move (Operand.tmp 5), type := 57, pos := "vocab.go:195", after := #[{ on := 9, ground := Ground.guard }], guard := some (9, true) }) (d := 49) (v := ?_) rfl rfl (by kernel_rfl) (by kernel_rfl) (by kernel_rfl) (by kernel_rfl) (fun _ _ _ h => h) (Or.inl ⟨by rfl, ?_⟩) hHeld ?_
          rotate_left
          · (intro w' hSw; (try dsimp only at hSw); go_simp; (try with_reducible rfl))
          simp only [List.setIfInBounds_toArray, List.set_cons_zero, List.set_cons_succ]
          refine wpAnyG_takeD (i := 11) (oi := { dst := some 50, op := Op.indexAddr 57 (Operand.tmp 49) (Operand.const (Value.int IntKind.i64 0)), type := 0, pos := "vocab.go:195", after := #[{ on := 10, ground := Ground.data }, { on := 9, ground := Ground.guard }], guard := some (9, true) }) (d := 50) (v := ?_) rfl rfl (by kernel_rfl) (by kernel_rfl) (by kernel_rfl) (by kernel_rfl) (fun _ _ _ h => h) (Or.inl ⟨by rfl, ?_⟩) hHeld ?_
          rotate_left
          · (intro w' hSw; (try dsimp only at hSw); go_simp; (try with_reducible rfl))
          simp only [List.setIfInBounds_toArray, List.set_cons_zero, List.set_cons_succ]
          refine wpAnyG_takeD (i := 12) (oi := { dst := some 51, op := Op.load 3 (Operand.tmp 50), type := 3, pos := "vocab.go:195", after := #[{ on := 11, ground := Ground.data }, { on := 9, ground := Ground.guard }], guard := some (9, true) }) (d := 51) (v := ?_) rfl rfl (by kernel_rfl) (by kernel_rfl) (by kernel_rfl) (by kernel_rfl) (fun _ _ _ h => h) (Or.inl ⟨by rfl, ?_⟩) hHeld ?_
          rotate_left
          · (intro w' hSw; (try dsimp only at hSw); go_simp; (try with_reducible rfl))
          simp only [List.setIfInBounds_toArray, List.set_cons_zero, List.set_cons_succ]
          refine wpAnyG_takeD (i := 13) (oi := { dst := some 52, op := Op.move (Operand.tmp 2), type := 3, pos := "vocab.go:195", after := #[{ on := 9, ground := Ground.guard }], guard := some (9, true) }) (d := 52) (v := ?_) rfl rfl (by kernel_rfl) (by kernel_rfl) (by kernel_rfl) (by kernel_rfl) (fun _ _ _ h => h) (Or.inl ⟨by rfl, ?_⟩) hHeld ?_
          rotate_left
          · (intro w' hSw; (try dsimp only at hSw); go_simp; (try with_reducible rfl))
          simp only [List.setIfInBounds_toArray, List.set_cons_zero, List.set_cons_succ]
          refine wpAnyG_takeD (i := 14) (oi := { dst := some 53, op := Op.binOp BinOp.eql 3 (Operand.tmp 51) (Operand.tmp 52) 3, type := 4, pos := "vocab.go:195", after := #[{ on := 12, ground := Ground.data }, { on := 13, ground := Ground.data }, { on := 9, ground := Ground.guard }], guard := some (9, true) }) (d := 53) (v := ?_) rfl rfl (by kernel_rfl) (by kernel_rfl) (by kernel_rfl) (by kernel_rfl) (fun _ _ _ h => h) (Or.inl ⟨by rfl, ?_⟩) hHeld ?_
          rotate_left
          · (intro w' hSw; (try dsimp only at hSw); go_simp; (rw [show (e0 == (k : Int)) = false from by simp [he]]); (try with_reducible rfl))
          simp only [List.setIfInBounds_toArray, List.set_cons_zero, List.set_cons_succ]
          refine wpAnyG_takeD (i := 15) (oi := { dst := some 54, op := Op.pick (Operand.tmp 48) (Operand.tmp 53) (Operand.const (Value.bool false)), type := 4, pos := "vocab.go:195", after := #[{ on := 9, ground := Ground.data }, { on := 14, ground := Ground.data }], guard := none }) (d := 54) (v := ?_) rfl rfl (by kernel_rfl) (by kernel_rfl) (by kernel_rfl) (by kernel_rfl) (fun _ _ _ h => h) (Or.inl ⟨by rfl, ?_⟩) hHeld ?_
          rotate_left
          · (intro w' hSw; (try dsimp only at hSw); go_simp; (try with_reducible rfl))
          simp only [List.setIfInBounds_toArray, List.set_cons_zero, List.set_cons_succ]
          refine wpAnyG_takeD (i := 16) (oi := { dst := some 55, op := Op.move (Operand.tmp 54), type := 4, pos := "vocab.go:195", after := #[{ on := 15, ground := Ground.data }, { on := 9, ground := Ground.chain }], guard := none }) (d := 55) (v := ?_) rfl rfl (by kernel_rfl) (by kernel_rfl) (by kernel_rfl) (by kernel_rfl) (fun _ _ _ h => h) (Or.inl ⟨by rfl, ?_⟩) hHeld ?_
          rotate_left
          · (intro w' hSw; (try dsimp only at hSw); go_simp; (try with_reducible rfl))
          simp only [List.setIfInBounds_toArray, List.set_cons_zero, List.set_cons_succ]
          refine wpAnyG_takeD (i := 17) (oi := { dst := some 56, op := Op.move (Operand.tmp 0), type := 30, pos := "vocab.go:195", after := #[{ on := 16, ground := Ground.guard }], guard := some (16, true) }) (d := 56) (v := undef) rfl rfl (by kernel_rfl) (by kernel_rfl) (by kernel_rfl) (by kernel_rfl) (fun _ _ _ h => h) (Or.inr ⟨by rfl, rfl⟩) hHeld ?_
          simp only [List.setIfInBounds_toArray, List.set_cons_zero, List.set_cons_succ]
          refine wpAnyG_takeD (i := 18) (oi := { dst := some 57, op := Op.nilCheck (Operand.tmp 56), type := 0, pos := "vocab.go:195", after := #[{ on := 17, ground := Ground.data }, { on := 16, ground := Ground.guard }], guard := some (16, true) }) (d := 57) (v := undef) rfl rfl (by kernel_rfl) (by kernel_rfl) (by kernel_rfl) (by kernel_rfl) (fun _ _ _ h => h) (Or.inr ⟨by rfl, rfl⟩) hHeld ?_
          simp only [List.setIfInBounds_toArray, List.set_cons_zero, List.set_cons_succ]
          refine wpAnyG_takeD (i := 19) (oi := { dst := some 58, op := Op.fieldAddr 161 (Operand.tmp 57) 0, type := 0, pos := "vocab.go:195", after := #[{ on := 18, ground := Ground.data }, { on := 16, ground := Ground.guard }], guard := some (16, true) }) (d := 58) (v := undef) rfl rfl (by kernel_rfl) (by kernel_rfl) (by kernel_rfl) (by kernel_rfl) (fun _ _ _ h => h) (Or.inr ⟨by rfl, rfl⟩) hHeld ?_
          simp only [List.setIfInBounds_toArray, List.set_cons_zero, List.set_cons_succ]
          refine wpAnyG_takeD (i := 20) (oi := { dst := some 59, op := Op.fieldAddr 141 (Operand.tmp 58) 2, type := 0, pos := "vocab.go:195", after := #[{ on := 19, ground := Ground.data }, { on := 16, ground := Ground.guard }], guard := some (16, true) }) (d := 59) (v := undef) rfl rfl (by kernel_rfl) (by kernel_rfl) (by kernel_rfl) (by kernel_rfl) (fun _ _ _ h => h) (Or.inr ⟨by rfl, rfl⟩) hHeld ?_
          simp only [List.setIfInBounds_toArray, List.set_cons_zero, List.set_cons_succ]
          refine wpAnyG_takeD (i := 21) (oi := { dst := some 60, op := Op.load 139 (Operand.tmp 59), type := 139, pos := "vocab.go:195", after := #[{ on := 20, ground := Ground.data }, { on := 16, ground := Ground.guard }], guard := some (16, true) }) (d := 60) (v := undef) rfl rfl (by kernel_rfl) (by kernel_rfl) (by kernel_rfl) (by kernel_rfl) (fun _ _ _ h => h) (Or.inr ⟨by rfl, rfl⟩) hHeld ?_
          simp only [List.setIfInBounds_toArray, List.set_cons_zero, List.set_cons_succ]
          refine wpAnyG_takeD (i := 22) (oi := { dst := some 61, op := Op.move (Operand.tmp 3), type := 9, pos := "vocab.go:195", after := #[{ on := 16, ground := Ground.guard }], guard := some (16, true) }) (d := 61) (v := undef) rfl rfl (by kernel_rfl) (by kernel_rfl) (by kernel_rfl) (by kernel_rfl) (fun _ _ _ h => h) (Or.inr ⟨by rfl, rfl⟩) hHeld ?_
          simp only [List.setIfInBounds_toArray, List.set_cons_zero, List.set_cons_succ]
          refine wpAnyG_takeD (i := 23) (oi := { dst := some 62, op := Op.call { callee := Callee.value (Operand.func 136), args := #[Operand.tmp 60, Operand.tmp 61], argTypes := #[139, 9] }, type := 4, pos := "vocab.go:195", after := #[{ on := 21, ground := Ground.data }, { on := 22, ground := Ground.data }, { on := 16, ground := Ground.chain }, { on := 16, ground := Ground.guard }], guard := some (16, true) }) (d := 62) (v := undef) rfl rfl (by kernel_rfl) (by kernel_rfl) (by kernel_rfl) (by kernel_rfl) (fun _ _ _ h => h) (Or.inr ⟨by rfl, rfl⟩) hHeld ?_
          simp only [List.setIfInBounds_toArray, List.set_cons_zero, List.set_cons_succ]
          refine wpAnyG_takeD (i := 24) (oi := { dst := some 63, op := Op.pick (Operand.tmp 55) (Operand.tmp 62) (Operand.const (Value.bool false)), type := 4, pos := "vocab.go:195", after := #[{ on := 16, ground := Ground.data }, { on := 23, ground := Ground.data }], guard := none }) (d := 63) (v := ?_) rfl rfl (by kernel_rfl) (by kernel_rfl) (by kernel_rfl) (by kernel_rfl) (fun _ _ _ h => h) (Or.inl ⟨by rfl, ?_⟩) hHeld ?_
          rotate_left
          · (intro w' hSw; (try dsimp only at hSw); go_simp; (try with_reducible rfl))
          simp only [List.setIfInBounds_toArray, List.set_cons_zero, List.set_cons_succ]
          refine wpAnyG_takeD (i := 25) (oi := { dst := some 64, op := Op.indexAddr 154 (Operand.tmp 43) (Operand.tmp 44), type := 0, pos := "vocab.go:195", after := #[{ on := 4, ground := Ground.data }, { on := 5, ground := Ground.data }, { on := 0, ground := Ground.phase }, { on := 1, ground := Ground.phase }, { on := 2, ground := Ground.phase }, { on := 3, ground := Ground.phase }, { on := 4, ground := Ground.phase }, { on := 5, ground := Ground.phase }, { on := 6, ground := Ground.phase }, { on := 7, ground := Ground.phase }, { on := 8, ground := Ground.phase }, { on := 9, ground := Ground.phase }, { on := 10, ground := Ground.phase }, { on := 11, ground := Ground.phase }, { on := 12, ground := Ground.phase }, { on := 13, ground := Ground.phase }, { on := 14, ground := Ground.phase }, { on := 15, ground := Ground.phase }, { on := 16, ground := Ground.phase }, { on := 17, ground := Ground.phase }, { on := 18, ground := Ground.phase }, { on := 19, ground := Ground.phase }, { on := 20, ground := Ground.phase }, { on := 21, ground := Ground.phase }, { on := 22, ground := Ground.phase }, { on := 23, ground := Ground.phase }, { on := 24, ground := Ground.phase }], guard := none }) (d := 64) (v := ?_) rfl rfl (by kernel_rfl) (by kernel_rfl) (by kernel_rfl) (by kernel_rfl) (fun _ _ _ h => h) (Or.inl ⟨by rfl, ?_⟩) hHeld ?_
          rotate_left
          · (intro w' hSw; (try dsimp only at hSw); go_simp; (try with_reducible rfl))
          simp only [List.setIfInBounds_toArray, List.set_cons_zero, List.set_cons_succ]
          refine wpAnyG_last (o := { dst := none, op := Op.store 4 (Operand.tmp 64) (Operand.tmp 63), type := 0, pos := "vocab.go:195", after := #[{ on := 25, ground := Ground.data }, { on := 24, ground := Ground.data }, { on := 23, ground := Ground.chain }, { on := 0, ground := Ground.phase }, { on := 1, ground := Ground.phase }, { on := 2, ground := Ground.phase }, { on := 3, ground := Ground.phase }, { on := 4, ground := Ground.phase }, { on := 5, ground := Ground.phase }, { on := 6, ground := Ground.phase }, { on := 7, ground := Ground.phase }, { on := 8, ground := Ground.phase }, { on := 9, ground := Ground.phase }, { on := 10, ground := Ground.phase }, { on := 11, ground := Ground.phase }, { on := 12, ground := Ground.phase }, { on := 13, ground := Ground.phase }, { on := 14, ground := Ground.phase }, { on := 15, ground := Ground.phase }, { on := 16, ground := Ground.phase }, { on := 17, ground := Ground.phase }, { on := 18, ground := Ground.phase }, { on := 19, ground := Ground.phase }, { on := 20, ground := Ground.phase }, { on := 21, ground := Ground.phase }, { on := 22, ground := Ground.phase }, { on := 23, ground := Ground.phase }, { on := 24, ground := Ground.phase }], guard := none }) (by kernel_rfl) rfl (by rfl) (fun K hK => ?_)
          obtain ⟨⟨u0, cc⟩, zz⟩ := HF3.out.cellAt k (by rw [HN.out]; exact hlt); go_simp; have HF6 := Lib.hid (HF3.out.put false HX.out); clear cc zz; generalize W4.setCell ⟨r, k, none⟩ (.bool false) = W6 at *
          refine hK.out _ _ ?_
          clear hK K
          try simp only [Act.put, List.setIfInBounds_toArray, List.set_cons_zero, List.set_cons_succ]
          refine wpAnyG_done (by kernel_rfl) ?_ _
          have ws : IntKind.i64.wrap ((k : Int) + 1) = (k : Int) + 1 := IntWalk.i64_in _ (by have := HSM.out; omega)
          go_wp2_with fail
          go_roundg (gk - 1)
          case measure => omega
          case rel => exact ⟨k + 1, by omega, by simp, HF6.out⟩
      · have hE2 : (((E.length : Nat) : Int) == 1) = false := by simp; omega
        have HX : Hid (aloneB p.T (Cof p.s.cs) (Jof p.s.js) (k : Int) = false) := Lib.hid (by
            unfold aloneB
            rw [← HZS.out, HEE.out]
            have : E ≠ [(k : Int)] := fun e => hE1 (by rw [e]; rfl)
            simp [this])
        have hE3 : ¬ ((E.length : Nat) : Int) = 1 := by omega
        clear hE1
        generalize E.length = m at *
        refine wp_region_G (D := 26) (S := fun V => V.cell? ⟨p.vb, 12, none⟩ = some (.slice (some ⟨r, 0, none⟩) N N)) (by kernel_rfl) (by exact d12) (fun hHeld => ?_)
        (replace HF3 := Lib.hid (HF3.out.drew)); (replace HX := HX); generalize W3.drew = W4 at *
        refine wpAnyG_takeD (i := 0) (oi := { dst := some 39, op := Op.move (Operand.tmp 0), type := 30, pos := "vocab.go:195", after := #[], guard := none }) (d := 39) (v := ?_) rfl rfl (by kernel_rfl) (by kernel_rfl) (by kernel_rfl) (by kernel_rfl) (fun _ _ _ h => h) (Or.inl ⟨by rfl, ?_⟩) hHeld ?_
        rotate_left
        · (intro w' hSw; (try dsimp only at hSw); go_simp; (try with_reducible rfl))
        simp only [List.setIfInBounds_toArray, List.set_cons_zero, List.set_cons_succ]
        refine wpAnyG_takeD (i := 1) (oi := { dst := some 40, op := Op.nilCheck (Operand.tmp 39), type := 0, pos := "vocab.go:195", after := #[{ on := 0, ground := Ground.data }], guard := none }) (d := 40) (v := ?_) rfl rfl (by kernel_rfl) (by kernel_rfl) (by kernel_rfl) (by kernel_rfl) (fun _ _ _ h => h) (Or.inl ⟨by rfl, ?_⟩) hHeld ?_
        rotate_left
        · (intro w' hSw; (try dsimp only at hSw); go_simp; (try with_reducible rfl))
        simp only [List.setIfInBounds_toArray, List.set_cons_zero, List.set_cons_succ]
        refine wpAnyG_takeD (i := 2) (oi := { dst := some 41, op := Op.fieldAddr 161 (Operand.tmp 40) 1, type := 0, pos := "vocab.go:195", after := #[{ on := 1, ground := Ground.data }], guard := none }) (d := 41) (v := ?_) rfl rfl (by kernel_rfl) (by kernel_rfl) (by kernel_rfl) (by kernel_rfl) (fun _ _ _ h => h) (Or.inl ⟨by rfl, ?_⟩) hHeld ?_
        rotate_left
        · (intro w' hSw; (try dsimp only at hSw); go_simp; (try with_reducible rfl))
        simp only [List.setIfInBounds_toArray, List.set_cons_zero, List.set_cons_succ]
        refine wpAnyG_takeD (i := 3) (oi := { dst := some 42, op := Op.fieldAddr 156 (Operand.tmp 41) 1, type := 0, pos := "vocab.go:195", after := #[{ on := 2, ground := Ground.data }], guard := none }) (d := 42) (v := ?_) rfl rfl (by kernel_rfl) (by kernel_rfl) (by kernel_rfl) (by kernel_rfl) (fun _ _ _ h => h) (Or.inl ⟨by rfl, ?_⟩) hHeld ?_
        rotate_left
        · (intro w' hSw; (try dsimp only at hSw); go_simp; (try with_reducible rfl))
        simp only [List.setIfInBounds_toArray, List.set_cons_zero, List.set_cons_succ]
        refine wpAnyG_takeD (i := 4) (oi := { dst := some 43, op := Op.load 154 (Operand.tmp 42), type := 154, pos := "vocab.go:195", after := #[{ on := 3, ground := Ground.data }], guard := none }) (d := 43) (v := ?_) rfl rfl (by kernel_rfl) (by kernel_rfl) (by kernel_rfl) (by kernel_rfl) (fun _ _ _ h => h) (Or.inl ⟨by rfl, ?_⟩) hHeld ?_
        rotate_left
        · (intro w' hSw; (try dsimp only at hSw); go_simp; (try with_reducible rfl))
        simp only [List.setIfInBounds_toArray, List.set_cons_zero, List.set_cons_succ]
        refine wpAnyG_takeD (i := 5) (oi := { dst := some 44, op := Op.move (Operand.tmp 2), type := 3, pos := "vocab.go:195", after := #[], guard := none }) (d := 44) (v := ?_) rfl rfl (by kernel_rfl) (by kernel_rfl) (by kernel_rfl) (by kernel_rfl) (fun _ _ _ h => h) (Or.inl ⟨by rfl, ?_⟩) hHeld ?_
        rotate_left
        · (intro w' hSw; (try dsimp only at hSw); go_simp; (try with_reducible rfl))
        simp only [List.setIfInBounds_toArray, List.set_cons_zero, List.set_cons_succ]
        refine wpAnyG_takeD (i := 6) (oi := { dst := some 45, op := Op.move (Operand.tmp 5), type := 57, pos := "vocab.go:195", after := #[], guard := none }) (d := 45) (v := ?_) rfl rfl (by kernel_rfl) (by kernel_rfl) (by kernel_rfl) (by kernel_rfl) (fun _ _ _ h => h) (Or.inl ⟨by rfl, ?_⟩) hHeld ?_
        rotate_left
        · (intro w' hSw; (try dsimp only at hSw); go_simp; (try with_reducible rfl))
        simp only [List.setIfInBounds_toArray, List.set_cons_zero, List.set_cons_succ]
        refine wpAnyG_takeD (i := 7) (oi := { dst := some 46, op := Op.call { callee := Callee.builtin Builtin.len, args := #[Operand.tmp 45], argTypes := #[57] }, type := 3, pos := "vocab.go:195", after := #[{ on := 6, ground := Ground.data }], guard := none }) (d := 46) (v := ?_) rfl rfl (by kernel_rfl) (by kernel_rfl) (by kernel_rfl) (by kernel_rfl) (fun _ _ _ h => h) (Or.inl ⟨by rfl, ?_⟩) hHeld ?_
        rotate_left
        · (intro w' hSw; (try dsimp only at hSw); go_simp; (try with_reducible rfl))
        simp only [List.setIfInBounds_toArray, List.set_cons_zero, List.set_cons_succ]
        refine wpAnyG_takeD (i := 8) (oi := { dst := some 47, op := Op.binOp BinOp.eql 3 (Operand.tmp 46) (Operand.const (Value.int IntKind.i64 1)) 3, type := 4, pos := "vocab.go:195", after := #[{ on := 7, ground := Ground.data }], guard := none }) (d := 47) (v := ?_) rfl rfl (by kernel_rfl) (by kernel_rfl) (by kernel_rfl) (by kernel_rfl) (fun _ _ _ h => h) (Or.inl ⟨by rfl, ?_⟩) hHeld ?_
        rotate_left
        · (intro w' hSw; (try dsimp only at hSw); go_simp; ((try rw [hE2])); (try with_reducible rfl))
        simp only [List.setIfInBounds_toArray, List.set_cons_zero, List.set_cons_succ]
        refine wpAnyG_takeD (i := 9) (oi := { dst := some 48, op := Op.move (Operand.tmp 47), type := 4, pos := "vocab.go:195", after := #[{ on := 8, ground := Ground.data }], guard := none }) (d := 48) (v := ?_) rfl rfl (by kernel_rfl) (by kernel_rfl) (by kernel_rfl) (by kernel_rfl) (fun _ _ _ h => h) (Or.inl ⟨by rfl, ?_⟩) hHeld ?_
        rotate_left
        · (intro w' hSw; (try dsimp only at hSw); go_simp; (try with_reducible rfl))
        simp only [List.setIfInBounds_toArray, List.set_cons_zero, List.set_cons_succ]
        refine wpAnyG_takeD (i := 10) (oi := { dst := some 49, op := Op.move (Operand.tmp 5), type := 57, pos := "vocab.go:195", after := #[{ on := 9, ground := Ground.guard }], guard := some (9, true) }) (d := 49) (v := undef) rfl rfl (by kernel_rfl) (by kernel_rfl) (by kernel_rfl) (by kernel_rfl) (fun _ _ _ h => h) (Or.inr ⟨by rfl, rfl⟩) hHeld ?_
        simp only [List.setIfInBounds_toArray, List.set_cons_zero, List.set_cons_succ]
        refine wpAnyG_takeD (i := 11) (oi := { dst := some 50, op := Op.indexAddr 57 (Operand.tmp 49) (Operand.const (Value.int IntKind.i64 0)), type := 0, pos := "vocab.go:195", after := #[{ on := 10, ground := Ground.data }, { on := 9, ground := Ground.guard }], guard := some (9, true) }) (d := 50) (v := undef) rfl rfl (by kernel_rfl) (by kernel_rfl) (by kernel_rfl) (by kernel_rfl) (fun _ _ _ h => h) (Or.inr ⟨by rfl, rfl⟩) hHeld ?_
        simp only [List.setIfInBounds_toArray, List.set_cons_zero, List.set_cons_succ]
        refine wpAnyG_takeD (i := 12) (oi := { dst := some 51, op := Op.load 3 (Operand.tmp 50), type := 3, pos := "vocab.go:195", after := #[{ on := 11, ground := Ground.data }, { on := 9, ground := Ground.guard }], guard := some (9, true) }) (d := 51) (v := undef) rfl rfl (by kernel_rfl) (by kernel_rfl) (by kernel_rfl) (by kernel_rfl) (fun _ _ _ h => h) (Or.inr ⟨by rfl, rfl⟩) hHeld ?_
        simp only [List.setIfInBounds_toArray, List.set_cons_zero, List.set_cons_succ]
        refine wpAnyG_takeD (i := 13) (oi := { dst := some 52, op := Op.move (Operand.tmp 2), type := 3, pos := "vocab.go:195", after := #[{ on := 9, ground := Ground.guard }], guard := some (9, true) }) (d := 52) (v := undef) rfl rfl (by kernel_rfl) (by kernel_rfl) (by kernel_rfl) (by kernel_rfl) (fun _ _ _ h => h) (Or.inr ⟨by rfl, rfl⟩) hHeld ?_
        simp only [List.setIfInBounds_toArray, List.set_cons_zero, List.set_cons_succ]
        refine wpAnyG_takeD (i := 14) (oi := { dst := some 53, op := Op.binOp BinOp.eql 3 (Operand.tmp 51) (Operand.tmp 52) 3, type := 4, pos := "vocab.go:195", after := #[{ on := 12, ground := Ground.data }, { on := 13, ground := Ground.data }, { on := 9, ground := Ground.guard }], guard := some (9, true) }) (d := 53) (v := undef) rfl rfl (by kernel_rfl) (by kernel_rfl) (by kernel_rfl) (by kernel_rfl) (fun _ _ _ h => h) (Or.inr ⟨by rfl, rfl⟩) hHeld ?_
        simp only [List.setIfInBounds_toArray, List.set_cons_zero, List.set_cons_succ]
        refine wpAnyG_takeD (i := 15) (oi := { dst := some 54, op := Op.pick (Operand.tmp 48) (Operand.tmp 53) (Operand.const (Value.bool false)), type := 4, pos := "vocab.go:195", after := #[{ on := 9, ground := Ground.data }, { on := 14, ground := Ground.data }], guard := none }) (d := 54) (v := ?_) rfl rfl (by kernel_rfl) (by kernel_rfl) (by kernel_rfl) (by kernel_rfl) (fun _ _ _ h => h) (Or.inl ⟨by rfl, ?_⟩) hHeld ?_
        rotate_left
        · (intro w' hSw; (try dsimp only at hSw); go_simp; (try with_reducible rfl))
        simp only [List.setIfInBounds_toArray, List.set_cons_zero, List.set_cons_succ]
        refine wpAnyG_takeD (i := 16) (oi := { dst := some 55, op := Op.move (Operand.tmp 54), type := 4, pos := "vocab.go:195", after := #[{ on := 15, ground := Ground.data }, { on := 9, ground := Ground.chain }], guard := none }) (d := 55) (v := ?_) rfl rfl (by kernel_rfl) (by kernel_rfl) (by kernel_rfl) (by kernel_rfl) (fun _ _ _ h => h) (Or.inl ⟨by rfl, ?_⟩) hHeld ?_
        rotate_left
        · (intro w' hSw; (try dsimp only at hSw); go_simp; (try with_reducible rfl))
        simp only [List.setIfInBounds_toArray, List.set_cons_zero, List.set_cons_succ]
        refine wpAnyG_takeD (i := 17) (oi := { dst := some 56, op := Op.move (Operand.tmp 0), type := 30, pos := "vocab.go:195", after := #[{ on := 16, ground := Ground.guard }], guard := some (16, true) }) (d := 56) (v := undef) rfl rfl (by kernel_rfl) (by kernel_rfl) (by kernel_rfl) (by kernel_rfl) (fun _ _ _ h => h) (Or.inr ⟨by rfl, rfl⟩) hHeld ?_
        simp only [List.setIfInBounds_toArray, List.set_cons_zero, List.set_cons_succ]
        refine wpAnyG_takeD (i := 18) (oi := { dst := some 57, op := Op.nilCheck (Operand.tmp 56), type := 0, pos := "vocab.go:195", after := #[{ on := 17, ground := Ground.data }, { on := 16, ground := Ground.guard }], guard := some (16, true) }) (d := 57) (v := undef) rfl rfl (by kernel_rfl) (by kernel_rfl) (by kernel_rfl) (by kernel_rfl) (fun _ _ _ h => h) (Or.inr ⟨by rfl, rfl⟩) hHeld ?_
        simp only [List.setIfInBounds_toArray, List.set_cons_zero, List.set_cons_succ]
        refine wpAnyG_takeD (i := 19) (oi := { dst := some 58, op := Op.fieldAddr 161 (Operand.tmp 57) 0, type := 0, pos := "vocab.go:195", after := #[{ on := 18, ground := Ground.data }, { on := 16, ground := Ground.guard }], guard := some (16, true) }) (d := 58) (v := undef) rfl rfl (by kernel_rfl) (by kernel_rfl) (by kernel_rfl) (by kernel_rfl) (fun _ _ _ h => h) (Or.inr ⟨by rfl, rfl⟩) hHeld ?_
        simp only [List.setIfInBounds_toArray, List.set_cons_zero, List.set_cons_succ]
        refine wpAnyG_takeD (i := 20) (oi := { dst := some 59, op := Op.fieldAddr 141 (Operand.tmp 58) 2, type := 0, pos := "vocab.go:195", after := #[{ on := 19, ground := Ground.data }, { on := 16, ground := Ground.guard }], guard := some (16, true) }) (d := 59) (v := undef) rfl rfl (by kernel_rfl) (by kernel_rfl) (by kernel_rfl) (by kernel_rfl) (fun _ _ _ h => h) (Or.inr ⟨by rfl, rfl⟩) hHeld ?_
        simp only [List.setIfInBounds_toArray, List.set_cons_zero, List.set_cons_succ]
        refine wpAnyG_takeD (i := 21) (oi := { dst := some 60, op := Op.load 139 (Operand.tmp 59), type := 139, pos := "vocab.go:195", after := #[{ on := 20, ground := Ground.data }, { on := 16, ground := Ground.guard }], guard := some (16, true) }) (d := 60) (v := undef) rfl rfl (by kernel_rfl) (by kernel_rfl) (by kernel_rfl) (by kernel_rfl) (fun _ _ _ h => h) (Or.inr ⟨by rfl, rfl⟩) hHeld ?_
        simp only [List.setIfInBounds_toArray, List.set_cons_zero, List.set_cons_succ]
        refine wpAnyG_takeD (i := 22) (oi := { dst := some 61, op := Op.move (Operand.tmp 3), type := 9, pos := "vocab.go:195", after := #[{ on := 16, ground := Ground.guard }], guard := some (16, true) }) (d := 61) (v := undef) rfl rfl (by kernel_rfl) (by kernel_rfl) (by kernel_rfl) (by kernel_rfl) (fun _ _ _ h => h) (Or.inr ⟨by rfl, rfl⟩) hHeld ?_
        simp only [List.setIfInBounds_toArray, List.set_cons_zero, List.set_cons_succ]
        refine wpAnyG_takeD (i := 23) (oi := { dst := some 62, op := Op.call { callee := Callee.value (Operand.func 136), args := #[Operand.tmp 60, Operand.tmp 61], argTypes := #[139, 9] }, type := 4, pos := "vocab.go:195", after := #[{ on := 21, ground := Ground.data }, { on := 22, ground := Ground.data }, { on := 16, ground := Ground.chain }, { on := 16, ground := Ground.guard }], guard := some (16, true) }) (d := 62) (v := undef) rfl rfl (by kernel_rfl) (by kernel_rfl) (by kernel_rfl) (by kernel_rfl) (fun _ _ _ h => h) (Or.inr ⟨by rfl, rfl⟩) hHeld ?_
        simp only [List.setIfInBounds_toArray, List.set_cons_zero, List.set_cons_succ]
        refine wpAnyG_takeD (i := 24) (oi := { dst := some 63, op := Op.pick (Operand.tmp 55) (Operand.tmp 62) (Operand.const (Value.bool false)), type := 4, pos := "vocab.go:195", after := #[{ on := 16, ground := Ground.data }, { on := 23, ground := Ground.data }], guard := none }) (d := 63) (v := ?_) rfl rfl (by kernel_rfl) (by kernel_rfl) (by kernel_rfl) (by kernel_rfl) (fun _ _ _ h => h) (Or.inl ⟨by rfl, ?_⟩) hHeld ?_
        rotate_left
        · (intro w' hSw; (try dsimp only at hSw); go_simp; (try with_reducible rfl))
        simp only [List.setIfInBounds_toArray, List.set_cons_zero, List.set_cons_succ]
        refine wpAnyG_takeD (i := 25) (oi := { dst := some 64, op := Op.indexAddr 154 (Operand.tmp 43) (Operand.tmp 44), type := 0, pos := "vocab.go:195", after := #[{ on := 4, ground := Ground.data }, { on := 5, ground := Ground.data }, { on := 0, ground := Ground.phase }, { on := 1, ground := Ground.phase }, { on := 2, ground := Ground.phase }, { on := 3, ground := Ground.phase }, { on := 4, ground := Ground.phase }, { on := 5, ground := Ground.phase }, { on := 6, ground := Ground.phase }, { on := 7, ground := Ground.phase }, { on := 8, ground := Ground.phase }, { on := 9, ground := Ground.phase }, { on := 10, ground := Ground.phase }, { on := 11, ground := Ground.phase }, { on := 12, ground := Ground.phase }, { on := 13, ground := Ground.phase }, { on := 14, ground := Ground.phase }, { on := 15, ground := Ground.phase }, { on := 16, ground := Ground.phase }, { on := 17, ground := Ground.phase }, { on := 18, ground := Ground.phase }, { on := 19, ground := Ground.phase }, { on := 20, ground := Ground.phase }, { on := 21, ground := Ground.phase }, { on := 22, ground := Ground.phase }, { on := 23, ground := Ground.phase }, { on := 24, ground := Ground.phase }], guard := none }) (d := 64) (v := ?_) rfl rfl (by kernel_rfl) (by kernel_rfl) (by kernel_rfl) (by kernel_rfl) (fun _ _ _ h => h) (Or.inl ⟨by rfl, ?_⟩) hHeld ?_
        rotate_left
        · (intro w' hSw; (try dsimp only at hSw); go_simp; (try with_reducible rfl))
        simp only [List.setIfInBounds_toArray, List.set_cons_zero, List.set_cons_succ]
        refine wpAnyG_last (o := { dst := none, op := Op.store 4 (Operand.tmp 64) (Operand.tmp 63), type := 0, pos := "vocab.go:195", after := #[{ on := 25, ground := Ground.data }, { on := 24, ground := Ground.data }, { on := 23, ground := Ground.chain }, { on := 0, ground := Ground.phase }, { on := 1, ground := Ground.phase }, { on := 2, ground := Ground.phase }, { on := 3, ground := Ground.phase }, { on := 4, ground := Ground.phase }, { on := 5, ground := Ground.phase }, { on := 6, ground := Ground.phase }, { on := 7, ground := Ground.phase }, { on := 8, ground := Ground.phase }, { on := 9, ground := Ground.phase }, { on := 10, ground := Ground.phase }, { on := 11, ground := Ground.phase }, { on := 12, ground := Ground.phase }, { on := 13, ground := Ground.phase }, { on := 14, ground := Ground.phase }, { on := 15, ground := Ground.phase }, { on := 16, ground := Ground.phase }, { on := 17, ground := Ground.phase }, { on := 18, ground := Ground.phase }, { on := 19, ground := Ground.phase }, { on := 20, ground := Ground.phase }, { on := 21, ground := Ground.phase }, { on := 22, ground := Ground.phase }, { on := 23, ground := Ground.phase }, { on := 24, ground := Ground.phase }], guard := none }) (by kernel_rfl) rfl (by rfl) (fun K hK => ?_)
        obtain ⟨⟨u0, cc⟩, zz⟩ := HF3.out.cellAt k (by rw [HN.out]; exact hlt); go_simp; have HF6 := Lib.hid (HF3.out.put false HX.out); clear cc zz; generalize W4.setCell ⟨r, k, none⟩ (.bool false) = W6 at *
        refine hK.out _ _ ?_
        clear hK K
        try simp only [Act.put, List.setIfInBounds_toArray, List.set_cons_zero, List.set_cons_succ]
        refine wpAnyG_done (by kernel_rfl) ?_ _
        have ws : IntKind.i64.wrap ((k : Int) + 1) = (k : Int) + 1 := IntWalk.i64_in _ (by have := HSM.out; omega)
        go_wp2_with fail
        go_roundg (gk - 1)
        case measure => omega
        case rel => exact ⟨k + 1, by omega, by simp, HF6.out⟩
    · have hke : k = N := by omega
      subst hke
      have hlt' : ¬ ((k : Nat) : Int) < (k : Int) := by omega
      go_wp2_with fail
      go_end0
      rw [HN.out]
      exact ⟨rfl, r, HF.out⟩
end
end Go.Proofs.YtbppaiejpgdbiaaGreat

/- Layer 10 (vocab): Alone. -/
namespace Go.Proofs.YtbppaiejpgdbiaaGreat
open Go.RowKit Go.Maps Go.WideMaps
set_option maxRecDepth 100000
set_option linter.unusedVariables false
set_option linter.unusedSimpArgs false
/-- is a token alone, by a vocabulary -/
def VocP.aln (p : VocP) (id : Int) : Bool := (fndI p.s.xs id).isSome || (hasT p.T id && aloneB p.T (Cof p.s.cs) (Jof p.s.js) id)
theorem add64_w (w : World) (b o : Nat) (n d : Int) (h : w.cell? ⟨b, o, none⟩ = some (.int .i64 n)) (hz : w.frozen? ⟨b, o, none⟩ = false) :
    Calls Tryz.prog 92 #[.pointer (some ⟨b, o, none⟩), .int .i64 d] w fun e w' => ∃ x, e = .returned (.int .i64 x) ∧ w' = w.setCell ⟨b, o, none⟩ (.int .i64 x) := by
  obtain ⟨x, hx⟩ : ∃ x, IntKind.i64.wrap (n + d) = x := ⟨_, rfl⟩
  have hadd := run_call_add (P := Tryz.prog) Tryz.func131 (by kernel_rfl) (by kernel_rfl) (by kernel_rfl) .i64 (by kernel_rfl) (y := d) (s := x) h hz (by rw [← hx]; simp [go_sem])
  clear h hz hx
  go_enter Tryz.func92, Tryz.ntmps92
  go_wp2_with fail
  go_ret
  exact ⟨x, rfl, rfl⟩
theorem valone_nil (id : Int) (w : World) : Calls Tryz.prog 51 #[.pointer none, .int .i64 id] w fun e w' => e = .returned (.bool false) ∧ w' = w := by
  go_enter Tryz.func51, Tryz.ntmps51
  go_wp2_with fail
  go_ret
  exact ⟨rfl, rfl⟩
/-- what is known once a vocabulary was asked -/
def AskV (w w' : World) (base : Nat) (p : VocP) (g : Option Nat) : Prop :=
  ∃ g', VocAt w' base p g' ∧ Keep (fun x => x = p.vb) w w' ∧ (g' = g ∨ ∃ x, g' = some x ∧ w.heap.size ≤ x)
section
variable {w w' : World} {base : Nat} {p : VocP} {g : Option Nat}
theorem al_at (p : VocP) (k : Nat) (hk : k < p.T.length) : (p.al p.T.length)[k]? = some (aloneB p.T (Cof p.s.cs) (Jof p.s.js) (k : Int)) := by
  unfold VocP.al aloneL
  simp [hk]
/-- the row that find made, or had made -/
def RowV (w : World) (p : VocP) (r : Nat) : Prop := w.ownsRow r 4 1 (.slice (some ⟨r, 0, none⟩) p.T.length p.T.length) p.T.length ((p.al p.T.length).map Value.bool)
theorem RowV.keep {w w' : World} {p : VocP} {r : Nat} (h : RowV w p r) (hr : p.vb < r) (k : Keep (fun x => x = p.vb) w w') : RowV w' p r := own_keep h k (fun y hy => by simp only [Value.ownBlock, Option.some.injEq] at hy; omega)
theorem RowV.at {w : World} {p : VocP} {r : Nat} (h : RowV w p r) (k : Nat) (hk : k < p.T.length) : w.cell? ⟨r, k, none⟩ = some (.bool (aloneB p.T (Cof p.s.cs) (Jof p.s.js) (k : Int))) := by
  obtain ⟨g, cap, e, _, _, hc⟩ := own_open h (by omega)
  injection e with e _ _
  injection e with e
  injection e with e _
  subst e
  exact (hc k _ (by rw [List.getElem?_map, al_at p k hk]; rfl)).1
theorem vdo_any {V : World} {l : Value} {dn st se us : Int} (h : VocQ V base p l dn st se us) (hT : OkT p.T) (h2 : (l = .slice none 0 0 ∧ dn = 0 ∧ st = 0) ∨ ∃ r, p.vb < r ∧ l = .slice (some ⟨r, 0, none⟩) p.T.length p.T.length ∧ dn = 1 ∧ RowV V p r) :
    Calls Tryz.prog 94 #[.pointer (some ⟨p.vb, 9, none⟩), .func (.func 95) #[.pointer (some ⟨p.vb, 0, none⟩)] #[]] V fun e w' => e = .returned (.tuple #[]) ∧
      ∃ r st', VocQ w' base p (.slice (some ⟨r, 0, none⟩) p.T.length p.T.length) 1 st' se us ∧ p.vb < r ∧ RowV w' p r ∧ Keep (fun x => x = p.vb) V w' ∧ (l = .slice (some ⟨r, 0, none⟩) p.T.length p.T.length ∧ dn = 1 ∨ V.heap.size ≤ r) := by
  rcases h2 with ⟨rfl, rfl, rfl⟩ | ⟨r, hr, rfl, rfl, hrow⟩
  · have hS : VocQ (V.setCell ⟨p.vb, 10, none⟩ (.int .i32 1)) base p (.slice none 0 0) 0 1 se us := h.putS 1
    have hF := find_any hS hT
    have hk1 : Keep (fun x => x = p.vb) V (V.setCell ⟨p.vb, 10, none⟩ (.int .i32 1)) := (Keep.refl (fun x => x = p.vb) V).setCell (p := ⟨p.vb, 10, none⟩) (.inl rfl) _
    refine (do_first (R := fun w1 => ∃ r, FindIs (V.setCell ⟨p.vb, 10, none⟩ (.int .i32 1)) w1 base p r 0 1 se us p.T.length) p.vb 9 p.vb V h.cellD h.cellS (h.froz 10) (hF.mono ?_)).mono ?_
    · rintro e w1 ⟨rfl, r, hf⟩
      exact ⟨rfl, ⟨r, hf⟩, hf.voc.cellD, hf.voc.cellS, hf.voc.froz 9, hf.voc.froz 10⟩
    · rintro e w' ⟨rfl, w1, ⟨r, hf⟩, rfl⟩
      have hvr : p.vb < r := Nat.lt_of_lt_of_le hf.vlt hf.lt
      have hk2 : Keep (fun x => x = p.vb) w1 ((w1.drew.setCell ⟨p.vb, 9, none⟩ (.int .u32 1)).setCell ⟨p.vb, 10, none⟩ (.int .i32 0)) :=
        (((Keep.refl (fun x => x = p.vb) w1).drew).setCell (p := ⟨p.vb, 9, none⟩) (.inl rfl) _).setCell (p := ⟨p.vb, 10, none⟩) (.inl rfl) _
      have hrow : RowV w1 p r := hf.row
      refine ⟨rfl, r, 0, (hf.voc.drew.putD 1).putS 0, hvr, hrow.keep hvr hk2, (hk1.trans hf.keep (fun x hx => .inl hx)).trans hk2 (fun x hx => .inl hx), .inr (Nat.le_trans hk1.size hf.lt)⟩
  · refine (do_done p.vb 9 _ V h.cellD).mono ?_
    rintro e w' ⟨rfl, rfl⟩
    exact ⟨rfl, r, st, h, hr, hrow, Keep.refl _ _, .inl ⟨rfl, rfl⟩⟩
set_option maxHeartbeats 2000000 in
theorem valone_any (h : VocAt w base p g) (hT : OkT p.T) (id : Int) (hw : (Lit.int .i64 id).wf = true) (hM : p.s.xs.length ≤ 1000) :
    Calls Tryz.prog 51 #[.pointer (some ⟨p.vb, 0, none⟩), .int .i64 id] w fun e w' => e = .returned (.bool (p.aln id)) ∧ AskV w w' base p g := by
  obtain ⟨l, dn, st, se, us, h1, h2⟩ := h
  have HU := Lib.hid (add64_w w p.vb 13 us 1 h1.cellU (h1.froz 13))
  have HV : Hid (∀ x, VocQ (w.setCell ⟨p.vb, 13, none⟩ (.int .i64 x)) base p l dn st se x) := Lib.hid (fun x => h1.putU x)
  have HK : Hid (∀ x, Keep (fun x => x = p.vb) w (w.setCell ⟨p.vb, 13, none⟩ (.int .i64 x))) := Lib.hid (fun x => (Keep.refl (fun x => x = p.vb) w).setCell (p := ⟨p.vb, 13, none⟩) (.inl rfl) (.int .i64 x))
  have HW := Lib.hid hw
  have HM := Lib.hid hM
  have H2 := Lib.hid h2
  have HT := Lib.hid hT
  have HVL := Lib.hid h1.lt_size
  clear h1 h2 hw hM hT
  unfold VocP.aln
  go_enter Tryz.func51, Tryz.ntmps51
  go_upto_region 4 with (go_at_call 92; refine HU.out.mono ?_; rintro e V1 ⟨x, rfl, rfl⟩)
  clear HU
  have HV := Lib.hid (HV.out x)
  have HK := Lib.hid (HK.out x)
  generalize w.setCell ⟨p.vb, 13, none⟩ (.int .i64 x) = V at *
  have HMA := Lib.hid (mark_any HV.out.mrk id HW.out HM.out)
  have cM := HV.out.cellM
  cases hf : fndI p.s.xs id with
  | some i =>
    rw [hf] at HMA
    simp only [Option.isSome_some] at HMA
    have HFN := Lib.hid hf
    clear hf
    go_wp2_with (go_at_call 93; refine HMA.out.mono ?_; rintro e V1 ⟨rfl, rfl⟩)
    go_ret
    refine ⟨by rw [HFN.out]; simp, g, ⟨l, dn, st, se, x, HV.out, ?_⟩, HK.out, .inl rfl⟩
    rcases H2.out with h | ⟨r, h3, h4, h5, h6, h7⟩
    · exact .inl h
    · exact .inr ⟨r, h3, h4, h5, h6, own_keep h7 HK.out (fun y hy => by simp only [Value.ownBlock, Option.some.injEq] at hy; omega)⟩
  | none =>
    rw [hf] at HMA
    simp only [Option.isSome_none] at HMA
    have HFN := Lib.hid hf
    clear hf
    go_upto_region 7 with (go_at_call 93; refine HMA.out.mono ?_; rintro e V1 ⟨rfl, rfl⟩)
    clear HMA cM
    have HD := Lib.hid (vdo_any HV.out HT.out (by
      rcases H2.out with ⟨_, h3, h4, h5⟩ | ⟨r, h3, h4, h5, h6, h7⟩
      · exact .inl ⟨h3, h4, h5⟩
      · exact .inr ⟨r, h4, h5, h6, RowV.keep h7 h4 HK.out⟩))
    go_upto_region 8 with (go_at_call 94; refine HD.out.mono ?_; rintro e W ⟨rfl, r, st', hv, hr, hrow, hk, hl⟩)
    have HA : Hid (AskV w W base p g) := Lib.hid (by
      refine ⟨some r, ⟨_, 1, st', se, x, hv, .inr ⟨r, rfl, hr, rfl, rfl, hrow⟩⟩, HK.out.trans hk (fun y hy => .inl hy), ?_⟩
      rcases hl with ⟨h8, h9⟩ | h8
      · rcases H2.out with ⟨_, _, h4, _⟩ | ⟨r', h3, _, h5, _⟩
        · omega
        · left
          rw [h5] at h8
          injection h8 with h8
          injection h8 with h8
          injection h8 with h8
          rw [h3, h8]
      · exact .inr ⟨r, rfl, Nat.le_trans HK.out.size h8⟩)
    have HR := Lib.hid hrow
    have cL := hv.cellL
    clear HD HV HK hv hr hrow hk hl H2
    by_cases h0 : (0 : Int) ≤ id
    · by_cases h1 : id < (p.T.length : Int)
      · obtain ⟨k, rfl⟩ := Int.eq_ofNat_of_zero_le h0
        have hh : hasT p.T ((k : Nat) : Int) = true := hasT_iff.2 ⟨h0, h1⟩
        have cK := HR.out.at k (by omega)
        have HH := Lib.hid hh
        clear hh
        go_upto_region 9 with fail
        go_wp2_with fail
        go_ret
        exact ⟨by rw [HFN.out, HH.out]; simp, HA.out⟩
      · have hh : hasT p.T id = false := by rw [Bool.eq_false_iff]; intro h; exact h1 (hasT_iff.1 h).2
        have HH := Lib.hid hh
        clear hh
        go_wp2_with fail
        go_ret
        exact ⟨by rw [HFN.out, HH.out]; simp, HA.out⟩
    · have hh : hasT p.T id = false := by rw [Bool.eq_false_iff]; intro h; exact h0 (hasT_iff.1 h).1
      have HH := Lib.hid hh
      clear hh
      go_wp2_with fail
      go_ret
      exact ⟨by rw [HFN.out, HH.out]; simp, HA.out⟩
end
end Go.Proofs.YtbppaiejpgdbiaaGreat

/- Layer 14 (spine): a walk in memory: blocked, left, right. -/
namespace Go.Proofs.YtbppaiejpgdbiaaGreat
open Go.RowKit Go.Maps Go.WideMaps
set_option maxRecDepth 100000
set_option linter.unusedVariables false
set_option linter.unusedSimpArgs false

structure WalkIs (w : World) (base wb tbase tb : Nat) (T : List Ent) (sv : Value) (mb mp : Nat) (A B lim st : Int) : Prop where
  blk : w.heap[wb]? = some (.cells #[.int .i64 A, .int .i64 B, .pointer (some ⟨tb, 0, none⟩), .int .i64 lim, .int .i64 st] 121)
  tab : TabIs w tbase tb T sv mb mp
  tlt : ∀ x, tabF tb sv mb mp x → x < base
  le : base ≤ wb
theorem WalkIs.below {w w' : World} {C base wb tbase tb : Nat} {T : List Ent} {sv : Value} {mb mp : Nat} {A B lim st : Int} (h : WalkIs w base wb tbase tb T sv mb mp A B lim st) (hb : Below C w w') (hC : w.heap.size ≤ C) : WalkIs w' base wb tbase tb T sv mb mp A B lim st :=
  ⟨blk_below hb (Nat.lt_of_lt_of_le (blk_lt h.blk) hC) h.blk, h.tab.below hb hC, h.tlt, h.le⟩
theorem name_blk {W : World} {X : Nat} {o : Obj} (h : W.heap[X]? = some o) : ∃ nb, X = nb ∧ W.heap[nb]? = some o := ⟨X, rfl, h⟩
section
variable {w w' : World} {base wb tbase tb : Nat} {T : List Ent} {sv : Value} {mb mp : Nat} {A B lim st : Int}
set_option maxHeartbeats 4000000 in
theorem left_no (h : WalkIs w base wb tbase tb T sv mb mp A B lim st) (hn : bornT T A = false) :
    Calls Tryz.prog 139 #[.pointer (some ⟨wb, 0, none⟩)] w fun e w' => e = .returned (.bool false) ∧ Below w.heap.size w w' := by
  have h0 := blk_cell h.blk 0
  have h2 := blk_cell h.blk 2
  simp only [List.getElem?_toArray, List.getElem?_cons_zero, List.getElem?_cons_succ] at h0 h2
  have HH := Lib.hid h
  have HNB := Lib.hid hn
  clear h hn
  go_enter Tryz.func139, Tryz.ntmps139
  go_upto_region 1 with fail
  have HBB : Hid (Below w.heap.size w w.drew) := Lib.hid ⟨rfl, rfl, rfl, Nat.le_refl _, fun _ _ => rfl⟩
  have HSC : Hid (∀ V, Below w.heap.size w V → V.cell? ⟨wb, 0, none⟩ = some (.int .i64 A) ∧ V.cell? ⟨wb, 2, none⟩ = some (.pointer (some ⟨tb, 0, none⟩))) := Lib.hid (fun V hV => ⟨below_cell hV (Nat.le_refl _) h0, below_cell hV (Nat.le_refl _) h2⟩)
  obtain ⟨q1, q2, hq⟩ : ∃ q1 q2, parT T A = (q1, q2) := ⟨_, _, rfl⟩
  have HQ := Lib.hid hq
  clear h0 h2 hq
  refine wp_region_D (Ds := [15]) (S := fun V => V.cell? ⟨wb, 0, none⟩ = some (.int .i64 A) ∧ V.cell? ⟨wb, 2, none⟩ = some (.pointer (some ⟨tb, 0, none⟩))) (by kernel_rfl) (by exact HSC.out _ HBB.out) (fun hHeld => ?_)
  generalize w.drew = W0 at *
  refine wpAnyD_takeP (i := 0) (oi := { dst := some 6, op := Op.move (Operand.tmp 0), type := 116, pos := "spine.go:36", after := #[], guard := none }) (d := 6) (v := ?_) rfl rfl (by kernel_rfl) (by kernel_rfl) (by kernel_rfl) (fun _ _ _ h => h) (Or.inl ⟨by rfl, ?_⟩) ?_
  rotate_left
  · (intro w' _; go_simp; (try with_reducible rfl))
  simp only [List.setIfInBounds_toArray, List.set_cons_zero, List.set_cons_succ]
  refine wpAnyD_takeP (i := 1) (oi := { dst := some 7, op := Op.nilCheck (Operand.tmp 6), type := 0, pos := "spine.go:36", after := #[{ on := 0, ground := Ground.data }], guard := none }) (d := 7) (v := ?_) rfl rfl (by kernel_rfl) (by kernel_rfl) (by kernel_rfl) (fun _ _ _ h => h) (Or.inl ⟨by rfl, ?_⟩) ?_
  rotate_left
  · (intro w' _; go_simp; (try with_reducible rfl))
  simp only [List.setIfInBounds_toArray, List.set_cons_zero, List.set_cons_succ]
  refine wpAnyD_takeP (i := 2) (oi := { dst := some 8, op := Op.fieldAddr 121 (Operand.tmp 7) 1, type := 0, pos := "spine.go:36", after := #[{ on := 1, ground := Ground.data }], guard := none }) (d := 8) (v := ?_) rfl rfl (by kernel_rfl) (by kernel_rfl) (by kernel_rfl) (fun _ _ _ h => h) (Or.inl ⟨by rfl, ?_⟩) ?_
  rotate_left
  · (intro w' _; go_simp; (try with_reducible rfl))
  simp only [List.setIfInBounds_toArray, List.set_cons_zero, List.set_cons_succ]
  refine wpAnyD_takeP (i := 4) (oi := { dst := some 10, op := Op.move (Operand.tmp 0), type := 116, pos := "spine.go:36", after := #[], guard := none }) (d := 10) (v := ?_) rfl rfl (by kernel_rfl) (by kernel_rfl) (by kernel_rfl) (fun _ _ _ h => h) (Or.inl ⟨by rfl, ?_⟩) ?_
  rotate_left
  · (intro w' _; go_simp; (try with_reducible rfl))
  simp only [List.setIfInBounds_toArray, List.set_cons_zero, List.set_cons_succ]
  refine wpAnyD_takeP (i := 5) (oi := { dst := some 11, op := Op.nilCheck (Operand.tmp 10), type := 0, pos := "spine.go:36", after := #[{ on := 4, ground := Ground.data }], guard := none }) (d := 11) (v := ?_) rfl rfl (by kernel_rfl) (by kernel_rfl) (by kernel_rfl) (fun _ _ _ h => h) (Or.inl ⟨by rfl, ?_⟩) ?_
  rotate_left
  · (intro w' _; go_simp; (try with_reducible rfl))
  simp only [List.setIfInBounds_toArray, List.set_cons_zero, List.set_cons_succ]
  refine wpAnyD_takeP (i := 6) (oi := { dst := some 12, op := Op.fieldAddr 121 (Operand.tmp 11) 0, type := 0, pos := "spine.go:36", after := #[{ on := 5, ground := Ground.data }], guard := none }) (d := 12) (v := ?_) rfl rfl (by kernel_rfl) (by kernel_rfl) (by kernel_rfl) (fun _ _ _ h => h) (Or.inl ⟨by rfl, ?_⟩) ?_
  rotate_left
  · (intro w' _; go_simp; (try with_reducible rfl))
  simp only [List.setIfInBounds_toArray, List.set_cons_zero, List.set_cons_succ]
  refine wpAnyD_takeP (i := 7) (oi := { dst := some 13, op := Op.fieldAddr 119 (Operand.tmp 12) 0, type := 0, pos := "spine.go:36", after := #[{ on := 6, ground := Ground.data }], guard := none }) (d := 13) (v := ?_) rfl rfl (by kernel_rfl) (by kernel_rfl) (by kernel_rfl) (fun _ _ _ h => h) (Or.inl ⟨by rfl, ?_⟩) ?_
  rotate_left
  · (intro w' _; go_simp; (try with_reducible rfl))
  simp only [List.setIfInBounds_toArray, List.set_cons_zero, List.set_cons_succ]
  refine wpAnyD_takeP (i := 8) (oi := { dst := some 14, op := Op.fieldAddr 55 (Operand.tmp 13) 0, type := 0, pos := "spine.go:36", after := #[{ on := 7, ground := Ground.data }], guard := none }) (d := 14) (v := ?_) rfl rfl (by kernel_rfl) (by kernel_rfl) (by kernel_rfl) (fun _ _ _ h => h) (Or.inl ⟨by rfl, ?_⟩) ?_
  rotate_left
  · (intro w' _; go_simp; (try with_reducible rfl))
  simp only [List.setIfInBounds_toArray, List.set_cons_zero, List.set_cons_succ]
  refine wpAnyD_takeD (i := 3) (oi := { dst := some 9, op := Op.load 63 (Operand.tmp 8), type := 63, pos := "spine.go:36", after := #[{ on := 2, ground := Ground.data }], guard := none }) (d := 9) (v := ?_) rfl rfl (by kernel_rfl) (by kernel_rfl) (by kernel_rfl) (by kernel_rfl) (fun _ _ _ h => h) (Or.inl ⟨by rfl, ?_⟩) hHeld ?_
  rotate_left
  · (intro w' hSw; (try dsimp only at hSw); go_simp; (try with_reducible rfl))
  simp only [List.setIfInBounds_toArray, List.set_cons_zero, List.set_cons_succ]
  refine wpAnyD_takeD (i := 9) (oi := { dst := some 15, op := Op.load 3 (Operand.tmp 14), type := 3, pos := "spine.go:36", after := #[{ on := 8, ground := Ground.data }], guard := none }) (d := 15) (v := ?_) rfl rfl (by kernel_rfl) (by kernel_rfl) (by kernel_rfl) (by kernel_rfl) (fun _ _ _ h => h) (Or.inl ⟨by rfl, ?_⟩) hHeld ?_
  rotate_left
  · (intro w' hSw; (try dsimp only at hSw); go_simp; (try with_reducible rfl))
  simp only [List.setIfInBounds_toArray, List.set_cons_zero, List.set_cons_succ]
  refine wpAnyD_two (i := 10) (j := 14) (oi := { dst := some 16, op := Op.call { callee := Callee.value (Operand.func 57), args := #[Operand.tmp 9, Operand.tmp 15], argTypes := #[63, 3] }, type := 110, pos := "spine.go:36", after := #[{ on := 3, ground := Ground.data }, { on := 9, ground := Ground.data }], guard := none }) (oj := { dst := some 3, op := Op.alloc 55, type := 0, pos := "spine.go:36", after := #[], guard := none }) (by kernel_rfl) rfl rfl (by rfl) (by rfl) (fun K hK => ?_) (fun K hK => ?_)
  ·
    go_simp; refine (par_tab A (HH.out.tab.below HBB.out (Nat.le_refl _))).mono ?_; rintro e V1 ⟨rfl, hb⟩; rw [HNB.out, HQ.out]; unfold pairV; (try (replace HNW := Lib.hid (And.intro (blk_below hb (blk_lt HNW.out.1) HNW.out.1) HNW.out.2))); replace HBB := Lib.hid (HBB.out.trans (hb.mono HBB.out.size)); have h := HSC.out _ HBB.out; clear hb; go_simp
    refine hK.out _ _ h (fun hHeld => ?_)
    clear hK K
    try simp only [Act.put, List.setIfInBounds_toArray, List.set_cons_zero, List.set_cons_succ]
    refine wpAnyD_takeP (i := 11) (oi := { dst := some 5, op := Op.move (Operand.tmp 16), type := 110, pos := "spine.go:36", after := #[{ on := 10, ground := Ground.data }], guard := none }) (d := 5) (v := ?_) rfl rfl (by kernel_rfl) (by kernel_rfl) (by kernel_rfl) (fun _ _ _ h => h) (Or.inl ⟨by rfl, ?_⟩) ?_
    rotate_left
    · (intro w' _; go_simp; (try with_reducible rfl))
    simp only [List.setIfInBounds_toArray, List.set_cons_zero, List.set_cons_succ]
    refine wpAnyD_takeP (i := 12) (oi := { dst := some 17, op := Op.extract (Operand.tmp 5) 0, type := 55, pos := "spine.go:36", after := #[{ on := 11, ground := Ground.data }], guard := none }) (d := 17) (v := ?_) rfl rfl (by kernel_rfl) (by kernel_rfl) (by kernel_rfl) (fun _ _ _ h => h) (Or.inl ⟨by rfl, ?_⟩) ?_
    rotate_left
    · (intro w' _; go_simp; (try with_reducible rfl))
    simp only [List.setIfInBounds_toArray, List.set_cons_zero, List.set_cons_succ]
    refine wpAnyD_takeP (i := 13) (oi := { dst := some 18, op := Op.extract (Operand.tmp 5) 1, type := 4, pos := "spine.go:36", after := #[{ on := 11, ground := Ground.data }, { on := 15, ground := Ground.gcOnly Departure.lateStores }], guard := none }) (d := 18) (v := ?_) rfl rfl (by kernel_rfl) (by kernel_rfl) (by kernel_rfl) (fun _ _ _ h => h) (Or.inl ⟨by rfl, ?_⟩) ?_
    rotate_left
    · (intro w' _; go_simp; (try with_reducible rfl))
    simp only [List.setIfInBounds_toArray, List.set_cons_zero, List.set_cons_succ]
    refine wpAnyD_one (i := 14) (o := { dst := some 3, op := Op.alloc 55, type := 0, pos := "spine.go:36", after := #[], guard := none }) (by kernel_rfl) rfl (by rfl) (fun K hK => ?_)
    go_simp; have HNW := Lib.hid (And.intro (bel_new HBB.out (.cells #[.int .i64 0, .int .i64 0] 55)) HBB.out.size); have HBB := Lib.hid (bel_alloc HBB.out (.cells #[.int .i64 0, .int .i64 0] 55)); refine gen_below HBB.out rfl (fun W' hW' => ?_); rw [← hW'] at HBB HNW; clear hW'; have h := HSC.out _ HBB.out
    refine hK.out _ _ h (fun hHeld => ?_)
    clear hK K
    try simp only [Act.put, List.setIfInBounds_toArray, List.set_cons_zero, List.set_cons_succ]
    refine wpAnyD_last (D := 15) (by decide) (o := { dst := none, op := Op.store 55 (Operand.tmp 3) (Operand.tmp 17), type := 0, pos := "spine.go:36", after := #[{ on := 14, ground := Ground.data }, { on := 12, ground := Ground.data }, { on := 10, ground := Ground.chain }, { on := 0, ground := Ground.phase }, { on := 1, ground := Ground.phase }, { on := 2, ground := Ground.phase }, { on := 3, ground := Ground.phase }, { on := 4, ground := Ground.phase }, { on := 5, ground := Ground.phase }, { on := 6, ground := Ground.phase }, { on := 7, ground := Ground.phase }, { on := 8, ground := Ground.phase }, { on := 9, ground := Ground.phase }, { on := 10, ground := Ground.phase }, { on := 11, ground := Ground.phase }, { on := 12, ground := Ground.phase }, { on := 13, ground := Ground.textOnly Departure.lateStores }, { on := 14, ground := Ground.phase }], guard := none }) (by kernel_rfl) rfl (by rfl) (fun K hK => ?_)
    have d0 := blk_cell HNW.out.1 0; have d1 := blk_cell HNW.out.1 1; have z0 := blk_froz HNW.out.1 0; have z1 := blk_froz HNW.out.1 1; simp only [List.getElem?_toArray, List.getElem?_cons_zero, List.getElem?_cons_succ] at d0 d1; go_simp; have HBB := Lib.hid (bel_put HBB.out HNW.out.2 (.int .i64 q1) (.int .i64 q2)); refine gen_below HBB.out rfl (fun W' hW' => ?_); rw [← hW'] at HBB; clear hW' d0 d1 z0 z1
    refine hK.out _ _ ?_
    clear hK K
    try simp only [Act.put, List.setIfInBounds_toArray, List.set_cons_zero, List.set_cons_succ]
    refine wpAnyD_takeP (i := 16) (oi := { dst := some 4, op := Op.assign (Operand.tmp 18), type := 4, pos := "spine.go:36", after := #[{ on := 13, ground := Ground.data }, { on := 15, ground := Ground.chain }, { on := 0, ground := Ground.phase }, { on := 1, ground := Ground.phase }, { on := 2, ground := Ground.phase }, { on := 3, ground := Ground.phase }, { on := 4, ground := Ground.phase }, { on := 5, ground := Ground.phase }, { on := 6, ground := Ground.phase }, { on := 7, ground := Ground.phase }, { on := 8, ground := Ground.phase }, { on := 9, ground := Ground.phase }, { on := 10, ground := Ground.phase }, { on := 11, ground := Ground.phase }, { on := 12, ground := Ground.phase }, { on := 13, ground := Ground.phase }, { on := 14, ground := Ground.phase }, { on := 15, ground := Ground.phase }], guard := none }) (d := 4) (v := ?_) rfl rfl (by kernel_rfl) (by kernel_rfl) (by kernel_rfl) (fun _ _ _ h => h) (Or.inl ⟨by rfl, ?_⟩) ?_
    rotate_left
    · (intro w' _; go_simp; (try with_reducible rfl))
    simp only [List.setIfInBounds_toArray, List.set_cons_zero, List.set_cons_succ]
    refine wpAnyD_done (by kernel_rfl) ?_ _
    go_wp2_with fail
    go_ret
    exact ⟨rfl, HBB.out⟩
  ·
    go_simp; have HNW := Lib.hid (And.intro (bel_new HBB.out (.cells #[.int .i64 0, .int .i64 0] 55)) HBB.out.size); have HBB := Lib.hid (bel_alloc HBB.out (.cells #[.int .i64 0, .int .i64 0] 55)); refine gen_below HBB.out rfl (fun W' hW' => ?_); rw [← hW'] at HBB HNW; clear hW'; have h := HSC.out _ HBB.out
    refine hK.out _ _ h (fun hHeld => ?_)
    clear hK K
    try simp only [Act.put, List.setIfInBounds_toArray, List.set_cons_zero, List.set_cons_succ]
    refine wpAnyD_one (i := 10) (o := { dst := some 16, op := Op.call { callee := Callee.value (Operand.func 57), args := #[Operand.tmp 9, Operand.tmp 15], argTypes := #[63, 3] }, type := 110, pos := "spine.go:36", after := #[{ on := 3, ground := Ground.data }, { on := 9, ground := Ground.data }], guard := none }) (by kernel_rfl) rfl (by rfl) (fun K hK => ?_)
    go_simp; refine (par_tab A (HH.out.tab.below HBB.out (Nat.le_refl _))).mono ?_; rintro e V1 ⟨rfl, hb⟩; rw [HNB.out, HQ.out]; unfold pairV; (try (replace HNW := Lib.hid (And.intro (blk_below hb (blk_lt HNW.out.1) HNW.out.1) HNW.out.2))); replace HBB := Lib.hid (HBB.out.trans (hb.mono HBB.out.size)); have h := HSC.out _ HBB.out; clear hb; go_simp
    refine hK.out _ _ h (fun hHeld => ?_)
    clear hK K
    try simp only [Act.put, List.setIfInBounds_toArray, List.set_cons_zero, List.set_cons_succ]
    refine wpAnyD_takeP (i := 11) (oi := { dst := some 5, op := Op.move (Operand.tmp 16), type := 110, pos := "spine.go:36", after := #[{ on := 10, ground := Ground.data }], guard := none }) (d := 5) (v := ?_) rfl rfl (by kernel_rfl) (by kernel_rfl) (by kernel_rfl) (fun _ _ _ h => h) (Or.inl ⟨by rfl, ?_⟩) ?_
    rotate_left
    · (intro w' _; go_simp; (try with_reducible rfl))
    simp only [List.setIfInBounds_toArray, List.set_cons_zero, List.set_cons_succ]
    refine wpAnyD_takeP (i := 12) (oi := { dst := some 17, op := Op.extract (Operand.tmp 5) 0, type := 55, pos := "spine.go:36", after := #[{ on := 11, ground := Ground.data }], guard := none }) (d := 17) (v := ?_) rfl rfl (by kernel_rfl) (by kernel_rfl) (by kernel_rfl) (fun _ _ _ h => h) (Or.inl ⟨by rfl, ?_⟩) ?_
    rotate_left
    · (intro w' _; go_simp; (try with_reducible rfl))
    simp only [List.setIfInBounds_toArray, List.set_cons_zero, List.set_cons_succ]
    refine wpAnyD_takeP (i := 13) (oi := { dst := some 18, op := Op.extract (Operand.tmp 5) 1, type := 4, pos := "spine.go:36", after := #[{ on := 11, ground := Ground.data }, { on := 15, ground := Ground.gcOnly Departure.lateStores }], guard := none }) (d := 18) (v := ?_) rfl rfl (by kernel_rfl) (by kernel_rfl) (by kernel_rfl) (fun _ _ _ h => h) (Or.inl ⟨by rfl, ?_⟩) ?_
    rotate_left
    · (intro w' _; go_simp; (try with_reducible rfl))
    simp only [List.setIfInBounds_toArray, List.set_cons_zero, List.set_cons_succ]
    refine wpAnyD_last (D := 15) (by decide) (o := { dst := none, op := Op.store 55 (Operand.tmp 3) (Operand.tmp 17), type := 0, pos := "spine.go:36", after := #[{ on := 14, ground := Ground.data }, { on := 12, ground := Ground.data }, { on := 10, ground := Ground.chain }, { on := 0, ground := Ground.phase }, { on := 1, ground := Ground.phase }, { on := 2, ground := Ground.phase }, { on := 3, ground := Ground.phase }, { on := 4, ground := Ground.phase }, { on := 5, ground := Ground.phase }, { on := 6, ground := Ground.phase }, { on := 7, ground := Ground.phase }, { on := 8, ground := Ground.phase }, { on := 9, ground := Ground.phase }, { on := 10, ground := Ground.phase }, { on := 11, ground := Ground.phase }, { on := 12, ground := Ground.phase }, { on := 13, ground := Ground.textOnly Departure.lateStores }, { on := 14, ground := Ground.phase }], guard := none }) (by kernel_rfl) rfl (by rfl) (fun K hK => ?_)
    have d0 := blk_cell HNW.out.1 0; have d1 := blk_cell HNW.out.1 1; have z0 := blk_froz HNW.out.1 0; have z1 := blk_froz HNW.out.1 1; simp only [List.getElem?_toArray, List.getElem?_cons_zero, List.getElem?_cons_succ] at d0 d1; go_simp; have HBB := Lib.hid (bel_put HBB.out HNW.out.2 (.int .i64 q1) (.int .i64 q2)); refine gen_below HBB.out rfl (fun W' hW' => ?_); rw [← hW'] at HBB; clear hW' d0 d1 z0 z1
    refine hK.out _ _ ?_
    clear hK K
    try simp only [Act.put, List.setIfInBounds_toArray, List.set_cons_zero, List.set_cons_succ]
    refine wpAnyD_takeP (i := 16) (oi := { dst := some 4, op := Op.assign (Operand.tmp 18), type := 4, pos := "spine.go:36", after := #[{ on := 13, ground := Ground.data }, { on := 15, ground := Ground.chain }, { on := 0, ground := Ground.phase }, { on := 1, ground := Ground.phase }, { on := 2, ground := Ground.phase }, { on := 3, ground := Ground.phase }, { on := 4, ground := Ground.phase }, { on := 5, ground := Ground.phase }, { on := 6, ground := Ground.phase }, { on := 7, ground := Ground.phase }, { on := 8, ground := Ground.phase }, { on := 9, ground := Ground.phase }, { on := 10, ground := Ground.phase }, { on := 11, ground := Ground.phase }, { on := 12, ground := Ground.phase }, { on := 13, ground := Ground.phase }, { on := 14, ground := Ground.phase }, { on := 15, ground := Ground.phase }], guard := none }) (d := 4) (v := ?_) rfl rfl (by kernel_rfl) (by kernel_rfl) (by kernel_rfl) (fun _ _ _ h => h) (Or.inl ⟨by rfl, ?_⟩) ?_
    rotate_left
    · (intro w' _; go_simp; (try with_reducible rfl))
    simp only [List.setIfInBounds_toArray, List.set_cons_zero, List.set_cons_succ]
    refine wpAnyD_done (by kernel_rfl) ?_ _
    go_wp2_with fail
    go_ret
    exact ⟨rfl, HBB.out⟩
set_option maxHeartbeats 8000000 in
theorem left_yes (h : WalkIs w base wb tbase tb T sv mb mp A B lim st) (hn : bornT T A = true) (hx : 0 ≤ A ∧ A < 100000) (hst : 0 ≤ st ∧ st < 1000000000) :
    Calls Tryz.prog 139 #[.pointer (some ⟨wb, 0, none⟩)] w fun e w' => e = .returned (.bool true) ∧ WalkIs w' base wb tbase tb T sv mb mp (parT T A).2 B A (st + 1) ∧ Below base w w' := by
  obtain ⟨q1, q2, hq⟩ : ∃ q1 q2, parT T A = (q1, q2) := ⟨_, _, rfl⟩
  rw [hq]
  have HQ := Lib.hid hq
  clear hq
  have h0 := blk_cell h.blk 0
  have h2 := blk_cell h.blk 2
  simp only [List.getElem?_toArray, List.getElem?_cons_zero, List.getElem?_cons_succ] at h0 h2
  have HH := Lib.hid h
  have HNB := Lib.hid hn
  have hq9 := hx
  clear h hn hx
  go_enter Tryz.func139, Tryz.ntmps139
  go_upto_region 1 with fail
  have HBB : Hid (Below w.heap.size w w.drew) := Lib.hid ⟨rfl, rfl, rfl, Nat.le_refl _, fun _ _ => rfl⟩
  have HSC : Hid (∀ V, Below w.heap.size w V → V.cell? ⟨wb, 0, none⟩ = some (.int .i64 A) ∧ V.cell? ⟨wb, 2, none⟩ = some (.pointer (some ⟨tb, 0, none⟩))) := Lib.hid (fun V hV => ⟨below_cell hV (Nat.le_refl _) h0, below_cell hV (Nat.le_refl _) h2⟩)
  clear h0 h2
  refine wp_region_D (Ds := [15]) (S := fun V => V.cell? ⟨wb, 0, none⟩ = some (.int .i64 A) ∧ V.cell? ⟨wb, 2, none⟩ = some (.pointer (some ⟨tb, 0, none⟩))) (by kernel_rfl) (by exact HSC.out _ HBB.out) (fun hHeld => ?_)
  generalize w.drew = W0 at *
  refine wpAnyD_takeP (i := 0) (oi := { dst := some 6, op := Op.move (Operand.tmp 0), type := 116, pos := "spine.go:36", after := #[], guard := none }) (d := 6) (v := ?_) rfl rfl (by kernel_rfl) (by kernel_rfl) (by kernel_rfl) (fun _ _ _ h => h) (Or.inl ⟨by rfl, ?_⟩) ?_
  rotate_left
  · (intro w' _; go_simp; (try with_reducible rfl))
  simp only [List.setIfInBounds_toArray, List.set_cons_zero, List.set_cons_succ]
  refine wpAnyD_takeP (i := 1) (oi := { dst := some 7, op := Op.nilCheck (Operand.tmp 6), type := 0, pos := "spine.go:36", after := #[{ on := 0, ground := Ground.data }], guard := none }) (d := 7) (v := ?_) rfl rfl (by kernel_rfl) (by kernel_rfl) (by kernel_rfl) (fun _ _ _ h => h) (Or.inl ⟨by rfl, ?_⟩) ?_
  rotate_left
  · (intro w' _; go_simp; (try with_reducible rfl))
  simp only [List.setIfInBounds_toArray, List.set_cons_zero, List.set_cons_succ]
  refine wpAnyD_takeP (i := 2) (oi := { dst := some 8, op := Op.fieldAddr 121 (Operand.tmp 7) 1, type := 0, pos := "spine.go:36", after := #[{ on := 1, ground := Ground.data }], guard := none }) (d := 8) (v := ?_) rfl rfl (by kernel_rfl) (by kernel_rfl) (by kernel_rfl) (fun _ _ _ h => h) (Or.inl ⟨by rfl, ?_⟩) ?_
  rotate_left
  · (intro w' _; go_simp; (try with_reducible rfl))
  simp only [List.setIfInBounds_toArray, List.set_cons_zero, List.set_cons_succ]
  refine wpAnyD_takeP (i := 4) (oi := { dst := some 10, op := Op.move (Operand.tmp 0), type := 116, pos := "spine.go:36", after := #[], guard := none }) (d := 10) (v := ?_) rfl rfl (by kernel_rfl) (by kernel_rfl) (by kernel_rfl) (fun _ _ _ h => h) (Or.inl ⟨by rfl, ?_⟩) ?_
  rotate_left
  · (intro w' _; go_simp; (try with_reducible rfl))
  simp only [List.setIfInBounds_toArray, List.set_cons_zero, List.set_cons_succ]
  refine wpAnyD_takeP (i := 5) (oi := { dst := some 11, op := Op.nilCheck (Operand.tmp 10), type := 0, pos := "spine.go:36", after := #[{ on := 4, ground := Ground.data }], guard := none }) (d := 11) (v := ?_) rfl rfl (by kernel_rfl) (by kernel_rfl) (by kernel_rfl) (fun _ _ _ h => h) (Or.inl ⟨by rfl, ?_⟩) ?_
  rotate_left
  · (intro w' _; go_simp; (try with_reducible rfl))
  simp only [List.setIfInBounds_toArray, List.set_cons_zero, List.set_cons_succ]
  refine wpAnyD_takeP (i := 6) (oi := { dst := some 12, op := Op.fieldAddr 121 (Operand.tmp 11) 0, type := 0, pos := "spine.go:36", after := #[{ on := 5, ground := Ground.data }], guard := none }) (d := 12) (v := ?_) rfl rfl (by kernel_rfl) (by kernel_rfl) (by kernel_rfl) (fun _ _ _ h => h) (Or.inl ⟨by rfl, ?_⟩) ?_
  rotate_left
  · (intro w' _; go_simp; (try with_reducible rfl))
  simp only [List.setIfInBounds_toArray, List.set_cons_zero, List.set_cons_succ]
  refine wpAnyD_takeP (i := 7) (oi := { dst := some 13, op := Op.fieldAddr 119 (Operand.tmp 12) 0, type := 0, pos := "spine.go:36", after := #[{ on := 6, ground := Ground.data }], guard := none }) (d := 13) (v := ?_) rfl rfl (by kernel_rfl) (by kernel_rfl) (by kernel_rfl) (fun _ _ _ h => h) (Or.inl ⟨by rfl, ?_⟩) ?_
  rotate_left
  · (intro w' _; go_simp; (try with_reducible rfl))
  simp only [List.setIfInBounds_toArray, List.set_cons_zero, List.set_cons_succ]
  refine wpAnyD_takeP (i := 8) (oi := { dst := some 14, op := Op.fieldAddr 55 (Operand.tmp 13) 0, type := 0, pos := "spine.go:36", after := #[{ on := 7, ground := Ground.data }], guard := none }) (d := 14) (v := ?_) rfl rfl (by kernel_rfl) (by kernel_rfl) (by kernel_rfl) (fun _ _ _ h => h) (Or.inl ⟨by rfl, ?_⟩) ?_
  rotate_left
  · (intro w' _; go_simp; (try with_reducible rfl))
  simp only [List.setIfInBounds_toArray, List.set_cons_zero, List.set_cons_succ]
  refine wpAnyD_takeD (i := 3) (oi := { dst := some 9, op := Op.load 63 (Operand.tmp 8), type := 63, pos := "spine.go:36", after := #[{ on := 2, ground := Ground.data }], guard := none }) (d := 9) (v := ?_) rfl rfl (by kernel_rfl) (by kernel_rfl) (by kernel_rfl) (by kernel_rfl) (fun _ _ _ h => h) (Or.inl ⟨by rfl, ?_⟩) hHeld ?_
  rotate_left
  · (intro w' hSw; (try dsimp only at hSw); go_simp; (try with_reducible rfl))
  simp only [List.setIfInBounds_toArray, List.set_cons_zero, List.set_cons_succ]
  refine wpAnyD_takeD (i := 9) (oi := { dst := some 15, op := Op.load 3 (Operand.tmp 14), type := 3, pos := "spine.go:36", after := #[{ on := 8, ground := Ground.data }], guard := none }) (d := 15) (v := ?_) rfl rfl (by kernel_rfl) (by kernel_rfl) (by kernel_rfl) (by kernel_rfl) (fun _ _ _ h => h) (Or.inl ⟨by rfl, ?_⟩) hHeld ?_
  rotate_left
  · (intro w' hSw; (try dsimp only at hSw); go_simp; (try with_reducible rfl))
  simp only [List.setIfInBounds_toArray, List.set_cons_zero, List.set_cons_succ]
  refine wpAnyD_two (i := 10) (j := 14) (oi := { dst := some 16, op := Op.call { callee := Callee.value (Operand.func 57), args := #[Operand.tmp 9, Operand.tmp 15], argTypes := #[63, 3] }, type := 110, pos := "spine.go:36", after := #[{ on := 3, ground := Ground.data }, { on := 9, ground := Ground.data }], guard := none }) (oj := { dst := some 3, op := Op.alloc 55, type := 0, pos := "spine.go:36", after := #[], guard := none }) (by kernel_rfl) rfl rfl (by rfl) (by rfl) (fun K hK => ?_) (fun K hK => ?_)
  ·
    go_simp; refine (par_tab A (HH.out.tab.below HBB.out (Nat.le_refl _))).mono ?_; rintro e V1 ⟨rfl, hb⟩; rw [HNB.out, HQ.out]; unfold pairV; (try (replace HNW := Lib.hid (And.intro (blk_below hb (blk_lt HNW.out.1) HNW.out.1) HNW.out.2))); replace HBB := Lib.hid (HBB.out.trans (hb.mono HBB.out.size)); have h := HSC.out _ HBB.out; clear hb; go_simp
    refine hK.out _ _ h (fun hHeld => ?_)
    clear hK K
    try simp only [Act.put, List.setIfInBounds_toArray, List.set_cons_zero, List.set_cons_succ]
    refine wpAnyD_takeP (i := 11) (oi := { dst := some 5, op := Op.move (Operand.tmp 16), type := 110, pos := "spine.go:36", after := #[{ on := 10, ground := Ground.data }], guard := none }) (d := 5) (v := ?_) rfl rfl (by kernel_rfl) (by kernel_rfl) (by kernel_rfl) (fun _ _ _ h => h) (Or.inl ⟨by rfl, ?_⟩) ?_
    rotate_left
    · (intro w' _; go_simp; (try with_reducible rfl))
    simp only [List.setIfInBounds_toArray, List.set_cons_zero, List.set_cons_succ]
    refine wpAnyD_takeP (i := 12) (oi := { dst := some 17, op := Op.extract (Operand.tmp 5) 0, type := 55, pos := "spine.go:36", after := #[{ on := 11, ground := Ground.data }], guard := none }) (d := 17) (v := ?_) rfl rfl (by kernel_rfl) (by kernel_rfl) (by kernel_rfl) (fun _ _ _ h => h) (Or.inl ⟨by rfl, ?_⟩) ?_
    rotate_left
    · (intro w' _; go_simp; (try with_reducible rfl))
    simp only [List.setIfInBounds_toArray, List.set_cons_zero, List.set_cons_succ]
    refine wpAnyD_takeP (i := 13) (oi := { dst := some 18, op := Op.extract (Operand.tmp 5) 1, type := 4, pos := "spine.go:36", after := #[{ on := 11, ground := Ground.data }, { on := 15, ground := Ground.gcOnly Departure.lateStores }], guard := none }) (d := 18) (v := ?_) rfl rfl (by kernel_rfl) (by kernel_rfl) (by kernel_rfl) (fun _ _ _ h => h) (Or.inl ⟨by rfl, ?_⟩) ?_
    rotate_left
    · (intro w' _; go_simp; (try with_reducible rfl))
    simp only [List.setIfInBounds_toArray, List.set_cons_zero, List.set_cons_succ]
    refine wpAnyD_one (i := 14) (o := { dst := some 3, op := Op.alloc 55, type := 0, pos := "spine.go:36", after := #[], guard := none }) (by kernel_rfl) rfl (by rfl) (fun K hK => ?_)
    go_simp; have HNW := Lib.hid (And.intro (bel_new HBB.out (.cells #[.int .i64 0, .int .i64 0] 55)) HBB.out.size); have HBB := Lib.hid (bel_alloc HBB.out (.cells #[.int .i64 0, .int .i64 0] 55)); refine gen_below HBB.out rfl (fun W' hW' => ?_); rw [← hW'] at HBB HNW; clear hW'; have h := HSC.out _ HBB.out
    refine hK.out _ _ h (fun hHeld => ?_)
    clear hK K
    try simp only [Act.put, List.setIfInBounds_toArray, List.set_cons_zero, List.set_cons_succ]
    refine wpAnyD_last (D := 15) (by decide) (o := { dst := none, op := Op.store 55 (Operand.tmp 3) (Operand.tmp 17), type := 0, pos := "spine.go:36", after := #[{ on := 14, ground := Ground.data }, { on := 12, ground := Ground.data }, { on := 10, ground := Ground.chain }, { on := 0, ground := Ground.phase }, { on := 1, ground := Ground.phase }, { on := 2, ground := Ground.phase }, { on := 3, ground := Ground.phase }, { on := 4, ground := Ground.phase }, { on := 5, ground := Ground.phase }, { on := 6, ground := Ground.phase }, { on := 7, ground := Ground.phase }, { on := 8, ground := Ground.phase }, { on := 9, ground := Ground.phase }, { on := 10, ground := Ground.phase }, { on := 11, ground := Ground.phase }, { on := 12, ground := Ground.phase }, { on := 13, ground := Ground.textOnly Departure.lateStores }, { on := 14, ground := Ground.phase }], guard := none }) (by kernel_rfl) rfl (by rfl) (fun K hK => ?_)
    have d0 := blk_cell HNW.out.1 0; have d1 := blk_cell HNW.out.1 1; have z0 := blk_froz HNW.out.1 0; have z1 := blk_froz HNW.out.1 1; simp only [List.getElem?_toArray, List.getElem?_cons_zero, List.getElem?_cons_succ] at d0 d1; go_simp; have hn6 := blk_set (blk_set HNW.out.1 0 (.int .i64 q1)) 1 (.int .i64 q2); simp only [List.setIfInBounds_toArray, List.set_cons_zero, List.set_cons_succ] at hn6; have HN6 := Lib.hid hn6; have HBB := Lib.hid (bel_put HBB.out HNW.out.2 (.int .i64 q1) (.int .i64 q2)); refine gen_below HBB.out rfl (fun W9 hW9 => ?_); rw [← hW9] at HBB HN6; clear hW9 d0 d1 z0 z1 hn6
    refine hK.out _ _ ?_
    clear hK K
    try simp only [Act.put, List.setIfInBounds_toArray, List.set_cons_zero, List.set_cons_succ]
    refine wpAnyD_takeP (i := 16) (oi := { dst := some 4, op := Op.assign (Operand.tmp 18), type := 4, pos := "spine.go:36", after := #[{ on := 13, ground := Ground.data }, { on := 15, ground := Ground.chain }, { on := 0, ground := Ground.phase }, { on := 1, ground := Ground.phase }, { on := 2, ground := Ground.phase }, { on := 3, ground := Ground.phase }, { on := 4, ground := Ground.phase }, { on := 5, ground := Ground.phase }, { on := 6, ground := Ground.phase }, { on := 7, ground := Ground.phase }, { on := 8, ground := Ground.phase }, { on := 9, ground := Ground.phase }, { on := 10, ground := Ground.phase }, { on := 11, ground := Ground.phase }, { on := 12, ground := Ground.phase }, { on := 13, ground := Ground.phase }, { on := 14, ground := Ground.phase }, { on := 15, ground := Ground.phase }], guard := none }) (d := 4) (v := ?_) rfl rfl (by kernel_rfl) (by kernel_rfl) (by kernel_rfl) (fun _ _ _ h => h) (Or.inl ⟨by rfl, ?_⟩) ?_
    rotate_left
    · (intro w' _; go_simp; (try with_reducible rfl))
    simp only [List.setIfInBounds_toArray, List.set_cons_zero, List.set_cons_succ]
    refine wpAnyD_done (by kernel_rfl) ?_ _
    obtain ⟨nb, hnb, hn6⟩ := name_blk HN6.out
    (first | rw [hnb] | rw [show w.heap.size = nb from hnb])
    have hw := HH.out.below HBB.out (Nat.le_refl _)
    have HW := Lib.hid hw
    have HB1 := Lib.hid (HBB.out.mono (Nat.le_trans HH.out.le (Nat.le_of_lt (blk_lt HH.out.blk))))
    have c0 := blk_cell hw.blk 0
    have n0 := blk_cell hn6 1
    simp only [List.getElem?_toArray, List.getElem?_cons_zero, List.getElem?_cons_succ] at c0 n0
    
    have HN9 := Lib.hid hn6
    have HNE : Hid (¬ nb = wb) := Lib.hid (by have := HNW.out.2; have := blk_lt HH.out.blk; omega)
    clear hnb hn6 hw HSC HBB HN6 HNW h hHeld
    go_upto_region 3 with fail
    refine wp_region_D (Ds := [17]) (S := fun V => V.cell? ⟨wb, 0, none⟩ = some (.int .i64 A) ∧ V.cell? ⟨nb, 1, none⟩ = some (.int .i64 q2)) (by kernel_rfl) (by exact ⟨c0, n0⟩) (fun hHeld => ?_)
    (have HN3 : Hid (W9.drew.heap[nb]? = some (.cells #[.int .i64 q1, .int .i64 q2] 55)) := Lib.hid HN9.out); clear HN9; (replace HB1 := Lib.hid HB1.out.drew); (have HT := Lib.hid HW.out.tab.drew); (have HBK : Hid (W9.drew.heap[wb]? = some (.cells #[.int .i64 A, .int .i64 B, .pointer (some ⟨tb, 0, none⟩), .int .i64 lim, .int .i64 st] 121)) := Lib.hid HW.out.blk); (have HK0 : Hid (Keep (fun g => g = wb) W9.drew W9.drew) := Lib.hid (Keep.refl _ _)); clear c0 n0 HW; generalize W9.drew = W3 at *
    refine wpAnyD_takeP (i := 0) (oi := { dst := some 20, op := Op.move (Operand.tmp 0), type := 116, pos := "spine.go:38", after := #[], guard := none }) (d := 20) (v := ?_) rfl rfl (by kernel_rfl) (by kernel_rfl) (by kernel_rfl) (fun _ _ _ h => h) (Or.inl ⟨by rfl, ?_⟩) ?_
    rotate_left
    · (intro w' _; go_simp; (try with_reducible rfl))
    simp only [List.setIfInBounds_toArray, List.set_cons_zero, List.set_cons_succ]
    refine wpAnyD_takeP (i := 1) (oi := { dst := some 21, op := Op.move (Operand.tmp 0), type := 116, pos := "spine.go:38", after := #[{ on := 12, ground := Ground.gcOnly Departure.lateStores }], guard := none }) (d := 21) (v := ?_) rfl rfl (by kernel_rfl) (by kernel_rfl) (by kernel_rfl) (fun _ _ _ h => h) (Or.inl ⟨by rfl, ?_⟩) ?_
    rotate_left
    · (intro w' _; go_simp; (try with_reducible rfl))
    simp only [List.setIfInBounds_toArray, List.set_cons_zero, List.set_cons_succ]
    refine wpAnyD_takeP (i := 2) (oi := { dst := some 22, op := Op.move (Operand.tmp 0), type := 116, pos := "spine.go:38", after := #[], guard := none }) (d := 22) (v := ?_) rfl rfl (by kernel_rfl) (by kernel_rfl) (by kernel_rfl) (fun _ _ _ h => h) (Or.inl ⟨by rfl, ?_⟩) ?_
    rotate_left
    · (intro w' _; go_simp; (try with_reducible rfl))
    simp only [List.setIfInBounds_toArray, List.set_cons_zero, List.set_cons_succ]
    refine wpAnyD_takeP (i := 3) (oi := { dst := some 23, op := Op.nilCheck (Operand.tmp 22), type := 0, pos := "spine.go:38", after := #[{ on := 2, ground := Ground.data }], guard := none }) (d := 23) (v := ?_) rfl rfl (by kernel_rfl) (by kernel_rfl) (by kernel_rfl) (fun _ _ _ h => h) (Or.inl ⟨by rfl, ?_⟩) ?_
    rotate_left
    · (intro w' _; go_simp; (try with_reducible rfl))
    simp only [List.setIfInBounds_toArray, List.set_cons_zero, List.set_cons_succ]
    refine wpAnyD_takeP (i := 4) (oi := { dst := some 24, op := Op.fieldAddr 121 (Operand.tmp 23) 0, type := 0, pos := "spine.go:38", after := #[{ on := 3, ground := Ground.data }], guard := none }) (d := 24) (v := ?_) rfl rfl (by kernel_rfl) (by kernel_rfl) (by kernel_rfl) (fun _ _ _ h => h) (Or.inl ⟨by rfl, ?_⟩) ?_
    rotate_left
    · (intro w' _; go_simp; (try with_reducible rfl))
    simp only [List.setIfInBounds_toArray, List.set_cons_zero, List.set_cons_succ]
    refine wpAnyD_takeP (i := 5) (oi := { dst := some 25, op := Op.fieldAddr 119 (Operand.tmp 24) 0, type := 0, pos := "spine.go:38", after := #[{ on := 4, ground := Ground.data }], guard := none }) (d := 25) (v := ?_) rfl rfl (by kernel_rfl) (by kernel_rfl) (by kernel_rfl) (fun _ _ _ h => h) (Or.inl ⟨by rfl, ?_⟩) ?_
    rotate_left
    · (intro w' _; go_simp; (try with_reducible rfl))
    simp only [List.setIfInBounds_toArray, List.set_cons_zero, List.set_cons_succ]
    refine wpAnyD_takeP (i := 6) (oi := { dst := some 26, op := Op.fieldAddr 55 (Operand.tmp 25) 0, type := 0, pos := "spine.go:38", after := #[{ on := 5, ground := Ground.data }], guard := none }) (d := 26) (v := ?_) rfl rfl (by kernel_rfl) (by kernel_rfl) (by kernel_rfl) (fun _ _ _ h => h) (Or.inl ⟨by rfl, ?_⟩) ?_
    rotate_left
    · (intro w' _; go_simp; (try with_reducible rfl))
    simp only [List.setIfInBounds_toArray, List.set_cons_zero, List.set_cons_succ]
    refine wpAnyD_takeP (i := 8) (oi := { dst := some 28, op := Op.fieldAddr 55 (Operand.tmp 3) 1, type := 0, pos := "spine.go:38", after := #[{ on := 12, ground := Ground.gcOnly Departure.lateStores }], guard := none }) (d := 28) (v := ?_) rfl rfl (by kernel_rfl) (by kernel_rfl) (by kernel_rfl) (fun _ _ _ h => h) (Or.inl ⟨by rfl, ?_⟩) ?_
    rotate_left
    · (intro w' _; go_simp; (try with_reducible rfl))
    simp only [List.setIfInBounds_toArray, List.set_cons_zero, List.set_cons_succ]
    refine wpAnyD_takeD (i := 7) (oi := { dst := some 27, op := Op.load 3 (Operand.tmp 26), type := 3, pos := "spine.go:38", after := #[{ on := 6, ground := Ground.data }], guard := none }) (d := 27) (v := ?_) rfl rfl (by kernel_rfl) (by kernel_rfl) (by kernel_rfl) (by kernel_rfl) (fun _ _ _ h => h) (Or.inl ⟨by rfl, ?_⟩) hHeld ?_
    rotate_left
    · (intro w' hSw; (try dsimp only at hSw); go_simp; (try with_reducible rfl))
    simp only [List.setIfInBounds_toArray, List.set_cons_zero, List.set_cons_succ]
    refine wpAnyD_takeP (i := 10) (oi := { dst := some 30, op := Op.nilCheck (Operand.tmp 20), type := 0, pos := "spine.go:38", after := #[{ on := 0, ground := Ground.data }, { on := 0, ground := Ground.phase }, { on := 1, ground := Ground.textOnly Departure.lateStores }, { on := 2, ground := Ground.phase }, { on := 3, ground := Ground.phase }, { on := 4, ground := Ground.phase }, { on := 5, ground := Ground.phase }, { on := 6, ground := Ground.phase }, { on := 7, ground := Ground.phase }, { on := 8, ground := Ground.textOnly Departure.lateStores }, { on := 9, ground := Ground.textOnly Departure.lateStores }], guard := none }) (d := 30) (v := ?_) rfl rfl (by kernel_rfl) (by kernel_rfl) (by kernel_rfl) (fun _ _ _ h => h) (Or.inl ⟨by rfl, ?_⟩) ?_
    rotate_left
    · (intro w' _; go_simp; (try with_reducible rfl))
    simp only [List.setIfInBounds_toArray, List.set_cons_zero, List.set_cons_succ]
    refine wpAnyD_takeP (i := 11) (oi := { dst := some 31, op := Op.fieldAddr 121 (Operand.tmp 30) 2, type := 0, pos := "spine.go:38", after := #[{ on := 10, ground := Ground.data }, { on := 0, ground := Ground.phase }, { on := 1, ground := Ground.textOnly Departure.lateStores }, { on := 2, ground := Ground.phase }, { on := 3, ground := Ground.phase }, { on := 4, ground := Ground.phase }, { on := 5, ground := Ground.phase }, { on := 6, ground := Ground.phase }, { on := 7, ground := Ground.phase }, { on := 8, ground := Ground.textOnly Departure.lateStores }, { on := 9, ground := Ground.textOnly Departure.lateStores }], guard := none }) (d := 31) (v := ?_) rfl rfl (by kernel_rfl) (by kernel_rfl) (by kernel_rfl) (fun _ _ _ h => h) (Or.inl ⟨by rfl, ?_⟩) ?_
    rotate_left
    · (intro w' _; go_simp; (try with_reducible rfl))
    simp only [List.setIfInBounds_toArray, List.set_cons_zero, List.set_cons_succ]
    refine wpAnyD_takeD (i := 9) (oi := { dst := some 29, op := Op.load 3 (Operand.tmp 28), type := 3, pos := "spine.go:38", after := #[{ on := 8, ground := Ground.data }, { on := 12, ground := Ground.gcOnly Departure.lateStores }], guard := none }) (d := 29) (v := ?_) rfl rfl (by kernel_rfl) (by kernel_rfl) (by kernel_rfl) (by kernel_rfl) (fun _ _ _ h => h) (Or.inl ⟨by rfl, ?_⟩) hHeld ?_
    rotate_left
    · (intro w' hSw; (try dsimp only at hSw); go_simp; (try with_reducible rfl))
    simp only [List.setIfInBounds_toArray, List.set_cons_zero, List.set_cons_succ]
    refine wpAnyD_one (i := 12) (o := { dst := none, op := Op.store 3 (Operand.tmp 31) (Operand.tmp 27), type := 0, pos := "spine.go:38", after := #[{ on := 11, ground := Ground.data }, { on := 7, ground := Ground.data }, { on := 0, ground := Ground.phase }, { on := 1, ground := Ground.textOnly Departure.lateStores }, { on := 2, ground := Ground.phase }, { on := 3, ground := Ground.phase }, { on := 4, ground := Ground.phase }, { on := 5, ground := Ground.phase }, { on := 6, ground := Ground.phase }, { on := 7, ground := Ground.phase }, { on := 8, ground := Ground.textOnly Departure.lateStores }, { on := 9, ground := Ground.textOnly Departure.lateStores }], guard := none }) (by kernel_rfl) rfl (by rfl) (fun K hK => ?_)
    have z0 := blk_froz HBK.out 3; have d0 := blk_cell HBK.out 3; simp only [List.getElem?_toArray, List.getElem?_cons_zero, List.getElem?_cons_succ] at d0; go_simp; have hb4 := blk_set HBK.out 3 (.int .i64 A); simp only [List.setIfInBounds_toArray, List.set_cons_zero, List.set_cons_succ] at hb4; have HBK4 := Lib.hid hb4; have HK4 := Lib.hid (HK0.out.setCell (p := ⟨wb, 3, none⟩) (.inl rfl) (.int .i64 A)); have hs0 := blk_cell HBK4.out 0; have hs1 := blk_cell (HK4.out.blk HN3.out HNE.out) 1; simp only [List.getElem?_toArray, List.getElem?_cons_zero, List.getElem?_cons_succ] at hs0 hs1; have h := And.intro hs0 hs1; clear z0 d0 hb4 hs0 hs1; generalize W3.setCell ⟨wb, 3, none⟩ (.int .i64 A) = W4 at *
    refine hK.out _ _ h (fun hHeld => ?_)
    clear hK K
    try simp only [Act.put, List.setIfInBounds_toArray, List.set_cons_zero, List.set_cons_succ]
    refine wpAnyD_takeP (i := 13) (oi := { dst := some 32, op := Op.nilCheck (Operand.tmp 21), type := 0, pos := "spine.go:38", after := #[{ on := 1, ground := Ground.data }, { on := 0, ground := Ground.phase }, { on := 1, ground := Ground.phase }, { on := 2, ground := Ground.phase }, { on := 3, ground := Ground.phase }, { on := 4, ground := Ground.phase }, { on := 5, ground := Ground.phase }, { on := 6, ground := Ground.phase }, { on := 7, ground := Ground.phase }, { on := 8, ground := Ground.phase }, { on := 9, ground := Ground.phase }, { on := 10, ground := Ground.phase }, { on := 11, ground := Ground.phase }, { on := 12, ground := Ground.phase }], guard := none }) (d := 32) (v := ?_) rfl rfl (by kernel_rfl) (by kernel_rfl) (by kernel_rfl) (fun _ _ _ h => h) (Or.inl ⟨by rfl, ?_⟩) ?_
    rotate_left
    · (intro w' _; go_simp; (try with_reducible rfl))
    simp only [List.setIfInBounds_toArray, List.set_cons_zero, List.set_cons_succ]
    refine wpAnyD_takeP (i := 14) (oi := { dst := some 33, op := Op.fieldAddr 121 (Operand.tmp 32) 0, type := 0, pos := "spine.go:38", after := #[{ on := 13, ground := Ground.data }, { on := 0, ground := Ground.phase }, { on := 1, ground := Ground.phase }, { on := 2, ground := Ground.phase }, { on := 3, ground := Ground.phase }, { on := 4, ground := Ground.phase }, { on := 5, ground := Ground.phase }, { on := 6, ground := Ground.phase }, { on := 7, ground := Ground.phase }, { on := 8, ground := Ground.phase }, { on := 9, ground := Ground.phase }, { on := 10, ground := Ground.phase }, { on := 11, ground := Ground.phase }, { on := 12, ground := Ground.phase }], guard := none }) (d := 33) (v := ?_) rfl rfl (by kernel_rfl) (by kernel_rfl) (by kernel_rfl) (fun _ _ _ h => h) (Or.inl ⟨by rfl, ?_⟩) ?_
    rotate_left
    · (intro w' _; go_simp; (try with_reducible rfl))
    simp only [List.setIfInBounds_toArray, List.set_cons_zero, List.set_cons_succ]
    refine wpAnyD_takeP (i := 15) (oi := { dst := some 34, op := Op.fieldAddr 119 (Operand.tmp 33) 0, type := 0, pos := "spine.go:38", after := #[{ on := 14, ground := Ground.data }, { on := 0, ground := Ground.phase }, { on := 1, ground := Ground.phase }, { on := 2, ground := Ground.phase }, { on := 3, ground := Ground.phase }, { on := 4, ground := Ground.phase }, { on := 5, ground := Ground.phase }, { on := 6, ground := Ground.phase }, { on := 7, ground := Ground.phase }, { on := 8, ground := Ground.phase }, { on := 9, ground := Ground.phase }, { on := 10, ground := Ground.phase }, { on := 11, ground := Ground.phase }, { on := 12, ground := Ground.phase }], guard := none }) (d := 34) (v := ?_) rfl rfl (by kernel_rfl) (by kernel_rfl) (by kernel_rfl) (fun _ _ _ h => h) (Or.inl ⟨by rfl, ?_⟩) ?_
    rotate_left
    · (intro w' _; go_simp; (try with_reducible rfl))
    simp only [List.setIfInBounds_toArray, List.set_cons_zero, List.set_cons_succ]
    refine wpAnyD_takeP (i := 16) (oi := { dst := some 35, op := Op.fieldAddr 55 (Operand.tmp 34) 0, type := 0, pos := "spine.go:38", after := #[{ on := 15, ground := Ground.data }, { on := 0, ground := Ground.phase }, { on := 1, ground := Ground.phase }, { on := 2, ground := Ground.phase }, { on := 3, ground := Ground.phase }, { on := 4, ground := Ground.phase }, { on := 5, ground := Ground.phase }, { on := 6, ground := Ground.phase }, { on := 7, ground := Ground.phase }, { on := 8, ground := Ground.phase }, { on := 9, ground := Ground.phase }, { on := 10, ground := Ground.phase }, { on := 11, ground := Ground.phase }, { on := 12, ground := Ground.phase }], guard := none }) (d := 35) (v := ?_) rfl rfl (by kernel_rfl) (by kernel_rfl) (by kernel_rfl) (fun _ _ _ h => h) (Or.inl ⟨by rfl, ?_⟩) ?_
    rotate_left
    · (intro w' _; go_simp; (try with_reducible rfl))
    simp only [List.setIfInBounds_toArray, List.set_cons_zero, List.set_cons_succ]
    refine wpAnyD_last (D := 17) (by decide) (o := { dst := none, op := Op.store 3 (Operand.tmp 35) (Operand.tmp 29), type := 0, pos := "spine.go:38", after := #[{ on := 16, ground := Ground.data }, { on := 9, ground := Ground.data }, { on := 12, ground := Ground.chain }, { on := 0, ground := Ground.phase }, { on := 1, ground := Ground.phase }, { on := 2, ground := Ground.phase }, { on := 3, ground := Ground.phase }, { on := 4, ground := Ground.phase }, { on := 5, ground := Ground.phase }, { on := 6, ground := Ground.phase }, { on := 7, ground := Ground.phase }, { on := 8, ground := Ground.phase }, { on := 9, ground := Ground.phase }, { on := 10, ground := Ground.phase }, { on := 11, ground := Ground.phase }, { on := 12, ground := Ground.phase }], guard := none }) (by kernel_rfl) rfl (by rfl) (fun K hK => ?_)
    have z0 := blk_froz HBK4.out 0; have d0 := blk_cell HBK4.out 0; simp only [List.getElem?_toArray, List.getElem?_cons_zero, List.getElem?_cons_succ] at d0; go_simp; have hb5 := blk_set HBK4.out 0 (.int .i64 q2); simp only [List.setIfInBounds_toArray, List.set_cons_zero, List.set_cons_succ] at hb5; have HBK5 := Lib.hid hb5; have HK5 := Lib.hid (HK4.out.setCell (p := ⟨wb, 0, none⟩) (.inl rfl) (.int .i64 q2)); clear z0 d0 hb5; generalize W4.setCell ⟨wb, 0, none⟩ (.int .i64 q2) = W5 at *
    refine hK.out _ _ ?_
    clear hK K
    try simp only [Act.put, List.setIfInBounds_toArray, List.set_cons_zero, List.set_cons_succ]
    refine wpAnyD_done (by kernel_rfl) ?_ _
    have z4 := blk_froz HBK5.out 4
    have d4 := blk_cell HBK5.out 4
    simp only [List.getElem?_toArray, List.getElem?_cons_zero, List.getElem?_cons_succ] at d4
    have ws : IntKind.i64.wrap (st + 1) = st + 1 := IntWalk.i64_in _ (by omega)
    go_upto_region 5 with fail
    clear ws z4 d4
    have hb6 := blk_set HBK5.out 4 (.int .i64 (st + 1))
    simp only [List.setIfInBounds_toArray, List.set_cons_zero, List.set_cons_succ] at hb6
    have hk6 := HK5.out.setCell (p := ⟨wb, 4, none⟩) (.inl rfl) (.int .i64 (st + 1))
    have HF : Hid (WalkIs (W5.setCell ⟨wb, 4, none⟩ (.int .i64 (st + 1))) base wb tbase tb T sv mb mp q2 B A (st + 1) ∧ Below base w (W5.setCell ⟨wb, 4, none⟩ (.int .i64 (st + 1)))) := Lib.hid (by
      have hle := HH.out.le
      refine ⟨⟨hb6, HT.out.keep hk6 (fun x hx e => ?_), HH.out.tlt, hle⟩, HB1.out.trans (hk6.below ?_ (fun x hx => ?_))⟩
      · have := HH.out.tlt x hx; omega
      · exact Nat.le_trans (Nat.le_trans hle (Nat.le_of_lt (blk_lt HH.out.blk))) HB1.out.size
      · omega)
    clear hb6 hk6
    go_wp2_with fail
    go_ret
    exact ⟨rfl, HF.out.1, HF.out.2⟩
  ·
    go_simp; have HNW := Lib.hid (And.intro (bel_new HBB.out (.cells #[.int .i64 0, .int .i64 0] 55)) HBB.out.size); have HBB := Lib.hid (bel_alloc HBB.out (.cells #[.int .i64 0, .int .i64 0] 55)); refine gen_below HBB.out rfl (fun W' hW' => ?_); rw [← hW'] at HBB HNW; clear hW'; have h := HSC.out _ HBB.out
    refine hK.out _ _ h (fun hHeld => ?_)
    clear hK K
    try simp only [Act.put, List.setIfInBounds_toArray, List.set_cons_zero, List.set_cons_succ]
    refine wpAnyD_one (i := 10) (o := { dst := some 16, op := Op.call { callee := Callee.value (Operand.func 57), args := #[Operand.tmp 9, Operand.tmp 15], argTypes := #[63, 3] }, type := 110, pos := "spine.go:36", after := #[{ on := 3, ground := Ground.data }, { on := 9, ground := Ground.data }], guard := none }) (by kernel_rfl) rfl (by rfl) (fun K hK => ?_)
    go_simp; refine (par_tab A (HH.out.tab.below HBB.out (Nat.le_refl _))).mono ?_; rintro e V1 ⟨rfl, hb⟩; rw [HNB.out, HQ.out]; unfold pairV; (try (replace HNW := Lib.hid (And.intro (blk_below hb (blk_lt HNW.out.1) HNW.out.1) HNW.out.2))); replace HBB := Lib.hid (HBB.out.trans (hb.mono HBB.out.size)); have h := HSC.out _ HBB.out; clear hb; go_simp
    refine hK.out _ _ h (fun hHeld => ?_)
    clear hK K
    try simp only [Act.put, List.setIfInBounds_toArray, List.set_cons_zero, List.set_cons_succ]
    refine wpAnyD_takeP (i := 11) (oi := { dst := some 5, op := Op.move (Operand.tmp 16), type := 110, pos := "spine.go:36", after := #[{ on := 10, ground := Ground.data }], guard := none }) (d := 5) (v := ?_) rfl rfl (by kernel_rfl) (by kernel_rfl) (by kernel_rfl) (fun _ _ _ h => h) (Or.inl ⟨by rfl, ?_⟩) ?_
    rotate_left
    · (intro w' _; go_simp; (try with_reducible rfl))
    simp only [List.setIfInBounds_toArray, List.set_cons_zero, List.set_cons_succ]
    refine wpAnyD_takeP (i := 12) (oi := { dst := some 17, op := Op.extract (Operand.tmp 5) 0, type := 55, pos := "spine.go:36", after := #[{ on := 11, ground := Ground.data }], guard := none }) (d := 17) (v := ?_) rfl rfl (by kernel_rfl) (by kernel_rfl) (by kernel_rfl) (fun _ _ _ h => h) (Or.inl ⟨by rfl, ?_⟩) ?_
    rotate_left
    · (intro w' _; go_simp; (try with_reducible rfl))
    simp only [List.setIfInBounds_toArray, List.set_cons_zero, List.set_cons_succ]
    refine wpAnyD_takeP (i := 13) (oi := { dst := some 18, op := Op.extract (Operand.tmp 5) 1, type := 4, pos := "spine.go:36", after := #[{ on := 11, ground := Ground.data }, { on := 15, ground := Ground.gcOnly Departure.lateStores }], guard := none }) (d := 18) (v := ?_) rfl rfl (by kernel_rfl) (by kernel_rfl) (by kernel_rfl) (fun _ _ _ h => h) (Or.inl ⟨by rfl, ?_⟩) ?_
    rotate_left
    · (intro w' _; go_simp; (try with_reducible rfl))
    simp only [List.setIfInBounds_toArray, List.set_cons_zero, List.set_cons_succ]
    refine wpAnyD_last (D := 15) (by decide) (o := { dst := none, op := Op.store 55 (Operand.tmp 3) (Operand.tmp 17), type := 0, pos := "spine.go:36", after := #[{ on := 14, ground := Ground.data }, { on := 12, ground := Ground.data }, { on := 10, ground := Ground.chain }, { on := 0, ground := Ground.phase }, { on := 1, ground := Ground.phase }, { on := 2, ground := Ground.phase }, { on := 3, ground := Ground.phase }, { on := 4, ground := Ground.phase }, { on := 5, ground := Ground.phase }, { on := 6, ground := Ground.phase }, { on := 7, ground := Ground.phase }, { on := 8, ground := Ground.phase }, { on := 9, ground := Ground.phase }, { on := 10, ground := Ground.phase }, { on := 11, ground := Ground.phase }, { on := 12, ground := Ground.phase }, { on := 13, ground := Ground.textOnly Departure.lateStores }, { on := 14, ground := Ground.phase }], guard := none }) (by kernel_rfl) rfl (by rfl) (fun K hK => ?_)
    have d0 := blk_cell HNW.out.1 0; have d1 := blk_cell HNW.out.1 1; have z0 := blk_froz HNW.out.1 0; have z1 := blk_froz HNW.out.1 1; simp only [List.getElem?_toArray, List.getElem?_cons_zero, List.getElem?_cons_succ] at d0 d1; go_simp; have hn6 := blk_set (blk_set HNW.out.1 0 (.int .i64 q1)) 1 (.int .i64 q2); simp only [List.setIfInBounds_toArray, List.set_cons_zero, List.set_cons_succ] at hn6; have HN6 := Lib.hid hn6; have HBB := Lib.hid (bel_put HBB.out HNW.out.2 (.int .i64 q1) (.int .i64 q2)); refine gen_below HBB.out rfl (fun W9 hW9 => ?_); rw [← hW9] at HBB HN6; clear hW9 d0 d1 z0 z1 hn6
    refine hK.out _ _ ?_
    clear hK K
    try simp only [Act.put, List.setIfInBounds_toArray, List.set_cons_zero, List.set_cons_succ]
    refine wpAnyD_takeP (i := 16) (oi := { dst := some 4, op := Op.assign (Operand.tmp 18), type := 4, pos := "spine.go:36", after := #[{ on := 13, ground := Ground.data }, { on := 15, ground := Ground.chain }, { on := 0, ground := Ground.phase }, { on := 1, ground := Ground.phase }, { on := 2, ground := Ground.phase }, { on := 3, ground := Ground.phase }, { on := 4, ground := Ground.phase }, { on := 5, ground := Ground.phase }, { on := 6, ground := Ground.phase }, { on := 7, ground := Ground.phase }, { on := 8, ground := Ground.phase }, { on := 9, ground := Ground.phase }, { on := 10, ground := Ground.phase }, { on := 11, ground := Ground.phase }, { on := 12, ground := Ground.phase }, { on := 13, ground := Ground.phase }, { on := 14, ground := Ground.phase }, { on := 15, ground := Ground.phase }], guard := none }) (d := 4) (v := ?_) rfl rfl (by kernel_rfl) (by kernel_rfl) (by kernel_rfl) (fun _ _ _ h => h) (Or.inl ⟨by rfl, ?_⟩) ?_
    rotate_left
    · (intro w' _; go_simp; (try with_reducible rfl))
    simp only [List.setIfInBounds_toArray, List.set_cons_zero, List.set_cons_succ]
    refine wpAnyD_done (by kernel_rfl) ?_ _
    obtain ⟨nb, hnb, hn6⟩ := name_blk HN6.out
    (first | rw [hnb] | rw [show w.heap.size = nb from hnb])
    have hw := HH.out.below HBB.out (Nat.le_refl _)
    have HW := Lib.hid hw
    have HB1 := Lib.hid (HBB.out.mono (Nat.le_trans HH.out.le (Nat.le_of_lt (blk_lt HH.out.blk))))
    have c0 := blk_cell hw.blk 0
    have n0 := blk_cell hn6 1
    simp only [List.getElem?_toArray, List.getElem?_cons_zero, List.getElem?_cons_succ] at c0 n0
    
    have HN9 := Lib.hid hn6
    have HNE : Hid (¬ nb = wb) := Lib.hid (by have := HNW.out.2; have := blk_lt HH.out.blk; omega)
    clear hnb hn6 hw HSC HBB HN6 HNW h hHeld
    go_upto_region 3 with fail
    refine wp_region_D (Ds := [17]) (S := fun V => V.cell? ⟨wb, 0, none⟩ = some (.int .i64 A) ∧ V.cell? ⟨nb, 1, none⟩ = some (.int .i64 q2)) (by kernel_rfl) (by exact ⟨c0, n0⟩) (fun hHeld => ?_)
    (have HN3 : Hid (W9.drew.heap[nb]? = some (.cells #[.int .i64 q1, .int .i64 q2] 55)) := Lib.hid HN9.out); clear HN9; (replace HB1 := Lib.hid HB1.out.drew); (have HT := Lib.hid HW.out.tab.drew); (have HBK : Hid (W9.drew.heap[wb]? = some (.cells #[.int .i64 A, .int .i64 B, .pointer (some ⟨tb, 0, none⟩), .int .i64 lim, .int .i64 st] 121)) := Lib.hid HW.out.blk); (have HK0 : Hid (Keep (fun g => g = wb) W9.drew W9.drew) := Lib.hid (Keep.refl _ _)); clear c0 n0 HW; generalize W9.drew = W3 at *
    refine wpAnyD_takeP (i := 0) (oi := { dst := some 20, op := Op.move (Operand.tmp 0), type := 116, pos := "spine.go:38", after := #[], guard := none }) (d := 20) (v := ?_) rfl rfl (by kernel_rfl) (by kernel_rfl) (by kernel_rfl) (fun _ _ _ h => h) (Or.inl ⟨by rfl, ?_⟩) ?_
    rotate_left
    · (intro w' _; go_simp; (try with_reducible rfl))
    simp only [List.setIfInBounds_toArray, List.set_cons_zero, List.set_cons_succ]
    refine wpAnyD_takeP (i := 1) (oi := { dst := some 21, op := Op.move (Operand.tmp 0), type := 116, pos := "spine.go:38", after := #[{ on := 12, ground := Ground.gcOnly Departure.lateStores }], guard := none }) (d := 21) (v := ?_) rfl rfl (by kernel_rfl) (by kernel_rfl) (by kernel_rfl) (fun _ _ _ h => h) (Or.inl ⟨by rfl, ?_⟩) ?_
    rotate_left
    · (intro w' _; go_simp; (try with_reducible rfl))
    simp only [List.setIfInBounds_toArray, List.set_cons_zero, List.set_cons_succ]
    refine wpAnyD_takeP (i := 2) (oi := { dst := some 22, op := Op.move (Operand.tmp 0), type := 116, pos := "spine.go:38", after := #[], guard := none }) (d := 22) (v := ?_) rfl rfl (by kernel_rfl) (by kernel_rfl) (by kernel_rfl) (fun _ _ _ h => h) (Or.inl ⟨by rfl, ?_⟩) ?_
    rotate_left
    · (intro w' _; go_simp; (try with_reducible rfl))
    simp only [List.setIfInBounds_toArray, List.set_cons_zero, List.set_cons_succ]
    refine wpAnyD_takeP (i := 3) (oi := { dst := some 23, op := Op.nilCheck (Operand.tmp 22), type := 0, pos := "spine.go:38", after := #[{ on := 2, ground := Ground.data }], guard := none }) (d := 23) (v := ?_) rfl rfl (by kernel_rfl) (by kernel_rfl) (by kernel_rfl) (fun _ _ _ h => h) (Or.inl ⟨by rfl, ?_⟩) ?_
    rotate_left
    · (intro w' _; go_simp; (try with_reducible rfl))
    simp only [List.setIfInBounds_toArray, List.set_cons_zero, List.set_cons_succ]
    refine wpAnyD_takeP (i := 4) (oi := { dst := some 24, op := Op.fieldAddr 121 (Operand.tmp 23) 0, type := 0, pos := "spine.go:38", after := #[{ on := 3, ground := Ground.data }], guard := none }) (d := 24) (v := ?_) rfl rfl (by kernel_rfl) (by kernel_rfl) (by kernel_rfl) (fun _ _ _ h => h) (Or.inl ⟨by rfl, ?_⟩) ?_
    rotate_left
    · (intro w' _; go_simp; (try with_reducible rfl))
    simp only [List.setIfInBounds_toArray, List.set_cons_zero, List.set_cons_succ]
    refine wpAnyD_takeP (i := 5) (oi := { dst := some 25, op := Op.fieldAddr 119 (Operand.tmp 24) 0, type := 0, pos := "spine.go:38", after := #[{ on := 4, ground := Ground.data }], guard := none }) (d := 25) (v := ?_) rfl rfl (by kernel_rfl) (by kernel_rfl) (by kernel_rfl) (fun _ _ _ h => h) (Or.inl ⟨by rfl, ?_⟩) ?_
    rotate_left
    · (intro w' _; go_simp; (try with_reducible rfl))
    simp only [List.setIfInBounds_toArray, List.set_cons_zero, List.set_cons_succ]
    refine wpAnyD_takeP (i := 6) (oi := { dst := some 26, op := Op.fieldAddr 55 (Operand.tmp 25) 0, type := 0, pos := "spine.go:38", after := #[{ on := 5, ground := Ground.data }], guard := none }) (d := 26) (v := ?_) rfl rfl (by kernel_rfl) (by kernel_rfl) (by kernel_rfl) (fun _ _ _ h => h) (Or.inl ⟨by rfl, ?_⟩) ?_
    rotate_left
    · (intro w' _; go_simp; (try with_reducible rfl))
    simp only [List.setIfInBounds_toArray, List.set_cons_zero, List.set_cons_succ]
    refine wpAnyD_takeP (i := 8) (oi := { dst := some 28, op := Op.fieldAddr 55 (Operand.tmp 3) 1, type := 0, pos := "spine.go:38", after := #[{ on := 12, ground := Ground.gcOnly Departure.lateStores }], guard := none }) (d := 28) (v := ?_) rfl rfl (by kernel_rfl) (by kernel_rfl) (by kernel_rfl) (fun _ _ _ h => h) (Or.inl ⟨by rfl, ?_⟩) ?_
    rotate_left
    · (intro w' _; go_simp; (try with_reducible rfl))
    simp only [List.setIfInBounds_toArray, List.set_cons_zero, List.set_cons_succ]
    refine wpAnyD_takeD (i := 7) (oi := { dst := some 27, op := Op.load 3 (Operand.tmp 26), type := 3, pos := "spine.go:38", after := #[{ on := 6, ground := Ground.data }], guard := none }) (d := 27) (v := ?_) rfl rfl (by kernel_rfl) (by kernel_rfl) (by kernel_rfl) (by kernel_rfl) (fun _ _ _ h => h) (Or.inl ⟨by rfl, ?_⟩) hHeld ?_
    rotate_left
    · (intro w' hSw; (try dsimp only at hSw); go_simp; (try with_reducible rfl))
    simp only [List.setIfInBounds_toArray, List.set_cons_zero, List.set_cons_succ]
    refine wpAnyD_takeP (i := 10) (oi := { dst := some 30, op := Op.nilCheck (Operand.tmp 20), type := 0, pos := "spine.go:38", after := #[{ on := 0, ground := Ground.data }, { on := 0, ground := Ground.phase }, { on := 1, ground := Ground.textOnly Departure.lateStores }, { on := 2, ground := Ground.phase }, { on := 3, ground := Ground.phase }, { on := 4, ground := Ground.phase }, { on := 5, ground := Ground.phase }, { on := 6, ground := Ground.phase }, { on := 7, ground := Ground.phase }, { on := 8, ground := Ground.textOnly Departure.lateStores }, { on := 9, ground := Ground.textOnly Departure.lateStores }], guard := none }) (d := 30) (v := ?_) rfl rfl (by kernel_rfl) (by kernel_rfl) (by kernel_rfl) (fun _ _ _ h => h) (Or.inl ⟨by rfl, ?_⟩) ?_
    rotate_left
    · (intro w' _; go_simp; (try with_reducible rfl))
    simp only [List.setIfInBounds_toArray, List.set_cons_zero, List.set_cons_succ]
    refine wpAnyD_takeP (i := 11) (oi := { dst := some 31, op := Op.fieldAddr 121 (Operand.tmp 30) 2, type := 0, pos := "spine.go:38", after := #[{ on := 10, ground := Ground.data }, { on := 0, ground := Ground.phase }, { on := 1, ground := Ground.textOnly Departure.lateStores }, { on := 2, ground := Ground.phase }, { on := 3, ground := Ground.phase }, { on := 4, ground := Ground.phase }, { on := 5, ground := Ground.phase }, { on := 6, ground := Ground.phase }, { on := 7, ground := Ground.phase }, { on := 8, ground := Ground.textOnly Departure.lateStores }, { on := 9, ground := Ground.textOnly Departure.lateStores }], guard := none }) (d := 31) (v := ?_) rfl rfl (by kernel_rfl) (by kernel_rfl) (by kernel_rfl) (fun _ _ _ h => h) (Or.inl ⟨by rfl, ?_⟩) ?_
    rotate_left
    · (intro w' _; go_simp; (try with_reducible rfl))
    simp only [List.setIfInBounds_toArray, List.set_cons_zero, List.set_cons_succ]
    refine wpAnyD_takeD (i := 9) (oi := { dst := some 29, op := Op.load 3 (Operand.tmp 28), type := 3, pos := "spine.go:38", after := #[{ on := 8, ground := Ground.data }, { on := 12, ground := Ground.gcOnly Departure.lateStores }], guard := none }) (d := 29) (v := ?_) rfl rfl (by kernel_rfl) (by kernel_rfl) (by kernel_rfl) (by kernel_rfl) (fun _ _ _ h => h) (Or.inl ⟨by rfl, ?_⟩) hHeld ?_
    rotate_left
    · (intro w' hSw; (try dsimp only at hSw); go_simp; (try with_reducible rfl))
    simp only [List.setIfInBounds_toArray, List.set_cons_zero, List.set_cons_succ]
    refine wpAnyD_one (i := 12) (o := { dst := none, op := Op.store 3 (Operand.tmp 31) (Operand.tmp 27), type := 0, pos := "spine.go:38", after := #[{ on := 11, ground := Ground.data }, { on := 7, ground := Ground.data }, { on := 0, ground := Ground.phase }, { on := 1, ground := Ground.textOnly Departure.lateStores }, { on := 2, ground := Ground.phase }, { on := 3, ground := Ground.phase }, { on := 4, ground := Ground.phase }, { on := 5, ground := Ground.phase }, { on := 6, ground := Ground.phase }, { on := 7, ground := Ground.phase }, { on := 8, ground := Ground.textOnly Departure.lateStores }, { on := 9, ground := Ground.textOnly Departure.lateStores }], guard := none }) (by kernel_rfl) rfl (by rfl) (fun K hK => ?_)
    have z0 := blk_froz HBK.out 3; have d0 := blk_cell HBK.out 3; simp only [List.getElem?_toArray, List.getElem?_cons_zero, List.getElem?_cons_succ] at d0; go_simp; have hb4 := blk_set HBK.out 3 (.int .i64 A); simp only [List.setIfInBounds_toArray, List.set_cons_zero, List.set_cons_succ] at hb4; have HBK4 := Lib.hid hb4; have HK4 := Lib.hid (HK0.out.setCell (p := ⟨wb, 3, none⟩) (.inl rfl) (.int .i64 A)); have hs0 := blk_cell HBK4.out 0; have hs1 := blk_cell (HK4.out.blk HN3.out HNE.out) 1; simp only [List.getElem?_toArray, List.getElem?_cons_zero, List.getElem?_cons_succ] at hs0 hs1; have h := And.intro hs0 hs1; clear z0 d0 hb4 hs0 hs1; generalize W3.setCell ⟨wb, 3, none⟩ (.int .i64 A) = W4 at *
    refine hK.out _ _ h (fun hHeld => ?_)
    clear hK K
    try simp only [Act.put, List.setIfInBounds_toArray, List.set_cons_zero, List.set_cons_succ]
    refine wpAnyD_takeP (i := 13) (oi := { dst := some 32, op := Op.nilCheck (Operand.tmp 21), type := 0, pos := "spine.go:38", after := #[{ on := 1, ground := Ground.data }, { on := 0, ground := Ground.phase }, { on := 1, ground := Ground.phase }, { on := 2, ground := Ground.phase }, { on := 3, ground := Ground.phase }, { on := 4, ground := Ground.phase }, { on := 5, ground := Ground.phase }, { on := 6, ground := Ground.phase }, { on := 7, ground := Ground.phase }, { on := 8, ground := Ground.phase }, { on := 9, ground := Ground.phase }, { on := 10, ground := Ground.phase }, { on := 11, ground := Ground.phase }, { on := 12, ground := Ground.phase }], guard := none }) (d := 32) (v := ?_) rfl rfl (by kernel_rfl) (by kernel_rfl) (by kernel_rfl) (fun _ _ _ h => h) (Or.inl ⟨by rfl, ?_⟩) ?_
    rotate_left
    · (intro w' _; go_simp; (try with_reducible rfl))
    simp only [List.setIfInBounds_toArray, List.set_cons_zero, List.set_cons_succ]
    refine wpAnyD_takeP (i := 14) (oi := { dst := some 33, op := Op.fieldAddr 121 (Operand.tmp 32) 0, type := 0, pos := "spine.go:38", after := #[{ on := 13, ground := Ground.data }, { on := 0, ground := Ground.phase }, { on := 1, ground := Ground.phase }, { on := 2, ground := Ground.phase }, { on := 3, ground := Ground.phase }, { on := 4, ground := Ground.phase }, { on := 5, ground := Ground.phase }, { on := 6, ground := Ground.phase }, { on := 7, ground := Ground.phase }, { on := 8, ground := Ground.phase }, { on := 9, ground := Ground.phase }, { on := 10, ground := Ground.phase }, { on := 11, ground := Ground.phase }, { on := 12, ground := Ground.phase }], guard := none }) (d := 33) (v := ?_) rfl rfl (by kernel_rfl) (by kernel_rfl) (by kernel_rfl) (fun _ _ _ h => h) (Or.inl ⟨by rfl, ?_⟩) ?_
    rotate_left
    · (intro w' _; go_simp; (try with_reducible rfl))
    simp only [List.setIfInBounds_toArray, List.set_cons_zero, List.set_cons_succ]
    refine wpAnyD_takeP (i := 15) (oi := { dst := some 34, op := Op.fieldAddr 119 (Operand.tmp 33) 0, type := 0, pos := "spine.go:38", after := #[{ on := 14, ground := Ground.data }, { on := 0, ground := Ground.phase }, { on := 1, ground := Ground.phase }, { on := 2, ground := Ground.phase }, { on := 3, ground := Ground.phase }, { on := 4, ground := Ground.phase }, { on := 5, ground := Ground.phase }, { on := 6, ground := Ground.phase }, { on := 7, ground := Ground.phase }, { on := 8, ground := Ground.phase }, { on := 9, ground := Ground.phase }, { on := 10, ground := Ground.phase }, { on := 11, ground := Ground.phase }, { on := 12, ground := Ground.phase }], guard := none }) (d := 34) (v := ?_) rfl rfl (by kernel_rfl) (by kernel_rfl) (by kernel_rfl) (fun _ _ _ h => h) (Or.inl ⟨by rfl, ?_⟩) ?_
    rotate_left
    · (intro w' _; go_simp; (try with_reducible rfl))
    simp only [List.setIfInBounds_toArray, List.set_cons_zero, List.set_cons_succ]
    refine wpAnyD_takeP (i := 16) (oi := { dst := some 35, op := Op.fieldAddr 55 (Operand.tmp 34) 0, type := 0, pos := "spine.go:38", after := #[{ on := 15, ground := Ground.data }, { on := 0, ground := Ground.phase }, { on := 1, ground := Ground.phase }, { on := 2, ground := Ground.phase }, { on := 3, ground := Ground.phase }, { on := 4, ground := Ground.phase }, { on := 5, ground := Ground.phase }, { on := 6, ground := Ground.phase }, { on := 7, ground := Ground.phase }, { on := 8, ground := Ground.phase }, { on := 9, ground := Ground.phase }, { on := 10, ground := Ground.phase }, { on := 11, ground := Ground.phase }, { on := 12, ground := Ground.phase }], guard := none }) (d := 35) (v := ?_) rfl rfl (by kernel_rfl) (by kernel_rfl) (by kernel_rfl) (fun _ _ _ h => h) (Or.inl ⟨by rfl, ?_⟩) ?_
    rotate_left
    · (intro w' _; go_simp; (try with_reducible rfl))
    simp only [List.setIfInBounds_toArray, List.set_cons_zero, List.set_cons_succ]
    refine wpAnyD_last (D := 17) (by decide) (o := { dst := none, op := Op.store 3 (Operand.tmp 35) (Operand.tmp 29), type := 0, pos := "spine.go:38", after := #[{ on := 16, ground := Ground.data }, { on := 9, ground := Ground.data }, { on := 12, ground := Ground.chain }, { on := 0, ground := Ground.phase }, { on := 1, ground := Ground.phase }, { on := 2, ground := Ground.phase }, { on := 3, ground := Ground.phase }, { on := 4, ground := Ground.phase }, { on := 5, ground := Ground.phase }, { on := 6, ground := Ground.phase }, { on := 7, ground := Ground.phase }, { on := 8, ground := Ground.phase }, { on := 9, ground := Ground.phase }, { on := 10, ground := Ground.phase }, { on := 11, ground := Ground.phase }, { on := 12, ground := Ground.phase }], guard := none }) (by kernel_rfl) rfl (by rfl) (fun K hK => ?_)
    have z0 := blk_froz HBK4.out 0; have d0 := blk_cell HBK4.out 0; simp only [List.getElem?_toArray, List.getElem?_cons_zero, List.getElem?_cons_succ] at d0; go_simp; have hb5 := blk_set HBK4.out 0 (.int .i64 q2); simp only [List.setIfInBounds_toArray, List.set_cons_zero, List.set_cons_succ] at hb5; have HBK5 := Lib.hid hb5; have HK5 := Lib.hid (HK4.out.setCell (p := ⟨wb, 0, none⟩) (.inl rfl) (.int .i64 q2)); clear z0 d0 hb5; generalize W4.setCell ⟨wb, 0, none⟩ (.int .i64 q2) = W5 at *
    refine hK.out _ _ ?_
    clear hK K
    try simp only [Act.put, List.setIfInBounds_toArray, List.set_cons_zero, List.set_cons_succ]
    refine wpAnyD_done (by kernel_rfl) ?_ _
    have z4 := blk_froz HBK5.out 4
    have d4 := blk_cell HBK5.out 4
    simp only [List.getElem?_toArray, List.getElem?_cons_zero, List.getElem?_cons_succ] at d4
    have ws : IntKind.i64.wrap (st + 1) = st + 1 := IntWalk.i64_in _ (by omega)
    go_upto_region 5 with fail
    clear ws z4 d4
    have hb6 := blk_set HBK5.out 4 (.int .i64 (st + 1))
    simp only [List.setIfInBounds_toArray, List.set_cons_zero, List.set_cons_succ] at hb6
    have hk6 := HK5.out.setCell (p := ⟨wb, 4, none⟩) (.inl rfl) (.int .i64 (st + 1))
    have HF : Hid (WalkIs (W5.setCell ⟨wb, 4, none⟩ (.int .i64 (st + 1))) base wb tbase tb T sv mb mp q2 B A (st + 1) ∧ Below base w (W5.setCell ⟨wb, 4, none⟩ (.int .i64 (st + 1)))) := Lib.hid (by
      have hle := HH.out.le
      refine ⟨⟨hb6, HT.out.keep hk6 (fun x hx e => ?_), HH.out.tlt, hle⟩, HB1.out.trans (hk6.below ?_ (fun x hx => ?_))⟩
      · have := HH.out.tlt x hx; omega
      · exact Nat.le_trans (Nat.le_trans hle (Nat.le_of_lt (blk_lt HH.out.blk))) HB1.out.size
      · omega)
    clear hb6 hk6
    go_wp2_with fail
    go_ret
    exact ⟨rfl, HF.out.1, HF.out.2⟩
set_option maxHeartbeats 4000000 in
theorem right_no (h : WalkIs w base wb tbase tb T sv mb mp A B lim st) (hn : bornT T B = false) :
    Calls Tryz.prog 140 #[.pointer (some ⟨wb, 0, none⟩)] w fun e w' => e = .returned (.bool false) ∧ Below w.heap.size w w' := by
  have h0 := blk_cell h.blk 1
  have h2 := blk_cell h.blk 2
  simp only [List.getElem?_toArray, List.getElem?_cons_zero, List.getElem?_cons_succ] at h0 h2
  have HH := Lib.hid h
  have HNB := Lib.hid hn
  clear h hn
  go_enter Tryz.func140, Tryz.ntmps140
  go_upto_region 1 with fail
  have HBB : Hid (Below w.heap.size w w.drew) := Lib.hid ⟨rfl, rfl, rfl, Nat.le_refl _, fun _ _ => rfl⟩
  have HSC : Hid (∀ V, Below w.heap.size w V → V.cell? ⟨wb, 1, none⟩ = some (.int .i64 B) ∧ V.cell? ⟨wb, 2, none⟩ = some (.pointer (some ⟨tb, 0, none⟩))) := Lib.hid (fun V hV => ⟨below_cell hV (Nat.le_refl _) h0, below_cell hV (Nat.le_refl _) h2⟩)
  obtain ⟨q1, q2, hq⟩ : ∃ q1 q2, parT T B = (q1, q2) := ⟨_, _, rfl⟩
  have HQ := Lib.hid hq
  clear h0 h2 hq
  refine wp_region_D (Ds := [15]) (S := fun V => V.cell? ⟨wb, 1, none⟩ = some (.int .i64 B) ∧ V.cell? ⟨wb, 2, none⟩ = some (.pointer (some ⟨tb, 0, none⟩))) (by kernel_rfl) (by exact HSC.out _ HBB.out) (fun hHeld => ?_)
  generalize w.drew = W0 at *
  refine wpAnyD_takeP (i := 0) (oi := { dst := some 6, op := Op.move (Operand.tmp 0), type := 116, pos := "spine.go:46", after := #[], guard := none }) (d := 6) (v := ?_) rfl rfl (by kernel_rfl) (by kernel_rfl) (by kernel_rfl) (fun _ _ _ h => h) (Or.inl ⟨by rfl, ?_⟩) ?_
  rotate_left
  · (intro w' _; go_simp; (try with_reducible rfl))
  simp only [List.setIfInBounds_toArray, List.set_cons_zero, List.set_cons_succ]
  refine wpAnyD_takeP (i := 1) (oi := { dst := some 7, op := Op.nilCheck (Operand.tmp 6), type := 0, pos := "spine.go:46", after := #[{ on := 0, ground := Ground.data }], guard := none }) (d := 7) (v := ?_) rfl rfl (by kernel_rfl) (by kernel_rfl) (by kernel_rfl) (fun _ _ _ h => h) (Or.inl ⟨by rfl, ?_⟩) ?_
  rotate_left
  · (intro w' _; go_simp; (try with_reducible rfl))
  simp only [List.setIfInBounds_toArray, List.set_cons_zero, List.set_cons_succ]
  refine wpAnyD_takeP (i := 2) (oi := { dst := some 8, op := Op.fieldAddr 121 (Operand.tmp 7) 1, type := 0, pos := "spine.go:46", after := #[{ on := 1, ground := Ground.data }], guard := none }) (d := 8) (v := ?_) rfl rfl (by kernel_rfl) (by kernel_rfl) (by kernel_rfl) (fun _ _ _ h => h) (Or.inl ⟨by rfl, ?_⟩) ?_
  rotate_left
  · (intro w' _; go_simp; (try with_reducible rfl))
  simp only [List.setIfInBounds_toArray, List.set_cons_zero, List.set_cons_succ]
  refine wpAnyD_takeP (i := 4) (oi := { dst := some 10, op := Op.move (Operand.tmp 0), type := 116, pos := "spine.go:46", after := #[], guard := none }) (d := 10) (v := ?_) rfl rfl (by kernel_rfl) (by kernel_rfl) (by kernel_rfl) (fun _ _ _ h => h) (Or.inl ⟨by rfl, ?_⟩) ?_
  rotate_left
  · (intro w' _; go_simp; (try with_reducible rfl))
  simp only [List.setIfInBounds_toArray, List.set_cons_zero, List.set_cons_succ]
  refine wpAnyD_takeP (i := 5) (oi := { dst := some 11, op := Op.nilCheck (Operand.tmp 10), type := 0, pos := "spine.go:46", after := #[{ on := 4, ground := Ground.data }], guard := none }) (d := 11) (v := ?_) rfl rfl (by kernel_rfl) (by kernel_rfl) (by kernel_rfl) (fun _ _ _ h => h) (Or.inl ⟨by rfl, ?_⟩) ?_
  rotate_left
  · (intro w' _; go_simp; (try with_reducible rfl))
  simp only [List.setIfInBounds_toArray, List.set_cons_zero, List.set_cons_succ]
  refine wpAnyD_takeP (i := 6) (oi := { dst := some 12, op := Op.fieldAddr 121 (Operand.tmp 11) 0, type := 0, pos := "spine.go:46", after := #[{ on := 5, ground := Ground.data }], guard := none }) (d := 12) (v := ?_) rfl rfl (by kernel_rfl) (by kernel_rfl) (by kernel_rfl) (fun _ _ _ h => h) (Or.inl ⟨by rfl, ?_⟩) ?_
  rotate_left
  · (intro w' _; go_simp; (try with_reducible rfl))
  simp only [List.setIfInBounds_toArray, List.set_cons_zero, List.set_cons_succ]
  refine wpAnyD_takeP (i := 7) (oi := { dst := some 13, op := Op.fieldAddr 119 (Operand.tmp 12) 0, type := 0, pos := "spine.go:46", after := #[{ on := 6, ground := Ground.data }], guard := none }) (d := 13) (v := ?_) rfl rfl (by kernel_rfl) (by kernel_rfl) (by kernel_rfl) (fun _ _ _ h => h) (Or.inl ⟨by rfl, ?_⟩) ?_
  rotate_left
  · (intro w' _; go_simp; (try with_reducible rfl))
  simp only [List.setIfInBounds_toArray, List.set_cons_zero, List.set_cons_succ]
  refine wpAnyD_takeP (i := 8) (oi := { dst := some 14, op := Op.fieldAddr 55 (Operand.tmp 13) 1, type := 0, pos := "spine.go:46", after := #[{ on := 7, ground := Ground.data }], guard := none }) (d := 14) (v := ?_) rfl rfl (by kernel_rfl) (by kernel_rfl) (by kernel_rfl) (fun _ _ _ h => h) (Or.inl ⟨by rfl, ?_⟩) ?_
  rotate_left
  · (intro w' _; go_simp; (try with_reducible rfl))
  simp only [List.setIfInBounds_toArray, List.set_cons_zero, List.set_cons_succ]
  refine wpAnyD_takeD (i := 3) (oi := { dst := some 9, op := Op.load 63 (Operand.tmp 8), type := 63, pos := "spine.go:46", after := #[{ on := 2, ground := Ground.data }], guard := none }) (d := 9) (v := ?_) rfl rfl (by kernel_rfl) (by kernel_rfl) (by kernel_rfl) (by kernel_rfl) (fun _ _ _ h => h) (Or.inl ⟨by rfl, ?_⟩) hHeld ?_
  rotate_left
  · (intro w' hSw; (try dsimp only at hSw); go_simp; (try with_reducible rfl))
  simp only [List.setIfInBounds_toArray, List.set_cons_zero, List.set_cons_succ]
  refine wpAnyD_takeD (i := 9) (oi := { dst := some 15, op := Op.load 3 (Operand.tmp 14), type := 3, pos := "spine.go:46", after := #[{ on := 8, ground := Ground.data }], guard := none }) (d := 15) (v := ?_) rfl rfl (by kernel_rfl) (by kernel_rfl) (by kernel_rfl) (by kernel_rfl) (fun _ _ _ h => h) (Or.inl ⟨by rfl, ?_⟩) hHeld ?_
  rotate_left
  · (intro w' hSw; (try dsimp only at hSw); go_simp; (try with_reducible rfl))
  simp only [List.setIfInBounds_toArray, List.set_cons_zero, List.set_cons_succ]
  refine wpAnyD_two (i := 10) (j := 14) (oi := { dst := some 16, op := Op.call { callee := Callee.value (Operand.func 57), args := #[Operand.tmp 9, Operand.tmp 15], argTypes := #[63, 3] }, type := 110, pos := "spine.go:46", after := #[{ on := 3, ground := Ground.data }, { on := 9, ground := Ground.data }], guard := none }) (oj := { dst := some 3, op := Op.alloc 55, type := 0, pos := "spine.go:46", after := #[], guard := none }) (by kernel_rfl) rfl rfl (by rfl) (by rfl) (fun K hK => ?_) (fun K hK => ?_)
  ·
    go_simp; refine (par_tab B (HH.out.tab.below HBB.out (Nat.le_refl _))).mono ?_; rintro e V1 ⟨rfl, hb⟩; rw [HNB.out, HQ.out]; unfold pairV; (try (replace HNW := Lib.hid (And.intro (blk_below hb (blk_lt HNW.out.1) HNW.out.1) HNW.out.2))); replace HBB := Lib.hid (HBB.out.trans (hb.mono HBB.out.size)); have h := HSC.out _ HBB.out; clear hb; go_simp
    refine hK.out _ _ h (fun hHeld => ?_)
    clear hK K
    try simp only [Act.put, List.setIfInBounds_toArray, List.set_cons_zero, List.set_cons_succ]
    refine wpAnyD_takeP (i := 11) (oi := { dst := some 5, op := Op.move (Operand.tmp 16), type := 110, pos := "spine.go:46", after := #[{ on := 10, ground := Ground.data }], guard := none }) (d := 5) (v := ?_) rfl rfl (by kernel_rfl) (by kernel_rfl) (by kernel_rfl) (fun _ _ _ h => h) (Or.inl ⟨by rfl, ?_⟩) ?_
    rotate_left
    · (intro w' _; go_simp; (try with_reducible rfl))
    simp only [List.setIfInBounds_toArray, List.set_cons_zero, List.set_cons_succ]
    refine wpAnyD_takeP (i := 12) (oi := { dst := some 17, op := Op.extract (Operand.tmp 5) 0, type := 55, pos := "spine.go:46", after := #[{ on := 11, ground := Ground.data }], guard := none }) (d := 17) (v := ?_) rfl rfl (by kernel_rfl) (by kernel_rfl) (by kernel_rfl) (fun _ _ _ h => h) (Or.inl ⟨by rfl, ?_⟩) ?_
    rotate_left
    · (intro w' _; go_simp; (try with_reducible rfl))
    simp only [List.setIfInBounds_toArray, List.set_cons_zero, List.set_cons_succ]
    refine wpAnyD_takeP (i := 13) (oi := { dst := some 18, op := Op.extract (Operand.tmp 5) 1, type := 4, pos := "spine.go:46", after := #[{ on := 11, ground := Ground.data }, { on := 15, ground := Ground.gcOnly Departure.lateStores }], guard := none }) (d := 18) (v := ?_) rfl rfl (by kernel_rfl) (by kernel_rfl) (by kernel_rfl) (fun _ _ _ h => h) (Or.inl ⟨by rfl, ?_⟩) ?_
    rotate_left
    · (intro w' _; go_simp; (try with_reducible rfl))
    simp only [List.setIfInBounds_toArray, List.set_cons_zero, List.set_cons_succ]
    refine wpAnyD_one (i := 14) (o := { dst := some 3, op := Op.alloc 55, type := 0, pos := "spine.go:46", after := #[], guard := none }) (by kernel_rfl) rfl (by rfl) (fun K hK => ?_)
    go_simp; have HNW := Lib.hid (And.intro (bel_new HBB.out (.cells #[.int .i64 0, .int .i64 0] 55)) HBB.out.size); have HBB := Lib.hid (bel_alloc HBB.out (.cells #[.int .i64 0, .int .i64 0] 55)); refine gen_below HBB.out rfl (fun W' hW' => ?_); rw [← hW'] at HBB HNW; clear hW'; have h := HSC.out _ HBB.out
    refine hK.out _ _ h (fun hHeld => ?_)
    clear hK K
    try simp only [Act.put, List.setIfInBounds_toArray, List.set_cons_zero, List.set_cons_succ]
    refine wpAnyD_last (D := 15) (by decide) (o := { dst := none, op := Op.store 55 (Operand.tmp 3) (Operand.tmp 17), type := 0, pos := "spine.go:46", after := #[{ on := 14, ground := Ground.data }, { on := 12, ground := Ground.data }, { on := 10, ground := Ground.chain }, { on := 0, ground := Ground.phase }, { on := 1, ground := Ground.phase }, { on := 2, ground := Ground.phase }, { on := 3, ground := Ground.phase }, { on := 4, ground := Ground.phase }, { on := 5, ground := Ground.phase }, { on := 6, ground := Ground.phase }, { on := 7, ground := Ground.phase }, { on := 8, ground := Ground.phase }, { on := 9, ground := Ground.phase }, { on := 10, ground := Ground.phase }, { on := 11, ground := Ground.phase }, { on := 12, ground := Ground.phase }, { on := 13, ground := Ground.textOnly Departure.lateStores }, { on := 14, ground := Ground.phase }], guard := none }) (by kernel_rfl) rfl (by rfl) (fun K hK => ?_)
    have d0 := blk_cell HNW.out.1 0; have d1 := blk_cell HNW.out.1 1; have z0 := blk_froz HNW.out.1 0; have z1 := blk_froz HNW.out.1 1; simp only [List.getElem?_toArray, List.getElem?_cons_zero, List.getElem?_cons_succ] at d0 d1; go_simp; have HBB := Lib.hid (bel_put HBB.out HNW.out.2 (.int .i64 q1) (.int .i64 q2)); refine gen_below HBB.out rfl (fun W' hW' => ?_); rw [← hW'] at HBB; clear hW' d0 d1 z0 z1
    refine hK.out _ _ ?_
    clear hK K
    try simp only [Act.put, List.setIfInBounds_toArray, List.set_cons_zero, List.set_cons_succ]
    refine wpAnyD_takeP (i := 16) (oi := { dst := some 4, op := Op.assign (Operand.tmp 18), type := 4, pos := "spine.go:46", after := #[{ on := 13, ground := Ground.data }, { on := 15, ground := Ground.chain }, { on := 0, ground := Ground.phase }, { on := 1, ground := Ground.phase }, { on := 2, ground := Ground.phase }, { on := 3, ground := Ground.phase }, { on := 4, ground := Ground.phase }, { on := 5, ground := Ground.phase }, { on := 6, ground := Ground.phase }, { on := 7, ground := Ground.phase }, { on := 8, ground := Ground.phase }, { on := 9, ground := Ground.phase }, { on := 10, ground := Ground.phase }, { on := 11, ground := Ground.phase }, { on := 12, ground := Ground.phase }, { on := 13, ground := Ground.phase }, { on := 14, ground := Ground.phase }, { on := 15, ground := Ground.phase }], guard := none }) (d := 4) (v := ?_) rfl rfl (by kernel_rfl) (by kernel_rfl) (by kernel_rfl) (fun _ _ _ h => h) (Or.inl ⟨by rfl, ?_⟩) ?_
    rotate_left
    · (intro w' _; go_simp; (try with_reducible rfl))
    simp only [List.setIfInBounds_toArray, List.set_cons_zero, List.set_cons_succ]
    refine wpAnyD_done (by kernel_rfl) ?_ _
    go_wp2_with fail
    go_ret
    exact ⟨rfl, HBB.out⟩
  ·
    go_simp; have HNW := Lib.hid (And.intro (bel_new HBB.out (.cells #[.int .i64 0, .int .i64 0] 55)) HBB.out.size); have HBB := Lib.hid (bel_alloc HBB.out (.cells #[.int .i64 0, .int .i64 0] 55)); refine gen_below HBB.out rfl (fun W' hW' => ?_); rw [← hW'] at HBB HNW; clear hW'; have h := HSC.out _ HBB.out
    refine hK.out _ _ h (fun hHeld => ?_)
    clear hK K
    try simp only [Act.put, List.setIfInBounds_toArray, List.set_cons_zero, List.set_cons_succ]
    refine wpAnyD_one (i := 10) (o := { dst := some 16, op := Op.call { callee := Callee.value (Operand.func 57), args := #[Operand.tmp 9, Operand.tmp 15], argTypes := #[63, 3] }, type := 110, pos := "spine.go:46", after := #[{ on := 3, ground := Ground.data }, { on := 9, ground := Ground.data }], guard := none }) (by kernel_rfl) rfl (by rfl) (fun K hK => ?_)
    go_simp; refine (par_tab B (HH.out.tab.below HBB.out (Nat.le_refl _))).mono ?_; rintro e V1 ⟨rfl, hb⟩; rw [HNB.out, HQ.out]; unfold pairV; (try (replace HNW := Lib.hid (And.intro (blk_below hb (blk_lt HNW.out.1) HNW.out.1) HNW.out.2))); replace HBB := Lib.hid (HBB.out.trans (hb.mono HBB.out.size)); have h := HSC.out _ HBB.out; clear hb; go_simp
    refine hK.out _ _ h (fun hHeld => ?_)
    clear hK K
    try simp only [Act.put, List.setIfInBounds_toArray, List.set_cons_zero, List.set_cons_succ]
    refine wpAnyD_takeP (i := 11) (oi := { dst := some 5, op := Op.move (Operand.tmp 16), type := 110, pos := "spine.go:46", after := #[{ on := 10, ground := Ground.data }], guard := none }) (d := 5) (v := ?_) rfl rfl (by kernel_rfl) (by kernel_rfl) (by kernel_rfl) (fun _ _ _ h => h) (Or.inl ⟨by rfl, ?_⟩) ?_
    rotate_left
    · (intro w' _; go_simp; (try with_reducible rfl))
    simp only [List.setIfInBounds_toArray, List.set_cons_zero, List.set_cons_succ]
    refine wpAnyD_takeP (i := 12) (oi := { dst := some 17, op := Op.extract (Operand.tmp 5) 0, type := 55, pos := "spine.go:46", after := #[{ on := 11, ground := Ground.data }], guard := none }) (d := 17) (v := ?_) rfl rfl (by kernel_rfl) (by kernel_rfl) (by kernel_rfl) (fun _ _ _ h => h) (Or.inl ⟨by rfl, ?_⟩) ?_
    rotate_left
    · (intro w' _; go_simp; (try with_reducible rfl))
    simp only [List.setIfInBounds_toArray, List.set_cons_zero, List.set_cons_succ]
    refine wpAnyD_takeP (i := 13) (oi := { dst := some 18, op := Op.extract (Operand.tmp 5) 1, type := 4, pos := "spine.go:46", after := #[{ on := 11, ground := Ground.data }, { on := 15, ground := Ground.gcOnly Departure.lateStores }], guard := none }) (d := 18) (v := ?_) rfl rfl (by kernel_rfl) (by kernel_rfl) (by kernel_rfl) (fun _ _ _ h => h) (Or.inl ⟨by rfl, ?_⟩) ?_
    rotate_left
    · (intro w' _; go_simp; (try with_reducible rfl))
    simp only [List.setIfInBounds_toArray, List.set_cons_zero, List.set_cons_succ]
    refine wpAnyD_last (D := 15) (by decide) (o := { dst := none, op := Op.store 55 (Operand.tmp 3) (Operand.tmp 17), type := 0, pos := "spine.go:46", after := #[{ on := 14, ground := Ground.data }, { on := 12, ground := Ground.data }, { on := 10, ground := Ground.chain }, { on := 0, ground := Ground.phase }, { on := 1, ground := Ground.phase }, { on := 2, ground := Ground.phase }, { on := 3, ground := Ground.phase }, { on := 4, ground := Ground.phase }, { on := 5, ground := Ground.phase }, { on := 6, ground := Ground.phase }, { on := 7, ground := Ground.phase }, { on := 8, ground := Ground.phase }, { on := 9, ground := Ground.phase }, { on := 10, ground := Ground.phase }, { on := 11, ground := Ground.phase }, { on := 12, ground := Ground.phase }, { on := 13, ground := Ground.textOnly Departure.lateStores }, { on := 14, ground := Ground.phase }], guard := none }) (by kernel_rfl) rfl (by rfl) (fun K hK => ?_)
    have d0 := blk_cell HNW.out.1 0; have d1 := blk_cell HNW.out.1 1; have z0 := blk_froz HNW.out.1 0; have z1 := blk_froz HNW.out.1 1; simp only [List.getElem?_toArray, List.getElem?_cons_zero, List.getElem?_cons_succ] at d0 d1; go_simp; have HBB := Lib.hid (bel_put HBB.out HNW.out.2 (.int .i64 q1) (.int .i64 q2)); refine gen_below HBB.out rfl (fun W' hW' => ?_); rw [← hW'] at HBB; clear hW' d0 d1 z0 z1
    refine hK.out _ _ ?_
    clear hK K
    try simp only [Act.put, List.setIfInBounds_toArray, List.set_cons_zero, List.set_cons_succ]
    refine wpAnyD_takeP (i := 16) (oi := { dst := some 4, op := Op.assign (Operand.tmp 18), type := 4, pos := "spine.go:46", after := #[{ on := 13, ground := Ground.data }, { on := 15, ground := Ground.chain }, { on := 0, ground := Ground.phase }, { on := 1, ground := Ground.phase }, { on := 2, ground := Ground.phase }, { on := 3, ground := Ground.phase }, { on := 4, ground := Ground.phase }, { on := 5, ground := Ground.phase }, { on := 6, ground := Ground.phase }, { on := 7, ground := Ground.phase }, { on := 8, ground := Ground.phase }, { on := 9, ground := Ground.phase }, { on := 10, ground := Ground.phase }, { on := 11, ground := Ground.phase }, { on := 12, ground := Ground.phase }, { on := 13, ground := Ground.phase }, { on := 14, ground := Ground.phase }, { on := 15, ground := Ground.phase }], guard := none }) (d := 4) (v := ?_) rfl rfl (by kernel_rfl) (by kernel_rfl) (by kernel_rfl) (fun _ _ _ h => h) (Or.inl ⟨by rfl, ?_⟩) ?_
    rotate_left
    · (intro w' _; go_simp; (try with_reducible rfl))
    simp only [List.setIfInBounds_toArray, List.set_cons_zero, List.set_cons_succ]
    refine wpAnyD_done (by kernel_rfl) ?_ _
    go_wp2_with fail
    go_ret
    exact ⟨rfl, HBB.out⟩
set_option maxHeartbeats 8000000 in
theorem right_yes (h : WalkIs w base wb tbase tb T sv mb mp A B lim st) (hn : bornT T B = true) (hx : 0 ≤ B ∧ B < 100000) (hst : 0 ≤ st ∧ st < 1000000000) :
    Calls Tryz.prog 140 #[.pointer (some ⟨wb, 0, none⟩)] w fun e w' => e = .returned (.bool true) ∧ WalkIs w' base wb tbase tb T sv mb mp A (parT T B).1 (B + 1) (st + 1) ∧ Below base w w' := by
  obtain ⟨q1, q2, hq⟩ : ∃ q1 q2, parT T B = (q1, q2) := ⟨_, _, rfl⟩
  rw [hq]
  have HQ := Lib.hid hq
  clear hq
  have h0 := blk_cell h.blk 1
  have h2 := blk_cell h.blk 2
  simp only [List.getElem?_toArray, List.getElem?_cons_zero, List.getElem?_cons_succ] at h0 h2
  have HH := Lib.hid h
  have HNB := Lib.hid hn
  have hq9 := hx
  clear h hn hx
  go_enter Tryz.func140, Tryz.ntmps140
  go_upto_region 1 with fail
  have HBB : Hid (Below w.heap.size w w.drew) := Lib.hid ⟨rfl, rfl, rfl, Nat.le_refl _, fun _ _ => rfl⟩
  have HSC : Hid (∀ V, Below w.heap.size w V → V.cell? ⟨wb, 1, none⟩ = some (.int .i64 B) ∧ V.cell? ⟨wb, 2, none⟩ = some (.pointer (some ⟨tb, 0, none⟩))) := Lib.hid (fun V hV => ⟨below_cell hV (Nat.le_refl _) h0, below_cell hV (Nat.le_refl _) h2⟩)
  clear h0 h2
  refine wp_region_D (Ds := [15]) (S := fun V => V.cell? ⟨wb, 1, none⟩ = some (.int .i64 B) ∧ V.cell? ⟨wb, 2, none⟩ = some (.pointer (some ⟨tb, 0, none⟩))) (by kernel_rfl) (by exact HSC.out _ HBB.out) (fun hHeld => ?_)
  generalize w.drew = W0 at *
  refine wpAnyD_takeP (i := 0) (oi := { dst := some 6, op := Op.move (Operand.tmp 0), type := 116, pos := "spine.go:46", after := #[], guard := none }) (d := 6) (v := ?_) rfl rfl (by kernel_rfl) (by kernel_rfl) (by kernel_rfl) (fun _ _ _ h => h) (Or.inl ⟨by rfl, ?_⟩) ?_
  rotate_left
  · (intro w' _; go_simp; (try with_reducible rfl))
  simp only [List.setIfInBounds_toArray, List.set_cons_zero, List.set_cons_succ]
  refine wpAnyD_takeP (i := 1) (oi := { dst := some 7, op := Op.nilCheck (Operand.tmp 6), type := 0, pos := "spine.go:46", after := #[{ on := 0, ground := Ground.data }], guard := none }) (d := 7) (v := ?_) rfl rfl (by kernel_rfl) (by kernel_rfl) (by kernel_rfl) (fun _ _ _ h => h) (Or.inl ⟨by rfl, ?_⟩) ?_
  rotate_left
  · (intro w' _; go_simp; (try with_reducible rfl))
  simp only [List.setIfInBounds_toArray, List.set_cons_zero, List.set_cons_succ]
  refine wpAnyD_takeP (i := 2) (oi := { dst := some 8, op := Op.fieldAddr 121 (Operand.tmp 7) 1, type := 0, pos := "spine.go:46", after := #[{ on := 1, ground := Ground.data }], guard := none }) (d := 8) (v := ?_) rfl rfl (by kernel_rfl) (by kernel_rfl) (by kernel_rfl) (fun _ _ _ h => h) (Or.inl ⟨by rfl, ?_⟩) ?_
  rotate_left
  · (intro w' _; go_simp; (try with_reducible rfl))
  simp only [List.setIfInBounds_toArray, List.set_cons_zero, List.set_cons_succ]
  refine wpAnyD_takeP (i := 4) (oi := { dst := some 10, op := Op.move (Operand.tmp 0), type := 116, pos := "spine.go:46", after := #[], guard := none }) (d := 10) (v := ?_) rfl rfl (by kernel_rfl) (by kernel_rfl) (by kernel_rfl) (fun _ _ _ h => h) (Or.inl ⟨by rfl, ?_⟩) ?_
  rotate_left
  · (intro w' _; go_simp; (try with_reducible rfl))
  simp only [List.setIfInBounds_toArray, List.set_cons_zero, List.set_cons_succ]
  refine wpAnyD_takeP (i := 5) (oi := { dst := some 11, op := Op.nilCheck (Operand.tmp 10), type := 0, pos := "spine.go:46", after := #[{ on := 4, ground := Ground.data }], guard := none }) (d := 11) (v := ?_) rfl rfl (by kernel_rfl) (by kernel_rfl) (by kernel_rfl) (fun _ _ _ h => h) (Or.inl ⟨by rfl, ?_⟩) ?_
  rotate_left
  · (intro w' _; go_simp; (try with_reducible rfl))
  simp only [List.setIfInBounds_toArray, List.set_cons_zero, List.set_cons_succ]
  refine wpAnyD_takeP (i := 6) (oi := { dst := some 12, op := Op.fieldAddr 121 (Operand.tmp 11) 0, type := 0, pos := "spine.go:46", after := #[{ on := 5, ground := Ground.data }], guard := none }) (d := 12) (v := ?_) rfl rfl (by kernel_rfl) (by kernel_rfl) (by kernel_rfl) (fun _ _ _ h => h) (Or.inl ⟨by rfl, ?_⟩) ?_
  rotate_left
  · (intro w' _; go_simp; (try with_reducible rfl))
  simp only [List.setIfInBounds_toArray, List.set_cons_zero, List.set_cons_succ]
  refine wpAnyD_takeP (i := 7) (oi := { dst := some 13, op := Op.fieldAddr 119 (Operand.tmp 12) 0, type := 0, pos := "spine.go:46", after := #[{ on := 6, ground := Ground.data }], guard := none }) (d := 13) (v := ?_) rfl rfl (by kernel_rfl) (by kernel_rfl) (by kernel_rfl) (fun _ _ _ h => h) (Or.inl ⟨by rfl, ?_⟩) ?_
  rotate_left
  · (intro w' _; go_simp; (try with_reducible rfl))
  simp only [List.setIfInBounds_toArray, List.set_cons_zero, List.set_cons_succ]
  refine wpAnyD_takeP (i := 8) (oi := { dst := some 14, op := Op.fieldAddr 55 (Operand.tmp 13) 1, type := 0, pos := "spine.go:46", after := #[{ on := 7, ground := Ground.data }], guard := none }) (d := 14) (v := ?_) rfl rfl (by kernel_rfl) (by kernel_rfl) (by kernel_rfl) (fun _ _ _ h => h) (Or.inl ⟨by rfl, ?_⟩) ?_
  rotate_left
  · (intro w' _; go_simp; (try with_reducible rfl))
  simp only [List.setIfInBounds_toArray, List.set_cons_zero, List.set_cons_succ]
  refine wpAnyD_takeD (i := 3) (oi := { dst := some 9, op := Op.load 63 (Operand.tmp 8), type := 63, pos := "spine.go:46", after := #[{ on := 2, ground := Ground.data }], guard := none }) (d := 9) (v := ?_) rfl rfl (by kernel_rfl) (by kernel_rfl) (by kernel_rfl) (by kernel_rfl) (fun _ _ _ h => h) (Or.inl ⟨by rfl, ?_⟩) hHeld ?_
  rotate_left
  · (intro w' hSw; (try dsimp only at hSw); go_simp; (try with_reducible rfl))
  simp only [List.setIfInBounds_toArray, List.set_cons_zero, List.set_cons_succ]
  refine wpAnyD_takeD (i := 9) (oi := { dst := some 15, op := Op.load 3 (Operand.tmp 14), type := 3, pos := "spine.go:46", after := #[{ on := 8, ground := Ground.data }], guard := none }) (d := 15) (v := ?_) rfl rfl (by kernel_rfl) (by kernel_rfl) (by kernel_rfl) (by kernel_rfl) (fun _ _ _ h => h) (Or.inl ⟨by rfl, ?_⟩) hHeld ?_
  rotate_left
  · (intro w' hSw; (try dsimp only at hSw); go_simp; (try with_reducible rfl))
  simp only [List.setIfInBounds_toArray, List.set_cons_zero, List.set_cons_succ]
  refine wpAnyD_two (i := 10) (j := 14) (oi := { dst := some 16, op := Op.call { callee := Callee.value (Operand.func 57), args := #[Operand.tmp 9, Operand.tmp 15], argTypes := #[63, 3] }, type := 110, pos := "spine.go:46", after := #[{ on := 3, ground := Ground.data }, { on := 9, ground := Ground.data }], guard := none }) (oj := { dst := some 3, op := Op.alloc 55, type := 0, pos := "spine.go:46", after := #[], guard := none }) (by kernel_rfl) rfl rfl (by rfl) (by rfl) (fun K hK => ?_) (fun K hK => ?_)
  ·
    go_simp; refine (par_tab B (HH.out.tab.below HBB.out (Nat.le_refl _))).mono ?_; rintro e V1 ⟨rfl, hb⟩; rw [HNB.out, HQ.out]; unfold pairV; (try (replace HNW := Lib.hid (And.intro (blk_below hb (blk_lt HNW.out.1) HNW.out.1) HNW.out.2))); replace HBB := Lib.hid (HBB.out.trans (hb.mono HBB.out.size)); have h := HSC.out _ HBB.out; clear hb; go_simp
    refine hK.out _ _ h (fun hHeld => ?_)
    clear hK K
    try simp only [Act.put, List.setIfInBounds_toArray, List.set_cons_zero, List.set_cons_succ]
    refine wpAnyD_takeP (i := 11) (oi := { dst := some 5, op := Op.move (Operand.tmp 16), type := 110, pos := "spine.go:46", after := #[{ on := 10, ground := Ground.data }], guard := none }) (d := 5) (v := ?_) rfl rfl (by kernel_rfl) (by kernel_rfl) (by kernel_rfl) (fun _ _ _ h => h) (Or.inl ⟨by rfl, ?_⟩) ?_
    rotate_left
    · (intro w' _; go_simp; (try with_reducible rfl))
    simp only [List.setIfInBounds_toArray, List.set_cons_zero, List.set_cons_succ]
    refine wpAnyD_takeP (i := 12) (oi := { dst := some 17, op := Op.extract (Operand.tmp 5) 0, type := 55, pos := "spine.go:46", after := #[{ on := 11, ground := Ground.data }], guard := none }) (d := 17) (v := ?_) rfl rfl (by kernel_rfl) (by kernel_rfl) (by kernel_rfl) (fun _ _ _ h => h) (Or.inl ⟨by rfl, ?_⟩) ?_
    rotate_left
    · (intro w' _; go_simp; (try with_reducible rfl))
    simp only [List.setIfInBounds_toArray, List.set_cons_zero, List.set_cons_succ]
    refine wpAnyD_takeP (i := 13) (oi := { dst := some 18, op := Op.extract (Operand.tmp 5) 1, type := 4, pos := "spine.go:46", after := #[{ on := 11, ground := Ground.data }, { on := 15, ground := Ground.gcOnly Departure.lateStores }], guard := none }) (d := 18) (v := ?_) rfl rfl (by kernel_rfl) (by kernel_rfl) (by kernel_rfl) (fun _ _ _ h => h) (Or.inl ⟨by rfl, ?_⟩) ?_
    rotate_left
    · (intro w' _; go_simp; (try with_reducible rfl))
    simp only [List.setIfInBounds_toArray, List.set_cons_zero, List.set_cons_succ]
    refine wpAnyD_one (i := 14) (o := { dst := some 3, op := Op.alloc 55, type := 0, pos := "spine.go:46", after := #[], guard := none }) (by kernel_rfl) rfl (by rfl) (fun K hK => ?_)
    go_simp; have HNW := Lib.hid (And.intro (bel_new HBB.out (.cells #[.int .i64 0, .int .i64 0] 55)) HBB.out.size); have HBB := Lib.hid (bel_alloc HBB.out (.cells #[.int .i64 0, .int .i64 0] 55)); refine gen_below HBB.out rfl (fun W' hW' => ?_); rw [← hW'] at HBB HNW; clear hW'; have h := HSC.out _ HBB.out
    refine hK.out _ _ h (fun hHeld => ?_)
    clear hK K
    try simp only [Act.put, List.setIfInBounds_toArray, List.set_cons_zero, List.set_cons_succ]
    refine wpAnyD_last (D := 15) (by decide) (o := { dst := none, op := Op.store 55 (Operand.tmp 3) (Operand.tmp 17), type := 0, pos := "spine.go:46", after := #[{ on := 14, ground := Ground.data }, { on := 12, ground := Ground.data }, { on := 10, ground := Ground.chain }, { on := 0, ground := Ground.phase }, { on := 1, ground := Ground.phase }, { on := 2, ground := Ground.phase }, { on := 3, ground := Ground.phase }, { on := 4, ground := Ground.phase }, { on := 5, ground := Ground.phase }, { on := 6, ground := Ground.phase }, { on := 7, ground := Ground.phase }, { on := 8, ground := Ground.phase }, { on := 9, ground := Ground.phase }, { on := 10, ground := Ground.phase }, { on := 11, ground := Ground.phase }, { on := 12, ground := Ground.phase }, { on := 13, ground := Ground.textOnly Departure.lateStores }, { on := 14, ground := Ground.phase }], guard := none }) (by kernel_rfl) rfl (by rfl) (fun K hK => ?_)
    have d0 := blk_cell HNW.out.1 0; have d1 := blk_cell HNW.out.1 1; have z0 := blk_froz HNW.out.1 0; have z1 := blk_froz HNW.out.1 1; simp only [List.getElem?_toArray, List.getElem?_cons_zero, List.getElem?_cons_succ] at d0 d1; go_simp; have hn6 := blk_set (blk_set HNW.out.1 0 (.int .i64 q1)) 1 (.int .i64 q2); simp only [List.setIfInBounds_toArray, List.set_cons_zero, List.set_cons_succ] at hn6; have HN6 := Lib.hid hn6; have HBB := Lib.hid (bel_put HBB.out HNW.out.2 (.int .i64 q1) (.int .i64 q2)); refine gen_below HBB.out rfl (fun W9 hW9 => ?_); rw [← hW9] at HBB HN6; clear hW9 d0 d1 z0 z1 hn6
    refine hK.out _ _ ?_
    clear hK K
    try simp only [Act.put, List.setIfInBounds_toArray, List.set_cons_zero, List.set_cons_succ]
    refine wpAnyD_takeP (i := 16) (oi := { dst := some 4, op := Op.assign (Operand.tmp 18), type := 4, pos := "spine.go:46", after := #[{ on := 13, ground := Ground.data }, { on := 15, ground := Ground.chain }, { on := 0, ground := Ground.phase }, { on := 1, ground := Ground.phase }, { on := 2, ground := Ground.phase }, { on := 3, ground := Ground.phase }, { on := 4, ground := Ground.phase }, { on := 5, ground := Ground.phase }, { on := 6, ground := Ground.phase }, { on := 7, ground := Ground.phase }, { on := 8, ground := Ground.phase }, { on := 9, ground := Ground.phase }, { on := 10, ground := Ground.phase }, { on := 11, ground := Ground.phase }, { on := 12, ground := Ground.phase }, { on := 13, ground := Ground.phase }, { on := 14, ground := Ground.phase }, { on := 15, ground := Ground.phase }], guard := none }) (d := 4) (v := ?_) rfl rfl (by kernel_rfl) (by kernel_rfl) (by kernel_rfl) (fun _ _ _ h => h) (Or.inl ⟨by rfl, ?_⟩) ?_
    rotate_left
    · (intro w' _; go_simp; (try with_reducible rfl))
    simp only [List.setIfInBounds_toArray, List.set_cons_zero, List.set_cons_succ]
    refine wpAnyD_done (by kernel_rfl) ?_ _
    obtain ⟨nb, hnb, hn6⟩ := name_blk HN6.out
    (first | rw [hnb] | rw [show w.heap.size = nb from hnb])
    have hw := HH.out.below HBB.out (Nat.le_refl _)
    have HW := Lib.hid hw
    have HB1 := Lib.hid (HBB.out.mono (Nat.le_trans HH.out.le (Nat.le_of_lt (blk_lt HH.out.blk))))
    have c0 := blk_cell hw.blk 1
    have n0 := blk_cell hn6 0
    simp only [List.getElem?_toArray, List.getElem?_cons_zero, List.getElem?_cons_succ] at c0 n0
    have wl : IntKind.i64.wrap (B + 1) = B + 1 := IntWalk.i64_in _ (by have := hq9; omega)
    have HN9 := Lib.hid hn6
    have HNE : Hid (¬ nb = wb) := Lib.hid (by have := HNW.out.2; have := blk_lt HH.out.blk; omega)
    clear hnb hn6 hw HSC HBB HN6 HNW h hHeld
    go_upto_region 3 with fail
    refine wp_region_D (Ds := [18]) (S := fun V => V.cell? ⟨wb, 1, none⟩ = some (.int .i64 B) ∧ V.cell? ⟨nb, 0, none⟩ = some (.int .i64 q1)) (by kernel_rfl) (by exact ⟨c0, n0⟩) (fun hHeld => ?_)
    (have HN3 : Hid (W9.drew.heap[nb]? = some (.cells #[.int .i64 q1, .int .i64 q2] 55)) := Lib.hid HN9.out); clear HN9; (replace HB1 := Lib.hid HB1.out.drew); (have HT := Lib.hid HW.out.tab.drew); (have HBK : Hid (W9.drew.heap[wb]? = some (.cells #[.int .i64 A, .int .i64 B, .pointer (some ⟨tb, 0, none⟩), .int .i64 lim, .int .i64 st] 121)) := Lib.hid HW.out.blk); (have HK0 : Hid (Keep (fun g => g = wb) W9.drew W9.drew) := Lib.hid (Keep.refl _ _)); clear c0 n0 HW; generalize W9.drew = W3 at *
    refine wpAnyD_takeP (i := 0) (oi := { dst := some 20, op := Op.move (Operand.tmp 0), type := 116, pos := "spine.go:48", after := #[], guard := none }) (d := 20) (v := ?_) rfl rfl (by kernel_rfl) (by kernel_rfl) (by kernel_rfl) (fun _ _ _ h => h) (Or.inl ⟨by rfl, ?_⟩) ?_
    rotate_left
    · (intro w' _; go_simp; (try with_reducible rfl))
    simp only [List.setIfInBounds_toArray, List.set_cons_zero, List.set_cons_succ]
    refine wpAnyD_takeP (i := 1) (oi := { dst := some 21, op := Op.move (Operand.tmp 0), type := 116, pos := "spine.go:48", after := #[{ on := 13, ground := Ground.gcOnly Departure.lateStores }], guard := none }) (d := 21) (v := ?_) rfl rfl (by kernel_rfl) (by kernel_rfl) (by kernel_rfl) (fun _ _ _ h => h) (Or.inl ⟨by rfl, ?_⟩) ?_
    rotate_left
    · (intro w' _; go_simp; (try with_reducible rfl))
    simp only [List.setIfInBounds_toArray, List.set_cons_zero, List.set_cons_succ]
    refine wpAnyD_takeP (i := 2) (oi := { dst := some 22, op := Op.move (Operand.tmp 0), type := 116, pos := "spine.go:48", after := #[], guard := none }) (d := 22) (v := ?_) rfl rfl (by kernel_rfl) (by kernel_rfl) (by kernel_rfl) (fun _ _ _ h => h) (Or.inl ⟨by rfl, ?_⟩) ?_
    rotate_left
    · (intro w' _; go_simp; (try with_reducible rfl))
    simp only [List.setIfInBounds_toArray, List.set_cons_zero, List.set_cons_succ]
    refine wpAnyD_takeP (i := 3) (oi := { dst := some 23, op := Op.nilCheck (Operand.tmp 22), type := 0, pos := "spine.go:48", after := #[{ on := 2, ground := Ground.data }], guard := none }) (d := 23) (v := ?_) rfl rfl (by kernel_rfl) (by kernel_rfl) (by kernel_rfl) (fun _ _ _ h => h) (Or.inl ⟨by rfl, ?_⟩) ?_
    rotate_left
    · (intro w' _; go_simp; (try with_reducible rfl))
    simp only [List.setIfInBounds_toArray, List.set_cons_zero, List.set_cons_succ]
    refine wpAnyD_takeP (i := 4) (oi := { dst := some 24, op := Op.fieldAddr 121 (Operand.tmp 23) 0, type := 0, pos := "spine.go:48", after := #[{ on := 3, ground := Ground.data }], guard := none }) (d := 24) (v := ?_) rfl rfl (by kernel_rfl) (by kernel_rfl) (by kernel_rfl) (fun _ _ _ h => h) (Or.inl ⟨by rfl, ?_⟩) ?_
    rotate_left
    · (intro w' _; go_simp; (try with_reducible rfl))
    simp only [List.setIfInBounds_toArray, List.set_cons_zero, List.set_cons_succ]
    refine wpAnyD_takeP (i := 5) (oi := { dst := some 25, op := Op.fieldAddr 119 (Operand.tmp 24) 0, type := 0, pos := "spine.go:48", after := #[{ on := 4, ground := Ground.data }], guard := none }) (d := 25) (v := ?_) rfl rfl (by kernel_rfl) (by kernel_rfl) (by kernel_rfl) (fun _ _ _ h => h) (Or.inl ⟨by rfl, ?_⟩) ?_
    rotate_left
    · (intro w' _; go_simp; (try with_reducible rfl))
    simp only [List.setIfInBounds_toArray, List.set_cons_zero, List.set_cons_succ]
    refine wpAnyD_takeP (i := 6) (oi := { dst := some 26, op := Op.fieldAddr 55 (Operand.tmp 25) 1, type := 0, pos := "spine.go:48", after := #[{ on := 5, ground := Ground.data }], guard := none }) (d := 26) (v := ?_) rfl rfl (by kernel_rfl) (by kernel_rfl) (by kernel_rfl) (fun _ _ _ h => h) (Or.inl ⟨by rfl, ?_⟩) ?_
    rotate_left
    · (intro w' _; go_simp; (try with_reducible rfl))
    simp only [List.setIfInBounds_toArray, List.set_cons_zero, List.set_cons_succ]
    refine wpAnyD_takeP (i := 9) (oi := { dst := some 29, op := Op.fieldAddr 55 (Operand.tmp 3) 0, type := 0, pos := "spine.go:48", after := #[{ on := 13, ground := Ground.gcOnly Departure.lateStores }], guard := none }) (d := 29) (v := ?_) rfl rfl (by kernel_rfl) (by kernel_rfl) (by kernel_rfl) (fun _ _ _ h => h) (Or.inl ⟨by rfl, ?_⟩) ?_
    rotate_left
    · (intro w' _; go_simp; (try with_reducible rfl))
    simp only [List.setIfInBounds_toArray, List.set_cons_zero, List.set_cons_succ]
    refine wpAnyD_takeD (i := 7) (oi := { dst := some 27, op := Op.load 3 (Operand.tmp 26), type := 3, pos := "spine.go:48", after := #[{ on := 6, ground := Ground.data }], guard := none }) (d := 27) (v := ?_) rfl rfl (by kernel_rfl) (by kernel_rfl) (by kernel_rfl) (by kernel_rfl) (fun _ _ _ h => h) (Or.inl ⟨by rfl, ?_⟩) hHeld ?_
    rotate_left
    · (intro w' hSw; (try dsimp only at hSw); go_simp; (try with_reducible rfl))
    simp only [List.setIfInBounds_toArray, List.set_cons_zero, List.set_cons_succ]
    refine wpAnyD_takeP (i := 8) (oi := { dst := some 28, op := Op.binOp BinOp.add 3 (Operand.tmp 27) (Operand.const (Value.int IntKind.i64 1)) 3, type := 3, pos := "spine.go:48", after := #[{ on := 7, ground := Ground.data }], guard := none }) (d := 28) (v := ?_) rfl rfl (by kernel_rfl) (by kernel_rfl) (by kernel_rfl) (fun _ _ _ h => h) (Or.inl ⟨by rfl, ?_⟩) ?_
    rotate_left
    · (intro w' _; go_simp; (try with_reducible rfl))
    simp only [List.setIfInBounds_toArray, List.set_cons_zero, List.set_cons_succ]
    refine wpAnyD_takeP (i := 11) (oi := { dst := some 31, op := Op.nilCheck (Operand.tmp 20), type := 0, pos := "spine.go:48", after := #[{ on := 0, ground := Ground.data }, { on := 0, ground := Ground.phase }, { on := 1, ground := Ground.textOnly Departure.lateStores }, { on := 2, ground := Ground.phase }, { on := 3, ground := Ground.phase }, { on := 4, ground := Ground.phase }, { on := 5, ground := Ground.phase }, { on := 6, ground := Ground.phase }, { on := 7, ground := Ground.phase }, { on := 8, ground := Ground.phase }, { on := 9, ground := Ground.textOnly Departure.lateStores }, { on := 10, ground := Ground.textOnly Departure.lateStores }], guard := none }) (d := 31) (v := ?_) rfl rfl (by kernel_rfl) (by kernel_rfl) (by kernel_rfl) (fun _ _ _ h => h) (Or.inl ⟨by rfl, ?_⟩) ?_
    rotate_left
    · (intro w' _; go_simp; (try with_reducible rfl))
    simp only [List.setIfInBounds_toArray, List.set_cons_zero, List.set_cons_succ]
    refine wpAnyD_takeP (i := 12) (oi := { dst := some 32, op := Op.fieldAddr 121 (Operand.tmp 31) 2, type := 0, pos := "spine.go:48", after := #[{ on := 11, ground := Ground.data }, { on := 0, ground := Ground.phase }, { on := 1, ground := Ground.textOnly Departure.lateStores }, { on := 2, ground := Ground.phase }, { on := 3, ground := Ground.phase }, { on := 4, ground := Ground.phase }, { on := 5, ground := Ground.phase }, { on := 6, ground := Ground.phase }, { on := 7, ground := Ground.phase }, { on := 8, ground := Ground.phase }, { on := 9, ground := Ground.textOnly Departure.lateStores }, { on := 10, ground := Ground.textOnly Departure.lateStores }], guard := none }) (d := 32) (v := ?_) rfl rfl (by kernel_rfl) (by kernel_rfl) (by kernel_rfl) (fun _ _ _ h => h) (Or.inl ⟨by rfl, ?_⟩) ?_
    rotate_left
    · (intro w' _; go_simp; (try with_reducible rfl))
    simp only [List.setIfInBounds_toArray, List.set_cons_zero, List.set_cons_succ]
    refine wpAnyD_takeD (i := 10) (oi := { dst := some 30, op := Op.load 3 (Operand.tmp 29), type := 3, pos := "spine.go:48", after := #[{ on := 9, ground := Ground.data }, { on := 13, ground := Ground.gcOnly Departure.lateStores }], guard := none }) (d := 30) (v := ?_) rfl rfl (by kernel_rfl) (by kernel_rfl) (by kernel_rfl) (by kernel_rfl) (fun _ _ _ h => h) (Or.inl ⟨by rfl, ?_⟩) hHeld ?_
    rotate_left
    · (intro w' hSw; (try dsimp only at hSw); go_simp; (try with_reducible rfl))
    simp only [List.setIfInBounds_toArray, List.set_cons_zero, List.set_cons_succ]
    refine wpAnyD_one (i := 13) (o := { dst := none, op := Op.store 3 (Operand.tmp 32) (Operand.tmp 28), type := 0, pos := "spine.go:48", after := #[{ on := 12, ground := Ground.data }, { on := 8, ground := Ground.data }, { on := 0, ground := Ground.phase }, { on := 1, ground := Ground.textOnly Departure.lateStores }, { on := 2, ground := Ground.phase }, { on := 3, ground := Ground.phase }, { on := 4, ground := Ground.phase }, { on := 5, ground := Ground.phase }, { on := 6, ground := Ground.phase }, { on := 7, ground := Ground.phase }, { on := 8, ground := Ground.phase }, { on := 9, ground := Ground.textOnly Departure.lateStores }, { on := 10, ground := Ground.textOnly Departure.lateStores }], guard := none }) (by kernel_rfl) rfl (by rfl) (fun K hK => ?_)
    have z0 := blk_froz HBK.out 3; have d0 := blk_cell HBK.out 3; simp only [List.getElem?_toArray, List.getElem?_cons_zero, List.getElem?_cons_succ] at d0; go_simp; have hb4 := blk_set HBK.out 3 (.int .i64 (B + 1)); simp only [List.setIfInBounds_toArray, List.set_cons_zero, List.set_cons_succ] at hb4; have HBK4 := Lib.hid hb4; have HK4 := Lib.hid (HK0.out.setCell (p := ⟨wb, 3, none⟩) (.inl rfl) (.int .i64 (B + 1))); have hs0 := blk_cell HBK4.out 1; have hs1 := blk_cell (HK4.out.blk HN3.out HNE.out) 0; simp only [List.getElem?_toArray, List.getElem?_cons_zero, List.getElem?_cons_succ] at hs0 hs1; have h := And.intro hs0 hs1; clear z0 d0 hb4 hs0 hs1; generalize W3.setCell ⟨wb, 3, none⟩ (.int .i64 (B + 1)) = W4 at *
    refine hK.out _ _ h (fun hHeld => ?_)
    clear hK K
    try simp only [Act.put, List.setIfInBounds_toArray, List.set_cons_zero, List.set_cons_succ]
    refine wpAnyD_takeP (i := 14) (oi := { dst := some 33, op := Op.nilCheck (Operand.tmp 21), type := 0, pos := "spine.go:48", after := #[{ on := 1, ground := Ground.data }, { on := 0, ground := Ground.phase }, { on := 1, ground := Ground.phase }, { on := 2, ground := Ground.phase }, { on := 3, ground := Ground.phase }, { on := 4, ground := Ground.phase }, { on := 5, ground := Ground.phase }, { on := 6, ground := Ground.phase }, { on := 7, ground := Ground.phase }, { on := 8, ground := Ground.phase }, { on := 9, ground := Ground.phase }, { on := 10, ground := Ground.phase }, { on := 11, ground := Ground.phase }, { on := 12, ground := Ground.phase }, { on := 13, ground := Ground.phase }], guard := none }) (d := 33) (v := ?_) rfl rfl (by kernel_rfl) (by kernel_rfl) (by kernel_rfl) (fun _ _ _ h => h) (Or.inl ⟨by rfl, ?_⟩) ?_
    rotate_left
    · (intro w' _; go_simp; (try with_reducible rfl))
    simp only [List.setIfInBounds_toArray, List.set_cons_zero, List.set_cons_succ]
    refine wpAnyD_takeP (i := 15) (oi := { dst := some 34, op := Op.fieldAddr 121 (Operand.tmp 33) 0, type := 0, pos := "spine.go:48", after := #[{ on := 14, ground := Ground.data }, { on := 0, ground := Ground.phase }, { on := 1, ground := Ground.phase }, { on := 2, ground := Ground.phase }, { on := 3, ground := Ground.phase }, { on := 4, ground := Ground.phase }, { on := 5, ground := Ground.phase }, { on := 6, ground := Ground.phase }, { on := 7, ground := Ground.phase }, { on := 8, ground := Ground.phase }, { on := 9, ground := Ground.phase }, { on := 10, ground := Ground.phase }, { on := 11, ground := Ground.phase }, { on := 12, ground := Ground.phase }, { on := 13, ground := Ground.phase }], guard := none }) (d := 34) (v := ?_) rfl rfl (by kernel_rfl) (by kernel_rfl) (by kernel_rfl) (fun _ _ _ h => h) (Or.inl ⟨by rfl, ?_⟩) ?_
    rotate_left
    · (intro w' _; go_simp; (try with_reducible rfl))
    simp only [List.setIfInBounds_toArray, List.set_cons_zero, List.set_cons_succ]
    refine wpAnyD_takeP (i := 16) (oi := { dst := some 35, op := Op.fieldAddr 119 (Operand.tmp 34) 0, type := 0, pos := "spine.go:48", after := #[{ on := 15, ground := Ground.data }, { on := 0, ground := Ground.phase }, { on := 1, ground := Ground.phase }, { on := 2, ground := Ground.phase }, { on := 3, ground := Ground.phase }, { on := 4, ground := Ground.phase }, { on := 5, ground := Ground.phase }, { on := 6, ground := Ground.phase }, { on := 7, ground := Ground.phase }, { on := 8, ground := Ground.phase }, { on := 9, ground := Ground.phase }, { on := 10, ground := Ground.phase }, { on := 11, ground := Ground.phase }, { on := 12, ground := Ground.phase }, { on := 13, ground := Ground.phase }], guard := none }) (d := 35) (v := ?_) rfl rfl (by kernel_rfl) (by kernel_rfl) (by kernel_rfl) (fun _ _ _ h => h) (Or.inl ⟨by rfl, ?_⟩) ?_
    rotate_left
    · (intro w' _; go_simp; (try with_reducible rfl))
    simp only [List.setIfInBounds_toArray, List.set_cons_zero, List.set_cons_succ]
    refine wpAnyD_takeP (i := 17) (oi := { dst := some 36, op := Op.fieldAddr 55 (Operand.tmp 35) 1, type := 0, pos := "spine.go:48", after := #[{ on := 16, ground := Ground.data }, { on := 0, ground := Ground.phase }, { on := 1, ground := Ground.phase }, { on := 2, ground := Ground.phase }, { on := 3, ground := Ground.phase }, { on := 4, ground := Ground.phase }, { on := 5, ground := Ground.phase }, { on := 6, ground := Ground.phase }, { on := 7, ground := Ground.phase }, { on := 8, ground := Ground.phase }, { on := 9, ground := Ground.phase }, { on := 10, ground := Ground.phase }, { on := 11, ground := Ground.phase }, { on := 12, ground := Ground.phase }, { on := 13, ground := Ground.phase }], guard := none }) (d := 36) (v := ?_) rfl rfl (by kernel_rfl) (by kernel_rfl) (by kernel_rfl) (fun _ _ _ h => h) (Or.inl ⟨by rfl, ?_⟩) ?_
    rotate_left
    · (intro w' _; go_simp; (try with_reducible rfl))
    simp only [List.setIfInBounds_toArray, List.set_cons_zero, List.set_cons_succ]
    refine wpAnyD_last (D := 18) (by decide) (o := { dst := none, op := Op.store 3 (Operand.tmp 36) (Operand.tmp 30), type := 0, pos := "spine.go:48", after := #[{ on := 17, ground := Ground.data }, { on := 10, ground := Ground.data }, { on := 13, ground := Ground.chain }, { on := 0, ground := Ground.phase }, { on := 1, ground := Ground.phase }, { on := 2, ground := Ground.phase }, { on := 3, ground := Ground.phase }, { on := 4, ground := Ground.phase }, { on := 5, ground := Ground.phase }, { on := 6, ground := Ground.phase }, { on := 7, ground := Ground.phase }, { on := 8, ground := Ground.phase }, { on := 9, ground := Ground.phase }, { on := 10, ground := Ground.phase }, { on := 11, ground := Ground.phase }, { on := 12, ground := Ground.phase }, { on := 13, ground := Ground.phase }], guard := none }) (by kernel_rfl) rfl (by rfl) (fun K hK => ?_)
    have z0 := blk_froz HBK4.out 1; have d0 := blk_cell HBK4.out 1; simp only [List.getElem?_toArray, List.getElem?_cons_zero, List.getElem?_cons_succ] at d0; go_simp; have hb5 := blk_set HBK4.out 1 (.int .i64 q1); simp only [List.setIfInBounds_toArray, List.set_cons_zero, List.set_cons_succ] at hb5; have HBK5 := Lib.hid hb5; have HK5 := Lib.hid (HK4.out.setCell (p := ⟨wb, 1, none⟩) (.inl rfl) (.int .i64 q1)); clear z0 d0 hb5; generalize W4.setCell ⟨wb, 1, none⟩ (.int .i64 q1) = W5 at *
    refine hK.out _ _ ?_
    clear hK K
    try simp only [Act.put, List.setIfInBounds_toArray, List.set_cons_zero, List.set_cons_succ]
    refine wpAnyD_done (by kernel_rfl) ?_ _
    have z4 := blk_froz HBK5.out 4
    have d4 := blk_cell HBK5.out 4
    simp only [List.getElem?_toArray, List.getElem?_cons_zero, List.getElem?_cons_succ] at d4
    have ws : IntKind.i64.wrap (st + 1) = st + 1 := IntWalk.i64_in _ (by omega)
    go_upto_region 5 with fail
    clear ws z4 d4
    have hb6 := blk_set HBK5.out 4 (.int .i64 (st + 1))
    simp only [List.setIfInBounds_toArray, List.set_cons_zero, List.set_cons_succ] at hb6
    have hk6 := HK5.out.setCell (p := ⟨wb, 4, none⟩) (.inl rfl) (.int .i64 (st + 1))
    have HF : Hid (WalkIs (W5.setCell ⟨wb, 4, none⟩ (.int .i64 (st + 1))) base wb tbase tb T sv mb mp A q1 (B + 1) (st + 1) ∧ Below base w (W5.setCell ⟨wb, 4, none⟩ (.int .i64 (st + 1)))) := Lib.hid (by
      have hle := HH.out.le
      refine ⟨⟨hb6, HT.out.keep hk6 (fun x hx e => ?_), HH.out.tlt, hle⟩, HB1.out.trans (hk6.below ?_ (fun x hx => ?_))⟩
      · have := HH.out.tlt x hx; omega
      · exact Nat.le_trans (Nat.le_trans hle (Nat.le_of_lt (blk_lt HH.out.blk))) HB1.out.size
      · omega)
    clear hb6 hk6
    go_wp2_with fail
    go_ret
    exact ⟨rfl, HF.out.1, HF.out.2⟩
  ·
    go_simp; have HNW := Lib.hid (And.intro (bel_new HBB.out (.cells #[.int .i64 0, .int .i64 0] 55)) HBB.out.size); have HBB := Lib.hid (bel_alloc HBB.out (.cells #[.int .i64 0, .int .i64 0] 55)); refine gen_below HBB.out rfl (fun W' hW' => ?_); rw [← hW'] at HBB HNW; clear hW'; have h := HSC.out _ HBB.out
    refine hK.out _ _ h (fun hHeld => ?_)
    clear hK K
    try simp only [Act.put, List.setIfInBounds_toArray, List.set_cons_zero, List.set_cons_succ]
    refine wpAnyD_one (i := 10) (o := { dst := some 16, op := Op.call { callee := Callee.value (Operand.func 57), args := #[Operand.tmp 9, Operand.tmp 15], argTypes := #[63, 3] }, type := 110, pos := "spine.go:46", after := #[{ on := 3, ground := Ground.data }, { on := 9, ground := Ground.data }], guard := none }) (by kernel_rfl) rfl (by rfl) (fun K hK => ?_)
    go_simp; refine (par_tab B (HH.out.tab.below HBB.out (Nat.le_refl _))).mono ?_; rintro e V1 ⟨rfl, hb⟩; rw [HNB.out, HQ.out]; unfold pairV; (try (replace HNW := Lib.hid (And.intro (blk_below hb (blk_lt HNW.out.1) HNW.out.1) HNW.out.2))); replace HBB := Lib.hid (HBB.out.trans (hb.mono HBB.out.size)); have h := HSC.out _ HBB.out; clear hb; go_simp
    refine hK.out _ _ h (fun hHeld => ?_)
    clear hK K
    try simp only [Act.put, List.setIfInBounds_toArray, List.set_cons_zero, List.set_cons_succ]
    refine wpAnyD_takeP (i := 11) (oi := { dst := some 5, op := Op.move (Operand.tmp 16), type := 110, pos := "spine.go:46", after := #[{ on := 10, ground := Ground.data }], guard := none }) (d := 5) (v := ?_) rfl rfl (by kernel_rfl) (by kernel_rfl) (by kernel_rfl) (fun _ _ _ h => h) (Or.inl ⟨by rfl, ?_⟩) ?_
    rotate_left
    · (intro w' _; go_simp; (try with_reducible rfl))
    simp only [List.setIfInBounds_toArray, List.set_cons_zero, List.set_cons_succ]
    refine wpAnyD_takeP (i := 12) (oi := { dst := some 17, op := Op.extract (Operand.tmp 5) 0, type := 55, pos := "spine.go:46", after := #[{ on := 11, ground := Ground.data }], guard := none }) (d := 17) (v := ?_) rfl rfl (by kernel_rfl) (by kernel_rfl) (by kernel_rfl) (fun _ _ _ h => h) (Or.inl ⟨by rfl, ?_⟩) ?_
    rotate_left
    · (intro w' _; go_simp; (try with_reducible rfl))
    simp only [List.setIfInBounds_toArray, List.set_cons_zero, List.set_cons_succ]
    refine wpAnyD_takeP (i := 13) (oi := { dst := some 18, op := Op.extract (Operand.tmp 5) 1, type := 4, pos := "spine.go:46", after := #[{ on := 11, ground := Ground.data }, { on := 15, ground := Ground.gcOnly Departure.lateStores }], guard := none }) (d := 18) (v := ?_) rfl rfl (by kernel_rfl) (by kernel_rfl) (by kernel_rfl) (fun _ _ _ h => h) (Or.inl ⟨by rfl, ?_⟩) ?_
    rotate_left
    · (intro w' _; go_simp; (try with_reducible rfl))
    simp only [List.setIfInBounds_toArray, List.set_cons_zero, List.set_cons_succ]
    refine wpAnyD_last (D := 15) (by decide) (o := { dst := none, op := Op.store 55 (Operand.tmp 3) (Operand.tmp 17), type := 0, pos := "spine.go:46", after := #[{ on := 14, ground := Ground.data }, { on := 12, ground := Ground.data }, { on := 10, ground := Ground.chain }, { on := 0, ground := Ground.phase }, { on := 1, ground := Ground.phase }, { on := 2, ground := Ground.phase }, { on := 3, ground := Ground.phase }, { on := 4, ground := Ground.phase }, { on := 5, ground := Ground.phase }, { on := 6, ground := Ground.phase }, { on := 7, ground := Ground.phase }, { on := 8, ground := Ground.phase }, { on := 9, ground := Ground.phase }, { on := 10, ground := Ground.phase }, { on := 11, ground := Ground.phase }, { on := 12, ground := Ground.phase }, { on := 13, ground := Ground.textOnly Departure.lateStores }, { on := 14, ground := Ground.phase }], guard := none }) (by kernel_rfl) rfl (by rfl) (fun K hK => ?_)
    have d0 := blk_cell HNW.out.1 0; have d1 := blk_cell HNW.out.1 1; have z0 := blk_froz HNW.out.1 0; have z1 := blk_froz HNW.out.1 1; simp only [List.getElem?_toArray, List.getElem?_cons_zero, List.getElem?_cons_succ] at d0 d1; go_simp; have hn6 := blk_set (blk_set HNW.out.1 0 (.int .i64 q1)) 1 (.int .i64 q2); simp only [List.setIfInBounds_toArray, List.set_cons_zero, List.set_cons_succ] at hn6; have HN6 := Lib.hid hn6; have HBB := Lib.hid (bel_put HBB.out HNW.out.2 (.int .i64 q1) (.int .i64 q2)); refine gen_below HBB.out rfl (fun W9 hW9 => ?_); rw [← hW9] at HBB HN6; clear hW9 d0 d1 z0 z1 hn6
    refine hK.out _ _ ?_
    clear hK K
    try simp only [Act.put, List.setIfInBounds_toArray, List.set_cons_zero, List.set_cons_succ]
    refine wpAnyD_takeP (i := 16) (oi := { dst := some 4, op := Op.assign (Operand.tmp 18), type := 4, pos := "spine.go:46", after := #[{ on := 13, ground := Ground.data }, { on := 15, ground := Ground.chain }, { on := 0, ground := Ground.phase }, { on := 1, ground := Ground.phase }, { on := 2, ground := Ground.phase }, { on := 3, ground := Ground.phase }, { on := 4, ground := Ground.phase }, { on := 5, ground := Ground.phase }, { on := 6, ground := Ground.phase }, { on := 7, ground := Ground.phase }, { on := 8, ground := Ground.phase }, { on := 9, ground := Ground.phase }, { on := 10, ground := Ground.phase }, { on := 11, ground := Ground.phase }, { on := 12, ground := Ground.phase }, { on := 13, ground := Ground.phase }, { on := 14, ground := Ground.phase }, { on := 15, ground := Ground.phase }], guard := none }) (d := 4) (v := ?_) rfl rfl (by kernel_rfl) (by kernel_rfl) (by kernel_rfl) (fun _ _ _ h => h) (Or.inl ⟨by rfl, ?_⟩) ?_
    rotate_left
    · (intro w' _; go_simp; (try with_reducible rfl))
    simp only [List.setIfInBounds_toArray, List.set_cons_zero, List.set_cons_succ]
    refine wpAnyD_done (by kernel_rfl) ?_ _
    obtain ⟨nb, hnb, hn6⟩ := name_blk HN6.out
    (first | rw [hnb] | rw [show w.heap.size = nb from hnb])
    have hw := HH.out.below HBB.out (Nat.le_refl _)
    have HW := Lib.hid hw
    have HB1 := Lib.hid (HBB.out.mono (Nat.le_trans HH.out.le (Nat.le_of_lt (blk_lt HH.out.blk))))
    have c0 := blk_cell hw.blk 1
    have n0 := blk_cell hn6 0
    simp only [List.getElem?_toArray, List.getElem?_cons_zero, List.getElem?_cons_succ] at c0 n0
    have wl : IntKind.i64.wrap (B + 1) = B + 1 := IntWalk.i64_in _ (by have := hq9; omega)
    have HN9 := Lib.hid hn6
    have HNE : Hid (¬ nb = wb) := Lib.hid (by have := HNW.out.2; have := blk_lt HH.out.blk; omega)
    clear hnb hn6 hw HSC HBB HN6 HNW h hHeld
    go_upto_region 3 with fail
    refine wp_region_D (Ds := [18]) (S := fun V => V.cell? ⟨wb, 1, none⟩ = some (.int .i64 B) ∧ V.cell? ⟨nb, 0, none⟩ = some (.int .i64 q1)) (by kernel_rfl) (by exact ⟨c0, n0⟩) (fun hHeld => ?_)
    (have HN3 : Hid (W9.drew.heap[nb]? = some (.cells #[.int .i64 q1, .int .i64 q2] 55)) := Lib.hid HN9.out); clear HN9; (replace HB1 := Lib.hid HB1.out.drew); (have HT := Lib.hid HW.out.tab.drew); (have HBK : Hid (W9.drew.heap[wb]? = some (.cells #[.int .i64 A, .int .i64 B, .pointer (some ⟨tb, 0, none⟩), .int .i64 lim, .int .i64 st] 121)) := Lib.hid HW.out.blk); (have HK0 : Hid (Keep (fun g => g = wb) W9.drew W9.drew) := Lib.hid (Keep.refl _ _)); clear c0 n0 HW; generalize W9.drew = W3 at *
    refine wpAnyD_takeP (i := 0) (oi := { dst := some 20, op := Op.move (Operand.tmp 0), type := 116, pos := "spine.go:48", after := #[], guard := none }) (d := 20) (v := ?_) rfl rfl (by kernel_rfl) (by kernel_rfl) (by kernel_rfl) (fun _ _ _ h => h) (Or.inl ⟨by rfl, ?_⟩) ?_
    rotate_left
    · (intro w' _; go_simp; (try with_reducible rfl))
    simp only [List.setIfInBounds_toArray, List.set_cons_zero, List.set_cons_succ]
    refine wpAnyD_takeP (i := 1) (oi := { dst := some 21, op := Op.move (Operand.tmp 0), type := 116, pos := "spine.go:48", after := #[{ on := 13, ground := Ground.gcOnly Departure.lateStores }], guard := none }) (d := 21) (v := ?_) rfl rfl (by kernel_rfl) (by kernel_rfl) (by kernel_rfl) (fun _ _ _ h => h) (Or.inl ⟨by rfl, ?_⟩) ?_
    rotate_left
    · (intro w' _; go_simp; (try with_reducible rfl))
    simp only [List.setIfInBounds_toArray, List.set_cons_zero, List.set_cons_succ]
    refine wpAnyD_takeP (i := 2) (oi := { dst := some 22, op := Op.move (Operand.tmp 0), type := 116, pos := "spine.go:48", after := #[], guard := none }) (d := 22) (v := ?_) rfl rfl (by kernel_rfl) (by kernel_rfl) (by kernel_rfl) (fun _ _ _ h => h) (Or.inl ⟨by rfl, ?_⟩) ?_
    rotate_left
    · (intro w' _; go_simp; (try with_reducible rfl))
    simp only [List.setIfInBounds_toArray, List.set_cons_zero, List.set_cons_succ]
    refine wpAnyD_takeP (i := 3) (oi := { dst := some 23, op := Op.nilCheck (Operand.tmp 22), type := 0, pos := "spine.go:48", after := #[{ on := 2, ground := Ground.data }], guard := none }) (d := 23) (v := ?_) rfl rfl (by kernel_rfl) (by kernel_rfl) (by kernel_rfl) (fun _ _ _ h => h) (Or.inl ⟨by rfl, ?_⟩) ?_
    rotate_left
    · (intro w' _; go_simp; (try with_reducible rfl))
    simp only [List.setIfInBounds_toArray, List.set_cons_zero, List.set_cons_succ]
    refine wpAnyD_takeP (i := 4) (oi := { dst := some 24, op := Op.fieldAddr 121 (Operand.tmp 23) 0, type := 0, pos := "spine.go:48", after := #[{ on := 3, ground := Ground.data }], guard := none }) (d := 24) (v := ?_) rfl rfl (by kernel_rfl) (by kernel_rfl) (by kernel_rfl) (fun _ _ _ h => h) (Or.inl ⟨by rfl, ?_⟩) ?_
    rotate_left
    · (intro w' _; go_simp; (try with_reducible rfl))
    simp only [List.setIfInBounds_toArray, List.set_cons_zero, List.set_cons_succ]
    refine wpAnyD_takeP (i := 5) (oi := { dst := some 25, op := Op.fieldAddr 119 (Operand.tmp 24) 0, type := 0, pos := "spine.go:48", after := #[{ on := 4, ground := Ground.data }], guard := none }) (d := 25) (v := ?_) rfl rfl (by kernel_rfl) (by kernel_rfl) (by kernel_rfl) (fun _ _ _ h => h) (Or.inl ⟨by rfl, ?_⟩) ?_
    rotate_left
    · (intro w' _; go_simp; (try with_reducible rfl))
    simp only [List.setIfInBounds_toArray, List.set_cons_zero, List.set_cons_succ]
    refine wpAnyD_takeP (i := 6) (oi := { dst := some 26, op := Op.fieldAddr 55 (Operand.tmp 25) 1, type := 0, pos := "spine.go:48", after := #[{ on := 5, ground := Ground.data }], guard := none }) (d := 26) (v := ?_) rfl rfl (by kernel_rfl) (by kernel_rfl) (by kernel_rfl) (fun _ _ _ h => h) (Or.inl ⟨by rfl, ?_⟩) ?_
    rotate_left
    · (intro w' _; go_simp; (try with_reducible rfl))
    simp only [List.setIfInBounds_toArray, List.set_cons_zero, List.set_cons_succ]
    refine wpAnyD_takeP (i := 9) (oi := { dst := some 29, op := Op.fieldAddr 55 (Operand.tmp 3) 0, type := 0, pos := "spine.go:48", after := #[{ on := 13, ground := Ground.gcOnly Departure.lateStores }], guard := none }) (d := 29) (v := ?_) rfl rfl (by kernel_rfl) (by kernel_rfl) (by kernel_rfl) (fun _ _ _ h => h) (Or.inl ⟨by rfl, ?_⟩) ?_
    rotate_left
    · (intro w' _; go_simp; (try with_reducible rfl))
    simp only [List.setIfInBounds_toArray, List.set_cons_zero, List.set_cons_succ]
    refine wpAnyD_takeD (i := 7) (oi := { dst := some 27, op := Op.load 3 (Operand.tmp 26), type := 3, pos := "spine.go:48", after := #[{ on := 6, ground := Ground.data }], guard := none }) (d := 27) (v := ?_) rfl rfl (by kernel_rfl) (by kernel_rfl) (by kernel_rfl) (by kernel_rfl) (fun _ _ _ h => h) (Or.inl ⟨by rfl, ?_⟩) hHeld ?_
    rotate_left
    · (intro w' hSw; (try dsimp only at hSw); go_simp; (try with_reducible rfl))
    simp only [List.setIfInBounds_toArray, List.set_cons_zero, List.set_cons_succ]
    refine wpAnyD_takeP (i := 8) (oi := { dst := some 28, op := Op.binOp BinOp.add 3 (Operand.tmp 27) (Operand.const (Value.int IntKind.i64 1)) 3, type := 3, pos := "spine.go:48", after := #[{ on := 7, ground := Ground.data }], guard := none }) (d := 28) (v := ?_) rfl rfl (by kernel_rfl) (by kernel_rfl) (by kernel_rfl) (fun _ _ _ h => h) (Or.inl ⟨by rfl, ?_⟩) ?_
    rotate_left
    · (intro w' _; go_simp; (try with_reducible rfl))
    simp only [List.setIfInBounds_toArray, List.set_cons_zero, List.set_cons_succ]
    refine wpAnyD_takeP (i := 11) (oi := { dst := some 31, op := Op.nilCheck (Operand.tmp 20), type := 0, pos := "spine.go:48", after := #[{ on := 0, ground := Ground.data }, { on := 0, ground := Ground.phase }, { on := 1, ground := Ground.textOnly Departure.lateStores }, { on := 2, ground := Ground.phase }, { on := 3, ground := Ground.phase }, { on := 4, ground := Ground.phase }, { on := 5, ground := Ground.phase }, { on := 6, ground := Ground.phase }, { on := 7, ground := Ground.phase }, { on := 8, ground := Ground.phase }, { on := 9, ground := Ground.textOnly Departure.lateStores }, { on := 10, ground := Ground.textOnly Departure.lateStores }], guard := none }) (d := 31) (v := ?_) rfl rfl (by kernel_rfl) (by kernel_rfl) (by kernel_rfl) (fun _ _ _ h => h) (Or.inl ⟨by rfl, ?_⟩) ?_
    rotate_left
    · (intro w' _; go_simp; (try with_reducible rfl))
    simp only [List.setIfInBounds_toArray, List.set_cons_zero, List.set_cons_succ]
    refine wpAnyD_takeP (i := 12) (oi := { dst := some 32, op := Op.fieldAddr 121 (Operand.tmp 31) 2, type := 0, pos := "spine.go:48", after := #[{ on := 11, ground := Ground.data }, { on := 0, ground := Ground.phase }, { on := 1, ground := Ground.textOnly Departure.lateStores }, { on := 2, ground := Ground.phase }, { on := 3, ground := Ground.phase }, { on := 4, ground := Ground.phase }, { on := 5, ground := Ground.phase }, { on := 6, ground := Ground.phase }, { on := 7, ground := Ground.phase }, { on := 8, ground := Ground.phase }, { on := 9, ground := Ground.textOnly Departure.lateStores }, { on := 10, ground := Ground.textOnly Departure.lateStores }], guard := none }) (d := 32) (v := ?_) rfl rfl (by kernel_rfl) (by kernel_rfl) (by kernel_rfl) (fun _ _ _ h => h) (Or.inl ⟨by rfl, ?_⟩) ?_
    rotate_left
    · (intro w' _; go_simp; (try with_reducible rfl))
    simp only [List.setIfInBounds_toArray, List.set_cons_zero, List.set_cons_succ]
    refine wpAnyD_takeD (i := 10) (oi := { dst := some 30, op := Op.load 3 (Operand.tmp 29), type := 3, pos := "spine.go:48", after := #[{ on := 9, ground := Ground.data }, { on := 13, ground := Ground.gcOnly Departure.lateStores }], guard := none }) (d := 30) (v := ?_) rfl rfl (by kernel_rfl) (by kernel_rfl) (by kernel_rfl) (by kernel_rfl) (fun _ _ _ h => h) (Or.inl ⟨by rfl, ?_⟩) hHeld ?_
    rotate_left
    · (intro w' hSw; (try dsimp only at hSw); go_simp; (try with_reducible rfl))
    simp only [List.setIfInBounds_toArray, List.set_cons_zero, List.set_cons_succ]
    refine wpAnyD_one (i := 13) (o := { dst := none, op := Op.store 3 (Operand.tmp 32) (Operand.tmp 28), type := 0, pos := "spine.go:48", after := #[{ on := 12, ground := Ground.data }, { on := 8, ground := Ground.data }, { on := 0, ground := Ground.phase }, { on := 1, ground := Ground.textOnly Departure.lateStores }, { on := 2, ground := Ground.phase }, { on := 3, ground := Ground.phase }, { on := 4, ground := Ground.phase }, { on := 5, ground := Ground.phase }, { on := 6, ground := Ground.phase }, { on := 7, ground := Ground.phase }, { on := 8, ground := Ground.phase }, { on := 9, ground := Ground.textOnly Departure.lateStores }, { on := 10, ground := Ground.textOnly Departure.lateStores }], guard := none }) (by kernel_rfl) rfl (by rfl) (fun K hK => ?_)
    have z0 := blk_froz HBK.out 3; have d0 := blk_cell HBK.out 3; simp only [List.getElem?_toArray, List.getElem?_cons_zero, List.getElem?_cons_succ] at d0; go_simp; have hb4 := blk_set HBK.out 3 (.int .i64 (B + 1)); simp only [List.setIfInBounds_toArray, List.set_cons_zero, List.set_cons_succ] at hb4; have HBK4 := Lib.hid hb4; have HK4 := Lib.hid (HK0.out.setCell (p := ⟨wb, 3, none⟩) (.inl rfl) (.int .i64 (B + 1))); have hs0 := blk_cell HBK4.out 1; have hs1 := blk_cell (HK4.out.blk HN3.out HNE.out) 0; simp only [List.getElem?_toArray, List.getElem?_cons_zero, List.getElem?_cons_succ] at hs0 hs1; have h := And.intro hs0 hs1; clear z0 d0 hb4 hs0 hs1; generalize W3.setCell ⟨wb, 3, none⟩ (.int .i64 (B + 1)) = W4 at *
    refine hK.out _ _ h (fun hHeld => ?_)
    clear hK K
    try simp only [Act.put, List.setIfInBounds_toArray, List.set_cons_zero, List.set_cons_succ]
    refine wpAnyD_takeP (i := 14) (oi := { dst := some 33, op := Op.nilCheck (Operand.tmp 21), type := 0, pos := "spine.go:48", after := #[{ on := 1, ground := Ground.data }, { on := 0, ground := Ground.phase }, { on := 1, ground := Ground.phase }, { on := 2, ground := Ground.phase }, { on := 3, ground := Ground.phase }, { on := 4, ground := Ground.phase }, { on := 5, ground := Ground.phase }, { on := 6, ground := Ground.phase }, { on := 7, ground := Ground.phase }, { on := 8, ground := Ground.phase }, { on := 9, ground := Ground.phase }, { on := 10, ground := Ground.phase }, { on := 11, ground := Ground.phase }, { on := 12, ground := Ground.phase }, { on := 13, ground := Ground.phase }], guard := none }) (d := 33) (v := ?_) rfl rfl (by kernel_rfl) (by kernel_rfl) (by kernel_rfl) (fun _ _ _ h => h) (Or.inl ⟨by rfl, ?_⟩) ?_
    rotate_left
    · (intro w' _; go_simp; (try with_reducible rfl))
    simp only [List.setIfInBounds_toArray, List.set_cons_zero, List.set_cons_succ]
    refine wpAnyD_takeP (i := 15) (oi := { dst := some 34, op := Op.fieldAddr 121 (Operand.tmp 33) 0, type := 0, pos := "spine.go:48", after := #[{ on := 14, ground := Ground.data }, { on := 0, ground := Ground.phase }, { on := 1, ground := Ground.phase }, { on := 2, ground := Ground.phase }, { on := 3, ground := Ground.phase }, { on := 4, ground := Ground.phase }, { on := 5, ground := Ground.phase }, { on := 6, ground := Ground.phase }, { on := 7, ground := Ground.phase }, { on := 8, ground := Ground.phase }, { on := 9, ground := Ground.phase }, { on := 10, ground := Ground.phase }, { on := 11, ground := Ground.phase }, { on := 12, ground := Ground.phase }, { on := 13, ground := Ground.phase }], guard := none }) (d := 34) (v := ?_) rfl rfl (by kernel_rfl) (by kernel_rfl) (by kernel_rfl) (fun _ _ _ h => h) (Or.inl ⟨by rfl, ?_⟩) ?_
    rotate_left
    · (intro w' _; go_simp; (try with_reducible rfl))
    simp only [List.setIfInBounds_toArray, List.set_cons_zero, List.set_cons_succ]
    refine wpAnyD_takeP (i := 16) (oi := { dst := some 35, op := Op.fieldAddr 119 (Operand.tmp 34) 0, type := 0, pos := "spine.go:48", after := #[{ on := 15, ground := Ground.data }, { on := 0, ground := Ground.phase }, { on := 1, ground := Ground.phase }, { on := 2, ground := Ground.phase }, { on := 3, ground := Ground.phase }, { on := 4, ground := Ground.phase }, { on := 5, ground := Ground.phase }, { on := 6, ground := Ground.phase }, { on := 7, ground := Ground.phase }, { on := 8, ground := Ground.phase }, { on := 9, ground := Ground.phase }, { on := 10, ground := Ground.phase }, { on := 11, ground := Ground.phase }, { on := 12, ground := Ground.phase }, { on := 13, ground := Ground.phase }], guard := none }) (d := 35) (v := ?_) rfl rfl (by kernel_rfl) (by kernel_rfl) (by kernel_rfl) (fun _ _ _ h => h) (Or.inl ⟨by rfl, ?_⟩) ?_
    rotate_left
    · (intro w' _; go_simp; (try with_reducible rfl))
    simp only [List.setIfInBounds_toArray, List.set_cons_zero, List.set_cons_succ]
    refine wpAnyD_takeP (i := 17) (oi := { dst := some 36, op := Op.fieldAddr 55 (Operand.tmp 35) 1, type := 0, pos := "spine.go:48", after := #[{ on := 16, ground := Ground.data }, { on := 0, ground := Ground.phase }, { on := 1, ground := Ground.phase }, { on := 2, ground := Ground.phase }, { on := 3, ground := Ground.phase }, { on := 4, ground := Ground.phase }, { on := 5, ground := Ground.phase }, { on := 6, ground := Ground.phase }, { on := 7, ground := Ground.phase }, { on := 8, ground := Ground.phase }, { on := 9, ground := Ground.phase }, { on := 10, ground := Ground.phase }, { on := 11, ground := Ground.phase }, { on := 12, ground := Ground.phase }, { on := 13, ground := Ground.phase }], guard := none }) (d := 36) (v := ?_) rfl rfl (by kernel_rfl) (by kernel_rfl) (by kernel_rfl) (fun _ _ _ h => h) (Or.inl ⟨by rfl, ?_⟩) ?_
    rotate_left
    · (intro w' _; go_simp; (try with_reducible rfl))
    simp only [List.setIfInBounds_toArray, List.set_cons_zero, List.set_cons_succ]
    refine wpAnyD_last (D := 18) (by decide) (o := { dst := none, op := Op.store 3 (Operand.tmp 36) (Operand.tmp 30), type := 0, pos := "spine.go:48", after := #[{ on := 17, ground := Ground.data }, { on := 10, ground := Ground.data }, { on := 13, ground := Ground.chain }, { on := 0, ground := Ground.phase }, { on := 1, ground := Ground.phase }, { on := 2, ground := Ground.phase }, { on := 3, ground := Ground.phase }, { on := 4, ground := Ground.phase }, { on := 5, ground := Ground.phase }, { on := 6, ground := Ground.phase }, { on := 7, ground := Ground.phase }, { on := 8, ground := Ground.phase }, { on := 9, ground := Ground.phase }, { on := 10, ground := Ground.phase }, { on := 11, ground := Ground.phase }, { on := 12, ground := Ground.phase }, { on := 13, ground := Ground.phase }], guard := none }) (by kernel_rfl) rfl (by rfl) (fun K hK => ?_)
    have z0 := blk_froz HBK4.out 1; have d0 := blk_cell HBK4.out 1; simp only [List.getElem?_toArray, List.getElem?_cons_zero, List.getElem?_cons_succ] at d0; go_simp; have hb5 := blk_set HBK4.out 1 (.int .i64 q1); simp only [List.setIfInBounds_toArray, List.set_cons_zero, List.set_cons_succ] at hb5; have HBK5 := Lib.hid hb5; have HK5 := Lib.hid (HK4.out.setCell (p := ⟨wb, 1, none⟩) (.inl rfl) (.int .i64 q1)); clear z0 d0 hb5; generalize W4.setCell ⟨wb, 1, none⟩ (.int .i64 q1) = W5 at *
    refine hK.out _ _ ?_
    clear hK K
    try simp only [Act.put, List.setIfInBounds_toArray, List.set_cons_zero, List.set_cons_succ]
    refine wpAnyD_done (by kernel_rfl) ?_ _
    have z4 := blk_froz HBK5.out 4
    have d4 := blk_cell HBK5.out 4
    simp only [List.getElem?_toArray, List.getElem?_cons_zero, List.getElem?_cons_succ] at d4
    have ws : IntKind.i64.wrap (st + 1) = st + 1 := IntWalk.i64_in _ (by omega)
    go_upto_region 5 with fail
    clear ws z4 d4
    have hb6 := blk_set HBK5.out 4 (.int .i64 (st + 1))
    simp only [List.setIfInBounds_toArray, List.set_cons_zero, List.set_cons_succ] at hb6
    have hk6 := HK5.out.setCell (p := ⟨wb, 4, none⟩) (.inl rfl) (.int .i64 (st + 1))
    have HF : Hid (WalkIs (W5.setCell ⟨wb, 4, none⟩ (.int .i64 (st + 1))) base wb tbase tb T sv mb mp A q1 (B + 1) (st + 1) ∧ Below base w (W5.setCell ⟨wb, 4, none⟩ (.int .i64 (st + 1)))) := Lib.hid (by
      have hle := HH.out.le
      refine ⟨⟨hb6, HT.out.keep hk6 (fun x hx e => ?_), HH.out.tlt, hle⟩, HB1.out.trans (hk6.below ?_ (fun x hx => ?_))⟩
      · have := HH.out.tlt x hx; omega
      · exact Nat.le_trans (Nat.le_trans hle (Nat.le_of_lt (blk_lt HH.out.blk))) HB1.out.size
      · omega)
    clear hb6 hk6
    go_wp2_with fail
    go_ret
    exact ⟨rfl, HF.out.1, HF.out.2⟩
end
end Go.Proofs.YtbppaiejpgdbiaaGreat

