/- Texts of several layers, one behind the other: Vocab0, Once0, Once1, Once2, Vocab2, Pieces, Bound2, Find0, Find1, Spine0, Voc0, Find2, Alone0, Spine1, Spine3, Beside1, VocNew0, Dead0, PruneLawN. -/
import Derived.Test.YtbppaiejpgdbiaaGreatZP3
import Derived.WalkKit
import Derived.KernelRfl
import Derived.Lib.Hide
import Derived.Deep.QuietTactic
import Derived.BigQuiet
import Derived.OwnWalk
import Derived.Lib.Strings
import Derived.Deep.DeepCutAuto
import Derived.Deep.RegionHeld3
import Derived.StillTailTactics
import Derived.Test.YtbppaiejpgdbiaaGreatProg
import Derived.Deep.Slices
import Derived.Deep.Fields
import Derived.ChangeSame
import Derived.SliceStrings
import Derived.OpenShut
import Derived.Maps.OwnSet
import Derived.Maps.OwnOps
import Derived.DeepKeys4
import Derived.WideKeyEntry
import Derived.Maps.AppendAt
import Derived.Laws.ResultCell
import Derived.Laws.IdiomStrings
import Derived.Laws.AppendOwnNone
import Derived.Lib.AppendStr
import Derived.Laws.LoneSync
import Derived.Tactics
import Derived.Tactics2
import Derived.Defers
import Derived.Laws.Pointers
import Derived.RegionTactic
import Derived.RegionCalls
import Derived.ChangeAlike
import Derived.Test.YtbppaiejpgdbiaaGreatRows
import Derived.ProofKit
import Derived.ShutString
import Derived.ChangeOld
import Derived.Below
import Derived.Lib.SmallJoins
/- Layer 10 (vocab): New, where nothing is wrong. -/
namespace Go.Proofs.YtbppaiejpgdbiaaGreat
open Go.RowKit Go.Maps Go.WideMaps
set_option maxRecDepth 100000
set_option linter.unusedVariables false
set_option linter.unusedSimpArgs false
section
variable {w : World} {s : SpecP} {T : List Ent} {AM AT AX AC AJ : Option Addr} {cM cT cX cC cJ : Nat}
set_option maxHeartbeats 2000000 in
theorem vnew_any (hs : SpecAt w s AM AT AX AC AJ) (hR : rightS s = true)
    (hL : ∀ V, Below w.heap.size w V → Calls Tryz.prog 87 #[specW s AM AT AX AC AJ cM cT cX cC cJ] V fun e w' => (∃ tb sv mb mp n, e = .returned (.tuple #[.pointer (some ⟨tb, 0, none⟩), .int .i64 n, .int .i64 0]) ∧ TabIs w' V.heap.size tb T sv mb mp) ∧ Below V.heap.size V w')
    (hM : ∀ V, Below w.heap.size w V → Calls Tryz.prog 88 #[.slice AX s.xs.length cX] V fun e w' => (∃ mb sv mi mt n, e = .returned (.tuple #[.pointer (some ⟨mb, 0, none⟩), .int .i64 n, .int .i64 0]) ∧ MarkIs w' V.heap.size mb s.xs sv mi mt) ∧ Below V.heap.size V w')
    (hid : s.xs.all (idB T) = true) (hln : s.ms.length ≤ 1000000 ∧ s.ts.length ≤ 1000000 ∧ s.xs.length ≤ 1000000 ∧ s.cs.length ≤ 1000000 ∧ s.js.length ≤ 1000000) (hcs : s.cs.all spanB = true) (hjs : s.js.all jnB = true) :
    Calls Tryz.prog 15 #[specW s AM AT AX AC AJ cM cT cX cC cJ] w fun e w' => (∃ vb A1 A2 A3 A4 A5 c1 c2 c3 c4 c5 tbase tb bk kbase mk sv mb mp sv2 mi mt, e = .returned (.tuple #[.pointer (some ⟨vb, 0, none⟩), .int .i64 0, .int .i64 0]) ∧ VocIs w' w.heap.size vb s T A1 A2 A3 A4 A5 c1 c2 c3 c4 c5 tbase tb bk kbase mk sv mb mp sv2 mi mt (.slice none 0 0) 0 0 0 0) ∧ Below w.heap.size w w' := by
  have HB0 := Lib.hid ((Below.refl w.heap.size w).alloc (Nat.le_refl _) (.cells #[.bool s.rk, .slice AM s.ms.length cM, .slice AT s.ts.length cT, .slice AX s.xs.length cX, .slice AC s.cs.length cC, .slice AJ s.js.length cJ] 48))
  have HO0 := Lib.hid (blk_new w (.cells #[.bool s.rk, .slice AM s.ms.length cM, .slice AT s.ts.length cT, .slice AX s.xs.length cX, .slice AC s.cs.length cC, .slice AJ s.js.length cJ] 48))
  have HRI := Lib.hid (fun V (hV : Below w.heap.size w V) => sright_any (cM := cM) (cT := cT) (cX := cX) (cC := cC) (cJ := cJ) (hs.below hV (Nat.le_refl _)))
  rw [hR] at HRI
  have HBU := Lib.hid (fun V (hV : Below w.heap.size w V) => build_any (cM := cM) (cT := cT) (cX := cX) (cC := cC) (cJ := cJ) (hs.below hV (Nat.le_refl _)) (fun U hU => hL U (hV.trans (hU.mono hV.size))) (fun U hU => hM U (hV.trans (hU.mono hV.size))) hid hln hcs hjs)
  clear hs hR hL hM hid hln hcs hjs
  unfold specW specV at *
  go_enter Tryz.func15, Tryz.ntmps15
  go_wp2_with (first
    | (go_at_call 47; (refine (HRI.out _ HB0.out).mono ?_); (rintro e V1 ⟨rfl, hb⟩); (have HB1 := Lib.hid (HB0.out.trans (hb.mono HB0.out.size))); (have HO1 := Lib.hid (blk_below hb (blk_lt HO0.out) HO0.out)); (have q0 := blk_cell HO1.out 0); (have q1 := blk_cell HO1.out 1); (have q2 := blk_cell HO1.out 2); (have q3 := blk_cell HO1.out 3); (have q4 := blk_cell HO1.out 4); (have q5 := blk_cell HO1.out 5); (simp only [List.getElem?_toArray, List.getElem?_cons_zero, List.getElem?_cons_succ] at q0 q1 q2 q3 q4 q5); (clear hb))
    | (go_at_call 48; (refine (HBU.out V1 HB1.out).mono ?_); (rintro e V2 ⟨⟨vb, A1, A2, A3, A4, A5, c1, c2, c3, c4, c5, tbase, tb, bk, kbase, mk, sv, mb, mp, sv2, mi, mt, rfl, hv⟩, hb⟩); (have HV := Lib.hid hv); (have HB2 := Lib.hid (HB1.out.trans (hb.mono HB1.out.size))); (clear hv hb)))
  go_ret3
  have hv := HV.out
  have hz := HB1.out.size
  exact ⟨⟨vb, A1, A2, A3, A4, A5, c1, c2, c3, c4, c5, tbase, tb, bk, kbase, mk, sv, mb, mp, sv2, mi, mt, rfl, ⟨hv.blk, hv.org, Nat.le_trans hz hv.lt.1, Nat.le_trans hz hv.lt.2.1, Nat.le_trans hz hv.lt.2.2⟩⟩, HB2.out⟩
end
end Go.Proofs.YtbppaiejpgdbiaaGreat

/- sync.Once: its parts (after LazyParts). -/
namespace Go.Proofs.YtbppaiejpgdbiaaGreat
open Go.RowKit Go.Maps Go.WideMaps
set_option maxRecDepth 100000
set_option linter.unusedVariables false
set_option linter.unusedSimpArgs false
theorem disable_1 (w : World) : (callFunc 170 #[]).run Tryz.prog w = .ok (.value (.tuple #[])) w := run_call_mark0 Tryz.func170 (by kernel_rfl) (by kernel_rfl) (by kernel_rfl) .disable (by kernel_rfl) w
theorem enable_1 (w : World) : (callFunc 172 #[]).run Tryz.prog w = .ok (.value (.tuple #[])) w := run_call_mark0 Tryz.func172 (by kernel_rfl) (by kernel_rfl) (by kernel_rfl) .enable (by kernel_rfl) w
theorem acquire_1 (a : Addr) (w : World) : (callFunc 173 #[.pointer (some a)]).run Tryz.prog w = .ok (.value (.tuple #[])) w := run_call_marked Tryz.func173 (by kernel_rfl) (by kernel_rfl) (by kernel_rfl) .acquire (by kernel_rfl) a w
theorem releaseMerge_1 (a : Addr) (w : World) : (callFunc 175 #[.pointer (some a)]).run Tryz.prog w = .ok (.value (.tuple #[])) w := run_call_marked Tryz.func175 (by kernel_rfl) (by kernel_rfl) (by kernel_rfl) .releaseMerge (by kernel_rfl) a w
theorem bload_any (b o : Nat) (n : Int) (w : World) (hc : w.cell? ⟨b, o, none⟩ = some (.int .u32 n)) :
    Calls Tryz.prog 133 #[.pointer (some ⟨b, o, none⟩)] w fun e w' => e = .returned (.bool (n != 0)) ∧ w' = w := by
  have hl := run_call_load (P := Tryz.prog) Tryz.func153 (by kernel_rfl) (by kernel_rfl) (by kernel_rfl) .u32 (by kernel_rfl) hc
  clear hc
  go_enter Tryz.func133, Tryz.ntmps133
  go_wp2_with fail
  go_ret
  exact ⟨rfl, rfl⟩
/-- '(*sync/atomic.Bool).Store(true)', entered as a deferred call: the cell holds 1. -/
theorem store_def (a : Addr) (x : Value) (u : FrameMode) (w : World) (hc : w.cell? a = some x) (hz : w.frozen? a = false) :
    CallsD Tryz.prog 156 #[.pointer (some a), .bool true] u w fun e u' w' => u' = u ∧ (e = .returned (.tuple #[]) ∧ w' = w.drew.setCell a (.int .u32 1)) := by
  have hc' : w.drew.cell? a = some x := by go_simp
  have hz' : w.drew.frozen? a = false := by go_simp
  have hst := run_call_store (P := Tryz.prog) Tryz.func165 (by kernel_rfl) (by kernel_rfl) (by kernel_rfl) (by kernel_rfl) (k := .u32) (y := 1) hc' hz'
  go_enter_d Tryz.func156, Tryz.ntmps156
  go_wp2
  go_region_calls
  all_goals (go_end0; exact ⟨rfl, rfl⟩)
/-- '(*sync.Mutex).Unlock', entered as a deferred call, the lock held and nobody waiting: state 0. (MX, UP: *internal/sync.Mutex, unsafe.Pointer) -/
theorem unlock_def (b o : Nat) (u : FrameMode) (w : World) (hc : w.cell? ⟨b, o, none⟩ = some (.int .i32 1)) (hz : w.frozen? ⟨b, o, none⟩ = false) :
    CallsD Tryz.prog 155 #[.pointer (some ⟨b, o, none⟩)] u w fun e u' w' => u' = u ∧ (e = .returned (.tuple #[]) ∧ w' = w.setCell ⟨b, o, none⟩ (.int .i32 0)) := by
  have hd := disable_1
  have he := enable_1
  have hr := releaseMerge_1
  have hadd := run_call_add (P := Tryz.prog) Tryz.func176 (by kernel_rfl) (by kernel_rfl) (by kernel_rfl) .i32 (by kernel_rfl) (y := -1) (s := 0) hc hz (by simp [go_sem]; rfl)
  have hcv := run_convert_to_unsafe (P := Tryz.prog) (src := 251) (dst := 255) Tryz.underlying251 Tryz.underlying255 (by kernel_rfl) hc
  go_enter_d Tryz.func155, Tryz.ntmps155
  go_wp2
  go_end0
  go_wp2
  go_end0
  exact ⟨rfl, rfl⟩
theorem lock_free (b o : Nat) (w : World) (hc : w.cell? ⟨b, o, none⟩ = some (.int .i32 0)) (hz : w.frozen? ⟨b, o, none⟩ = false) :
    Calls Tryz.prog 154 #[.pointer (some ⟨b, o, none⟩)] w fun e w' => e = .returned (.tuple #[]) ∧ w' = w.setCell ⟨b, o, none⟩ (.int .i32 1) := by
  have hd := disable_1
  have he := enable_1
  have ha := acquire_1
  have hcas := run_call_cas_hit (P := Tryz.prog) Tryz.func171 (by kernel_rfl) (by kernel_rfl) (by kernel_rfl) .i32 (by kernel_rfl) (y := 1) hc hz
  have hc' : (w.setCell ⟨b, o, none⟩ (.int .i32 1)).cell? ⟨b, o, none⟩ = some (.int .i32 1) := World.cell?_setCell_same w ⟨b, o, none⟩ _ hc
  have hcv := run_convert_to_unsafe (P := Tryz.prog) (src := 251) (dst := 255) Tryz.underlying251 Tryz.underlying255 (by kernel_rfl) hc'
  go_enter Tryz.func154, Tryz.ntmps154
  go_wp2
  first | go_end0 | (simp only [Exit.inBlock, Exit.then]; refine bodyPost_ret (results_none rfl _ _ _) rfl ?_) | refine bodyPost_ret (results_none rfl _ _ _) rfl ?_
  go_wp2
  go_end0
  exact ⟨rfl, rfl⟩
end Go.Proofs.YtbppaiejpgdbiaaGreat

/- sync.Once.Do, done already. -/
namespace Go.Proofs.YtbppaiejpgdbiaaGreat
open Go.RowKit Go.Maps Go.WideMaps
set_option maxRecDepth 100000
set_option linter.unusedVariables false
set_option linter.unusedSimpArgs false
theorem do_done (b o : Nat) (f : Value) (w : World) (hc : w.cell? ⟨b, o, none⟩ = some (.int .u32 1)) :
    Calls Tryz.prog 94 #[.pointer (some ⟨b, o, none⟩), f] w fun e w' => e = .returned (.tuple #[]) ∧ w' = w := by
  have hl := bload_any b o 1 w hc
  clear hc
  go_enter Tryz.func94, Tryz.ntmps94
  go_wp2_with (go_at_call 133; (refine hl.mono ?_); (rintro e V1 ⟨rfl, rfl⟩))
  go_end0
  exact ⟨rfl, rfl⟩
end Go.Proofs.YtbppaiejpgdbiaaGreat

/- sync.Once.Do, the first time (after LazySlow). -/
namespace Go.Proofs.YtbppaiejpgdbiaaGreat
open Go.RowKit Go.Maps Go.WideMaps
set_option linter.unusedVariables false
set_option linter.unusedSimpArgs false
set_option maxRecDepth 100000 in
set_option maxHeartbeats 1600000 in
theorem slow_any {R : World → Prop} (b o vb : Nat) (w : World)
    (h0 : w.cell? ⟨b, o, none⟩ = some (.int .u32 0)) (h1 : w.cell? ⟨b, o + 1, none⟩ = some (.int .i32 0)) (f1 : w.frozen? ⟨b, o + 1, none⟩ = false)
    (hF : Calls Tryz.prog 95 #[.pointer (some ⟨vb, 0, none⟩)] (w.setCell ⟨b, o + 1, none⟩ (.int .i32 1)) fun e w1 => e = .returned (.tuple #[]) ∧ R w1 ∧ w1.cell? ⟨b, o, none⟩ = some (.int .u32 0) ∧ w1.cell? ⟨b, o + 1, none⟩ = some (.int .i32 1) ∧ w1.frozen? ⟨b, o, none⟩ = false ∧ w1.frozen? ⟨b, o + 1, none⟩ = false) :
    Calls Tryz.prog 134 #[.pointer (some ⟨b, o, none⟩), .func (.func 95) #[.pointer (some ⟨vb, 0, none⟩)] #[]] w fun e w' => e = .returned (.tuple #[]) ∧
      ∃ w1, R w1 ∧ w' = (w1.drew.setCell ⟨b, o, none⟩ (.int .u32 1)).setCell ⟨b, o + 1, none⟩ (.int .i32 0) := by
  have hl := bload_any b o 0 (w.setCell ⟨b, o + 1, none⟩ (.int .i32 1)) ((World.cell?_setCell_other _ ⟨b, o + 1, none⟩ ⟨b, o, none⟩ _ (by simp)).trans h0)
  have HL := Lib.hid hl
  have HF := Lib.hid hF
  have HK := Lib.hid (lock_free b o.succ w h1 f1)
  clear hl hF h0 h1 f1
  go_enter_defers Tryz.func134, Tryz.ntmps134
  go_wp2_with (first | (go_at_call 154; refine HK.out.mono ?_; rintro e w' ⟨rfl, rfl⟩) | (go_at_call 133; refine HL.out.mono ?_; rintro e w' ⟨rfl, rfl⟩) | (go_at_call 95; refine HF.out.mono ?_; rintro e w1 ⟨rfl, hR, c0, c1, z0, z1⟩))
  refine leaves_cons (f := 156) (args := #[.pointer (some ⟨b, o, none⟩), .bool true]) (by simp) (by simp [go_sem]) ?_
  refine (store_def ⟨b, o, none⟩ (.int .u32 0) .returning _ c0 z0).mono ?_
  rintro e u' w'' ⟨rfl, rfl, rfl⟩
  refine leaves_cons (f := 155) (args := #[.pointer (some ⟨b, o + 1, none⟩)]) (by simp [settle]) (by simp [go_sem]) ?_
  refine (unlock_def b (o + 1) _ _ ?_ (by simp [z1])).mono ?_
  · refine (World.cell?_setCell_other _ ⟨b, o, none⟩ ⟨b, o + 1, none⟩ _ (by simp)).trans ?_
    rw [World.cell?_drew]
    exact c1
  rintro e u' w'' ⟨rfl, rfl, rfl⟩
  simp [Leaves, settle, results, Tryz.results134]
  exact ⟨_, hR, rfl⟩
set_option maxHeartbeats 1600000 in
theorem do_first {R : World → Prop} (b o vb : Nat) (w : World)
    (h0 : w.cell? ⟨b, o, none⟩ = some (.int .u32 0)) (h1 : w.cell? ⟨b, o + 1, none⟩ = some (.int .i32 0)) (f1 : w.frozen? ⟨b, o + 1, none⟩ = false)
    (hF : Calls Tryz.prog 95 #[.pointer (some ⟨vb, 0, none⟩)] (w.setCell ⟨b, o + 1, none⟩ (.int .i32 1)) fun e w1 => e = .returned (.tuple #[]) ∧ R w1 ∧ w1.cell? ⟨b, o, none⟩ = some (.int .u32 0) ∧ w1.cell? ⟨b, o + 1, none⟩ = some (.int .i32 1) ∧ w1.frozen? ⟨b, o, none⟩ = false ∧ w1.frozen? ⟨b, o + 1, none⟩ = false) :
    Calls Tryz.prog 94 #[.pointer (some ⟨b, o, none⟩), .func (.func 95) #[.pointer (some ⟨vb, 0, none⟩)] #[]] w fun e w' => e = .returned (.tuple #[]) ∧
      ∃ w1, R w1 ∧ w' = (w1.drew.setCell ⟨b, o, none⟩ (.int .u32 1)).setCell ⟨b, o + 1, none⟩ (.int .i32 0) := by
  have HL := Lib.hid (bload_any b o 0 w h0)
  have HS := Lib.hid (slow_any b o vb w h0 h1 f1 hF)
  clear h0 h1 f1 hF
  go_enter Tryz.func94, Tryz.ntmps94
  go_wp2_with (first | (go_at_call 133; refine HL.out.mono ?_; rintro e w' ⟨rfl, rfl⟩) | (go_at_call 134; refine HS.out.mono ?_; rintro e w' ⟨rfl, w1, hR, rfl⟩))
  go_end0
  exact ⟨rfl, w1, hR, rfl⟩
end Go.Proofs.YtbppaiejpgdbiaaGreat

/- Layer 10 (vocab): what a vocabulary is made of: Table, Bounds, Marks, Size. -/
namespace Go.Proofs.YtbppaiejpgdbiaaGreat
open Go.RowKit Go.Maps Go.WideMaps
set_option maxRecDepth 100000
set_option linter.unusedVariables false
set_option linter.unusedSimpArgs false
section
variable {w : World} {base vb : Nat} {s : SpecP} {T : List Ent} {A1 A2 A3 A4 A5 : Option Addr} {c1 c2 c3 c4 c5 tbase tb bk kbase mk : Nat} {sv : Value} {mb mp : Nat} {sv2 : Value} {mi mt : Nat} {l : Value} {dn st se us : Int}
theorem vtable_any (h : VocIs w base vb s T A1 A2 A3 A4 A5 c1 c2 c3 c4 c5 tbase tb bk kbase mk sv mb mp sv2 mi mt l dn st se us) : Calls Tryz.prog 65 #[.pointer (some ⟨vb, 0, none⟩)] w fun e w' => e = .returned (.pointer (some ⟨tb, 0, none⟩)) ∧ w' = w := by
  have c := blk_cell h.blk 6
  simp only [List.getElem?_toArray, List.getElem?_cons_zero, List.getElem?_cons_succ] at c
  clear h
  go_enter Tryz.func65, Tryz.ntmps65
  go_wp2_with fail
  go_ret
  exact ⟨rfl, rfl⟩
theorem vsize_any (h : VocIs w base vb s T A1 A2 A3 A4 A5 c1 c2 c3 c4 c5 tbase tb bk kbase mk sv mb mp sv2 mi mt l dn st se us) : Calls Tryz.prog 36 #[.pointer (some ⟨vb, 0, none⟩)] w fun e w' => e = .returned (.int .i64 (T.length : Nat)) ∧ w' = w := by
  have h1 := vtable_any h
  have h2 := len_tab h.tab
  clear h
  go_enter Tryz.func36, Tryz.ntmps36
  go_wp2_with (first | (go_at_call 65; (refine h1.mono ?_); (rintro e V1 ⟨rfl, rfl⟩)) | (go_at_call 66; (refine h2.mono ?_); (rintro e V1 ⟨rfl, rfl⟩)))
  go_ret
  exact ⟨rfl, rfl⟩
end
end Go.Proofs.YtbppaiejpgdbiaaGreat

/- Layer 8 (bound): what the pieces of bytes are, as plain lists. -/
namespace Go.Proofs.YtbppaiejpgdbiaaGreat

/-- is it cut behind the last byte of a piece? -/
def cutLast (cut : Nat → Nat → Bool) (p : List UInt8) (c : UInt8) : Bool := match p.getLast? with | none => false | some d => cut d.toNat c.toNat
theorem cutLast_snoc (cut : Nat → Nat → Bool) (p : List UInt8) (d c : UInt8) : cutLast cut (p ++ [d]) c = cut d.toNat c.toNat := by simp [cutLast]
/-- one more byte: a new piece where it is cut (or nothing is there yet), else the last piece grows -/
def addByte (cut : Nat → Nat → Bool) (acc : List (List UInt8)) (c : UInt8) : List (List UInt8) :=
  match acc.getLast? with
  | none => [[c]]
  | some p => if cutLast cut p c then acc ++ [[c]] else acc.dropLast ++ [p ++ [c]]
def pcs (cut : Nat → Nat → Bool) (l : List UInt8) : List (List UInt8) := l.foldl (addByte cut) []
theorem pcs_snoc (cut : Nat → Nat → Bool) (l : List UInt8) (c : UInt8) : pcs cut (l ++ [c]) = addByte cut (pcs cut l) c := by simp [pcs]
theorem pcs_one (cut : Nat → Nat → Bool) (c : UInt8) : pcs cut [c] = [[c]] := rfl

theorem addByte_new {cut : Nat → Nat → Bool} {acc : List (List UInt8)} {p : List UInt8} {d c : UInt8} (h : cut d.toNat c.toNat = true) : addByte cut (acc ++ [p ++ [d]]) c = acc ++ [p ++ [d]] ++ [[c]] := by
  simp [addByte, cutLast_snoc, h]
theorem addByte_grow {cut : Nat → Nat → Bool} {acc : List (List UInt8)} {p : List UInt8} {d c : UInt8} (h : cut d.toNat c.toNat = false) : addByte cut (acc ++ [p ++ [d]]) c = acc ++ [p ++ [d] ++ [c]] := by
  simp [addByte, cutLast_snoc, h]

/-- The state of the walk over the bytes l: 'done' are closed, the open one begins at 'f'; i bytes are taken. -/
def Open (cut : Nat → Nat → Bool) (l : List UInt8) (done : List (List UInt8)) (f i : Nat) : Prop :=
  f < i ∧ i ≤ l.length ∧ pcs cut (l.take i) = done ++ [(l.drop f).take (i - f)]

theorem open_start (cut : Nat → Nat → Bool) (l : List UInt8) (h : 0 < l.length) : Open cut l [] 0 1 := by
  refine ⟨by omega, by omega, ?_⟩
  cases l with
  | nil => simp at h
  | cons c l => simp [pcs_one]

theorem slice_snoc (l : List UInt8) (f i : Nat) (h : f ≤ i) (hi : i < l.length) : (l.drop f).take (i + 1 - f) = (l.drop f).take (i - f) ++ [l[i]] := by
  rw [show i + 1 - f = (i - f) + 1 by omega, List.take_succ_eq_append_getElem (by rw [List.length_drop]; omega)]
  congr 2
  rw [List.getElem_drop]
  congr 1
  omega

theorem open_last {l : List UInt8} {f i : Nat} (h : f < i) (hi : i ≤ l.length) : (l.drop f).take (i - f) = (l.drop f).take (i - 1 - f) ++ [l[i - 1]] := by
  have := slice_snoc l f (i - 1) (by omega) (by omega)
  rwa [show i - 1 + 1 = i by omega] at this

theorem open_cut {cut : Nat → Nat → Bool} {l : List UInt8} {done : List (List UInt8)} {f i : Nat} (h : Open cut l done f i) (hi : i < l.length) (hc : cut (l[i - 1]'(by omega)).toNat l[i].toNat = true) :
    Open cut l (done ++ [(l.drop f).take (i - f)]) i (i + 1) := by
  obtain ⟨h1, h2, h3⟩ := h
  refine ⟨by omega, by omega, ?_⟩
  rw [take_snoc hi, pcs_snoc, h3, open_last h1 h2, addByte_new hc, show i + 1 - i = 0 + 1 by omega, List.take_succ_eq_append_getElem (by rw [List.length_drop]; omega)]
  simp

theorem open_grow {cut : Nat → Nat → Bool} {l : List UInt8} {done : List (List UInt8)} {f i : Nat} (h : Open cut l done f i) (hi : i < l.length) (hc : cut (l[i - 1]'(by omega)).toNat l[i].toNat = false) :
    Open cut l done f (i + 1) := by
  obtain ⟨h1, h2, h3⟩ := h
  refine ⟨by omega, by omega, ?_⟩
  rw [take_snoc hi, pcs_snoc, h3, open_last h1 h2, addByte_grow hc, ← open_last h1 h2, slice_snoc l f i (by omega) hi]

theorem open_end {cut : Nat → Nat → Bool} {l : List UInt8} {done : List (List UInt8)} {f : Nat} (h : Open cut l done f l.length) : pcs cut l = done ++ [(l.drop f).take (l.length - f)] := by
  have := h.2.2
  rwa [List.take_length] at this

/-! what the pieces are: none is empty, together they are the bytes, each is whole, between each two there is a cut -/
theorem length_pcs_le (cut : Nat → Nat → Bool) (l : List UInt8) : (pcs cut l).length ≤ l.length := by
  have key : ∀ (l : List UInt8) (acc : List (List UInt8)), (l.foldl (addByte cut) acc).length ≤ acc.length + l.length := by
    intro l
    induction l with
    | nil => intro acc; simp
    | cons c l ih =>
      intro acc
      rw [List.foldl_cons]
      refine Nat.le_trans (ih _) ?_
      have : (addByte cut acc c).length ≤ acc.length + 1 := by
        unfold addByte
        split
        · simp
        · split
          · simp
          · simp
      simp only [List.length_cons]
      omega
  have := key l []
  simpa [pcs] using this

end Go.Proofs.YtbppaiejpgdbiaaGreat

/- Layer 8 (bound): the contracts of Pieces, Whole, Between. -/
namespace Go.Proofs.YtbppaiejpgdbiaaGreat
open Go.RowKit
set_option maxRecDepth 100000
set_option linter.unusedVariables false
set_option linter.unusedSimpArgs false

/-- a table's pointer (nil: nothing is cut), and where it cuts -/
def TP (w : World) (p : Option Addr) (cut : Nat → Nat → Bool) : Prop :=
  (p = none ∧ cut = fun _ _ => false) ∨ ∃ bk C J, p = some ⟨bk, 0, none⟩ ∧ BTab w bk C J ∧ cut = cutB C J
theorem TP.below {B : Nat} {w w' : World} {p : Option Addr} {cut : Nat → Nat → Bool} (h : TP w p cut) (hb : Below B w w') (hB : w.heap.size ≤ B) : TP w' p cut := by
  rcases h with h | ⟨bk, C, J, h1, h2, h3⟩
  · exact .inl h
  · exact .inr ⟨bk, C, J, h1, h2.below hb (Nat.lt_of_lt_of_le (blk_lt h2.1) hB), h3⟩

theorem TP.drewN {w : World} {p : Option Addr} {cut : Nat → Nat → Bool} (h : TP w p cut) (n : Nat) : TP (w.drewN n) p cut := h
theorem cuts_any (p : Option Addr) (cut : Nat → Nat → Bool) (a b : Int) (w : World) (ha0 : 0 ≤ a) (ha : a < 256) (hb0 : 0 ≤ b) (hb : b < 256) (h : TP w p cut) :
    Calls Tryz.prog 137 #[.pointer p, .int .u8 a, .int .u8 b] w fun e w' => e = .returned (.bool (cut a.toNat b.toNat)) ∧ ∃ m, w' = w.drewN m := by
  rcases h with ⟨rfl, rfl⟩ | ⟨bk, C, J, rfl, h2, rfl⟩
  · exact cuts_nil a b w
  · obtain ⟨a, rfl⟩ := Int.eq_ofNat_of_zero_le ha0
    obtain ⟨b, rfl⟩ := Int.eq_ofNat_of_zero_le hb0
    exact cuts_tab bk C J a b w (by omega) (by omega) h2

theorem info_str : (Tryz.prog.info? 9).map (fun i => (i.zero, i.size, i.bytes)) = some (some (.string ⟨#[]⟩), 1, 16) := by kernel_rfl

/-- the loop of Pieces at its head -/
def PcRel (cut : Nat → Nat → Bool) (s : ByteArray) (w : World) (v : Value) (done : List (List UInt8)) (f i : Nat) (wr : World) : Prop :=
  Below w.heap.size w wr ∧ wr.ownsRow w.heap.size 9 1 v done.length (done.map strV) ∧ done.length < i ∧
  (i ≤ s.size → Open cut s.data.toList done f i) ∧ (s.size < i → done = pcs cut s.data.toList)

def PiecesPost (cut : Nat → Nat → Bool) (s : ByteArray) (w : World) (e : Ending) (w' : World) : Prop :=
  ∃ v, e = .returned v ∧ Below w.heap.size w w' ∧ w'.ownsRow w.heap.size 9 1 v (pcs cut s.data.toList).length ((pcs cut s.data.toList).map strV)

theorem data_len (s : ByteArray) : s.data.toList.length = s.size := by cases s; rfl
theorem grown_below {B : Nat} {w w1 w2 : World} {v : Value} {e : TypeId} {size n : Nat} {xs : List Value} (h : Below B w w1) (hB : B ≤ w1.heap.size) (hg : w1.grownBy w2 v.ownBlock) (ho : w1.ownsRow B e size v n xs) : Below B w w2 :=
  h.grown hg hB (own_base ho)

/-- one piece more is closed -/
theorem pc_add {s : ByteArray} {w wr w1 : World} {v v' : Value} {done : List (List UInt8)} {nf k : Nat} (hk : k + 1 ≤ s.size) (hf : nf ≤ k) (hb : Below w.heap.size w wr) (hg : wr.grownBy w1 v.ownBlock)
    (ho : wr.ownsRow w.heap.size 9 1 v done.length (done.map strV))
    (ho1 : w1.ownsRow w.heap.size 9 1 v' (done.length + 1) (done.map strV ++ [.string (s.extract nf (k + 1))])) :
    Below w.heap.size w w1 ∧ w1.ownsRow w.heap.size 9 1 v' (done ++ [(s.data.toList.drop nf).take (k + 1 - nf)]).length ((done ++ [(s.data.toList.drop nf).take (k + 1 - nf)]).map strV) := by
  refine ⟨grown_below hb hb.size hg ho, ?_⟩
  rw [extract_bs] at ho1
  simpa [strV] using ho1

set_option maxHeartbeats 1000000 in
theorem pieces_any (p : Option Addr) (cut : Nat → Nat → Bool) (s : ByteArray) (w : World) (hp : TP w p cut) (hs : s.size ≤ 1000000000) :
    Calls Tryz.prog 158 #[.pointer p, .string s] w (PiecesPost cut s w) := by
  have HP := Lib.hid hp
  clear hp
  go_enter Tryz.func158, Tryz.ntmps158
  go_wp2
  go_loopw [5, 6, 7] (fun v f i wr => ∃ (done : List (List UInt8)) (nf k : Nat), f = .int .i64 nf ∧ i = .int .i64 k ∧ 1 ≤ k ∧ k ≤ s.size + 1 ∧ nf < k ∧ PcRel cut s w v done nf k wr) (fun _ _ i _ => s.size + 1 - (intOf i).toNat)
  case atStart =>
    refine ⟨[], 0, 1, rfl, rfl, by omega, by omega, by omega, Below.refl _ _, own_nil _ _ _ _, by simp, fun h => open_start _ _ (by rw [data_len]; omega), fun h => ?_⟩
    have : s.data.toList = [] := List.eq_nil_of_length_eq_zero (by rw [data_len]; omega)
    rw [this]
    rfl
  case round =>
    obtain ⟨done, nf, k, rfl, rfl, hk1, hk2, hnf, hb, hown, hdl, hop, hdone⟩ := hrel
    have HB := Lib.hid hb
    have HO := Lib.hid hown
    have HOP := Lib.hid hop
    have HD := Lib.hid hdone
    have hsz := hb.size
    clear hb hown hop hdone
    obtain ⟨k, rfl⟩ : ∃ m, k = m + 1 := ⟨k - 1, by omega⟩
    by_cases hle : k + 1 ≤ s.size
    · have HOPEN := Lib.hid (HOP.out hle)
      have f1 : (nf : Int) ≤ (k : Int) + 1 := by omega
      have f2 : (k : Int) + 1 ≤ (s.size : Int) := by omega
      clear HOP HD
      by_cases he : k + 1 = s.size
      · have HE := Lib.hid he
        have hbk : ((k : Int) + 1 == (s.size : Int)) = true := by rw [beq_iff_eq]; omega
        have hbk' : (k + 1 == s.size) = true := by rw [beq_iff_eq]; omega
        clear he
        go_wp2_with fail
        go_quiet (fail)
        clear hbk hbk'
        go_wp2_with (at_builtin; refine app_one (w.heap.size) 31 9 (.string ⟨#[]⟩) 1 16 [_] 1 _ _ rfl rfl Tryz.underlying31 info_str rfl (by decide) _ _ _ rfl rfl rfl (by intro u hu; simp at hu; subst hu; rfl) HO.out (by omega) (by omega) hsz ?_)
        intro v' w1 hown1 hg1
        have HO1 := Lib.hid hown1
        have HG1 := Lib.hid hg1
        clear hown1 hg1
        go_wp2_with fail
        go_roundw
        case rel =>
          have h := pc_add (wr := wr.drewN nq) (nf := nf) (k := k) hle (by omega) (below_drewN HB.out _) HG1.out (own_drewN HO.out _) HO1.out
          refine ⟨done ++ [(s.data.toList.drop nf).take (k + 1 - nf)], k + 1, k + 2, by go_num, by go_num, by omega, by omega, by omega, h.1, h.2, by simp; omega, fun hh => absurd hh (by have := HE.out; omega), fun _ => ?_⟩
          have hop := HOPEN.out
          rw [HE.out, ← data_len s] at hop
          rw [open_end hop, HE.out, data_len]
        case measure => simp [intOf]; omega
      · have he1 : ((k : Int) + 1 == (s.size : Int)) = false := by rw [beq_eq_false_iff_ne]; omega
        have he2 : (k + 1 == s.size) = false := by rw [beq_eq_false_iff_ne]; omega
        have HE := Lib.hid he
        have hlt : (k : Int) + 1 < s.size := by omega
        have hlt1 : (k : Int) < s.size := by omega
        have q0 : 0 ≤ (k : Int) := by omega
        have q2 : 0 ≤ (k : Int) + 1 := by omega
        have q3 : ((k : Int) + 1).toNat = k + 1 := by omega
        clear he
        obtain ⟨x, hx⟩ : ∃ x, s[k]'(by omega) = x := ⟨_, rfl⟩
        obtain ⟨y, hy⟩ : ∃ y, s[k + 1]'(by omega) = y := ⟨_, rfl⟩
        have HX := Lib.hid hx
        have HY := Lib.hid hy
        clear hx hy
        have q1 : IntKind.i64.wrap (k : Int) = k := IntWalk.i64_in _ (by omega)
        have HC := Lib.hid (fun n => cuts_any p cut (s[k].toNat : Int) (s[k + 1].toNat : Int) (wr.drewN n) (by omega) (by have := s[k].toNat_lt; omega) (by omega) (by have := s[k + 1].toNat_lt; omega) ((HP.out.below HB.out (Nat.le_refl _)).drewN n))
        go_wp2_with fail
        go_quiet ((go_at_call 137; exact Calls.quiet_of (HC.out _)))
        clear HC
        simp only [Int.toNat_natCast]
        simp only [HX.out, HY.out]
        clear q1
        cases hc : cut x.toNat y.toNat with
        | true =>
          have HCUT := Lib.hid hc
          clear hc
          go_wp2_with (at_builtin; refine app_one (w.heap.size) 31 9 (.string ⟨#[]⟩) 1 16 [_] 1 _ _ rfl rfl Tryz.underlying31 info_str rfl (by decide) _ _ _ rfl rfl rfl (by intro u hu; simp at hu; subst hu; rfl) (own_drewN HO.out _) (by omega) (by omega) (by exact hsz) ?_)
          intro v' w1 hown1 hg1
          have HO1 := Lib.hid hown1
          have HG1 := Lib.hid hg1
          clear hown1 hg1
          go_wp2_with fail
          go_roundw
          case rel =>
            have h := pc_add (wr := wr.drewN nq) (nf := nf) (k := k) hle (by omega) (below_drewN HB.out _) HG1.out (own_drewN HO.out _) HO1.out
            refine ⟨done ++ [(s.data.toList.drop nf).take (k + 1 - nf)], k + 1, k + 2, by go_num, by go_num, by omega, by omega, by omega, h.1, h.2, by simp; omega, fun hh => ?_, fun hh => absurd hh (by omega)⟩
            exact open_cut HOPEN.out (by rw [data_len]; omega) (by have := HCUT.out; rw [← HX.out, ← HY.out] at this; exact this)
          case measure => simp [intOf]; omega
        | false =>
          have HCUT := Lib.hid hc
          clear hc
          go_wp2_with fail
          go_roundw
          case rel =>
            exact ⟨done, nf, k + 2, rfl, by go_num, by omega, by omega, by omega, below_drewN HB.out _, own_drewN HO.out _, by omega, fun hh => open_grow HOPEN.out (by rw [data_len]; omega) (by have := HCUT.out; rw [← HX.out, ← HY.out] at this; exact this), fun hh => absurd hh (by omega)⟩
          case measure => simp [intOf]; omega
    · have HDN := Lib.hid (HD.out (by omega))
      clear HOP HD
      go_wp2_with fail
      go_ret
      refine ⟨u5, by simp, HB.out, ?_⟩
      rw [← HDN.out]
      exact HO.out

theorem whole_any (p : Option Addr) (cut : Nat → Nat → Bool) (s : ByteArray) (w : World) (hp : TP w p cut) (hs : s.size ≤ 1000000000) :
    Calls Tryz.prog 136 #[.pointer p, .string s] w fun e w' => e = .returned (.bool (decide ((pcs cut s.data.toList).length ≤ 1))) ∧ Below w.heap.size w w' := by
  have HC := Lib.hid (pieces_any p cut s w hp hs)
  have hl := length_pcs_le cut s.data.toList
  rw [data_len] at hl
  clear hp
  go_enter Tryz.func136, Tryz.ntmps136
  go_wp2_with fail
  refine HC.out.mono ?_
  rintro e w' ⟨v, rfl, hb, ho⟩
  obtain ⟨A, c, rfl⟩ := own_slice ho
  clear ho HC
  go_wp2_with fail
  go_ret
  exact ⟨by simp; omega, hb⟩

end Go.Proofs.YtbppaiejpgdbiaaGreat

/- Layer 10 (vocab): which ordinary tokens are alone: the plain part. -/
namespace Go.Proofs.YtbppaiejpgdbiaaGreat
open Go.RowKit Go.Maps Go.WideMaps
set_option maxRecDepth 100000
set_option linter.unusedVariables false
set_option linter.unusedSimpArgs false
/-- a token is what is made of its bytes, and lies in one piece -/
def aloneB (T : List Ent) (C : Nat → Int) (J : Nat → Nat → Bool) (id : Int) : Bool := decide (encT T T.length (bytesT T id) = [id]) && decide ((pcs (cutB C J) (bytesT T id)).length ≤ 1)
/-- the row that find fills: k done -/
def aloneL (T : List Ent) (C : Nat → Int) (J : Nat → Nat → Bool) (k : Nat) : List Bool := (List.range T.length).map (fun (i : Nat) => decide (i < k) && aloneB T C J (i : Int))
theorem aloneL_len (T : List Ent) (C : Nat → Int) (J : Nat → Nat → Bool) (k : Nat) : (aloneL T C J k).length = T.length := by simp [aloneL]
theorem aloneL_zero (T : List Ent) (C : Nat → Int) (J : Nat → Nat → Bool) : aloneL T C J 0 = List.replicate T.length false := by
  apply List.ext_getElem
  · simp [aloneL]
  · intro i h1 h2
    simp [aloneL]
theorem aloneL_succ (T : List Ent) (C : Nat → Int) (J : Nat → Nat → Bool) (k : Nat) : aloneL T C J (k + 1) = (aloneL T C J k).set k (aloneB T C J (k : Int)) := by
  apply List.ext_getElem
  · simp [aloneL]
  · intro i h1 h2
    rw [List.getElem_set]
    by_cases h : k = i
    · subst h; simp [aloneL]
    · rw [if_neg h]
      have : (i < k + 1) ↔ (i < k) := by omega
      simp [aloneL, this]
end Go.Proofs.YtbppaiejpgdbiaaGreat

/- Layer 10 (vocab): rows of bools that were just made. -/
namespace Go.Proofs.YtbppaiejpgdbiaaGreat
open Go.RowKit Go.Maps Go.WideMaps
set_option maxRecDepth 100000
set_option linter.unusedVariables false
set_option linter.unusedSimpArgs false
theorem info_bool : (Tryz.prog.info? 4).map (fun i => (i.zero, i.size, i.bytes)) = some (some (.bool false), 1, 1) := by kernel_rfl
theorem made_false (n : Nat) : (madeCells (Value.bool false).cells (n * 1)).toList = (List.replicate n false).map Value.bool := by
  apply List.ext_getElem
  · simp [madeCells]
  · intro i h1 h2
    simp [madeCells, Value.cells, Nat.mod_one]
/-- a slice that was just made -/
theorem make_bools (n : Nat) (w : World) (hn : n ≤ 100000) : ∃ w', (Instr.makeSlice 154 (.int .i64 (n : Int)) (.int .i64 (n : Int))).run Tryz.prog w = .ok (.slice (some ⟨w.heap.size, 0, none⟩) n n) w' ∧
    w'.ownsRow w.heap.size 4 1 (.slice (some ⟨w.heap.size, 0, none⟩) n n) n ((List.replicate n false).map Value.bool) ∧ Below w.heap.size w w' := by
  obtain ⟨i, hi, hz0, hz1, hz2⟩ := info_parts info_bool
  obtain ⟨w', h1, h2, h3⟩ := run_makeSlice_full (P := Tryz.prog) w w.heap.size 154 4 i (.bool false) 1 Tryz.underlying154 hi hz0 hz1 .i64 .i64 n (by omega) (by rw [hz2]; omega) (by unfold maxLen; omega) (Nat.le_refl _)
  rw [made_false] at h2
  exact ⟨w', h1, h2, (Keep.of_grown (F := fun _ => False) h3 (fun k hk => by cases hk)).below (Nat.le_refl _) (fun x hx => hx.elim)⟩
end Go.Proofs.YtbppaiejpgdbiaaGreat

/- Layer 14 (spine): the walk along two spines: the plain law. -/
namespace Go.Proofs.YtbppaiejpgdbiaaGreat
set_option linter.unusedVariables false
set_option linter.unusedSimpArgs false

/-- one taken apart: the two, and the limit -/
def nxtW (T : List Ent) (a b : Int) : Int × Int × Int := if b < 256 ∨ a > b then ((parT T a).2, b, a) else (a, (parT T b).1, b + 1)
/-- may two stand side by side; how many are taken apart -/
def walkT (T : List Ent) : Nat → Int → Int → Int → Bool × Nat
  | 0, _, _, _ => (true, 0)
  | f + 1, a, b, lim =>
    if (pairB T lim a b).isSome then (false, 0)
    else if a < 256 ∧ b < 256 then (true, 0)
    else ((walkT T f (nxtW T a b).1 (nxtW T a b).2.1 (nxtW T a b).2.2).1, (walkT T f (nxtW T a b).1 (nxtW T a b).2.1 (nxtW T a b).2.2).2 + 1)
theorem hasT_iff {T : List Ent} {a : Int} : hasT T a = true ↔ 0 ≤ a ∧ a < T.length := by simp [hasT]
/-- the walk -/
def wlkT (T : List Ent) (a b lim : Int) : Bool × Nat := walkT T (a.toNat + b.toNat + 1) a b lim
end Go.Proofs.YtbppaiejpgdbiaaGreat

/- Layer 10 (vocab): a vocabulary in memory, its parts under one name; what keeps it. -/
namespace Go.Proofs.YtbppaiejpgdbiaaGreat
open Go.RowKit Go.Maps Go.WideMaps
set_option maxRecDepth 100000
set_option linter.unusedVariables false
set_option linter.unusedSimpArgs false
/-- where the parts of a vocabulary lie -/
structure VocP where
  (vb : Nat) (s : SpecP) (T : List Ent) (A1 A2 A3 A4 A5 : Option Addr) (c1 c2 c3 c4 c5 tbase tb bk kbase km : Nat) (sv : Value) (mb mp : Nat) (sv2 : Value) (mi mt : Nat)
def VocQ (w : World) (base : Nat) (p : VocP) (l : Value) (dn st se us : Int) : Prop :=
  VocIs w base p.vb p.s p.T p.A1 p.A2 p.A3 p.A4 p.A5 p.c1 p.c2 p.c3 p.c4 p.c5 p.tbase p.tb p.bk p.kbase p.km p.sv p.mb p.mp p.sv2 p.mi p.mt l dn st se us
section
variable {w w' : World} {base B : Nat} {p : VocP} {l : Value} {dn st se us : Int}
theorem VocQ.keep {F : Nat → Prop} (h : VocQ w base p l dn st se us) (k : Keep F w w') (hF : ∀ x, x ≤ p.vb → ¬ F x) : VocQ w' base p l dn st se us := by
  obtain ⟨V0, h1, h2, h3, h4, h5, h6⟩ := h.org
  exact ⟨k.blk h.blk (hF _ (Nat.le_refl _)), ⟨V0, h1, h2, h3, h4, h5, h6.trans (k.below h6.size (fun x hx => by
    apply Classical.byContradiction
    intro hn
    exact hF x (by omega) hx))⟩, h.lt⟩
theorem VocQ.lt_size (h : VocQ w base p l dn st se us) : p.vb < w.heap.size := blk_lt h.blk
theorem VocQ.below (h : VocQ w base p l dn st se us) (hb : Below B w w') (hB : w.heap.size ≤ B) : VocQ w' base p l dn st se us :=
  h.keep (F := fun x => B ≤ x) ⟨hb.os, hb.tape, hb.output, hb.size, fun x hx hf => hb.block x (by omega)⟩ (fun x hx hf => by have := h.lt_size; omega)
theorem VocQ.drew (h : VocQ w base p l dn st se us) : VocQ w.drew base p l dn st se us := h.below (B := w.heap.size) ⟨rfl, rfl, rfl, Nat.le_refl _, fun _ _ => rfl⟩ (Nat.le_refl _)
theorem VocQ.putL (h : VocQ w base p l dn st se us) (l' : Value) : VocQ (w.setCell ⟨p.vb, 12, none⟩ l') base p l' dn st se us := by
  obtain ⟨V0, h1, h2, h3, h4, h5, h6⟩ := h.org
  exact ⟨blk_set h.blk 12 l', ⟨V0, h1, h2, h3, h4, h5, h6.setCell h1 _⟩, h.lt⟩
theorem VocQ.putU (h : VocQ w base p l dn st se us) (u : Int) : VocQ (w.setCell ⟨p.vb, 13, none⟩ (.int .i64 u)) base p l dn st se u := by
  obtain ⟨V0, h1, h2, h3, h4, h5, h6⟩ := h.org
  exact ⟨blk_set h.blk 13 _, ⟨V0, h1, h2, h3, h4, h5, h6.setCell h1 _⟩, h.lt⟩
theorem VocQ.putD (h : VocQ w base p l dn st se us) (u : Int) : VocQ (w.setCell ⟨p.vb, 9, none⟩ (.int .u32 u)) base p l u st se us := by
  obtain ⟨V0, h1, h2, h3, h4, h5, h6⟩ := h.org
  exact ⟨blk_set h.blk 9 _, ⟨V0, h1, h2, h3, h4, h5, h6.setCell h1 _⟩, h.lt⟩
theorem VocQ.putS (h : VocQ w base p l dn st se us) (u : Int) : VocQ (w.setCell ⟨p.vb, 10, none⟩ (.int .i32 u)) base p l dn u se us := by
  obtain ⟨V0, h1, h2, h3, h4, h5, h6⟩ := h.org
  exact ⟨blk_set h.blk 10 _, ⟨V0, h1, h2, h3, h4, h5, h6.setCell h1 _⟩, h.lt⟩
theorem VocQ.cellL (h : VocQ w base p l dn st se us) : w.cell? ⟨p.vb, 12, none⟩ = some l := by have := blk_cell h.blk 12; simpa using this
theorem VocQ.cellD (h : VocQ w base p l dn st se us) : w.cell? ⟨p.vb, 9, none⟩ = some (.int .u32 dn) := by have := blk_cell h.blk 9; simpa using this
theorem VocQ.cellS (h : VocQ w base p l dn st se us) : w.cell? ⟨p.vb, 10, none⟩ = some (.int .i32 st) := by have := blk_cell h.blk 10; simpa using this
theorem VocQ.cellU (h : VocQ w base p l dn st se us) : w.cell? ⟨p.vb, 13, none⟩ = some (.int .i64 us) := by have := blk_cell h.blk 13; simpa using this
theorem VocQ.cellT (h : VocQ w base p l dn st se us) : w.cell? ⟨p.vb, 6, none⟩ = some (.pointer (some ⟨p.tb, 0, none⟩)) := by have := blk_cell h.blk 6; simpa using this
theorem VocQ.cellB (h : VocQ w base p l dn st se us) : w.cell? ⟨p.vb, 7, none⟩ = some (.pointer (some ⟨p.bk, 0, none⟩)) := by have := blk_cell h.blk 7; simpa using this
theorem VocQ.cellM (h : VocQ w base p l dn st se us) : w.cell? ⟨p.vb, 8, none⟩ = some (.pointer (some ⟨p.km, 0, none⟩)) := by have := blk_cell h.blk 8; simpa using this
theorem VocQ.froz (h : VocQ w base p l dn st se us) (i : Nat) : w.frozen? ⟨p.vb, i, none⟩ = false := blk_froz h.blk i
theorem VocQ.tab (h : VocQ w base p l dn st se us) : TabIs w p.tbase p.tb p.T p.sv p.mb p.mp := VocIs.tab h
theorem VocQ.bnd (h : VocQ w base p l dn st se us) : BTab w p.bk (Cof p.s.cs) (Jof p.s.js) := VocIs.bnd h
theorem VocQ.mrk (h : VocQ w base p l dn st se us) : MarkIs w p.kbase p.km p.s.xs p.sv2 p.mi p.mt := VocIs.mrk h
end
/-- where bytes are cut by a vocabulary -/
def VocP.cut (p : VocP) : Nat → Nat → Bool := cutB (Cof p.s.cs) (Jof p.s.js)
/-- the ordinary tokens that are alone -/
def VocP.al (p : VocP) (k : Nat) : List Bool := aloneL p.T (Cof p.s.cs) (Jof p.s.js) k
/-- a vocabulary; what find found, if it was asked: the row's block -/
def VocAt (w : World) (base : Nat) (p : VocP) (g : Option Nat) : Prop :=
  ∃ l dn st se us, VocQ w base p l dn st se us ∧ ((g = none ∧ l = .slice none 0 0 ∧ dn = 0 ∧ st = 0) ∨
    ∃ r, g = some r ∧ p.vb < r ∧ l = .slice (some ⟨r, 0, none⟩) p.T.length p.T.length ∧ dn = 1 ∧ w.ownsRow r 4 1 (.slice (some ⟨r, 0, none⟩) p.T.length p.T.length) p.T.length ((p.al p.T.length).map Value.bool))
section
variable {w w' : World} {base B : Nat} {p : VocP} {g : Option Nat}
theorem VocAt.keep {F : Nat → Prop} (h : VocAt w base p g) (k : Keep F w w') (hF : ∀ x, x ≤ p.vb ∨ g = some x → ¬ F x) : VocAt w' base p g := by
  obtain ⟨l, dn, st, se, us, h1, h2⟩ := h
  refine ⟨l, dn, st, se, us, h1.keep k (fun x hx => hF x (.inl hx)), ?_⟩
  rcases h2 with h2 | ⟨r, h3, h4, h5, h6, h7⟩
  · exact .inl h2
  · refine .inr ⟨r, h3, h4, h5, h6, own_keep h7 k (fun x hx => ?_)⟩
    simp only [Value.ownBlock, Option.some.injEq] at hx
    subst hx
    exact hF _ (.inr h3)
theorem VocAt.lt_size (h : VocAt w base p g) : p.vb < w.heap.size := by
  obtain ⟨l, dn, st, se, us, h1, h2⟩ := h
  exact h1.lt_size
theorem VocAt.below (h : VocAt w base p g) (hb : Below B w w') (hB : w.heap.size ≤ B) : VocAt w' base p g := by
  obtain ⟨l, dn, st, se, us, h1, h2⟩ := h
  refine ⟨l, dn, st, se, us, h1.below hb hB, ?_⟩
  rcases h2 with h2 | ⟨r, h3, h4, h5, h6, h7⟩
  · exact .inl h2
  · exact .inr ⟨r, h3, h4, h5, h6, own_below h7 hb hB⟩
end
end Go.Proofs.YtbppaiejpgdbiaaGreat

/- Layer 10 (vocab): find. -/
namespace Go.Proofs.YtbppaiejpgdbiaaGreat
open Go.RowKit Go.Maps Go.WideMaps
set_option maxRecDepth 100000
set_option linter.unusedVariables false
set_option linter.unusedSimpArgs false
/-- find under way -/
structure FindIs (w W : World) (base : Nat) (p : VocP) (r : Nat) (dn st se us : Int) (k : Nat) : Prop where
  voc : VocQ W base p (.slice (some ⟨r, 0, none⟩) p.T.length p.T.length) dn st se us
  row : W.ownsRow r 4 1 (.slice (some ⟨r, 0, none⟩) p.T.length p.T.length) p.T.length ((p.al k).map Value.bool)
  keep : Keep (fun x => x = p.vb) w W
  lt : w.heap.size ≤ r
  vlt : p.vb < w.heap.size
section
variable {w W W' : World} {base r k : Nat} {p : VocP} {dn st se us : Int} {l : Value}
theorem FindIs.below (h : FindIs w W base p r dn st se us k) (hb : Below W.heap.size W W') : FindIs w W' base p r dn st se us k :=
  ⟨h.voc.below hb (Nat.le_refl _), own_below h.row hb (Nat.le_refl _), h.keep.trans (G := fun _ => False) ⟨hb.os, hb.tape, hb.output, hb.size, fun x hx _ => hb.block x hx⟩ (fun x hx => hx.elim), h.lt, h.vlt⟩
theorem FindIs.put (h : FindIs w W base p r dn st se us k) (x : Bool) (hx : aloneB p.T (Cof p.s.cs) (Jof p.s.js) (k : Int) = x) : FindIs w (W.setCell ⟨r, k, none⟩ (.bool x)) base p r dn st se us (k + 1) := by
  have hne : ¬ r ≤ p.vb := by have := h.lt; have := h.vlt; omega
  have hkp : Keep (fun x => x = r) W (W.setCell ⟨r, k, none⟩ (.bool x)) := (Keep.refl (fun x => x = r) W).setCell (p := ⟨r, k, none⟩) (.inl rfl) _
  refine ⟨h.voc.keep hkp (fun y hy e => hne (e ▸ hy)), ?_, h.keep.trans hkp (fun y hy => .inr (by rw [hy]; exact h.lt)), h.lt, h.vlt⟩
  have := own_set h.row k (.bool x)
  unfold VocP.al at this ⊢
  rw [aloneL_succ, hx, List.map_set]
  exact this
theorem FindIs.drew (h : FindIs w W base p r dn st se us k) : FindIs w W.drew base p r dn st se us k := h.below ⟨rfl, rfl, rfl, Nat.le_refl _, fun _ _ => rfl⟩
theorem FindIs.cellAt (h : FindIs w W base p r dn st se us k) (j : Nat) (hj : j < p.T.length) : (∃ u, W.cell? ⟨r, j, none⟩ = some (.bool u)) ∧ W.frozen? ⟨r, j, none⟩ = false := by
  obtain ⟨g, cap, e, _, _, hc⟩ := own_open h.row (by omega)
  injection e with e _ _
  injection e with e
  injection e with e _
  subst e
  have hl : j < (p.al k).length := by unfold VocP.al; rw [aloneL_len]; exact hj
  obtain ⟨h1, h2⟩ := hc j (.bool (p.al k)[j]) (by simp [hl])
  exact ⟨⟨_, h1⟩, h2⟩
set_option maxHeartbeats 1000000 in
theorem find_any (h : VocQ w base p l dn st se us) (hT : OkT p.T) :
    Calls Tryz.prog 95 #[.pointer (some ⟨p.vb, 0, none⟩)] w fun e w' => e = .returned (.tuple #[]) ∧ ∃ r, FindIs w w' base p r dn st se us p.T.length := by
  have HZ := Lib.hid (vsize_any h)
  have hsm := hT.small
  have c12 := h.cellL
  obtain ⟨W1, hmk, hrow, hbl⟩ := make_bools p.T.length w (by omega)
  have d12 := below_cell hbl (Nat.le_refl _) c12
  have z12 := (h.below hbl (Nat.le_refl _)).froz 12
  rw [← aloneL_zero p.T (Cof p.s.cs) (Jof p.s.js)] at hrow
  have HF : Hid (FindIs w (W1.setCell ⟨p.vb, 12, none⟩ (.slice (some ⟨w.heap.size, 0, none⟩) p.T.length p.T.length)) base p w.heap.size dn st se us 0) := Lib.hid (by
    have hv := h.below hbl (Nat.le_refl _)
    refine ⟨hv.putL _, ?_, ?_, Nat.le_refl _, h.lt_size⟩
    · exact own_keep hrow ((Keep.refl (fun x => x = p.vb) W1).setCell (.inl rfl) _) (fun x hx => by
        simp only [Value.ownBlock, Option.some.injEq] at hx
        have := h.lt_size; omega)
    · exact (Keep.of_below hbl : Keep (fun x => x = p.vb) w W1).setCell (.inl rfl) _)
  have HT := Lib.hid hT
  have HSM := Lib.hid hsm
  clear hbl hrow h hT hsm
  go_enter Tryz.func95, Tryz.ntmps95
  go_upto_region 1 with (go_at_call 36; refine HZ.out.mono ?_; rintro e V1 ⟨rfl, rfl⟩)
  generalize V1.heap.size = r at *
  clear hmk c12 d12 z12
  generalize W1.setCell ⟨p.vb, 12, none⟩ (.slice (some ⟨r, 0, none⟩) p.T.length p.T.length) = W2 at *
  have c1 := HF.out.voc.cellL
  go_wp2_with fail
  clear c1
  obtain ⟨N, hN⟩ : ∃ N, p.T.length = N := ⟨_, rfl⟩
  have HN := Lib.hid hN
  rw [hN] at HSM HZ ⊢
  clear hN
  go_loopg [19] N (fun n i W => ∃ k : Nat, k + n = N ∧ i = .int .i64 (k : Int) ∧ FindIs V1 W base p r dn st se us k)
  case atStart => exact ⟨0, by omega, rfl, HF.out⟩
  case round =>
    obtain ⟨k, hk, rfl, hf⟩ := hrel
    clear HF
    rename World => W
    have HF := Lib.hid hf
    clear hf
    by_cases hlt : k < N
    · have hlt' : (k : Int) < (N : Int) := by omega
      have HB := Lib.hid (bytes_tab (k : Int) HF.out.voc.tab)
      have HE := Lib.hid (encode_any HF.out.voc.tab HT.out (bs (bytesT p.T (k : Int))) (by rw [bs_size]; have := bytesT_le HT.out (k : Int); omega))
      have c6 := HF.out.voc.cellT
      unfold strV at HB
      obtain ⟨z, hz⟩ : ∃ z, bs (bytesT p.T (k : Int)) = z := ⟨_, rfl⟩
      have HZS := Lib.hid (show z.data.toList = bytesT p.T (k : Int) by rw [← hz]; rfl)
      rw [hz] at HB HE
      clear hz
      go_upto_region 6 with (first | (go_at_call 97; refine HB.out.mono ?_; rintro e W1 ⟨rfl, rfl⟩) | (go_at_call 135; refine HE.out.mono ?_; rintro e W3 ⟨⟨v, rfl, hi⟩, hb⟩; (have HI := Lib.hid hi); (have HF3 := Lib.hid (HF.out.below hb)); clear hi hb))
      obtain ⟨E, hE⟩ : ∃ E, encT p.T p.T.length z.data.toList = E := ⟨_, rfl⟩
      have HEE := Lib.hid hE
      rw [hE] at HI
      clear hE HB HE
      have d12 := HF3.out.voc.cellL
      have d7 := HF3.out.voc.cellB
      rw [HN.out] at d12
      have q0 : (0 : Int) ≤ (k : Int) := by omega
      obtain ⟨A, c, rfl, hrow⟩ := HI.out
      have HROW := Lib.hid hrow
      clear hrow HI
      by_cases hE1 : E.length = 1
      · obtain ⟨e0, rfl⟩ := List.length_eq_one_iff.1 hE1
        obtain ⟨b, o, hA, hc⟩ := (own_sl1 HROW.out).at 0 (by simp)
        subst hA
        simp only [List.getElem_cons_zero, Nat.add_zero] at hc
        simp only [List.length_singleton, Int.cast_ofNat_Int] at *
        clear hE1
        by_cases he : e0 = (k : Int)
        · subst he
          obtain ⟨x, hx⟩ : ∃ x, decide ((pcs p.cut z.data.toList).length ≤ 1) = x := ⟨_, rfl⟩
          have HXW := Lib.hid hx
          have HX : Hid (aloneB p.T (Cof p.s.cs) (Jof p.s.js) (k : Int) = x) := Lib.hid (by
            unfold aloneB
            rw [← HZS.out, HEE.out, ← hx]
            simp [VocP.cut]
            rfl)
          clear hx
          have HC4 : Hid (W3.drew.cell? ⟨b, o, none⟩ = some (.int .i64 (k : Int))) := Lib.hid hc
          refine wp_region_G (D := 26) (S := fun V => V.cell? ⟨p.vb, 12, none⟩ = some (.slice (some ⟨r, 0, none⟩) N N) ∧ V.cell? ⟨p.vb, 7, none⟩ = some (.pointer (some ⟨p.bk, 0, none⟩)) ∧ V.cell? ⟨b, o, none⟩ = some (.int .i64 (k : Int))) (by kernel_rfl) (by exact And.intro d12 (And.intro d7 hc)) (fun hHeld => ?_)
          (replace HF3 := Lib.hid (HF3.out.drew)); (replace HX := HX); generalize W3.drew = W4 at *
          refine wpAnyG_takeD (i := 0) (d := 39) (v := ?_) rfl rfl (by kernel_rfl) (by kernel_rfl) (by kernel_rfl) (by kernel_rfl) (fun _ _ _ h => h) (Or.inl ⟨by rfl, ?_⟩) hHeld ?_
          rotate_left
          · (intro w' hSw; (try dsimp only at hSw); go_simp; (try with_reducible rfl))
          simp only [List.setIfInBounds_toArray, List.set_cons_zero, List.set_cons_succ]
          refine wpAnyG_takeD (i := 1) (d := 40) (v := ?_) rfl rfl (by kernel_rfl) (by kernel_rfl) (by kernel_rfl) (by kernel_rfl) (fun _ _ _ h => h) (Or.inl ⟨by rfl, ?_⟩) hHeld ?_
          rotate_left
          · (intro w' hSw; (try dsimp only at hSw); go_simp; (try with_reducible rfl))
          simp only [List.setIfInBounds_toArray, List.set_cons_zero, List.set_cons_succ]
          refine wpAnyG_takeD (i := 2) (d := 41) (v := ?_) rfl rfl (by kernel_rfl) (by kernel_rfl) (by kernel_rfl) (by kernel_rfl) (fun _ _ _ h => h) (Or.inl ⟨by rfl, ?_⟩) hHeld ?_
          rotate_left
          · (intro w' hSw; (try dsimp only at hSw); go_simp; (try with_reducible rfl))
          simp only [List.setIfInBounds_toArray, List.set_cons_zero, List.set_cons_succ]
          refine wpAnyG_takeD (i := 3) (d := 42) (v := ?_) rfl rfl (by kernel_rfl) (by kernel_rfl) (by kernel_rfl) (by kernel_rfl) (fun _ _ _ h => h) (Or.inl ⟨by rfl, ?_⟩) hHeld ?_
          rotate_left
          · (intro w' hSw; (try dsimp only at hSw); go_simp; (try with_reducible rfl))
          simp only [List.setIfInBounds_toArray, List.set_cons_zero, List.set_cons_succ]
          refine wpAnyG_takeD (i := 4) (d := 43) (v := ?_) rfl rfl (by kernel_rfl) (by kernel_rfl) (by kernel_rfl) (by kernel_rfl) (fun _ _ _ h => h) (Or.inl ⟨by rfl, ?_⟩) hHeld ?_
          rotate_left
          · (intro w' hSw; (try dsimp only at hSw); go_simp; (try with_reducible rfl))
          simp only [List.setIfInBounds_toArray, List.set_cons_zero, List.set_cons_succ]
          refine wpAnyG_takeD (i := 5) (d := 44) (v := ?_) rfl rfl (by kernel_rfl) (by kernel_rfl) (by kernel_rfl) (by kernel_rfl) (fun _ _ _ h => h) (Or.inl ⟨by rfl, ?_⟩) hHeld ?_
          rotate_left
          · (intro w' hSw; (try dsimp only at hSw); go_simp; (try with_reducible rfl))
          simp only [List.setIfInBounds_toArray, List.set_cons_zero, List.set_cons_succ]
          refine wpAnyG_takeD (i := 6) (d := 45) (v := ?_) rfl rfl (by kernel_rfl) (by kernel_rfl) (by kernel_rfl) (by kernel_rfl) (fun _ _ _ h => h) (Or.inl ⟨by rfl, ?_⟩) hHeld ?_
          rotate_left
          · (intro w' hSw; (try dsimp only at hSw); go_simp; (try with_reducible rfl))
          simp only [List.setIfInBounds_toArray, List.set_cons_zero, List.set_cons_succ]
          refine wpAnyG_takeD (i := 7) (d := 46) (v := ?_) rfl rfl (by kernel_rfl) (by kernel_rfl) (by kernel_rfl) (by kernel_rfl) (fun _ _ _ h => h) (Or.inl ⟨by rfl, ?_⟩) hHeld ?_
          rotate_left
          · (intro w' hSw; (try dsimp only at hSw); go_simp; (try with_reducible rfl))
          simp only [List.setIfInBounds_toArray, List.set_cons_zero, List.set_cons_succ]
          refine wpAnyG_takeD (i := 8) (d := 47) (v := ?_) rfl rfl (by kernel_rfl) (by kernel_rfl) (by kernel_rfl) (by kernel_rfl) (fun _ _ _ h => h) (Or.inl ⟨by rfl, ?_⟩) hHeld ?_
          rotate_left
          · (intro w' hSw; (try dsimp only at hSw); go_simp; (try with_reducible rfl))
          simp only [List.setIfInBounds_toArray, List.set_cons_zero, List.set_cons_succ]
          refine wpAnyG_takeD (i := 9) (d := 48) (v := ?_) rfl rfl (by kernel_rfl) (by kernel_rfl) (by kernel_rfl) (by kernel_rfl) (fun _ _ _ h => h) (Or.inl ⟨by rfl, ?_⟩) hHeld ?_
          rotate_left
          · (intro w' hSw; (try dsimp only at hSw); go_simp; (try with_reducible rfl))
          simp only [List.setIfInBounds_toArray, List.set_cons_zero, List.set_cons_succ]
          refine wpAnyG_takeD (i := 10) (d := 49) (v := ?_) rfl rfl (by kernel_rfl) (by kernel_rfl) (by kernel_rfl) (by kernel_rfl) (fun _ _ _ h => h) (Or.inl ⟨by rfl, ?_⟩) hHeld ?_
          rotate_left
          · (intro w' hSw; (try dsimp only at hSw); go_simp; (try with_reducible rfl))
          simp only [List.setIfInBounds_toArray, List.set_cons_zero, List.set_cons_succ]
          refine wpAnyG_takeD (i := 11) (d := 50) (v := ?_) rfl rfl (by kernel_rfl) (by kernel_rfl) (by kernel_rfl) (by kernel_rfl) (fun _ _ _ h => h) (Or.inl ⟨by rfl, ?_⟩) hHeld ?_
          rotate_left
          · (intro w' hSw; (try dsimp only at hSw); go_simp; (try with_reducible rfl))
          simp only [List.setIfInBounds_toArray, List.set_cons_zero, List.set_cons_succ]
          refine wpAnyG_takeD (i := 12) (d := 51) (v := ?_) rfl rfl (by kernel_rfl) (by kernel_rfl) (by kernel_rfl) (by kernel_rfl) (fun _ _ _ h => h) (Or.inl ⟨by rfl, ?_⟩) hHeld ?_
          rotate_left
          · (intro w' hSw; (try dsimp only at hSw); go_simp; (try with_reducible rfl))
          simp only [List.setIfInBounds_toArray, List.set_cons_zero, List.set_cons_succ]
          refine wpAnyG_takeD (i := 13) (d := 52) (v := ?_) rfl rfl (by kernel_rfl) (by kernel_rfl) (by kernel_rfl) (by kernel_rfl) (fun _ _ _ h => h) (Or.inl ⟨by rfl, ?_⟩) hHeld ?_
          rotate_left
          · (intro w' hSw; (try dsimp only at hSw); go_simp; (try with_reducible rfl))
          simp only [List.setIfInBounds_toArray, List.set_cons_zero, List.set_cons_succ]
          refine wpAnyG_takeD (i := 14) (d := 53) (v := ?_) rfl rfl (by kernel_rfl) (by kernel_rfl) (by kernel_rfl) (by kernel_rfl) (fun _ _ _ h => h) (Or.inl ⟨by rfl, ?_⟩) hHeld ?_
          rotate_left
          · (intro w' hSw; (try dsimp only at hSw); go_simp; (try with_reducible rfl))
          simp only [List.setIfInBounds_toArray, List.set_cons_zero, List.set_cons_succ]
          refine wpAnyG_takeD (i := 15) (d := 54) (v := ?_) rfl rfl (by kernel_rfl) (by kernel_rfl) (by kernel_rfl) (by kernel_rfl) (fun _ _ _ h => h) (Or.inl ⟨by rfl, ?_⟩) hHeld ?_
          rotate_left
          · (intro w' hSw; (try dsimp only at hSw); go_simp; (try with_reducible rfl))
          simp only [List.setIfInBounds_toArray, List.set_cons_zero, List.set_cons_succ]
          refine wpAnyG_takeD (i := 16) (d := 55) (v := ?_) rfl rfl (by kernel_rfl) (by kernel_rfl) (by kernel_rfl) (by kernel_rfl) (fun _ _ _ h => h) (Or.inl ⟨by rfl, ?_⟩) hHeld ?_
          rotate_left
          · (intro w' hSw; (try dsimp only at hSw); go_simp; (try with_reducible rfl))
          simp only [List.setIfInBounds_toArray, List.set_cons_zero, List.set_cons_succ]
          refine wpAnyG_takeD (i := 17) (d := 56) (v := ?_) rfl rfl (by kernel_rfl) (by kernel_rfl) (by kernel_rfl) (by kernel_rfl) (fun _ _ _ h => h) (Or.inl ⟨by rfl, ?_⟩) hHeld ?_
          rotate_left
          · (intro w' hSw; (try dsimp only at hSw); go_simp; (try with_reducible rfl))
          simp only [List.setIfInBounds_toArray, List.set_cons_zero, List.set_cons_succ]
          refine wpAnyG_takeD (i := 18) (d := 57) (v := ?_) rfl rfl (by kernel_rfl) (by kernel_rfl) (by kernel_rfl) (by kernel_rfl) (fun _ _ _ h => h) (Or.inl ⟨by rfl, ?_⟩) hHeld ?_
          rotate_left
          · (intro w' hSw; (try dsimp only at hSw); go_simp; (try with_reducible rfl))
          simp only [List.setIfInBounds_toArray, List.set_cons_zero, List.set_cons_succ]
          refine wpAnyG_takeD (i := 19) (d := 58) (v := ?_) rfl rfl (by kernel_rfl) (by kernel_rfl) (by kernel_rfl) (by kernel_rfl) (fun _ _ _ h => h) (Or.inl ⟨by rfl, ?_⟩) hHeld ?_
          rotate_left
          · (intro w' hSw; (try dsimp only at hSw); go_simp; (try with_reducible rfl))
          simp only [List.setIfInBounds_toArray, List.set_cons_zero, List.set_cons_succ]
          refine wpAnyG_takeD (i := 20) (d := 59) (v := ?_) rfl rfl (by kernel_rfl) (by kernel_rfl) (by kernel_rfl) (by kernel_rfl) (fun _ _ _ h => h) (Or.inl ⟨by rfl, ?_⟩) hHeld ?_
          rotate_left
          · (intro w' hSw; (try dsimp only at hSw); go_simp; (try with_reducible rfl))
          simp only [List.setIfInBounds_toArray, List.set_cons_zero, List.set_cons_succ]
          refine wpAnyG_takeD (i := 21) (d := 60) (v := ?_) rfl rfl (by kernel_rfl) (by kernel_rfl) (by kernel_rfl) (by kernel_rfl) (fun _ _ _ h => h) (Or.inl ⟨by rfl, ?_⟩) hHeld ?_
          rotate_left
          · (intro w' hSw; (try dsimp only at hSw); go_simp; (try with_reducible rfl))
          simp only [List.setIfInBounds_toArray, List.set_cons_zero, List.set_cons_succ]
          refine wpAnyG_takeD (i := 22) (d := 61) (v := ?_) rfl rfl (by kernel_rfl) (by kernel_rfl) (by kernel_rfl) (by kernel_rfl) (fun _ _ _ h => h) (Or.inl ⟨by rfl, ?_⟩) hHeld ?_
          rotate_left
          · (intro w' hSw; (try dsimp only at hSw); go_simp; (try with_reducible rfl))
          simp only [List.setIfInBounds_toArray, List.set_cons_zero, List.set_cons_succ]
          refine wpAnyG_one (i := 23) (by kernel_rfl) rfl (by rfl) (fun K hK => ?_)
          go_simp; refine (whole_any (some ⟨p.bk, 0, none⟩) p.cut z W4 (.inr ⟨p.bk, Cof p.s.cs, Jof p.s.js, rfl, HF3.out.voc.bnd, rfl⟩) (by rw [← data_len, HZS.out]; have := bytesT_le HT.out (k : Int); omega)).mono ?_; rintro e W5 ⟨rfl, hb⟩; rw [HXW.out]; have HF5 := Lib.hid (HF3.out.below hb); have h := And.intro HF5.out.voc.cellL (And.intro HF5.out.voc.cellB (below_cell hb (Nat.le_refl _) HC4.out)); rw [HN.out] at h; go_simp
          refine hK.out _ _ h (fun hHeld => ?_)
          clear hK K
          try simp only [Act.put, List.setIfInBounds_toArray, List.set_cons_zero, List.set_cons_succ]
          refine wpAnyG_takeD (i := 24) (d := 63) (v := ?_) rfl rfl (by kernel_rfl) (by kernel_rfl) (by kernel_rfl) (by kernel_rfl) (fun _ _ _ h => h) (Or.inl ⟨by rfl, ?_⟩) hHeld ?_
          rotate_left
          · (intro w' hSw; (try dsimp only at hSw); go_simp; (try with_reducible rfl))
          simp only [List.setIfInBounds_toArray, List.set_cons_zero, List.set_cons_succ]
          refine wpAnyG_takeD (i := 25) (d := 64) (v := ?_) rfl rfl (by kernel_rfl) (by kernel_rfl) (by kernel_rfl) (by kernel_rfl) (fun _ _ _ h => h) (Or.inl ⟨by rfl, ?_⟩) hHeld ?_
          rotate_left
          · (intro w' hSw; (try dsimp only at hSw); go_simp; (try with_reducible rfl))
          simp only [List.setIfInBounds_toArray, List.set_cons_zero, List.set_cons_succ]
          refine wpAnyG_last (by kernel_rfl) rfl (by rfl) (fun K hK => ?_)
          obtain ⟨⟨u0, cc⟩, zz⟩ := HF5.out.cellAt k (by rw [HN.out]; exact hlt); go_simp; have HF6 := Lib.hid (HF5.out.put x HX.out); clear cc zz; generalize W5.setCell ⟨r, k, none⟩ (.bool x) = W6 at *
          refine hK.out _ _ ?_
          clear hK K
          try simp only [Act.put, List.setIfInBounds_toArray, List.set_cons_zero, List.set_cons_succ]
          refine wpAnyG_done (by kernel_rfl) ?_ _
          have ws : IntKind.i64.wrap ((k : Int) + 1) = (k : Int) + 1 := IntWalk.i64_in _ (by have := HSM.out; omega)
          go_wp2_with fail
          go_roundg (gk - 1)
          case measure => omega
          case rel => exact ⟨k + 1, by omega, by simp, HF6.out⟩
        · have HX : Hid (aloneB p.T (Cof p.s.cs) (Jof p.s.js) (k : Int) = false) := Lib.hid (by
            unfold aloneB
            rw [← HZS.out, HEE.out]
            simp [he])
          refine wp_region_G (D := 26) (S := fun V => V.cell? ⟨p.vb, 12, none⟩ = some (.slice (some ⟨r, 0, none⟩) N N) ∧ V.cell? ⟨b, o, none⟩ = some (.int .i64 e0)) (by kernel_rfl) (by exact And.intro d12 hc) (fun hHeld => ?_)
          (replace HF3 := Lib.hid (HF3.out.drew)); (replace HX := HX); generalize W3.drew = W4 at *
          refine wpAnyG_takeD (i := 0) (d := 39) (v := ?_) rfl rfl (by kernel_rfl) (by kernel_rfl) (by kernel_rfl) (by kernel_rfl) (fun _ _ _ h => h) (Or.inl ⟨by rfl, ?_⟩) hHeld ?_
          rotate_left
          · (intro w' hSw; (try dsimp only at hSw); go_simp; (try with_reducible rfl))
          simp only [List.setIfInBounds_toArray, List.set_cons_zero, List.set_cons_succ]
          refine wpAnyG_takeD (i := 1) (d := 40) (v := ?_) rfl rfl (by kernel_rfl) (by kernel_rfl) (by kernel_rfl) (by kernel_rfl) (fun _ _ _ h => h) (Or.inl ⟨by rfl, ?_⟩) hHeld ?_
          rotate_left
          · (intro w' hSw; (try dsimp only at hSw); go_simp; (try with_reducible rfl))
          simp only [List.setIfInBounds_toArray, List.set_cons_zero, List.set_cons_succ]
          refine wpAnyG_takeD (i := 2) (d := 41) (v := ?_) rfl rfl (by kernel_rfl) (by kernel_rfl) (by kernel_rfl) (by kernel_rfl) (fun _ _ _ h => h) (Or.inl ⟨by rfl, ?_⟩) hHeld ?_
          rotate_left
          · (intro w' hSw; (try dsimp only at hSw); go_simp; (try with_reducible rfl))
          simp only [List.setIfInBounds_toArray, List.set_cons_zero, List.set_cons_succ]
          refine wpAnyG_takeD (i := 3) (d := 42) (v := ?_) rfl rfl (by kernel_rfl) (by kernel_rfl) (by kernel_rfl) (by kernel_rfl) (fun _ _ _ h => h) (Or.inl ⟨by rfl, ?_⟩) hHeld ?_
          rotate_left
          · (intro w' hSw; (try dsimp only at hSw); go_simp; (try with_reducible rfl))
          simp only [List.setIfInBounds_toArray, List.set_cons_zero, List.set_cons_succ]
          refine wpAnyG_takeD (i := 4) (d := 43) (v := ?_) rfl rfl (by kernel_rfl) (by kernel_rfl) (by kernel_rfl) (by kernel_rfl) (fun _ _ _ h => h) (Or.inl ⟨by rfl, ?_⟩) hHeld ?_
          rotate_left
          · (intro w' hSw; (try dsimp only at hSw); go_simp; (try with_reducible rfl))
          simp only [List.setIfInBounds_toArray, List.set_cons_zero, List.set_cons_succ]
          refine wpAnyG_takeD (i := 5) (d := 44) (v := ?_) rfl rfl (by kernel_rfl) (by kernel_rfl) (by kernel_rfl) (by kernel_rfl) (fun _ _ _ h => h) (Or.inl ⟨by rfl, ?_⟩) hHeld ?_
          rotate_left
          · (intro w' hSw; (try dsimp only at hSw); go_simp; (try with_reducible rfl))
          simp only [List.setIfInBounds_toArray, List.set_cons_zero, List.set_cons_succ]
          refine wpAnyG_takeD (i := 6) (d := 45) (v := ?_) rfl rfl (by kernel_rfl) (by kernel_rfl) (by kernel_rfl) (by kernel_rfl) (fun _ _ _ h => h) (Or.inl ⟨by rfl, ?_⟩) hHeld ?_
          rotate_left
          · (intro w' hSw; (try dsimp only at hSw); go_simp; (try with_reducible rfl))
          simp only [List.setIfInBounds_toArray, List.set_cons_zero, List.set_cons_succ]
          refine wpAnyG_takeD (i := 7) (d := 46) (v := ?_) rfl rfl (by kernel_rfl) (by kernel_rfl) (by kernel_rfl) (by kernel_rfl) (fun _ _ _ h => h) (Or.inl ⟨by rfl, ?_⟩) hHeld ?_
          rotate_left
          · (intro w' hSw; (try dsimp only at hSw); go_simp; (try with_reducible rfl))
          simp only [List.setIfInBounds_toArray, List.set_cons_zero, List.set_cons_succ]
          refine wpAnyG_takeD (i := 8) (d := 47) (v := ?_) rfl rfl (by kernel_rfl) (by kernel_rfl) (by kernel_rfl) (by kernel_rfl) (fun _ _ _ h => h) (Or.inl ⟨by rfl, ?_⟩) hHeld ?_
          rotate_left
          · (intro w' hSw; (try dsimp only at hSw); go_simp; (try with_reducible rfl))
          simp only [List.setIfInBounds_toArray, List.set_cons_zero, List.set_cons_succ]
          refine wpAnyG_takeD (i := 9) (d := 48) (v := ?_) rfl rfl (by kernel_rfl) (by kernel_rfl) (by kernel_rfl) (by kernel_rfl) (fun _ _ _ h => h) (Or.inl ⟨by rfl, ?_⟩) hHeld ?_
          rotate_left
          · (intro w' hSw; (try dsimp only at hSw); go_simp; (try with_reducible rfl))
          simp only [List.setIfInBounds_toArray, List.set_cons_zero, List.set_cons_succ]
          refine wpAnyG_takeD (i := 10) (d := 49) (v := ?_) rfl rfl (by kernel_rfl) (by kernel_rfl) (by kernel_rfl) (by kernel_rfl) (fun _ _ _ h => h) (Or.inl ⟨by rfl, ?_⟩) hHeld ?_
          rotate_left
          · (intro w' hSw; (try dsimp only at hSw); go_simp; (try with_reducible rfl))
          simp only [List.setIfInBounds_toArray, List.set_cons_zero, List.set_cons_succ]
          refine wpAnyG_takeD (i := 11) (d := 50) (v := ?_) rfl rfl (by kernel_rfl) (by kernel_rfl) (by kernel_rfl) (by kernel_rfl) (fun _ _ _ h => h) (Or.inl ⟨by rfl, ?_⟩) hHeld ?_
          rotate_left
          · (intro w' hSw; (try dsimp only at hSw); go_simp; (try with_reducible rfl))
          simp only [List.setIfInBounds_toArray, List.set_cons_zero, List.set_cons_succ]
          refine wpAnyG_takeD (i := 12) (d := 51) (v := ?_) rfl rfl (by kernel_rfl) (by kernel_rfl) (by kernel_rfl) (by kernel_rfl) (fun _ _ _ h => h) (Or.inl ⟨by rfl, ?_⟩) hHeld ?_
          rotate_left
          · (intro w' hSw; (try dsimp only at hSw); go_simp; (try with_reducible rfl))
          simp only [List.setIfInBounds_toArray, List.set_cons_zero, List.set_cons_succ]
          refine wpAnyG_takeD (i := 13) (d := 52) (v := ?_) rfl rfl (by kernel_rfl) (by kernel_rfl) (by kernel_rfl) (by kernel_rfl) (fun _ _ _ h => h) (Or.inl ⟨by rfl, ?_⟩) hHeld ?_
          rotate_left
          · (intro w' hSw; (try dsimp only at hSw); go_simp; (try with_reducible rfl))
          simp only [List.setIfInBounds_toArray, List.set_cons_zero, List.set_cons_succ]
          refine wpAnyG_takeD (i := 14) (d := 53) (v := ?_) rfl rfl (by kernel_rfl) (by kernel_rfl) (by kernel_rfl) (by kernel_rfl) (fun _ _ _ h => h) (Or.inl ⟨by rfl, ?_⟩) hHeld ?_
          rotate_left
          · (intro w' hSw; (try dsimp only at hSw); go_simp; (rw [show (e0 == (k : Int)) = false from by simp [he]]); (try with_reducible rfl))
          simp only [List.setIfInBounds_toArray, List.set_cons_zero, List.set_cons_succ]
          refine wpAnyG_takeD (i := 15) (d := 54) (v := ?_) rfl rfl (by kernel_rfl) (by kernel_rfl) (by kernel_rfl) (by kernel_rfl) (fun _ _ _ h => h) (Or.inl ⟨by rfl, ?_⟩) hHeld ?_
          rotate_left
          · (intro w' hSw; (try dsimp only at hSw); go_simp; (try with_reducible rfl))
          simp only [List.setIfInBounds_toArray, List.set_cons_zero, List.set_cons_succ]
          refine wpAnyG_takeD (i := 16) (d := 55) (v := ?_) rfl rfl (by kernel_rfl) (by kernel_rfl) (by kernel_rfl) (by kernel_rfl) (fun _ _ _ h => h) (Or.inl ⟨by rfl, ?_⟩) hHeld ?_
          rotate_left
          · (intro w' hSw; (try dsimp only at hSw); go_simp; (try with_reducible rfl))
          simp only [List.setIfInBounds_toArray, List.set_cons_zero, List.set_cons_succ]
          refine wpAnyG_takeD (i := 17) (d := 56) (v := undef) rfl rfl (by kernel_rfl) (by kernel_rfl) (by kernel_rfl) (by kernel_rfl) (fun _ _ _ h => h) (Or.inr ⟨by rfl, rfl⟩) hHeld ?_
          simp only [List.setIfInBounds_toArray, List.set_cons_zero, List.set_cons_succ]
          refine wpAnyG_takeD (i := 18) (d := 57) (v := undef) rfl rfl (by kernel_rfl) (by kernel_rfl) (by kernel_rfl) (by kernel_rfl) (fun _ _ _ h => h) (Or.inr ⟨by rfl, rfl⟩) hHeld ?_
          simp only [List.setIfInBounds_toArray, List.set_cons_zero, List.set_cons_succ]
          refine wpAnyG_takeD (i := 19) (d := 58) (v := undef) rfl rfl (by kernel_rfl) (by kernel_rfl) (by kernel_rfl) (by kernel_rfl) (fun _ _ _ h => h) (Or.inr ⟨by rfl, rfl⟩) hHeld ?_
          simp only [List.setIfInBounds_toArray, List.set_cons_zero, List.set_cons_succ]
          refine wpAnyG_takeD (i := 20) (d := 59) (v := undef) rfl rfl (by kernel_rfl) (by kernel_rfl) (by kernel_rfl) (by kernel_rfl) (fun _ _ _ h => h) (Or.inr ⟨by rfl, rfl⟩) hHeld ?_
          simp only [List.setIfInBounds_toArray, List.set_cons_zero, List.set_cons_succ]
          refine wpAnyG_takeD (i := 21) (d := 60) (v := undef) rfl rfl (by kernel_rfl) (by kernel_rfl) (by kernel_rfl) (by kernel_rfl) (fun _ _ _ h => h) (Or.inr ⟨by rfl, rfl⟩) hHeld ?_
          simp only [List.setIfInBounds_toArray, List.set_cons_zero, List.set_cons_succ]
          refine wpAnyG_takeD (i := 22) (d := 61) (v := undef) rfl rfl (by kernel_rfl) (by kernel_rfl) (by kernel_rfl) (by kernel_rfl) (fun _ _ _ h => h) (Or.inr ⟨by rfl, rfl⟩) hHeld ?_
          simp only [List.setIfInBounds_toArray, List.set_cons_zero, List.set_cons_succ]
          refine wpAnyG_takeD (i := 23) (d := 62) (v := undef) rfl rfl (by kernel_rfl) (by kernel_rfl) (by kernel_rfl) (by kernel_rfl) (fun _ _ _ h => h) (Or.inr ⟨by rfl, rfl⟩) hHeld ?_
          simp only [List.setIfInBounds_toArray, List.set_cons_zero, List.set_cons_succ]
          refine wpAnyG_takeD (i := 24) (d := 63) (v := ?_) rfl rfl (by kernel_rfl) (by kernel_rfl) (by kernel_rfl) (by kernel_rfl) (fun _ _ _ h => h) (Or.inl ⟨by rfl, ?_⟩) hHeld ?_
          rotate_left
          · (intro w' hSw; (try dsimp only at hSw); go_simp; (try with_reducible rfl))
          simp only [List.setIfInBounds_toArray, List.set_cons_zero, List.set_cons_succ]
          refine wpAnyG_takeD (i := 25) (d := 64) (v := ?_) rfl rfl (by kernel_rfl) (by kernel_rfl) (by kernel_rfl) (by kernel_rfl) (fun _ _ _ h => h) (Or.inl ⟨by rfl, ?_⟩) hHeld ?_
          rotate_left
          · (intro w' hSw; (try dsimp only at hSw); go_simp; (try with_reducible rfl))
          simp only [List.setIfInBounds_toArray, List.set_cons_zero, List.set_cons_succ]
          refine wpAnyG_last (by kernel_rfl) rfl (by rfl) (fun K hK => ?_)
          obtain ⟨⟨u0, cc⟩, zz⟩ := HF3.out.cellAt k (by rw [HN.out]; exact hlt); go_simp; have HF6 := Lib.hid (HF3.out.put false HX.out); clear cc zz; generalize W4.setCell ⟨r, k, none⟩ (.bool false) = W6 at *
          refine hK.out _ _ ?_
          clear hK K
          try simp only [Act.put, List.setIfInBounds_toArray, List.set_cons_zero, List.set_cons_succ]
          refine wpAnyG_done (by kernel_rfl) ?_ _
          have ws : IntKind.i64.wrap ((k : Int) + 1) = (k : Int) + 1 := IntWalk.i64_in _ (by have := HSM.out; omega)
          go_wp2_with fail
          go_roundg (gk - 1)
          case measure => omega
          case rel => exact ⟨k + 1, by omega, by simp, HF6.out⟩
      · have hE2 : (((E.length : Nat) : Int) == 1) = false := by simp; omega
        have HX : Hid (aloneB p.T (Cof p.s.cs) (Jof p.s.js) (k : Int) = false) := Lib.hid (by
            unfold aloneB
            rw [← HZS.out, HEE.out]
            have : E ≠ [(k : Int)] := fun e => hE1 (by rw [e]; rfl)
            simp [this])
        have hE3 : ¬ ((E.length : Nat) : Int) = 1 := by omega
        clear hE1
        generalize E.length = m at *
        refine wp_region_G (D := 26) (S := fun V => V.cell? ⟨p.vb, 12, none⟩ = some (.slice (some ⟨r, 0, none⟩) N N)) (by kernel_rfl) (by exact d12) (fun hHeld => ?_)
        (replace HF3 := Lib.hid (HF3.out.drew)); (replace HX := HX); generalize W3.drew = W4 at *
        refine wpAnyG_takeD (i := 0) (d := 39) (v := ?_) rfl rfl (by kernel_rfl) (by kernel_rfl) (by kernel_rfl) (by kernel_rfl) (fun _ _ _ h => h) (Or.inl ⟨by rfl, ?_⟩) hHeld ?_
        rotate_left
        · (intro w' hSw; (try dsimp only at hSw); go_simp; (try with_reducible rfl))
        simp only [List.setIfInBounds_toArray, List.set_cons_zero, List.set_cons_succ]
        refine wpAnyG_takeD (i := 1) (d := 40) (v := ?_) rfl rfl (by kernel_rfl) (by kernel_rfl) (by kernel_rfl) (by kernel_rfl) (fun _ _ _ h => h) (Or.inl ⟨by rfl, ?_⟩) hHeld ?_
        rotate_left
        · (intro w' hSw; (try dsimp only at hSw); go_simp; (try with_reducible rfl))
        simp only [List.setIfInBounds_toArray, List.set_cons_zero, List.set_cons_succ]
        refine wpAnyG_takeD (i := 2) (d := 41) (v := ?_) rfl rfl (by kernel_rfl) (by kernel_rfl) (by kernel_rfl) (by kernel_rfl) (fun _ _ _ h => h) (Or.inl ⟨by rfl, ?_⟩) hHeld ?_
        rotate_left
        · (intro w' hSw; (try dsimp only at hSw); go_simp; (try with_reducible rfl))
        simp only [List.setIfInBounds_toArray, List.set_cons_zero, List.set_cons_succ]
        refine wpAnyG_takeD (i := 3) (d := 42) (v := ?_) rfl rfl (by kernel_rfl) (by kernel_rfl) (by kernel_rfl) (by kernel_rfl) (fun _ _ _ h => h) (Or.inl ⟨by rfl, ?_⟩) hHeld ?_
        rotate_left
        · (intro w' hSw; (try dsimp only at hSw); go_simp; (try with_reducible rfl))
        simp only [List.setIfInBounds_toArray, List.set_cons_zero, List.set_cons_succ]
        refine wpAnyG_takeD (i := 4) (d := 43) (v := ?_) rfl rfl (by kernel_rfl) (by kernel_rfl) (by kernel_rfl) (by kernel_rfl) (fun _ _ _ h => h) (Or.inl ⟨by rfl, ?_⟩) hHeld ?_
        rotate_left
        · (intro w' hSw; (try dsimp only at hSw); go_simp; (try with_reducible rfl))
        simp only [List.setIfInBounds_toArray, List.set_cons_zero, List.set_cons_succ]
        refine wpAnyG_takeD (i := 5) (d := 44) (v := ?_) rfl rfl (by kernel_rfl) (by kernel_rfl) (by kernel_rfl) (by kernel_rfl) (fun _ _ _ h => h) (Or.inl ⟨by rfl, ?_⟩) hHeld ?_
        rotate_left
        · (intro w' hSw; (try dsimp only at hSw); go_simp; (try with_reducible rfl))
        simp only [List.setIfInBounds_toArray, List.set_cons_zero, List.set_cons_succ]
        refine wpAnyG_takeD (i := 6) (d := 45) (v := ?_) rfl rfl (by kernel_rfl) (by kernel_rfl) (by kernel_rfl) (by kernel_rfl) (fun _ _ _ h => h) (Or.inl ⟨by rfl, ?_⟩) hHeld ?_
        rotate_left
        · (intro w' hSw; (try dsimp only at hSw); go_simp; (try with_reducible rfl))
        simp only [List.setIfInBounds_toArray, List.set_cons_zero, List.set_cons_succ]
        refine wpAnyG_takeD (i := 7) (d := 46) (v := ?_) rfl rfl (by kernel_rfl) (by kernel_rfl) (by kernel_rfl) (by kernel_rfl) (fun _ _ _ h => h) (Or.inl ⟨by rfl, ?_⟩) hHeld ?_
        rotate_left
        · (intro w' hSw; (try dsimp only at hSw); go_simp; (try with_reducible rfl))
        simp only [List.setIfInBounds_toArray, List.set_cons_zero, List.set_cons_succ]
        refine wpAnyG_takeD (i := 8) (d := 47) (v := ?_) rfl rfl (by kernel_rfl) (by kernel_rfl) (by kernel_rfl) (by kernel_rfl) (fun _ _ _ h => h) (Or.inl ⟨by rfl, ?_⟩) hHeld ?_
        rotate_left
        · (intro w' hSw; (try dsimp only at hSw); go_simp; ((try rw [hE2])); (try with_reducible rfl))
        simp only [List.setIfInBounds_toArray, List.set_cons_zero, List.set_cons_succ]
        refine wpAnyG_takeD (i := 9) (d := 48) (v := ?_) rfl rfl (by kernel_rfl) (by kernel_rfl) (by kernel_rfl) (by kernel_rfl) (fun _ _ _ h => h) (Or.inl ⟨by rfl, ?_⟩) hHeld ?_
        rotate_left
        · (intro w' hSw; (try dsimp only at hSw); go_simp; (try with_reducible rfl))
        simp only [List.setIfInBounds_toArray, List.set_cons_zero, List.set_cons_succ]
        refine wpAnyG_takeD (i := 10) (d := 49) (v := undef) rfl rfl (by kernel_rfl) (by kernel_rfl) (by kernel_rfl) (by kernel_rfl) (fun _ _ _ h => h) (Or.inr ⟨by rfl, rfl⟩) hHeld ?_
        simp only [List.setIfInBounds_toArray, List.set_cons_zero, List.set_cons_succ]
        refine wpAnyG_takeD (i := 11) (d := 50) (v := undef) rfl rfl (by kernel_rfl) (by kernel_rfl) (by kernel_rfl) (by kernel_rfl) (fun _ _ _ h => h) (Or.inr ⟨by rfl, rfl⟩) hHeld ?_
        simp only [List.setIfInBounds_toArray, List.set_cons_zero, List.set_cons_succ]
        refine wpAnyG_takeD (i := 12) (d := 51) (v := undef) rfl rfl (by kernel_rfl) (by kernel_rfl) (by kernel_rfl) (by kernel_rfl) (fun _ _ _ h => h) (Or.inr ⟨by rfl, rfl⟩) hHeld ?_
        simp only [List.setIfInBounds_toArray, List.set_cons_zero, List.set_cons_succ]
        refine wpAnyG_takeD (i := 13) (d := 52) (v := undef) rfl rfl (by kernel_rfl) (by kernel_rfl) (by kernel_rfl) (by kernel_rfl) (fun _ _ _ h => h) (Or.inr ⟨by rfl, rfl⟩) hHeld ?_
        simp only [List.setIfInBounds_toArray, List.set_cons_zero, List.set_cons_succ]
        refine wpAnyG_takeD (i := 14) (d := 53) (v := undef) rfl rfl (by kernel_rfl) (by kernel_rfl) (by kernel_rfl) (by kernel_rfl) (fun _ _ _ h => h) (Or.inr ⟨by rfl, rfl⟩) hHeld ?_
        simp only [List.setIfInBounds_toArray, List.set_cons_zero, List.set_cons_succ]
        refine wpAnyG_takeD (i := 15) (d := 54) (v := ?_) rfl rfl (by kernel_rfl) (by kernel_rfl) (by kernel_rfl) (by kernel_rfl) (fun _ _ _ h => h) (Or.inl ⟨by rfl, ?_⟩) hHeld ?_
        rotate_left
        · (intro w' hSw; (try dsimp only at hSw); go_simp; (try with_reducible rfl))
        simp only [List.setIfInBounds_toArray, List.set_cons_zero, List.set_cons_succ]
        refine wpAnyG_takeD (i := 16) (d := 55) (v := ?_) rfl rfl (by kernel_rfl) (by kernel_rfl) (by kernel_rfl) (by kernel_rfl) (fun _ _ _ h => h) (Or.inl ⟨by rfl, ?_⟩) hHeld ?_
        rotate_left
        · (intro w' hSw; (try dsimp only at hSw); go_simp; (try with_reducible rfl))
        simp only [List.setIfInBounds_toArray, List.set_cons_zero, List.set_cons_succ]
        refine wpAnyG_takeD (i := 17) (d := 56) (v := undef) rfl rfl (by kernel_rfl) (by kernel_rfl) (by kernel_rfl) (by kernel_rfl) (fun _ _ _ h => h) (Or.inr ⟨by rfl, rfl⟩) hHeld ?_
        simp only [List.setIfInBounds_toArray, List.set_cons_zero, List.set_cons_succ]
        refine wpAnyG_takeD (i := 18) (d := 57) (v := undef) rfl rfl (by kernel_rfl) (by kernel_rfl) (by kernel_rfl) (by kernel_rfl) (fun _ _ _ h => h) (Or.inr ⟨by rfl, rfl⟩) hHeld ?_
        simp only [List.setIfInBounds_toArray, List.set_cons_zero, List.set_cons_succ]
        refine wpAnyG_takeD (i := 19) (d := 58) (v := undef) rfl rfl (by kernel_rfl) (by kernel_rfl) (by kernel_rfl) (by kernel_rfl) (fun _ _ _ h => h) (Or.inr ⟨by rfl, rfl⟩) hHeld ?_
        simp only [List.setIfInBounds_toArray, List.set_cons_zero, List.set_cons_succ]
        refine wpAnyG_takeD (i := 20) (d := 59) (v := undef) rfl rfl (by kernel_rfl) (by kernel_rfl) (by kernel_rfl) (by kernel_rfl) (fun _ _ _ h => h) (Or.inr ⟨by rfl, rfl⟩) hHeld ?_
        simp only [List.setIfInBounds_toArray, List.set_cons_zero, List.set_cons_succ]
        refine wpAnyG_takeD (i := 21) (d := 60) (v := undef) rfl rfl (by kernel_rfl) (by kernel_rfl) (by kernel_rfl) (by kernel_rfl) (fun _ _ _ h => h) (Or.inr ⟨by rfl, rfl⟩) hHeld ?_
        simp only [List.setIfInBounds_toArray, List.set_cons_zero, List.set_cons_succ]
        refine wpAnyG_takeD (i := 22) (d := 61) (v := undef) rfl rfl (by kernel_rfl) (by kernel_rfl) (by kernel_rfl) (by kernel_rfl) (fun _ _ _ h => h) (Or.inr ⟨by rfl, rfl⟩) hHeld ?_
        simp only [List.setIfInBounds_toArray, List.set_cons_zero, List.set_cons_succ]
        refine wpAnyG_takeD (i := 23) (d := 62) (v := undef) rfl rfl (by kernel_rfl) (by kernel_rfl) (by kernel_rfl) (by kernel_rfl) (fun _ _ _ h => h) (Or.inr ⟨by rfl, rfl⟩) hHeld ?_
        simp only [List.setIfInBounds_toArray, List.set_cons_zero, List.set_cons_succ]
        refine wpAnyG_takeD (i := 24) (d := 63) (v := ?_) rfl rfl (by kernel_rfl) (by kernel_rfl) (by kernel_rfl) (by kernel_rfl) (fun _ _ _ h => h) (Or.inl ⟨by rfl, ?_⟩) hHeld ?_
        rotate_left
        · (intro w' hSw; (try dsimp only at hSw); go_simp; (try with_reducible rfl))
        simp only [List.setIfInBounds_toArray, List.set_cons_zero, List.set_cons_succ]
        refine wpAnyG_takeD (i := 25) (d := 64) (v := ?_) rfl rfl (by kernel_rfl) (by kernel_rfl) (by kernel_rfl) (by kernel_rfl) (fun _ _ _ h => h) (Or.inl ⟨by rfl, ?_⟩) hHeld ?_
        rotate_left
        · (intro w' hSw; (try dsimp only at hSw); go_simp; (try with_reducible rfl))
        simp only [List.setIfInBounds_toArray, List.set_cons_zero, List.set_cons_succ]
        refine wpAnyG_last (by kernel_rfl) rfl (by rfl) (fun K hK => ?_)
        obtain ⟨⟨u0, cc⟩, zz⟩ := HF3.out.cellAt k (by rw [HN.out]; exact hlt); go_simp; have HF6 := Lib.hid (HF3.out.put false HX.out); clear cc zz; generalize W4.setCell ⟨r, k, none⟩ (.bool false) = W6 at *
        refine hK.out _ _ ?_
        clear hK K
        try simp only [Act.put, List.setIfInBounds_toArray, List.set_cons_zero, List.set_cons_succ]
        refine wpAnyG_done (by kernel_rfl) ?_ _
        have ws : IntKind.i64.wrap ((k : Int) + 1) = (k : Int) + 1 := IntWalk.i64_in _ (by have := HSM.out; omega)
        go_wp2_with fail
        go_roundg (gk - 1)
        case measure => omega
        case rel => exact ⟨k + 1, by omega, by simp, HF6.out⟩
    · have hke : k = N := by omega
      subst hke
      have hlt' : ¬ ((k : Nat) : Int) < (k : Int) := by omega
      go_wp2_with fail
      go_end0
      rw [HN.out]
      exact ⟨rfl, r, HF.out⟩
end
end Go.Proofs.YtbppaiejpgdbiaaGreat

/- Layer 10 (vocab): Alone. -/
namespace Go.Proofs.YtbppaiejpgdbiaaGreat
open Go.RowKit Go.Maps Go.WideMaps
set_option maxRecDepth 100000
set_option linter.unusedVariables false
set_option linter.unusedSimpArgs false
/-- is a token alone, by a vocabulary -/
def VocP.aln (p : VocP) (id : Int) : Bool := (fndI p.s.xs id).isSome || (hasT p.T id && aloneB p.T (Cof p.s.cs) (Jof p.s.js) id)
theorem add64_w (w : World) (b o : Nat) (n d : Int) (h : w.cell? ⟨b, o, none⟩ = some (.int .i64 n)) (hz : w.frozen? ⟨b, o, none⟩ = false) :
    Calls Tryz.prog 92 #[.pointer (some ⟨b, o, none⟩), .int .i64 d] w fun e w' => ∃ x, e = .returned (.int .i64 x) ∧ w' = w.setCell ⟨b, o, none⟩ (.int .i64 x) := by
  obtain ⟨x, hx⟩ : ∃ x, IntKind.i64.wrap (n + d) = x := ⟨_, rfl⟩
  have hadd := run_call_add (P := Tryz.prog) Tryz.func131 (by kernel_rfl) (by kernel_rfl) (by kernel_rfl) .i64 (by kernel_rfl) (y := d) (s := x) h hz (by rw [← hx]; simp [go_sem])
  clear h hz hx
  go_enter Tryz.func92, Tryz.ntmps92
  go_wp2_with fail
  go_ret
  exact ⟨x, rfl, rfl⟩
/-- what is known once a vocabulary was asked -/
def AskV (w w' : World) (base : Nat) (p : VocP) (g : Option Nat) : Prop :=
  ∃ g', VocAt w' base p g' ∧ Keep (fun x => x = p.vb) w w' ∧ (g' = g ∨ ∃ x, g' = some x ∧ w.heap.size ≤ x)
section
variable {w w' : World} {base : Nat} {p : VocP} {g : Option Nat}
theorem al_at (p : VocP) (k : Nat) (hk : k < p.T.length) : (p.al p.T.length)[k]? = some (aloneB p.T (Cof p.s.cs) (Jof p.s.js) (k : Int)) := by
  unfold VocP.al aloneL
  simp [hk]
/-- the row that find made, or had made -/
def RowV (w : World) (p : VocP) (r : Nat) : Prop := w.ownsRow r 4 1 (.slice (some ⟨r, 0, none⟩) p.T.length p.T.length) p.T.length ((p.al p.T.length).map Value.bool)
theorem RowV.keep {w w' : World} {p : VocP} {r : Nat} (h : RowV w p r) (hr : p.vb < r) (k : Keep (fun x => x = p.vb) w w') : RowV w' p r := own_keep h k (fun y hy => by simp only [Value.ownBlock, Option.some.injEq] at hy; omega)
theorem RowV.at {w : World} {p : VocP} {r : Nat} (h : RowV w p r) (k : Nat) (hk : k < p.T.length) : w.cell? ⟨r, k, none⟩ = some (.bool (aloneB p.T (Cof p.s.cs) (Jof p.s.js) (k : Int))) := by
  obtain ⟨g, cap, e, _, _, hc⟩ := own_open h (by omega)
  injection e with e _ _
  injection e with e
  injection e with e _
  subst e
  exact (hc k _ (by rw [List.getElem?_map, al_at p k hk]; rfl)).1
theorem vdo_any {V : World} {l : Value} {dn st se us : Int} (h : VocQ V base p l dn st se us) (hT : OkT p.T) (h2 : (l = .slice none 0 0 ∧ dn = 0 ∧ st = 0) ∨ ∃ r, p.vb < r ∧ l = .slice (some ⟨r, 0, none⟩) p.T.length p.T.length ∧ dn = 1 ∧ RowV V p r) :
    Calls Tryz.prog 94 #[.pointer (some ⟨p.vb, 9, none⟩), .func (.func 95) #[.pointer (some ⟨p.vb, 0, none⟩)] #[]] V fun e w' => e = .returned (.tuple #[]) ∧
      ∃ r st', VocQ w' base p (.slice (some ⟨r, 0, none⟩) p.T.length p.T.length) 1 st' se us ∧ p.vb < r ∧ RowV w' p r ∧ Keep (fun x => x = p.vb) V w' ∧ (l = .slice (some ⟨r, 0, none⟩) p.T.length p.T.length ∧ dn = 1 ∨ V.heap.size ≤ r) := by
  rcases h2 with ⟨rfl, rfl, rfl⟩ | ⟨r, hr, rfl, rfl, hrow⟩
  · have hS : VocQ (V.setCell ⟨p.vb, 10, none⟩ (.int .i32 1)) base p (.slice none 0 0) 0 1 se us := h.putS 1
    have hF := find_any hS hT
    have hk1 : Keep (fun x => x = p.vb) V (V.setCell ⟨p.vb, 10, none⟩ (.int .i32 1)) := (Keep.refl (fun x => x = p.vb) V).setCell (p := ⟨p.vb, 10, none⟩) (.inl rfl) _
    refine (do_first (R := fun w1 => ∃ r, FindIs (V.setCell ⟨p.vb, 10, none⟩ (.int .i32 1)) w1 base p r 0 1 se us p.T.length) p.vb 9 p.vb V h.cellD h.cellS (h.froz 10) (hF.mono ?_)).mono ?_
    · rintro e w1 ⟨rfl, r, hf⟩
      exact ⟨rfl, ⟨r, hf⟩, hf.voc.cellD, hf.voc.cellS, hf.voc.froz 9, hf.voc.froz 10⟩
    · rintro e w' ⟨rfl, w1, ⟨r, hf⟩, rfl⟩
      have hvr : p.vb < r := Nat.lt_of_lt_of_le hf.vlt hf.lt
      have hk2 : Keep (fun x => x = p.vb) w1 ((w1.drew.setCell ⟨p.vb, 9, none⟩ (.int .u32 1)).setCell ⟨p.vb, 10, none⟩ (.int .i32 0)) :=
        (((Keep.refl (fun x => x = p.vb) w1).drew).setCell (p := ⟨p.vb, 9, none⟩) (.inl rfl) _).setCell (p := ⟨p.vb, 10, none⟩) (.inl rfl) _
      have hrow : RowV w1 p r := hf.row
      refine ⟨rfl, r, 0, (hf.voc.drew.putD 1).putS 0, hvr, hrow.keep hvr hk2, (hk1.trans hf.keep (fun x hx => .inl hx)).trans hk2 (fun x hx => .inl hx), .inr (Nat.le_trans hk1.size hf.lt)⟩
  · refine (do_done p.vb 9 _ V h.cellD).mono ?_
    rintro e w' ⟨rfl, rfl⟩
    exact ⟨rfl, r, st, h, hr, hrow, Keep.refl _ _, .inl ⟨rfl, rfl⟩⟩
set_option maxHeartbeats 2000000 in
theorem valone_any (h : VocAt w base p g) (hT : OkT p.T) (id : Int) (hw : (Lit.int .i64 id).wf = true) (hM : p.s.xs.length ≤ 1000) :
    Calls Tryz.prog 51 #[.pointer (some ⟨p.vb, 0, none⟩), .int .i64 id] w fun e w' => e = .returned (.bool (p.aln id)) ∧ AskV w w' base p g := by
  obtain ⟨l, dn, st, se, us, h1, h2⟩ := h
  have HU := Lib.hid (add64_w w p.vb 13 us 1 h1.cellU (h1.froz 13))
  have HV : Hid (∀ x, VocQ (w.setCell ⟨p.vb, 13, none⟩ (.int .i64 x)) base p l dn st se x) := Lib.hid (fun x => h1.putU x)
  have HK : Hid (∀ x, Keep (fun x => x = p.vb) w (w.setCell ⟨p.vb, 13, none⟩ (.int .i64 x))) := Lib.hid (fun x => (Keep.refl (fun x => x = p.vb) w).setCell (p := ⟨p.vb, 13, none⟩) (.inl rfl) (.int .i64 x))
  have HW := Lib.hid hw
  have HM := Lib.hid hM
  have H2 := Lib.hid h2
  have HT := Lib.hid hT
  have HVL := Lib.hid h1.lt_size
  clear h1 h2 hw hM hT
  unfold VocP.aln
  go_enter Tryz.func51, Tryz.ntmps51
  go_upto_region 4 with (go_at_call 92; refine HU.out.mono ?_; rintro e V1 ⟨x, rfl, rfl⟩)
  clear HU
  have HV := Lib.hid (HV.out x)
  have HK := Lib.hid (HK.out x)
  generalize w.setCell ⟨p.vb, 13, none⟩ (.int .i64 x) = V at *
  have HMA := Lib.hid (mark_any HV.out.mrk id HW.out HM.out)
  have cM := HV.out.cellM
  cases hf : fndI p.s.xs id with
  | some i =>
    rw [hf] at HMA
    simp only [Option.isSome_some] at HMA
    have HFN := Lib.hid hf
    clear hf
    go_wp2_with (go_at_call 93; refine HMA.out.mono ?_; rintro e V1 ⟨rfl, rfl⟩)
    go_ret
    refine ⟨by rw [HFN.out]; simp, g, ⟨l, dn, st, se, x, HV.out, ?_⟩, HK.out, .inl rfl⟩
    rcases H2.out with h | ⟨r, h3, h4, h5, h6, h7⟩
    · exact .inl h
    · exact .inr ⟨r, h3, h4, h5, h6, own_keep h7 HK.out (fun y hy => by simp only [Value.ownBlock, Option.some.injEq] at hy; omega)⟩
  | none =>
    rw [hf] at HMA
    simp only [Option.isSome_none] at HMA
    have HFN := Lib.hid hf
    clear hf
    go_upto_region 7 with (go_at_call 93; refine HMA.out.mono ?_; rintro e V1 ⟨rfl, rfl⟩)
    clear HMA cM
    have HD := Lib.hid (vdo_any HV.out HT.out (by
      rcases H2.out with ⟨_, h3, h4, h5⟩ | ⟨r, h3, h4, h5, h6, h7⟩
      · exact .inl ⟨h3, h4, h5⟩
      · exact .inr ⟨r, h4, h5, h6, RowV.keep h7 h4 HK.out⟩))
    go_upto_region 8 with (go_at_call 94; refine HD.out.mono ?_; rintro e W ⟨rfl, r, st', hv, hr, hrow, hk, hl⟩)
    have HA : Hid (AskV w W base p g) := Lib.hid (by
      refine ⟨some r, ⟨_, 1, st', se, x, hv, .inr ⟨r, rfl, hr, rfl, rfl, hrow⟩⟩, HK.out.trans hk (fun y hy => .inl hy), ?_⟩
      rcases hl with ⟨h8, h9⟩ | h8
      · rcases H2.out with ⟨_, _, h4, _⟩ | ⟨r', h3, _, h5, _⟩
        · omega
        · left
          rw [h5] at h8
          injection h8 with h8
          injection h8 with h8
          injection h8 with h8
          rw [h3, h8]
      · exact .inr ⟨r, rfl, Nat.le_trans HK.out.size h8⟩)
    have HR := Lib.hid hrow
    have cL := hv.cellL
    clear HD HV HK hv hr hrow hk hl H2
    by_cases h0 : (0 : Int) ≤ id
    · by_cases h1 : id < (p.T.length : Int)
      · obtain ⟨k, rfl⟩ := Int.eq_ofNat_of_zero_le h0
        have hh : hasT p.T ((k : Nat) : Int) = true := hasT_iff.2 ⟨h0, h1⟩
        have cK := HR.out.at k (by omega)
        have HH := Lib.hid hh
        clear hh
        go_upto_region 9 with fail
        go_wp2_with fail
        go_ret
        exact ⟨by rw [HFN.out, HH.out]; simp, HA.out⟩
      · have hh : hasT p.T id = false := by rw [Bool.eq_false_iff]; intro h; exact h1 (hasT_iff.1 h).2
        have HH := Lib.hid hh
        clear hh
        go_wp2_with fail
        go_ret
        exact ⟨by rw [HFN.out, HH.out]; simp, HA.out⟩
    · have hh : hasT p.T id = false := by rw [Bool.eq_false_iff]; intro h; exact h0 (hasT_iff.1 h).1
      have HH := Lib.hid hh
      clear hh
      go_wp2_with fail
      go_ret
      exact ⟨by rw [HFN.out, HH.out]; simp, HA.out⟩
end
end Go.Proofs.YtbppaiejpgdbiaaGreat

/- Layer 14 (spine): a walk in memory: blocked, left, right. -/
namespace Go.Proofs.YtbppaiejpgdbiaaGreat
open Go.RowKit Go.Maps Go.WideMaps
set_option maxRecDepth 100000
set_option linter.unusedVariables false
set_option linter.unusedSimpArgs false

structure WalkIs (w : World) (base wb tbase tb : Nat) (T : List Ent) (sv : Value) (mb mp : Nat) (A B lim st : Int) : Prop where
  blk : w.heap[wb]? = some (.cells #[.int .i64 A, .int .i64 B, .pointer (some ⟨tb, 0, none⟩), .int .i64 lim, .int .i64 st] 121)
  tab : TabIs w tbase tb T sv mb mp
  tlt : ∀ x, tabF tb sv mb mp x → x < base
  le : base ≤ wb
theorem WalkIs.below {w w' : World} {C base wb tbase tb : Nat} {T : List Ent} {sv : Value} {mb mp : Nat} {A B lim st : Int} (h : WalkIs w base wb tbase tb T sv mb mp A B lim st) (hb : Below C w w') (hC : w.heap.size ≤ C) : WalkIs w' base wb tbase tb T sv mb mp A B lim st :=
  ⟨blk_below hb (Nat.lt_of_lt_of_le (blk_lt h.blk) hC) h.blk, h.tab.below hb hC, h.tlt, h.le⟩
end Go.Proofs.YtbppaiejpgdbiaaGreat

/- Layer 14 (spine): a walk in memory: free, has, begin, Walk, Steps. -/
namespace Go.Proofs.YtbppaiejpgdbiaaGreat
open Go.RowKit Go.Maps Go.WideMaps
set_option maxRecDepth 100000
set_option linter.unusedVariables false
set_option linter.unusedSimpArgs false

theorem TabIs.lt_size {w : World} {tbase tb : Nat} {T : List Ent} {sv : Value} {mb mp : Nat} (h : TabIs w tbase tb T sv mb mp) : ∀ x, tabF tb sv mb mp x → x < w.heap.size := by
  intro x hx
  rcases hx with rfl | e | rfl | rfl
  · exact blk_lt h.blk
  · exact hw.own_lt h.row x e
  · exact h.bys.lt
  · exact h.prs.lt

structure FreeIs (w W : World) (base wb tbase tb : Nat) (T : List Ent) (sv : Value) (mb mp : Nat) (A B lim st A' B' lim' st' : Int) : Prop where
  wk : WalkIs W base wb tbase tb T sv mb mp A' B' lim' st'
  ha : hasT T A' = true
  hb : hasT T B' = true
  ok : (wlkT T A B lim).1 = (wlkT T A' B' lim').1
  cnt : st + ((wlkT T A B lim).2 : Int) = st' + ((wlkT T A' B' lim').2 : Int)
  s0 : 0 ≤ st'
  s1 : st' + A' + B' < 1000000000
  bl : Below base w W
section
variable {w W V : World} {base wb tbase tb : Nat} {T : List Ent} {sv : Value} {mb mp : Nat} {A B lim st A' B' lim' st' : Int}
theorem FreeIs.below (h : FreeIs w W base wb tbase tb T sv mb mp A B lim st A' B' lim' st') (hb : Below W.heap.size W V) : FreeIs w V base wb tbase tb T sv mb mp A B lim st A' B' lim' st' :=
  ⟨h.wk.below hb (Nat.le_refl _), h.ha, h.hb, h.ok, h.cnt, h.s0, h.s1, h.bl.trans (hb.mono (Nat.le_trans h.wk.le (Nat.le_of_lt (blk_lt h.wk.blk))))⟩
variable {a b : Int}
end
end Go.Proofs.YtbppaiejpgdbiaaGreat

/- Layer 14 (spine): Valid; of nothing. -/
namespace Go.Proofs.YtbppaiejpgdbiaaGreat
open Go.RowKit Go.Maps Go.WideMaps
set_option maxRecDepth 100000
set_option linter.unusedVariables false
set_option linter.unusedSimpArgs false
section
variable {w w' W W1 : World} {base : Nat} {p : VocP} {g g1 : Option Nat}
theorem AskV.trans (hk : Keep (fun x => x = p.vb) w W) (hl : g1 = g ∨ ∃ x, g1 = some x ∧ w.heap.size ≤ x) (h2 : AskV W W1 base p g1) : AskV w W1 base p g := by
  obtain ⟨g2, hv, hk2, hl2⟩ := h2
  refine ⟨g2, hv, hk.trans hk2 (fun x hx => .inl hx), ?_⟩
  rcases hl2 with rfl | ⟨x, rfl, hx⟩
  · exact hl
  · exact .inr ⟨x, rfl, Nat.le_trans hk.size hx⟩
theorem AskV.of_below (h : VocAt w base p g) (hb : Below w.heap.size w W) : AskV w W base p g :=
  ⟨g, h.below hb (Nat.le_refl _), Keep.of_below hb, .inl rfl⟩
end
end Go.Proofs.YtbppaiejpgdbiaaGreat

/- Layer 10 (vocab): New of merges alone. -/
namespace Go.Proofs.YtbppaiejpgdbiaaGreat
open Go.RowKit Go.Maps Go.WideMaps
set_option maxRecDepth 100000
set_option linter.unusedVariables false
set_option linter.unusedSimpArgs false
def mrgS (l : List (Int × Int)) : SpecP := ⟨false, l, [], [], [], []⟩
theorem VocAt.base_le {w : World} {base : Nat} {p : VocP} {g : Option Nat} (h : VocAt w base p g) : base ≤ p.vb := by
  obtain ⟨l, dn, st, se, us, h1, _⟩ := h
  exact h1.lt.1
theorem AskV.below {w0 w W : World} {base : Nat} {p : VocP} {g : Option Nat} (h : AskV w W base p g) (hB : Below w0.heap.size w0 w) (hb : w0.heap.size ≤ p.vb) : Below w0.heap.size w0 W := by
  obtain ⟨g', hv, hk, hl⟩ := h
  exact hB.trans (hk.below hB.size (fun x hx => by omega))
theorem adds_okT : ∀ (l : List (Int × Int)) (T T' : List Ent), OkT T → addsT T l = some T' → OkT T'
  | [], T, T', h, e => by simp [addsT] at e; rw [← e]; exact h
  | m :: l, T, T', h, e => by
    rw [addsT] at e
    split at e
    · rename_i h0
      exact adds_okT l _ T' (okT_add h _ _ h0) e
    · simp at e
theorem vnew_m {l : List (Int × Int)} {T : List Ent} (hT : addsT baseT l = some T) (A : Option Addr) (c : Nat) (w : World) (hl : Sl w A encM 2 l) (hlen : l.length ≤ 744) (hr : l.all mrgR = true) :
    Calls Tryz.prog 15 #[specV false A l.length c none 0 0 none 0 0 none 0 0 none 0 0] w fun e w' => (∃ p, e = .returned (.tuple #[.pointer (some ⟨p.vb, 0, none⟩), .int .i64 0, .int .i64 0]) ∧ VocAt w' w.heap.size p none ∧ p.T = T ∧ p.s = mrgS l ∧ OkT T) ∧ Below w.heap.size w w' := by
  have hs : SpecAt w (mrgS l) A none none none none := ⟨hl, Sl1.nil _ _ _, Sl.nil _ _ _ _, Sl.nil _ _ _ _, Sl.nil _ _ _ _, by simp [mrgS]; omega⟩
  have hR : rightS (mrgS l) = true := by
    have h1 : headR (mrgS l) = true := rfl
    have h2 : (decide ((((mrgS l).ms.length : Nat) : Int) ≤ 744) && (mrgS l).ms.all mrgR) = true := by
      show (decide (((l.length : Nat) : Int) ≤ 744) && l.all mrgR) = true
      rw [hr]; simp; omega
    unfold rightS
    rw [h1, h2]
    rfl
  have hok : OkT T := adds_okT l baseT T okT_base hT
  have hL : ∀ V, Below w.heap.size w V → Calls Tryz.prog 87 #[specW (mrgS l) A none none none none c 0 0 0 0] V fun e w' => (∃ tb sv mb mp n, e = .returned (.tuple #[.pointer (some ⟨tb, 0, none⟩), .int .i64 n, .int .i64 0]) ∧ TabIs w' V.heap.size tb T sv mb mp) ∧ Below V.heap.size V w' := by
    intro V hV
    refine (load_false (R := fun x y z w' => (∃ tb sv mb mp n, x = .pointer (some ⟨tb, 0, none⟩) ∧ y = .int .i64 n ∧ z = .int .i64 0 ∧ TabIs w' V.heap.size tb T sv mb mp) ∧ Below V.heap.size V w') rfl (fun W hW => ?_)).mono ?_
    · refine (new_ok hT A c W (hl.below (hV.trans (hW.mono hV.size)) (Nat.le_refl _)) (by omega)).mono ?_
      rintro e w' ⟨tb, sv, mb, mp, rfl, _, ht, hb⟩
      exact ⟨_, _, _, rfl, ⟨tb, sv, mb, mp, _, rfl, rfl, rfl, ht.less hW.size⟩, hW.trans (hb.mono hW.size)⟩
    · rintro e w' ⟨x, y, z, rfl, ⟨tb, sv, mb, mp, n, rfl, rfl, rfl, ht⟩, hb⟩
      exact ⟨⟨tb, sv, mb, mp, n, rfl, ht⟩, hb⟩
  have hM : ∀ V, Below w.heap.size w V → Calls Tryz.prog 88 #[.slice none (mrgS l).xs.length 0] V fun e w' => (∃ mb sv mi mt n, e = .returned (.tuple #[.pointer (some ⟨mb, 0, none⟩), .int .i64 n, .int .i64 0]) ∧ MarkIs w' V.heap.size mb (mrgS l).xs sv mi mt) ∧ Below V.heap.size V w' := by
    intro V hV
    refine (mnew_nil V 0).mono ?_
    rintro e w' ⟨⟨mb, sv, mi, mt, rfl, hm⟩, hb⟩
    exact ⟨⟨mb, sv, mi, mt, 0, rfl, hm⟩, hb⟩
  refine (vnew_any (cM := c) (cT := 0) (cX := 0) (cC := 0) (cJ := 0) hs hR hL hM rfl (by simp [mrgS]; omega) rfl rfl).mono ?_
  rintro e w' ⟨⟨vb, A1, A2, A3, A4, A5, c1, c2, c3, c4, c5, tbase, tb, bk, kbase, mk, sv, mb, mp, sv2, mi, mt, rfl, hv⟩, hb⟩
  exact ⟨⟨⟨vb, mrgS l, T, A1, A2, A3, A4, A5, c1, c2, c3, c4, c5, tbase, tb, bk, kbase, mk, sv, mb, mp, sv2, mi, mt⟩, rfl, ⟨_, 0, 0, 0, 0, hv, .inl ⟨rfl, rfl, rfl, rfl⟩⟩, rfl, rfl, hok⟩, hb⟩
end Go.Proofs.YtbppaiejpgdbiaaGreat

/- Layer 28 (prune): Dead. -/
namespace Go.Proofs.YtbppaiejpgdbiaaGreat
open Go.RowKit Go.Maps Go.WideMaps
set_option maxRecDepth 100000
set_option linter.unusedVariables false
set_option linter.unusedSimpArgs false
/-- what is never made, below k -/
def VocP.ded (p : VocP) (k : Nat) : List Int := ((List.range' 256 (k - 256)).map Int.ofNat).filter (fun i => !p.aln i)
theorem ded_succ (p : VocP) (k : Nat) (hk : 256 ≤ k) : p.ded (k + 1) = p.ded k ++ (if p.aln (k : Int) = true then [] else [(k : Int)]) := by
  unfold VocP.ded
  rw [show k + 1 - 256 = (k - 256) + 1 by omega, List.range'_concat, List.map_append, List.filter_append, Nat.one_mul]
  congr 1
  have e : 256 + (k - 256) = k := by omega
  rw [e]
  cases h : p.aln (k : Int) <;> simp [h]
theorem ded_start (p : VocP) : p.ded 256 = [] := by simp [VocP.ded]
theorem ded_len (p : VocP) (k : Nat) : (p.ded k).length ≤ k := by
  refine Nat.le_trans (List.length_filter_le _ _) ?_
  simp
theorem VocAt.row_lt {w : World} {base : Nat} {p : VocP} {g : Option Nat} (h : VocAt w base p g) (hT : OkT p.T) : ∀ r, g = some r → r < w.heap.size := by
  intro r hr
  obtain ⟨l, dn, st, se, us, h1, h2⟩ := h
  rcases h2 with ⟨h2, _⟩ | ⟨r', h3, h4, h5, h6, h7⟩
  · rw [h2] at hr; cases hr
  · rw [h3] at hr
    injection hr with hr
    subst hr
    obtain ⟨g', cap', e1, _, hlt, _⟩ := own_open h7 (by have := okT_256 hT; omega)
    injection e1 with e1 _ _
    injection e1 with e1
    injection e1 with e1 _
    omega
/-- Dead under way -/
def DeadIs (w W : World) (base : Nat) (p : VocP) (g : Option Nat) (L : List Int) (v : Value) : Prop :=
  ∃ g1, VocAt W base p g1 ∧ Keep (fun x => x = p.vb) w W ∧ (g1 = g ∨ ∃ x, g1 = some x ∧ w.heap.size ≤ x) ∧ W.ownsRow w.heap.size 3 1 v L.length (L.map (Value.int .i64)) ∧ (∀ b, v.ownBlock = some b → g1 ≠ some b)
section
variable {w W W1 : World} {base : Nat} {p : VocP} {g g1 : Option Nat} {L : List Int} {v v' : Value}
theorem DeadIs.ask (hv : VocAt W base p g1) (hk : Keep (fun x => x = p.vb) w W) (hl : g1 = g ∨ ∃ x, g1 = some x ∧ w.heap.size ≤ x) (ho : W.ownsRow w.heap.size 3 1 v L.length (L.map (Value.int .i64))) (hd : ∀ b, v.ownBlock = some b → g1 ≠ some b) (hlt : p.vb < w.heap.size) (ha : AskV W W1 base p g1) : DeadIs w W1 base p g L v := by
  obtain ⟨g2, hv2, hk2, hl2⟩ := ha
  have hown := own_keep ho hk2 (fun x hx e => by have := own_base ho x hx; omega)
  refine ⟨g2, hv2, hk.trans hk2 (fun x hx => .inl hx), ?_, hown, ?_⟩
  · rcases hl2 with rfl | ⟨x, rfl, hx⟩
    · exact hl
    · exact .inr ⟨x, rfl, Nat.le_trans hk.size hx⟩
  · intro b hb e
    rcases hl2 with rfl | ⟨x, rfl, hx⟩
    · exact hd b hb e
    · injection e with e
      subst e
      rcases ho.2 with ⟨h1, _⟩ | ⟨gg, cap, cur, h1, h2, h3, _⟩
      · rw [h1] at hb; simp [Value.ownBlock] at hb
      · rw [h1] at hb
        simp only [Value.ownBlock, Option.some.injEq] at hb
        have := blk_lt h3
        omega
theorem DeadIs.app (hT : OkT p.T) (hv : VocAt W base p g1) (hk : Keep (fun x => x = p.vb) w W) (hl : g1 = g ∨ ∃ x, g1 = some x ∧ w.heap.size ≤ x) (ho : W.ownsRow w.heap.size 3 1 v L.length (L.map (Value.int .i64))) (hd : ∀ b, v.ownBlock = some b → g1 ≠ some b) (hlt : p.vb < w.heap.size) (x : Int)
    (ho' : W1.ownsRow w.heap.size 3 1 v' (L.length + 1) (L.map (Value.int .i64) ++ [.int .i64 x])) (hg : W.grownBy W1 v.ownBlock) (hn : v'.ownBlock = v.ownBlock ∨ ∃ g, v'.ownBlock = some g ∧ W.heap.size ≤ g) : DeadIs w W1 base p g (L ++ [x]) v' := by
  have hk6 : Keep (fun g => v.ownBlock = some g) W W1 := Keep.of_grown hg (fun g hg => hg)
  refine ⟨g1, hv.keep hk6 ?_, hk.trans hk6 (fun x hx => .inr (own_base ho x hx)), hl, ?_, ?_⟩
  · rintro x (hx | hx) e
    · have := own_base ho x e; omega
    · exact hd x e hx
  · rw [List.length_append, List.map_append]
    exact ho'
  · intro b hb e
    rcases hn with h1 | ⟨b2, h1, h2⟩
    · exact hd b (h1 ▸ hb) e
    · rw [h1] at hb
      injection hb with hb
      subst hb
      have := hv.row_lt hT _ e
      omega
theorem size_nil (w : World) : Calls Tryz.prog 36 #[.pointer none] w fun e w' => e = .returned (.int .i64 0) ∧ w' = w := by
  have h2 := Lib.hid (len_nil w)
  have h1 : Hid (Calls Tryz.prog 65 #[.pointer none] w fun e w' => e = .returned (.pointer none) ∧ w' = w) := Lib.hid (by
    go_enter Tryz.func65, Tryz.ntmps65
    go_wp2_with fail
    go_ret
    exact ⟨rfl, rfl⟩)
  go_enter Tryz.func36, Tryz.ntmps36
  go_wp2_with (first | (go_at_call 65; refine h1.out.mono ?_; rintro e V1 ⟨rfl, rfl⟩) | (go_at_call 66; refine h2.out.mono ?_; rintro e V1 ⟨rfl, rfl⟩))
  go_ret
  exact ⟨rfl, rfl⟩
theorem dead_nil (w : World) : Calls Tryz.prog 30 #[.pointer none] w fun e w' => e = .returned (.slice none 0 0) ∧ w' = w := by
  have h2 := Lib.hid (size_nil w)
  go_enter Tryz.func30, Tryz.ntmps30
  go_wp2_with fail
  go_loopg [3, 4] 0 (fun n v i W => v = .slice none 0 0 ∧ i = .int .i64 256 ∧ W = w)
  case atStart => exact ⟨rfl, rfl, rfl⟩
  case round =>
    obtain ⟨rfl, rfl, rfl⟩ := hrel
    go_wp2_with (go_at_call 36; refine h2.out.mono ?_; rintro e V1 ⟨rfl, rfl⟩)
    go_ret
    exact ⟨rfl, rfl⟩
theorem VocAt.size_any (h : VocAt w base p g) : Calls Tryz.prog 36 #[.pointer (some ⟨p.vb, 0, none⟩)] w fun e w' => e = .returned (.int .i64 (p.T.length : Nat)) ∧ w' = w := by
  obtain ⟨l, dn, st, se, us, h1, _⟩ := h
  exact vsize_any h1
theorem id_wf {n : Nat} (h : n ≤ 100000) : (Lit.int .i64 (n : Int)).wf = true := by
  have e1 : IntKind.i64.min = -9223372036854775808 := by decide
  have e2 : IntKind.i64.max = 9223372036854775807 := by decide
  simp only [Lit.wf, e1, e2, Bool.and_eq_true, decide_eq_true_eq]
  omega
set_option maxHeartbeats 2000000 in
theorem dead_any (h : VocAt w base p g) (hT : OkT p.T) (hM : p.s.xs.length ≤ 1000) :
    Calls Tryz.prog 30 #[.pointer (some ⟨p.vb, 0, none⟩)] w fun e w' => ∃ v, e = .returned v ∧ DeadIs w w' base p g (p.ded p.T.length) v := by
  have HAL : Hid (∀ V g (k : Nat), VocAt V base p g → k ≤ 1000 → Calls Tryz.prog 51 #[.pointer (some ⟨p.vb, 0, none⟩), .int .i64 (k : Int)] V fun e w' => e = .returned (.bool (p.aln (k : Int))) ∧ AskV V w' base p g) := Lib.hid (fun V g k hV hk => valone_any hV hT _ (id_wf (by omega)) hM)
  have HT := Lib.hid hT
  have HVL := Lib.hid h.lt_size
  have HD : Hid (DeadIs w w base p g [] (.slice none 0 0)) := Lib.hid ⟨g, h, Keep.refl _ _, .inl rfl, own_nil _ _ _ _, fun b hb => by simp [Value.ownBlock] at hb⟩
  have HSM := Lib.hid hT.small
  have HTL := Lib.hid (okT_256 hT)
  clear h hT hM
  go_enter Tryz.func30, Tryz.ntmps30
  go_wp2_with fail
  go_loopg [3, 4] (p.T.length - 256) (fun n v i W => ∃ k : Nat, 256 ≤ k ∧ k + n = p.T.length ∧ i = .int .i64 (k : Int) ∧ DeadIs w W base p g (p.ded k) v)
  case atStart => exact ⟨256, Nat.le_refl _, by have := HTL.out; omega, rfl, by rw [ded_start]; exact HD.out⟩
  case round =>
    obtain ⟨k, hk1, hk, rfl, hd⟩ := hrel
    clear HD
    rename World => W
    rename Value => v
    obtain ⟨g1, hv, hkp, hl, ho, hdj⟩ := hd
    obtain ⟨A, c, rfl⟩ := own_slice ho
    have HV := Lib.hid hv
    have HALL := Lib.hid (And.intro hkp (And.intro hl (And.intro ho hdj)))
    have HSZ := Lib.hid (hv.size_any)
    have HK1 := Lib.hid hk1
    clear hv hkp hl ho hdj hk1
    by_cases hlt : k < p.T.length
    · have hlt' : (k : Int) < (p.T.length : Int) := by omega
      have HA := Lib.hid (HAL.out _ g1 k HV.out (by have := HSM.out; omega))
      have ws : IntKind.i64.wrap ((k : Int) + 1) = (k : Int) + 1 := IntWalk.i64_in _ (by have := HSM.out; omega)
      have HSUC := Lib.hid (ded_succ p k HK1.out)
      obtain ⟨q, hq⟩ : ∃ q, p.aln (k : Int) = q := ⟨_, rfl⟩
      rw [hq] at HA HSUC
      clear hq
      have HLL := Lib.hid (ded_len p k)
      generalize p.ded k = L at *
      cases q with
      | true =>
        go_wp2_with (first | (go_at_call 36; refine HSZ.out.mono ?_; rintro e V1 ⟨rfl, rfl⟩) | (go_at_call 51; refine HA.out.mono ?_; rintro e W1 ⟨rfl, hA⟩; have HR := Lib.hid (DeadIs.ask HV.out HALL.out.1 HALL.out.2.1 HALL.out.2.2.1 HALL.out.2.2.2 HVL.out hA); clear hA))
        go_roundg (gk - 1)
        case measure => omega
        case rel => exact ⟨k + 1, by have := HK1.out; omega, by omega, by simp, by rw [HSUC.out]; simpa using HR.out⟩
      | false =>
        go_upto_region 6 with (first | (go_at_call 36; refine HSZ.out.mono ?_; rintro e V1 ⟨rfl, rfl⟩) | (go_at_call 51; refine HA.out.mono ?_; rintro e W1 ⟨rfl, hA⟩; have HR := Lib.hid (DeadIs.ask HV.out HALL.out.1 HALL.out.2.1 HALL.out.2.2.1 HALL.out.2.2.2 HVL.out hA); clear hA))
        clear HALL HV HSZ HA
        obtain ⟨g2, hv, hkp, hl, ho, hdj⟩ := HR.out
        have HV := Lib.hid hv
        have HO := Lib.hid ho
        have HALL := Lib.hid (And.intro hkp (And.intro hl hdj))
        have hsz : w.heap.size ≤ W1.heap.size := hkp.size
        have hLl : L.length ≤ 1000000 := by have := HLL.out; have := HSM.out; omega
        clear hv hkp hl ho hdj HR
        go_wp2_with (at_builtin; refine app_new (w.heap.size) 57 3 (.int .i64 0) 1 8 [_] 1 _ _ rfl rfl Tryz.underlying57 info_int5 rfl (by decide) _ _ _ rfl rfl rfl (by intro u hu; simp at hu; subst hu; rfl) HO.out (by omega) (by omega) (by exact hsz) ?_)
        intro v' w6 hown hg6 hnew
        have hg7 : W1.grownBy w6 (Value.slice A L.length c).ownBlock := hg6
        have HR := Lib.hid (DeadIs.app HT.out HV.out HALL.out.1 HALL.out.2.1 HO.out HALL.out.2.2 HVL.out (k : Int) hown hg7 hnew)
        obtain ⟨A3, c3, rfl⟩ := own_slice hown
        clear hown hg6 hg7 hnew HV HO HALL
        go_wp2_with fail
        go_roundg (gk - 1)
        case measure => omega
        case rel => exact ⟨k + 1, by have := HK1.out; omega, by omega, by simp, by rw [HSUC.out]; exact HR.out⟩
    · have hke : k = p.T.length := by omega
      have hlt' : ¬ (k : Int) < (p.T.length : Int) := by omega
      have HKE := Lib.hid hke
      clear hke
      go_wp2_with (go_at_call 36; refine HSZ.out.mono ?_; rintro e V1 ⟨rfl, rfl⟩)
      go_ret
      refine ⟨_, rfl, g1, HV.out, HALL.out.1, HALL.out.2.1, ?_, HALL.out.2.2.2⟩
      rw [← HKE.out]
      exact HALL.out.2.2.1
end
end Go.Proofs.YtbppaiejpgdbiaaGreat

/- Layer 28 (prune): of nothing; the document's example; PruneNone. -/
namespace Go.Proofs.YtbppaiejpgdbiaaGreat
open Go.RowKit Go.Maps Go.WideMaps
set_option maxRecDepth 100000
set_option linter.unusedVariables false
set_option linter.unusedSimpArgs false
def awp28 : VocP := ⟨0, mrgS ac1, acU3, none, none, none, none, none, 0, 0, 0, 0, 0, 0, 0, 0, 0, 0, .bool false, 0, 0, .bool false, 0, 0⟩
theorem aw28_ded : awp28.ded acU3.length = [258] := by kernel_rfl
theorem VocP.ded_eq {p q : VocP} (h1 : p.T = q.T) (h2 : p.s = q.s) (k : Nat) : p.ded k = q.ded k := by unfold VocP.ded VocP.aln; rw [h1, h2]
theorem prune_nil (w : World) : Calls Tryz.prog 14 #[.pointer none] w fun e w' => e = .returned (.tuple #[.pointer none, .int .i64 1]) ∧ w' = w := by
  go_enter Tryz.func14, Tryz.ntmps14
  go_wp2_with fail
  go_ret2
  exact ⟨rfl, rfl⟩
theorem pnew_nil (id : Int) (w : World) : Calls Tryz.prog 26 #[.pointer none, .int .i64 id] w fun e w' => e = .returned (.tuple #[.int .i64 0, .bool false]) ∧ w' = w := by
  go_enter Tryz.func26, Tryz.ntmps26
  go_wp2_with fail
  go_ret2
  exact ⟨rfl, rfl⟩
theorem pold_nil (id : Int) (w : World) : Calls Tryz.prog 27 #[.pointer none, .int .i64 id] w fun e w' => e = .returned (.tuple #[.int .i64 0, .bool false]) ∧ w' = w := by
  go_enter Tryz.func27, Tryz.ntmps27
  go_wp2_with fail
  go_ret2
  exact ⟨rfl, rfl⟩
theorem plen_nil (w : World) : Calls Tryz.prog 29 #[.pointer none] w fun e w' => e = .returned (.int .i64 0) ∧ w' = w := by
  go_enter Tryz.func29, Tryz.ntmps29
  go_wp2_with fail
  go_ret
  exact ⟨rfl, rfl⟩
theorem pmap_nil (v : Value) (w : World) : Calls Tryz.prog 28 #[.pointer none, v] w fun e w' => e = .returned (.tuple #[.slice none 0 0, .int .i64 0, .int .i64 1]) ∧ Below w.heap.size w w' := by
  have HB := Lib.hid ((Below.refl w.heap.size w).alloc (Nat.le_refl _) (.cells #[.pointer none] 41))
  go_enter Tryz.func28, Tryz.ntmps28
  go_wp2_with fail
  go_ret3
  exact ⟨rfl, HB.out⟩
set_option maxHeartbeats 2000000 in
theorem awake28_any (w : World) : Calls Tryz.prog 12 #[] w fun e w' => e = .returned (.bool true) ∧ Below w.heap.size w w' := by
  have HB0 := Lib.hid ((Below.refl w.heap.size w).alloc (Nat.le_refl _) (.cells #[.int .i64 98, .int .i64 99, .int .i64 97, .int .i64 98, .int .i64 257, .int .i64 99] 55))
  have HSL := Lib.hid (sl_mrg (l := ac1) (blk_new w (.cells #[.int .i64 98, .int .i64 99, .int .i64 97, .int .i64 98, .int .i64 257, .int .i64 99] 55)))
  have HN : Hid (∀ V, Sl V (some ⟨w.heap.size, 0, none⟩) encM 2 ac1 → Calls Tryz.prog 15 #[.agg #[.bool false, .slice (some ⟨w.heap.size, 0, none⟩) 3 3, .slice none 0 0, .slice none 0 0, .slice none 0 0, .slice none 0 0]] V fun e w' => (∃ p, e = .returned (.tuple #[.pointer (some ⟨p.vb, 0, none⟩), .int .i64 0, .int .i64 0]) ∧ VocAt w' V.heap.size p none ∧ p.T = acU3 ∧ p.s = mrgS ac1 ∧ OkT acU3) ∧ Below V.heap.size V w') := Lib.hid (fun V hV => vnew_m ac_adds1 _ 3 V hV (by decide) (by decide))
  go_enter Tryz.func12, Tryz.ntmps12
  go_upto_region 2 with (go_at_call 15; refine (HN.out _ HSL.out).mono ?_; rintro e W ⟨⟨p, rfl, hv, hT, hs, hok⟩, hb⟩; (have HV := Lib.hid hv); (have HT := Lib.hid hT); (have HS := Lib.hid hs); (have HOK := Lib.hid hok); (have HB := Lib.hid (HB0.out.trans (hb.mono HB0.out.size))); (have HVB := Lib.hid (Nat.le_trans HB0.out.size hv.base_le)); clear hv hT hs hok hb)
  have HM : Hid (p.s.xs.length ≤ 1000) := Lib.hid (by rw [HS.out]; decide)
  have HOP : Hid (OkT p.T) := Lib.hid (by rw [HT.out]; exact HOK.out)
  have HDE : Hid (p.ded p.T.length = [258]) := Lib.hid (by rw [HT.out, VocP.ded_eq (q := awp28) HT.out HS.out]; exact aw28_ded)
  have HDD := Lib.hid (dead_any HV.out HOP.out HM.out)
  rw [HDE.out] at HDD
  clear HT HS HOK HSL HN HB0
  go_wp2_with (first
    | (go_at_call 30; refine HDD.out.mono ?_; rintro e V1 ⟨v, rfl, g1, hv1, hk1, hl1, ho1, hd1⟩; obtain ⟨A, c, rfl⟩ := own_slice ho1; (have HB2 := Lib.hid (HB.out.trans (hk1.below HB.out.size (fun x hx => by rw [hx]; exact HVB.out)))); (have HO := Lib.hid ho1); clear hv1 hk1 hl1 ho1 hd1 HDD)
    | (go_at_call 38; (have hn := blk_new V1 (.cells #[.int .i64 258] 3)); (have hba := (Below.refl V1.heap.size V1).alloc (Nat.le_refl _) (.cells #[.int .i64 258] 3)); refine (ints_same [258] A _ c 1 _ (own_sl1 (own_below HO.out hba (Nat.le_refl _))) (sl_int (l := [258]) hn) (by decide)).mono ?_; rintro e V2 ⟨rfl, hb⟩; (have hbb := HB2.out.trans (hba.mono HB2.out.size)); (have HB3 := Lib.hid (hbb.trans (hb.mono hbb.size))); clear hbb; clear hn hba hb))
  go_ret
  exact ⟨rfl, HB3.out⟩
set_option maxHeartbeats 2000000 in
theorem pnone_law (x0 : Int) (w : World) (_ : (Lit.int .i64 x0).wf = true) :
    Calls Tryz.prog 7 #[.int .i64 x0] w (RetTrue w) := by
  have HB0 := Lib.hid ((Below.refl w.heap.size w).alloc (Nat.le_refl _) (.cells #[.int .i64 x0] 3))
  go_enter Tryz.func7, Tryz.ntmps7
  go_wp2_with (first
    | (go_at_call 14; refine (prune_nil _).mono ?_; rintro e W ⟨rfl, rfl⟩)
    | (go_at_call 26; refine (pnew_nil _ _).mono ?_; rintro e W ⟨rfl, rfl⟩)
    | (go_at_call 27; refine (pold_nil _ _).mono ?_; rintro e W ⟨rfl, rfl⟩)
    | (go_at_call 28; refine (pmap_nil _ _).mono ?_; rintro e W1 ⟨rfl, hb⟩; (have HB1 := Lib.hid (HB0.out.trans (hb.mono HB0.out.size))); clear hb)
    | (go_at_call 29; refine (plen_nil _).mono ?_; rintro e W ⟨rfl, rfl⟩)
    | (go_at_call 30; refine (dead_nil _).mono ?_; rintro e W ⟨rfl, rfl⟩)
    | (go_at_call 12; refine (awake28_any _).mono ?_; rintro e W2 ⟨rfl, hb⟩; (have HB2 := Lib.hid (HB1.out.trans (hb.mono HB1.out.size))); clear hb))
  go_ret
  exact ⟨rfl, HB2.out⟩
end Go.Proofs.YtbppaiejpgdbiaaGreat

