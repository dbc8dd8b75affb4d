/- Texts of several layers, one behind the other: Chain9, ChainA, ChainB, Ref6, Ref7, ChainC, ChainD, ChainE, ChainF, ChainG, ChainH, ChainI, GrowG, Right2, Copy0, Copy1, Mark0, Chk0, Chk1, Pieces, Bound2, Bound3. -/
import Derived.Test.YtbppaiejpgdbiaaGreatZW2
import Derived.WalkKit
import Derived.KernelRfl
import Derived.Lib.Hide
import Derived.Deep.QuietTactic
import Derived.BigQuiet
import Derived.OwnWalk
import Derived.Lib.Strings
import Derived.Deep.DeepCutAuto
import Derived.Deep.RegionHeld3
import Derived.StillTailTactics
import Derived.Test.YtbppaiejpgdbiaaGreatProg
import Derived.Deep.Slices
import Derived.Deep.Fields
import Derived.ChangeSame
import Derived.SliceStrings
import Derived.OpenShut
import Derived.Maps.OwnSet
import Derived.Maps.OwnOps
import Derived.DeepKeys4
import Derived.WideKeyEntry
import Derived.Maps.AppendAt
import Derived.Laws.ResultCell
import Derived.Laws.IdiomStrings
import Derived.Laws.AppendOwnNone
import Derived.Lib.AppendStr
import Derived.Laws.LoneSync
import Derived.Tactics
import Derived.Tactics2
import Derived.Defers
import Derived.Laws.Pointers
import Derived.RegionTactic
import Derived.RegionCalls
import Derived.ChangeAlike
import Derived.Test.YtbppaiejpgdbiaaGreatRows
import Derived.ProofKit
import Derived.ShutString
import Derived.ChangeOld
import Derived.Below
import Derived.Lib.SmallJoins
set_option maxRecDepth 100000
set_option linter.unusedVariables false
set_option linter.unusedSimpArgs false
namespace Go.Proofs.YtbppaiejpgdbiaaGreat
open Go.RowKit Go.Maps Go.WideMaps
theorem info_int5 : (Tryz.prog.info? 3).map (fun i => (i.zero, i.size, i.bytes)) = some (some (.int .i64 0), 1, 8) := by kernel_rfl
def IntsIs (w : World) (base : Nat) (v : Value) (l : List Int) : Prop := ∃ A c, v = .slice A l.length c ∧ w.ownsRow base 3 1 (.slice A l.length c) l.length (l.map (Value.int .i64))
section
variable {w w' : World} {base tbase tb : Nat} {T : List Ent} {sv : Value} {mb mp cb qb : Nat} {N : List Node} {bel steps : Int} {A : Option Addr} {c g : Nat} {Q : List (Th Wt)} {turn : Int} {Aq : Option Addr} {cq : Nat}
structure IdsIs (w W : World) (base cb tb qb : Nat) (N : List Node) (bel steps : Int) (A : Option Addr) (c : Nat) (p : List Nd) (A2 : Option Addr) (c2 : Nat) : Prop where
  lk : LinkIs W base cb tb qb N bel steps A c
  row : W.ownsRow w.heap.size 3 1 (.slice A2 p.length c2) p.length ((idsC p).map (Value.int .i64))
  bl : Below w.heap.size w W
theorem ids_none (h : LinkIs w base cb tb qb [] bel steps A c) :
    Calls Tryz.prog 169 #[.pointer (some ⟨cb, 0, none⟩)] w fun e w' => (∃ v, e = .returned v ∧ IntsIs w' w.heap.size v []) ∧ Below w.heap.size w w' := by
  have h1 := blk_cell h.blk 1
  simp only [List.getElem?_toArray, List.getElem?_cons_zero, List.getElem?_cons_succ, List.length_nil] at h1
  clear h
  go_enter Tryz.func169, Tryz.ntmps169
  go_wp2_with fail
  go_loopg [3, 4] 0 (fun n u i W => u = .slice none 0 0 ∧ i = .int .i64 0 ∧ W = w)
  case atStart => exact ⟨rfl, rfl, rfl⟩
  case round =>
    obtain ⟨rfl, rfl, rfl⟩ := hrel
    go_wp2_with fail
    go_ret
    exact ⟨⟨_, rfl, none, 0, rfl, own_nil _ _ _ _⟩, Below.refl _ _⟩
set_option maxHeartbeats 4000000 in
theorem ids_any {L : List Nd} (h : LinkIs w base cb tb qb N bel steps A c) (hL : Lives N L) (hN : N ≠ []) (hn : L.length ≤ 100000000) :
    Calls Tryz.prog 169 #[.pointer (some ⟨cb, 0, none⟩)] w fun e w' => (∃ v, e = .returned v ∧ IntsIs w' w.heap.size v (idsC L)) ∧ Below w.heap.size w w' := by
  have HS : Hid (IdsIs w w base cb tb qb N bel steps A c [] none 0) := Lib.hid ⟨h, by simpa [idsC] using own_nil _ _ _ _, Below.refl _ _⟩
  have HLT := Lib.hid (blk_lt h.blk)
  have HAT : Hid (∀ g, A = some ⟨g, 0, none⟩ → g < w.heap.size) := Lib.hid (fun g hg => hw.own_lt h.row g (hw.addr_own hg))
  have HL := Lib.hid hL
  have hN0 : 0 < N.length := by
    rcases N with _ | ⟨x, N⟩
    · exact absurd rfl hN
    · simp
  obtain ⟨a0, q0, e0⟩ := hL.first hN
  have HE := Lib.hid e0
  have h0i : (0 : Int) = headI L := by rw [e0]; rfl
  have H0 := Lib.hid h0i
  clear h hL hN e0 h0i
  go_enter Tryz.func169, Tryz.ntmps169
  go_wp2_with fail
  go_loopg [3, 4] L.length (fun n u i W => ∃ p q A2 c2, L = p ++ q ∧ q.length = n ∧ u = .slice A2 p.length c2 ∧ i = .int .i64 (headI q) ∧ IdsIs w W base cb tb qb N bel steps A c p A2 c2)
  case atStart => exact ⟨[], L, none, 0, rfl, rfl, rfl, by rw [← H0.out], HS.out⟩
  case round =>
    obtain ⟨p, q, A2, c2, hLq, hq, rfl, rfl, hW⟩ := hrel
    clear HS
    rename World => W
    have HW := Lib.hid hW
    have HLQ := Lib.hid hLq
    have HQ := Lib.hid hq
    have hlen : p.length + q.length = L.length := by rw [hLq]; simp
    have HLEN := Lib.hid hlen
    have h1 := blk_cell hW.lk.blk 1
    simp only [List.getElem?_toArray, List.getElem?_cons_zero, List.getElem?_cons_succ] at h1
    clear hW hLq hq hlen
    rcases q with _ | ⟨⟨k, a⟩, q⟩
    · rw [headI_nil]
      go_wp2_with fail
      go_ret
      have e := HLQ.out
      rw [List.append_nil] at e
      subst e
      exact ⟨⟨_, rfl, A2, c2, by simp [idsC], by simpa [idsC] using HW.out.row⟩, HW.out.bl⟩
    · obtain ⟨k', rfl, hk⟩ := HL.out.at_ p k a q HLQ.out
      have hkl := (List.getElem?_eq_some_iff.1 hk).1
      obtain ⟨g, hA, c0, c1, c2'⟩ := HW.out.lk.at k' _ hk
      subst hA
      simp only at c0 c2'
      have HKK := Lib.hid hk
      clear c1 hk
      rw [headI_cons]
      simp only
      have p0 : (0 : Int) ≤ (k' : Int) := by omega
      have p1 : (k' : Int) < (N.length : Int) := by omega
      have q1 : ((k' : Int) != -1) = true := by simp
      have hpl : p.length ≤ 100000000 := by have := HLEN.out; simp at this; omega
      go_wp2_with (at_builtin; refine app_one (w.heap.size) 57 3 (.int .i64 0) 1 8 [_] 1 _ _ rfl rfl Tryz.underlying57 info_int5 rfl (by decide) _ _ _ rfl rfl rfl (by intro u hu; simp at hu; subst hu; rfl) HW.out.row (by omega) (by omega) HW.out.bl.size ?_)
      intro v' w6 hown hg6
      obtain ⟨A3, c3, rfl⟩ := own_slice hown
      have hk6 : Keep (fun g => (Value.slice A2 p.length c2).ownBlock = some g) W w6 := Keep.of_grown hg6 (fun g hg => hg)
      have hnew : IdsIs w w6 base cb tb qb N bel steps (some ⟨g, 0, none⟩) c (p ++ [((k' : Int), a)]) A3 c3 := by
        refine ⟨HW.out.lk.keep hk6 (fun e => ?_) (fun x hx e => ?_), ?_, ?_⟩
        · have := own_base HW.out.row _ e; have := HLT.out; omega
        · have := own_base HW.out.row _ e; have := HAT.out x hx; omega
        · have e2 : (p ++ [((k' : Int), a)]).length = p.length + 1 := by simp
          rw [e2]
          unfold idsC at hown ⊢
          rw [List.map_append, List.map_append]
          exact hown
        · exact HW.out.bl.trans (Keep.below hk6 HW.out.bl.size (fun x hx => own_base HW.out.row x hx))
      have HNEW := Lib.hid hnew
      have HP1 := Lib.hid (show (p ++ [((k' : Int), a)]).length = p.length + 1 from by simp)
      clear hown hg6 hk6 hnew h1 c0 c2'
      obtain ⟨g', e, d0, d1, d2⟩ := HNEW.out.lk.at k' _ HKK.out
      injection e with e
      injection e with e
      subst e
      have h1 := blk_cell HNEW.out.lk.blk 1
      simp only [List.getElem?_toArray, List.getElem?_cons_zero, List.getElem?_cons_succ] at h1 d2
      clear d0 d1
      go_wp2_with fail
      go_roundg q.length
      case measure => have := HQ.out; simp at this; omega
      case rel => exact ⟨p ++ [((k' : Int), a)], q, A3, c3, by rw [HLQ.out]; simp, rfl, by rw [HP1.out], rfl, HNEW.out⟩
end
def byI (s : List UInt8) (i : Nat) : Int := (s.getD i 0).toNat
def rawN (s : List UInt8) (k : Nat) : List Node := (List.range k).map fun (i : Nat) => (byI s i, (i : Int) - 1, (i : Int) + 1)
def begN (s : List UInt8) : List Node := (List.range s.length).map fun (i : Nat) => (byI s i, (i : Int) - 1, if i + 1 < s.length then (i : Int) + 1 else -1)
def begL (s : List UInt8) : List Nd := (List.range s.length).map fun (i : Nat) => ((i : Int), byI s i)
def bysI (s : List UInt8) : List Int := s.map fun c => (c.toNat : Int)
theorem rawN_len (s : List UInt8) (k : Nat) : (rawN s k).length = k := by simp [rawN]
theorem begN_len (s : List UInt8) : (begN s).length = s.length := by simp [begN]
theorem begL_len (s : List UInt8) : (begL s).length = s.length := by simp [begL]
theorem rawN_succ (s : List UInt8) (k : Nat) : rawN s (k + 1) = rawN s k ++ [(byI s k, (k : Int) - 1, (k : Int) + 1)] := by simp [rawN, List.range_succ]
theorem begL_ids (s : List UInt8) : idsC (begL s) = bysI s := by
  apply List.ext_getElem
  · simp [idsC, begL, bysI]
  · intro i h1 h2
    simp [idsC, begL, bysI, byI] at h1 ⊢
    rw [List.getElem?_eq_getElem h1]
    rfl
theorem begN_raw (s : List UInt8) (h : 0 < s.length) : (rawN s s.length).modify (s.length - 1) (nextN (-1)) = begN s := by
  apply List.ext_getElem
  · simp [rawN, begN]
  · intro i h1 h2
    simp [rawN, begN, List.getElem_modify] at h1 ⊢
    by_cases e : s.length - 1 = i
    · have : ¬ i + 1 < s.length := by omega
      simp [e, nextN, this]
    · have : i + 1 < s.length := by omega
      simp [e, this]
theorem byI_nn (s : List UInt8) (i : Nat) : 0 ≤ byI s i ∧ byI s i < 256 := by
  unfold byI
  have := (s.getD i 0).toNat_lt
  omega
theorem begL_srt (s : List UInt8) : (begL s).Pairwise (fun x y => x.1 < y.1) := by
  unfold begL
  rw [List.pairwise_map]
  exact List.pairwise_lt_range.imp (fun h => by simpa using h)
theorem begL_at (s : List UInt8) {p q : List Nd} {x : Nd} (h : begL s = p ++ x :: q) : x.1 = p.length ∧ x.2 = byI s p.length ∧ p.length < s.length ∧ lastI p = (p.length : Int) - 1 ∧ headI q = (if p.length + 1 < s.length then (p.length : Int) + 1 else -1) := by
  have hl : (begL s).length = p.length + (q.length + 1) := by rw [h]; simp
  rw [begL_len] at hl
  have at_ : ∀ k (hk : k < s.length), (begL s)[k]? = some ((k : Int), byI s k) := by
    intro k hk
    simp [begL, hk]
  have h0 := at_ p.length (by omega)
  rw [h, List.getElem?_append_right (Nat.le_refl _)] at h0
  simp at h0
  refine ⟨by rw [h0], by rw [h0], by omega, ?_, ?_⟩
  · rcases List.eq_nil_or_concat p with rfl | ⟨p', y, rfl⟩
    · rfl
    · rw [List.concat_eq_append] at *
      rw [lastI_snoc]
      have h1 := at_ p'.length (by simp at hl; omega)
      rw [h] at h1
      simp at h1
      rw [h1]
      simp
  · rcases q with _ | ⟨y, q⟩
    · rw [headI_nil, if_neg (by simp at hl; omega)]
    · rw [headI_cons, if_pos (by simp at hl; omega)]
      have h1 := at_ (p.length + 1) (by simp at hl; omega)
      rw [h, List.getElem?_append_right (by omega)] at h1
      have e : p.length + 1 - p.length = 1 := by omega
      rw [e] at h1
      simp at h1
      rw [h1]
theorem begL_split (s : List UInt8) {k : Nat} (hk : k < s.length) : ∃ p q, begL s = p ++ ((k : Int), byI s k) :: q ∧ p.length = k := by
  have hk' : k < (begL s).length := by rw [begL_len]; exact hk
  refine ⟨(begL s).take k, (begL s).drop (k + 1), ?_, by rw [List.length_take]; omega⟩
  have h1 : (begL s)[k] = ((k : Int), byI s k) := by simp [begL]
  rw [← h1, List.getElem_cons_drop, List.take_append_drop]
theorem beg_lives (s : List UInt8) : Lives (begN s) (begL s) := by
  refine ⟨?_, ?_, ?_, ?_, begL_srt s⟩
  · intro p i a q h
    obtain ⟨h1, h2, h3, h4, h5⟩ := begL_at s h
    refine ⟨p.length, h1, ?_⟩
    simp only at h2
    rw [h2, h4, h5]
    simp [begN, h3]
  · intro k x hk hno
    exfalso
    have hlt := (List.getElem?_eq_some_iff.1 hk).1
    rw [begN_len] at hlt
    exact hno (byI s k) (by simp [begL]; exact ⟨k, hlt, rfl, rfl⟩)
  · intro h
    rcases s with _ | ⟨c, s⟩
    · exact absurd rfl h
    · exact ⟨byI (c :: s) 0, (List.range s.length).map (fun i => (((i + 1 : Nat) : Int), byI (c :: s) (i + 1))), by simp [begL, List.range_succ_eq_map]⟩
  · intro x hx
    simp [begL] at hx
    obtain ⟨i, _, rfl⟩ := hx
    have := byI_nn s i
    exact ⟨this.1, by simp; omega⟩
theorem byI_at (s : ByteArray) (k : Nat) (hk : k < s.size) : byI s.data.toList k = ((s[k]'hk).toNat : Int) := by
  have h2 : k < s.data.toList.length := by simpa using hk
  unfold byI
  rw [List.getD_eq_getElem?_getD, List.getElem?_eq_getElem h2]
  rfl
theorem dataLen (s : ByteArray) : s.data.toList.length = s.size := by rw [Array.length_toList]; rfl
section
variable {w w' : World} {tbase tb : Nat} {T : List Ent} {sv : Value} {mb mp : Nat}
structure CBegIs (w W : World) (tbase tb : Nat) (T : List Ent) (sv : Value) (mb mp cb : Nat) (N : List Node) (bel : Int) (A : Option Addr) (c : Nat) (Q : List (Th Wt)) (turn : Int) (Aq : Option Addr) (cq : Nat) : Prop where
  ch : ChainIs W w.heap.size tbase tb T sv mb mp cb w.heap.size N bel 0 A c Q turn Aq cq
  bl : Below w.heap.size w W
  ge : w.heap.size ≤ cb
theorem cbeg_app {W W1 : World} {cb : Nat} {N : List Node} {bel : Int} {A A1 : Option Addr} {c c1 : Nat} {x : Node} (h : CBegIs w W tbase tb T sv mb mp cb N bel A c [] 0 none 0)
    (hown : W1.ownsRow w.heap.size 266 3 (.slice A1 (N.length + 1) c1) (N.length + 1) (N.flatMap encN ++ encN x)) (hg : W.grownBy W1 (Value.slice A N.length c).ownBlock) :
    W1.heap[cb]? = some (.cells #[.pointer (some ⟨tb, 0, none⟩), .slice A N.length c, .pointer (some ⟨w.heap.size, 0, none⟩), .int .i64 bel, .int .i64 0] 264) ∧
    CBegIs w (W1.setCell ⟨cb, 1, none⟩ (.slice A1 (N.length + 1) c1)) tbase tb T sv mb mp cb (N ++ [x]) bel A1 c1 [] 0 none 0 := by
  have hk1 : Keep (fun g => (Value.slice A N.length c).ownBlock = some g) W W1 := Keep.of_grown hg (fun g hg => hg)
  have b1 := hk1.blk h.ch.lk.blk (row_ne h.ch.lk.row h.ch.lk.blk (by decide))
  have hk2 : Keep (fun g => g = cb ∨ A = some ⟨g, 0, none⟩) W (W1.setCell ⟨cb, 1, none⟩ (.slice A1 (N.length + 1) c1)) := (hk1.mono (fun g hg => .inr (hw.own_addr h.ch.lk.row g hg))).setCell (p := ⟨cb, 1, none⟩) (.inl (.inl rfl)) _
  have hl : LinkIs (W1.setCell ⟨cb, 1, none⟩ (.slice A1 (N.length + 1) c1)) w.heap.size cb tb w.heap.size (N ++ [x]) bel 0 A1 c1 := by
    refine ⟨?_, ?_, h.ch.lk.le⟩
    · rw [List.length_append]
      simpa using blk_set b1 1 (.slice A1 (N.length + 1) c1)
    · rw [List.length_append, List.flatMap_append]
      have := own_keep hown ((Keep.refl (fun x => x = cb) W1).setCell (p := ⟨cb, 1, none⟩) (.inl rfl) (.slice A1 (N.length + 1) c1)) (fun x hx e => row_ne hown b1 (by decide) (by rw [hx, e]))
      simpa using this
  obtain ⟨hC, hB⟩ := h.ch.link hl hk2
  exact ⟨b1, hC, h.bl.trans hB, h.ge⟩
set_option maxHeartbeats 4000000 in
theorem chain_begin (s : ByteArray) (bel : Int) (h : TabIs w tbase tb T sv mb mp) (hs : s.size ≤ 100000000) :
    Calls Tryz.prog 167 #[.pointer (some ⟨tb, 0, none⟩), .string s, .int .i64 bel] w fun e w' => ∃ cb A c Q turn Aq cq, e = .returned (.pointer (some ⟨cb, 0, none⟩)) ∧
      CBegIs w w' tbase tb T sv mb mp cb (begN s.data.toList) bel A c Q turn Aq cq ∧ BegS (pairB T bel) (begL s.data.toList) s.size s.size Q turn := by
  have HT := Lib.hid h
  clear h
  go_enter Tryz.func167, Tryz.ntmps167
  go_wp2_with fail
  refine (hw.new_any w).mono ?_
  rintro e w1 ⟨rfl, hq, hb⟩
  have hlt : w.heap.size < w1.heap.size := blk_lt hq.blk
  have hb2 := (Below.refl w1.heap.size w1).alloc (Nat.le_refl _) (.cells #[.pointer (some ⟨tb, 0, none⟩), .slice none 0 0, .pointer (some ⟨w.heap.size, 0, none⟩), .int .i64 bel, .int .i64 0] 264)
  have HS : Hid (CBegIs w (w1.alloc (.cells #[.pointer (some ⟨tb, 0, none⟩), .slice none 0 0, .pointer (some ⟨w.heap.size, 0, none⟩), .int .i64 bel, .int .i64 0] 264)) tbase tb T sv mb mp w1.heap.size [] bel none 0 [] 0 none 0) := Lib.hid (by
    refine ⟨⟨⟨?_, ?_, Nat.le_of_lt hlt⟩, hq.below hb2 (Nat.le_refl _), (HT.out.below hb (Nat.le_refl _)).below hb2 (Nat.le_refl _), ?_⟩, hb.trans (hb2.mono (Nat.le_of_lt hlt)), Nat.le_of_lt hlt⟩
    · simpa using blk_new w1 _
    · simpa using own_nil _ _ _ _
    · rintro x (rfl | e | rfl | rfl)
      · exact blk_lt HT.out.blk
      · exact hw.own_lt HT.out.row x e
      · exact HT.out.bys.lt
      · exact HT.out.prs.lt)
  clear hq hb hb2 hlt
  go_wp2_with fail
  generalize w1.heap.size = cb at *
  generalize w1.alloc (.cells #[.pointer (some ⟨tb, 0, none⟩), .slice none 0 0, .pointer (some ⟨w.heap.size, 0, none⟩), .int .i64 bel, .int .i64 0] 264) = W0 at *
  go_loopg [18] s.size (fun n u W => ∃ k A c, k + n = s.size ∧ u = .int .i64 ((k : Nat) : Int) ∧ CBegIs w W tbase tb T sv mb mp cb (rawN s.data.toList k) bel A c [] 0 none 0)
  case atStart => exact ⟨0, none, 0, by omega, rfl, HS.out⟩
  case round =>
    obtain ⟨k, A, c, hk, rfl, hW⟩ := hrel
    clear HS
    rename World => W
    have HW := Lib.hid hW
    have HK := Lib.hid hk
    clear hW
    by_cases hlt : k < s.size
    · have p0 : (0 : Int) ≤ (k : Int) := by omega
      have p1 : (k : Int) < (s.size : Int) := by omega
      have w1 : IntKind.i64.wrap ((k : Int) - 1) = (k : Int) - 1 := IntWalk.i64_in _ (by omega)
      have w2 : IntKind.i64.wrap ((k : Int) + 1) = (k : Int) + 1 := IntWalk.i64_in _ (by omega)
      have hgk : 0 < gk := by omega
      clear hk
      go_upto_region 5 with fail
      have h1 := blk_cell HW.out.ch.lk.blk 1
      simp only [List.getElem?_toArray, List.getElem?_cons_zero, List.getElem?_cons_succ, rawN_len] at h1
      have HBY := Lib.hid (byI_at s k hlt)
      have h8 : IntKind.i64.wrap ((s[k]'hlt).toNat : Int) = ((s[k]'hlt).toNat : Int) := by have := (s[k]'hlt).toNat_lt; exact IntWalk.i64_in _ (by omega)
      refine wp_region_D (Ds := [18]) (S := fun V => V.cell? ⟨cb, 1, none⟩ = some (.slice A k c)) (by kernel_rfl) (by exact h1) (fun hHeld => ?_)
      (have HBL := Lib.hid (show Below w.heap.size w W.drew from HW.out.bl.drew)); (replace HW : Hid (CBegIs w W.drew tbase tb T sv mb mp cb (rawN s.data.toList k) bel A c [] 0 none 0) := Lib.hid ⟨HW.out.ch.drew, HW.out.bl.drew, HW.out.ge⟩); clear h1; generalize W.drew = W1 at *
      refine tkP 0 21 ?_ rfl (.inl ⟨by rfl, ?_⟩) ?_; rotate_left; focus (intro w' _; go_simp; (try with_reducible rfl))
      try simp only [sIB, sC0, sCS]
      refine tkP 1 22 ?_ rfl (.inl ⟨by rfl, ?_⟩) ?_; rotate_left; focus (intro w' _; go_simp; (try with_reducible rfl))
      try simp only [sIB, sC0, sCS]
      refine tkP 2 23 ?_ rfl (.inl ⟨by rfl, ?_⟩) ?_; rotate_left; focus (intro w' _; go_simp; (try with_reducible rfl))
      try simp only [sIB, sC0, sCS]
      refine tkP 3 24 ?_ rfl (.inl ⟨by rfl, ?_⟩) ?_; rotate_left; focus (intro w' _; go_simp; (try with_reducible rfl))
      try simp only [sIB, sC0, sCS]
      refine tkP 5 26 ?_ rfl (.inl ⟨by rfl, ?_⟩) ?_; rotate_left; focus (intro w' _; go_simp; (try with_reducible rfl))
      try simp only [sIB, sC0, sCS]
      refine tkP 6 27 ?_ rfl (.inl ⟨by rfl, ?_⟩) ?_; rotate_left; focus (intro w' _; go_simp; (try with_reducible rfl))
      try simp only [sIB, sC0, sCS]
      refine tkP 9 30 ?_ rfl (.inl ⟨by rfl, ?_⟩) ?_; rotate_left; focus (intro w' _; go_simp; (try with_reducible rfl))
      try simp only [sIB, sC0, sCS]
      refine tkP 10 31 ?_ rfl (.inl ⟨by rfl, ?_⟩) ?_; rotate_left; focus (intro w' _; go_simp; (try with_reducible rfl))
      try simp only [sIB, sC0, sCS]
      refine tkP 11 32 ?_ rfl (.inl ⟨by rfl, ?_⟩) ?_; rotate_left; focus (intro w' _; go_simp; (try with_reducible rfl))
      try simp only [sIB, sC0, sCS]
      refine tkP 12 33 ?_ rfl (.inl ⟨by rfl, ?_⟩) ?_; rotate_left; focus (intro w' _; go_simp; (try with_reducible rfl))
      try simp only [sIB, sC0, sCS]
      refine tkD 4 25 ?_ rfl hHeld (.inl ⟨by rfl, ?_⟩) ?_; rotate_left; focus (intro w' hSw; (try dsimp only at hSw); go_simp; (try with_reducible rfl))
      try simp only [sIB, sC0, sCS]
      refine tkD 7 28 ?_ rfl hHeld (.inl ⟨by rfl, ?_⟩) ?_; rotate_left; focus (intro w' hSw; (try dsimp only at hSw); go_simp; (try with_reducible rfl))
      try simp only [sIB, sC0, sCS]
      refine tkD 8 29 ?_ rfl hHeld (.inl ⟨by rfl, ?_⟩) ?_; rotate_left; focus (intro w' hSw; (try dsimp only at hSw); go_simp; (try with_reducible rfl))
      try simp only [sIB, sC0, sCS]
      refine tkP 13 34 ?_ rfl (.inl ⟨by rfl, ?_⟩) ?_; rotate_left; focus (intro w' _; go_simp; (try with_reducible rfl))
      try simp only [sIB, sC0, sCS]
      refine wpAnyD_one (i := 14) (by kernel_rfl) rfl (by rfl) (fun K hK => ?_)
      go_simp; have hbl := (Below.refl W1.heap.size W1).alloc (Nat.le_refl _) (.cells #[.int .i64 ((s[k]'hlt).toNat : Int), .int .i64 ((k : Int) - 1), .int .i64 ((k : Int) + 1)] 266); have h := below_cell hbl (Nat.le_refl _) hHeld; clear hbl
      refine hK.out _ _ h (fun hHeld => ?_)
      clear hK K
      try simp only [Act.put, sIB, sC0, sCS]
      refine wpAnyD_one (i := 15) (by kernel_rfl) rfl (by rfl) (fun K hK => ?_)
      have hrow := HW.out.ch.lk.row; rw [rawN_len] at hrow; refine wp_app_one w.heap.size 262 266 (.agg #[.int .i64 0, .int .i64 0, .int .i64 0]) 3 24 [_, _, _] 1 _ _ rfl Tryz.underlying262 info_node rfl (by decide) _ _ _ rfl _ rfl rfl rfl (by intro u hu; simp at hu; rcases hu with rfl | rfl | rfl <;> rfl) hrow (by omega) (by omega) HW.out.bl.size ?_; intro v' W2 hown1 hg1 hnew; obtain ⟨A1, cA1, rfl⟩ := own_slice hown1; have hbeg := cbeg_app (x := (byI s.data.toList k, (k : Int) - 1, (k : Int) + 1)) HW.out (by rw [rawN_len]; unfold encN; rw [HBY.out]; exact hown1) (by rw [rawN_len]; exact hg1); have b1 := hbeg.1; have HNEW := Lib.hid hbeg.2; rw [rawN_len] at b1 HNEW; clear hown1 hg1 hnew hrow hbeg; have h := blk_cell b1 1
      refine hK.out _ _ h (fun hHeld => ?_)
      clear hK K
      try simp only [Act.put, sIB, sC0, sCS]
      refine tkP 16 37 ?_ rfl (.inl ⟨by rfl, ?_⟩) ?_; rotate_left; focus (intro w' _; go_simp; (try with_reducible rfl))
      try simp only [sIB, sC0, sCS]
      refine tkP 17 38 ?_ rfl (.inl ⟨by rfl, ?_⟩) ?_; rotate_left; focus (intro w' _; go_simp; (try with_reducible rfl))
      try simp only [sIB, sC0, sCS]
      refine wpAnyD_last (D := 18) (by decide) (by kernel_rfl) rfl (by rfl) (fun K hK => ?_)
      have z0 := blk_froz b1 1; have c0 := hHeld; go_simp; clear z0 c0; rw [← rawN_succ] at HNEW; generalize W2.setCell ⟨cb, 1, none⟩ (.slice A1 (k + 1) cA1) = W3 at *
      refine hK.out _ _ ?_
      clear hK K
      try simp only [Act.put, sIB, sC0, sCS]
      refine wpAnyD_done (by kernel_rfl) ?_ _
      clear b1 h hHeld h8
      go_wp2_with fail
      go_roundg (gk - 1)
      case measure => omega
      case rel => exact ⟨k + 1, A1, cA1, by have := HK.out; omega, rfl, HNEW.out⟩
    · have hks : k = s.size := by omega
      subst hks
      clear hk HK hlt
      have h1 := blk_cell HW.out.ch.lk.blk 1
      simp only [List.getElem?_toArray, List.getElem?_cons_zero, List.getElem?_cons_succ, rawN_len] at h1
      by_cases hz : 0 < s.size
      · have pz : (0 : Int) < (s.size : Int) := by omega
        obtain ⟨m, hm⟩ : ∃ m, s.size - 1 = m := ⟨_, rfl⟩
        have wm : IntKind.i64.wrap ((s.size : Int) - 1) = (m : Int) := by rw [IntWalk.i64_in _ (by omega)]; omega
        have p0 : (0 : Int) ≤ (m : Int) := by omega
        have p1 : (m : Int) < (s.size : Int) := by omega
        have hml : m < (rawN s.data.toList s.size).length := by rw [rawN_len]; omega
        obtain ⟨g, hA, hcs⟩ := HW.out.ch.lk.at m _ (List.getElem?_eq_getElem hml)
        clear hcs
        subst hA
        obtain ⟨⟨v0, c0⟩, z0⟩ := HW.out.ch.lk.cellAt (m * 3 + 2) (by omega)
        have HB : Hid (CBegIs w (W.setCell ⟨g, m * 3 + 2, none⟩ (.int .i64 (-1))) tbase tb T sv mb mp cb (begN s.data.toList) bel (some ⟨g, 0, none⟩) c [] 0 none 0) := Lib.hid (by
          have hl := HW.out.ch.lk.set (N' := begN s.data.toList) (by rw [begN_len, rawN_len, dataLen]) (by
            have := flat_next (rawN s.data.toList s.size) (-1) m hml
            rw [← this, ← begN_raw _ (by rw [dataLen]; exact hz), dataLen, hm])
          obtain ⟨hC, hB⟩ := HW.out.ch.link hl ((Keep.refl _ _).setCell (p := ⟨g, m * 3 + 2, none⟩) (.inl (.inr rfl)) _)
          exact ⟨hC, HW.out.bl.trans hB, HW.out.ge⟩)
        clear hm hml
        go_upto_region 10 with fail
        clear h1 c0 z0 wm
        generalize W.setCell ⟨g, m * 3 + 2, none⟩ (.int .i64 (-1)) = W4 at *
        obtain ⟨A, hA⟩ : ∃ A, (some ⟨g, 0, none⟩ : Option Addr) = A := ⟨_, rfl⟩
        have HW := HB
        rw [hA] at HW
        clear HB
        have HA := Lib.hid hA
        clear hA
        have h1 := blk_cell HW.out.ch.lk.blk 1
        simp only [List.getElem?_toArray, List.getElem?_cons_zero, List.getElem?_cons_succ, begN_len, dataLen] at h1
        go_wp2_with fail
        clear h1
        go_loopg [60] s.size (fun n u W => ∃ k Q turn Aq cq, k + n = s.size ∧ u = .int .i64 ((k : Nat) : Int) ∧ CBegIs w W tbase tb T sv mb mp cb (begN s.data.toList) bel A c Q turn Aq cq ∧ BegS (pairB T bel) (begL s.data.toList) s.size k Q turn)
        case atStart => exact ⟨0, [], 0, none, 0, by omega, rfl, HW.out, BegS.start _ _ _⟩
        case round =>
          obtain ⟨k, Q, turn, Aq, cq, hk, rfl, hW2, hbg⟩ := hrel
          clear HW
          rename World => W2
          have HW2 := Lib.hid hW2
          have HBG := Lib.hid hbg
          have HK := Lib.hid hk
          clear hW2 hbg
          by_cases hlt : k < s.size
          · have p0 : (0 : Int) ≤ (k : Int) := by omega
            have p1 : (k : Int) < (s.size : Int) := by omega
            have w2 : IntKind.i64.wrap ((k : Int) + 1) = (k : Int) + 1 := IntWalk.i64_in _ (by omega)
            obtain ⟨p, q, hpq, hpl⟩ := begL_split s.data.toList (k := k) (by rw [dataLen]; exact hlt)
            have hlv := beg_lives s.data.toList
            rw [hpq] at hlv
            have HAS := Lib.hid (asks_live HW2.out.ch hlv (by have := HBG.out.size; omega) HBG.out.turn.1 (by have := HBG.out.turn.2; omega))
            have HB2 : Hid (BegS (pairB T bel) (begL s.data.toList) s.size (k + 1) (askQ (pairB T bel) Q turn k (byI s.data.toList k) q).1 (askQ (pairB T bel) Q turn k (byI s.data.toList k) q).2) := Lib.hid (by
              have hb := HBG.out
              rw [← hpl] at hb
              have hh := BegS.ask hb (p := p) (i := k) hpq hlt (byI_nn _ _).1
              rw [hpl] at hh
              exact hh)
            clear hpq hpl hlv hk
            go_wp2_with fail
            refine HAS.out.mono ?_
            rintro e W3 ⟨rfl, ⟨Aq3, cq3, h3⟩, hb3⟩
            have HN : Hid (CBegIs w W3 tbase tb T sv mb mp cb (begN s.data.toList) bel A c (askQ (pairB T bel) Q turn k (byI s.data.toList k) q).1 (askQ (pairB T bel) Q turn k (byI s.data.toList k) q).2 Aq3 cq3) := Lib.hid ⟨h3, HW2.out.bl.trans hb3, HW2.out.ge⟩
            clear h3 hb3 HAS
            go_wp2_with fail
            go_roundg (gk - 1)
            case measure => have := HK.out; omega
            case rel => exact ⟨k + 1, _, _, Aq3, cq3, by have := HK.out; omega, rfl, HN.out, HB2.out⟩
          · have hks : k = s.size := by omega
            subst hks
            clear hk HK
            go_wp2_with fail
            go_ret
            exact ⟨cb, A, c, Q, turn, Aq, cq, rfl, HW2.out, HBG.out⟩
      · have e0 : s.size = 0 := by omega
        have el : s.data.toList = [] := List.eq_nil_of_length_eq_zero (by rw [dataLen]; exact e0)
        replace HW : Hid (CBegIs w W tbase tb T sv mb mp cb (begN s.data.toList) bel A c [] 0 none 0) := Lib.hid (by
          have := HW.out
          rw [el, e0] at this
          rw [el]
          exact this)
        have pz : ¬ (0 : Int) < (s.size : Int) := by omega
        clear hz e0 el
        go_upto_region 10 with fail
        clear h1
        have hA : True := trivial
        have HA := Lib.hid hA
        clear hA
        have h1 := blk_cell HW.out.ch.lk.blk 1
        simp only [List.getElem?_toArray, List.getElem?_cons_zero, List.getElem?_cons_succ, begN_len, dataLen] at h1
        go_wp2_with fail
        clear h1
        go_loopg [60] s.size (fun n u W => ∃ k Q turn Aq cq, k + n = s.size ∧ u = .int .i64 ((k : Nat) : Int) ∧ CBegIs w W tbase tb T sv mb mp cb (begN s.data.toList) bel A c Q turn Aq cq ∧ BegS (pairB T bel) (begL s.data.toList) s.size k Q turn)
        case atStart => exact ⟨0, [], 0, none, 0, by omega, rfl, HW.out, BegS.start _ _ _⟩
        case round =>
          obtain ⟨k, Q, turn, Aq, cq, hk, rfl, hW2, hbg⟩ := hrel
          clear HW
          rename World => W2
          have HW2 := Lib.hid hW2
          have HBG := Lib.hid hbg
          have HK := Lib.hid hk
          clear hW2 hbg
          by_cases hlt : k < s.size
          · have p0 : (0 : Int) ≤ (k : Int) := by omega
            have p1 : (k : Int) < (s.size : Int) := by omega
            have w2 : IntKind.i64.wrap ((k : Int) + 1) = (k : Int) + 1 := IntWalk.i64_in _ (by omega)
            obtain ⟨p, q, hpq, hpl⟩ := begL_split s.data.toList (k := k) (by rw [dataLen]; exact hlt)
            have hlv := beg_lives s.data.toList
            rw [hpq] at hlv
            have HAS := Lib.hid (asks_live HW2.out.ch hlv (by have := HBG.out.size; omega) HBG.out.turn.1 (by have := HBG.out.turn.2; omega))
            have HB2 : Hid (BegS (pairB T bel) (begL s.data.toList) s.size (k + 1) (askQ (pairB T bel) Q turn k (byI s.data.toList k) q).1 (askQ (pairB T bel) Q turn k (byI s.data.toList k) q).2) := Lib.hid (by
              have hb := HBG.out
              rw [← hpl] at hb
              have hh := BegS.ask hb (p := p) (i := k) hpq hlt (byI_nn _ _).1
              rw [hpl] at hh
              exact hh)
            clear hpq hpl hlv hk
            go_wp2_with fail
            refine HAS.out.mono ?_
            rintro e W3 ⟨rfl, ⟨Aq3, cq3, h3⟩, hb3⟩
            have HN : Hid (CBegIs w W3 tbase tb T sv mb mp cb (begN s.data.toList) bel A c (askQ (pairB T bel) Q turn k (byI s.data.toList k) q).1 (askQ (pairB T bel) Q turn k (byI s.data.toList k) q).2 Aq3 cq3) := Lib.hid ⟨h3, HW2.out.bl.trans hb3, HW2.out.ge⟩
            clear h3 hb3 HAS
            go_wp2_with fail
            go_roundg (gk - 1)
            case measure => have := HK.out; omega
            case rel => exact ⟨k + 1, _, _, Aq3, cq3, by have := HK.out; omega, rfl, HN.out, HB2.out⟩
          · have hks : k = s.size := by omega
            subst hks
            clear hk HK
            go_wp2_with fail
            go_ret
            exact ⟨cb, A, c, Q, turn, Aq, cq, rfl, HW2.out, HBG.out⟩
end
theorem results_cell_tmp2 {fn : Func} {p u v : Tmp} {ty : TypeId} (h : fn.results = #[.cell p ty, .tmp u, .tmp v]) (tmps : Array Value) (P : Program) (w : World) :
    (results fn tmps).run P w = ((asAddr (tmps.getD p undef)).run P w).andThen fun a w₁ => ((loadVar ty a).run P w₁).andThen fun x w₂ => .ok (.tuple #[x, tmps.getD u undef, tmps.getD v undef]) w₂ := by
  simp only [results, h]
  simp [Sem.run_bind, Result.andThen]
theorem ret_ref2 {fn : Func} {R : Ending → World → Prop} {tmps : Array Value} {w : World} {r : Nat} {A B : Option Addr} {n m c d : Nat} {x y : Int} {p q q' : Tmp}
    (h : fn.results = #[.cell p 34, .tmp q, .tmp q']) (hp : tmps.getD p undef = .pointer (some ⟨r, 0, none⟩)) (hq : tmps.getD q undef = .int .i64 x) (hq' : tmps.getD q' undef = .int .i64 y)
    (hl : w.heap[r]? = some (.cells #[.slice A n c, .slice B m d] 34))
    (hR : R (.returned (.tuple #[.agg #[.slice A n c, .slice B m d], .int .i64 x, .int .i64 y])) w) : bodyPost Tryz.prog fn R .ret ⟨tmps, []⟩ w := by
  refine bodyPost_ret (v := .tuple #[.agg #[.slice A n c, .slice B m d], .int .i64 x, .int .i64 y]) ?_ rfl hR
  rw [results_cell_tmp2 h, hp, hq, hq']
  simp [asAddr, load_ref hl, Result.andThen]
theorem ref_put {V : World} {base nb n m c c2 : Nat} {T' : List Ent} {A A2 : Option Addr} {u v : Value} (href : RefIs V base T' (.slice A n c) (.slice A2 m c2)) (hnb : V.heap[nb]? = some (.cells #[u, v] 34)) :
    ((V.setCell ⟨nb, 0, none⟩ (.slice A n c)).setCell ⟨nb, 1, none⟩ (.slice A2 m c2)).heap[nb]? = some (.cells #[.slice A n c, .slice A2 m c2] 34) ∧
      RefIs ((V.setCell ⟨nb, 0, none⟩ (.slice A n c)).setCell ⟨nb, 1, none⟩ (.slice A2 m c2)) base T' (.slice A n c) (.slice A2 m c2) := by
  have b1 := blk_set (blk_set hnb 0 (.slice A n c)) 1 (.slice A2 m c2)
  simp only [List.setIfInBounds_toArray, List.set_cons_zero, List.set_cons_succ] at b1
  have K3 : ∀ (W : World) (i : Nat) (u : Value), Keep (fun g => g = nb) W (W.setCell ⟨nb, i, none⟩ u) := fun W i u => Keep.setCell (F := fun g => g = nb) (p := ⟨nb, i, none⟩) (Keep.refl _ _) (Or.inl rfl) _
  refine ⟨b1, ?_, ?_, href.nil⟩
  · exact own_keep (own_keep href.row (K3 _ 0 _) (fun g hg e => row_ne href.row hnb (by decide) (by rw [hg, e]))) (K3 _ 1 _) (fun g hg e => row_ne href.row hnb (by decide) (by rw [hg, e]))
  · exact own_keep (own_keep href.mrg (K3 _ 0 _) (fun g hg e => row_ne href.mrg hnb (by decide) (by rw [hg, e]))) (K3 _ 1 _) (fun g hg e => row_ne href.mrg hnb (by decide) (by rw [hg, e]))
theorem bel_put {W V : World} {nb : Nat} (hb : Below W.heap.size W V) (h : W.heap.size ≤ nb) (u v : Value) : Below W.heap.size W ((V.setCell ⟨nb, 0, none⟩ u).setCell ⟨nb, 1, none⟩ v) := (hb.setCell (p := ⟨nb, 0, none⟩) h _).setCell (p := ⟨nb, 1, none⟩) h _
structure RVar (w W : World) (r tb : Nat) (T : List Ent) : Prop where
  ex : ∃ A c A2 c2, W.heap[tb]? = some (.cells #[.slice A T.length c, .slice A2 (mrgsT T).length c2] 34) ∧ RefIs W w.heap.size T (.slice A T.length c) (.slice A2 (mrgsT T).length c2)
  res : W.heap[r]? = some (.cells #[.slice none 0 0, .slice none 0 0] 34)
  below : Below w.heap.size w W
  le : w.heap.size ≤ r ∧ w.heap.size ≤ tb
  ne : r ≠ tb
theorem RVar.start {w w1 : World} {A1 : Option Addr} {c1 : Nat} (hr : RefIs w1 (w.alloc (.cells #[.slice none 0 0, .slice none 0 0] 34)).heap.size baseT (.slice A1 baseT.length c1) (.slice none 0 0))
    (hb : Below (w.alloc (.cells #[.slice none 0 0, .slice none 0 0] 34)).heap.size (w.alloc (.cells #[.slice none 0 0, .slice none 0 0] 34)) w1) :
    RVar w (w1.alloc (.cells #[.slice A1 baseT.length c1, .slice none 0 0] 34)) w.heap.size w1.heap.size baseT := by
  have h := grow_start (l := []) hr hb
  exact ⟨h.ex, h.res, h.below, h.le, h.ne⟩
theorem RVar.step {w W w2 : World} {r tb : Nat} {T : List Ent} (h : RVar w W r tb T) (hb : Below W.heap.size W w2) : RVar w w2 r tb T := by
  obtain ⟨A, c, A2, c2, hbk, href⟩ := h.ex
  exact ⟨⟨A, c, A2, c2, blk_below hb (blk_lt hbk) hbk, href.below hb (Nat.le_refl _)⟩, blk_below hb (blk_lt h.res) h.res, h.below.trans (hb.mono h.below.size), h.le, h.ne⟩
theorem RVar.put {w W : World} {r tb n m c c2 : Nat} {T T' : List Ent} {A A2 : Option Addr} (h : RVar w W r tb T) (href : RefIs W w.heap.size T' (.slice A n c) (.slice A2 m c2)) :
    RVar w ((W.setCell ⟨tb, 0, none⟩ (.slice A n c)).setCell ⟨tb, 1, none⟩ (.slice A2 m c2)) r tb T' := by
  obtain ⟨A0, c0, A20, c20, hbk, _⟩ := h.ex
  have en : n = T'.length := by obtain ⟨_, _, e⟩ := own_slice href.row; injection e
  have em : m = (mrgsT T').length := by obtain ⟨_, _, e⟩ := own_slice href.mrg; injection e
  subst en; subst em
  have b1 := blk_set (blk_set hbk 0 (.slice A T'.length c)) 1 (.slice A2 (mrgsT T').length c2)
  simp only [List.setIfInBounds_toArray, List.set_cons_zero, List.set_cons_succ] at b1
  have K3 : ∀ (W : World) (i : Nat) (u : Value), Keep (fun g => g = tb) W (W.setCell ⟨tb, i, none⟩ u) := fun W i u => Keep.setCell (F := fun g => g = tb) (p := ⟨tb, i, none⟩) (Keep.refl _ _) (Or.inl rfl) _
  refine ⟨⟨A, c, A2, c2, b1, ?_, ?_, href.nil⟩, blk_far (p := ⟨tb, 1, none⟩) (blk_far (p := ⟨tb, 0, none⟩) h.res h.ne _) h.ne _, (h.below.setCell (p := ⟨tb, 0, none⟩) h.le.2 _).setCell (p := ⟨tb, 1, none⟩) h.le.2 _, h.le, h.ne⟩
  · exact own_keep (own_keep href.row (K3 _ 0 _) (fun g hg e => row_ne href.row hbk (by decide) (by rw [hg, e]))) (K3 _ 1 _) (fun g hg e => row_ne href.row hbk (by decide) (by rw [hg, e]))
  · exact own_keep (own_keep href.mrg (K3 _ 0 _) (fun g hg e => row_ne href.mrg hbk (by decide) (by rw [hg, e]))) (K3 _ 1 _) (fun g hg e => row_ne href.mrg hbk (by decide) (by rw [hg, e]))
theorem RVar.fin {w W : World} {r tb n m c c2 : Nat} {T : List Ent} {A A2 : Option Addr} (h : RVar w W r tb T) (href : RefIs W w.heap.size T (.slice A n c) (.slice A2 m c2)) :
    ((W.setCell ⟨r, 0, none⟩ (.slice A n c)).setCell ⟨r, 1, none⟩ (.slice A2 m c2)).heap[r]? = some (.cells #[.slice A n c, .slice A2 m c2] 34) ∧ Below w.heap.size w ((W.setCell ⟨r, 0, none⟩ (.slice A n c)).setCell ⟨r, 1, none⟩ (.slice A2 m c2)) ∧
      RefIs ((W.setCell ⟨r, 0, none⟩ (.slice A n c)).setCell ⟨r, 1, none⟩ (.slice A2 m c2)) w.heap.size T (.slice A n c) (.slice A2 m c2) := by
  have b1 := blk_set (blk_set h.res 0 (.slice A n c)) 1 (.slice A2 m c2)
  simp only [List.setIfInBounds_toArray, List.set_cons_zero, List.set_cons_succ] at b1
  have K3 : ∀ (W : World) (i : Nat) (u : Value), Keep (fun g => g = r) W (W.setCell ⟨r, i, none⟩ u) := fun W i u => Keep.setCell (F := fun g => g = r) (p := ⟨r, i, none⟩) (Keep.refl _ _) (Or.inl rfl) _
  refine ⟨b1, (h.below.setCell (p := ⟨r, 0, none⟩) h.le.1 _).setCell (p := ⟨r, 1, none⟩) h.le.1 _, ?_, ?_, href.nil⟩
  · exact own_keep (own_keep href.row (K3 _ 0 _) (fun g hg e => row_ne href.row h.res (by decide) (by rw [hg, e]))) (K3 _ 1 _) (fun g hg e => row_ne href.row h.res (by decide) (by rw [hg, e]))
  · exact own_keep (own_keep href.mrg (K3 _ 0 _) (fun g hg e => row_ne href.mrg h.res (by decide) (by rw [hg, e]))) (K3 _ 1 _) (fun g hg e => row_ne href.mrg h.res (by decide) (by rw [hg, e]))
structure RNew (w W : World) (l : List (Int × Int)) (r tb k : Nat) (T : List Ent) : Prop where
  adds : addsT baseT (l.take k) = some T
  ok : OkT T
  var : RVar w W r tb T
set_option maxHeartbeats 4000000 in
theorem rnew_any (l : List (Int × Int)) (A : Option Addr) (c : Nat) (w : World) (hl : Sl w A encM 2 l) (hlen : l.length < 9000000000000000000) :
    Calls Tryz.prog 146 #[.slice A l.length c] w fun e w' => Below w.heap.size w w' ∧ ∃ (k : Nat) (T : List Ent) (A1 : Option Addr) (n1 c1 : Nat) (A2 : Option Addr) (n2 c2 : Nat) (no : Int), e = .returned (.tuple #[.agg #[.slice A1 n1 c1, .slice A2 n2 c2], .int .i64 (k : Nat), .int .i64 no]) ∧
      RefIs w' w.heap.size T (.slice A1 n1 c1) (.slice A2 n2 c2) ∧ OkT T ∧ addsT baseT (l.take k) = some T ∧ ((k = l.length ∧ no = 0) ∨ ∃ hk : k < l.length, no = (addT T l[k].1 l[k].2).2.1 ∧ no ≠ 0) := by
  have HL := Lib.hid hl
  clear hl
  go_enter Tryz.func146, Tryz.ntmps146
  go_wp2_with fail
  refine (rbegin_any _).mono ?_
  rintro e w1 ⟨vb, rfl, hr, hb⟩
  obtain ⟨A1, c1, rfl⟩ := own_slice hr.row
  go_wp2_with fail
  have HS := Lib.hid (RVar.start hr hb)
  clear hr hb
  generalize hW : w1.alloc (.cells #[.slice A1 baseT.length c1, .slice none 0 0] 34) = W0 at *
  obtain ⟨r, hr⟩ : ∃ r, w.heap.size = r := ⟨_, rfl⟩
  obtain ⟨tb, ht⟩ : ∃ tb, w1.heap.size = tb := ⟨_, rfl⟩
  have HS1 : Hid (RVar w W0 r tb baseT) := Lib.hid (by rw [← hr, ← ht]; exact HS.out)
  rw [hr, ht]
  clear HS hr ht hW
  go_loopg [6] l.length (fun n i W => ∃ k T, k + n = l.length ∧ i = .int .i64 ((k : Nat) : Int) ∧ RNew w W l r tb k T)
  case atStart => exact ⟨0, baseT, by omega, rfl, by simp [addsT], okT_base, HS1.out⟩
  case round =>
    obtain ⟨k, T, hk, rfl, hW⟩ := hrel
    clear HS1
    rename World => W
    obtain ⟨A3, c3, A4, c4, hbk, href⟩ := hW.var.ex
    have c0 := blk_cell hbk 0
    have c1' := blk_cell hbk 1
    simp only [List.getElem?_toArray, List.getElem?_cons_zero, List.getElem?_cons_succ] at c0 c1'
    have HREF := Lib.hid href
    by_cases hlt : k < l.length
    · have hlt' : (k : Int) < (l.length : Int) := by omega
      obtain ⟨ba, o, rfl, hc0⟩ := (HL.out.below hW.var.below (Nat.le_refl _)).at k hlt
      have g0 : W.cell? ⟨ba, o + k * 2, none⟩ = some (.int .i64 l[k].1) := hc0 0 _ rfl
      have g1 : W.cell? ⟨ba, o + k * 2 + 1, none⟩ = some (.int .i64 l[k].2) := hc0 1 _ rfl
      obtain ⟨x, hx⟩ : ∃ x, l[k].1 = x := ⟨_, rfl⟩
      obtain ⟨y, hy⟩ : ∃ y, l[k].2 = y := ⟨_, rfl⟩
      rw [hx] at g0
      rw [hy] at g1
      have HX := Lib.hid hx
      have HY := Lib.hid hy
      have HW := Lib.hid hW
      clear hx hy hc0 hW href hbk
      have p0 : (0 : Int) ≤ k := by omega
      have HADD : Hid (∀ V, Below W.heap.size W V → Calls Tryz.prog 54 #[.agg #[.slice A3 T.length c3, .slice A4 (mrgsT T).length c4], .agg #[.int .i64 x, .int .i64 y]] V (RAddOk V w.heap.size T x y)) := Lib.hid (fun V hV => radd_any x y (HREF.out.below hV (Nat.le_refl _)) HW.out.ok (Nat.le_trans HW.out.var.below.size hV.size))
      have HSC : Hid (∀ V, Below W.heap.size W V → V.cell? ⟨tb, 0, none⟩ = some (.slice A3 T.length c3) ∧ V.cell? ⟨tb, 1, none⟩ = some (.slice A4 (mrgsT T).length c4) ∧ V.cell? ⟨ba, o + k * 2, none⟩ = some (.int .i64 x) ∧ V.cell? ⟨ba, o + k * 2 + 1, none⟩ = some (.int .i64 y)) := Lib.hid (fun V hV => ⟨below_cell hV (Nat.le_refl _) c0, below_cell hV (Nat.le_refl _) c1', below_cell hV (Nat.le_refl _) g0, below_cell hV (Nat.le_refl _) g1⟩)
      have HBB : Hid (Below W.heap.size W W.drew) := Lib.hid ⟨rfl, rfl, rfl, Nat.le_refl _, fun _ _ => rfl⟩
      go_wp2_with fail
      refine wp_region_G (D := 11) (S := fun V => V.cell? ⟨tb, 0, none⟩ = some (.slice A3 T.length c3) ∧ V.cell? ⟨tb, 1, none⟩ = some (.slice A4 (mrgsT T).length c4) ∧ V.cell? ⟨ba, o + k * 2, none⟩ = some (.int .i64 x) ∧ V.cell? ⟨ba, o + k * 2 + 1, none⟩ = some (.int .i64 y)) (by kernel_rfl) (by exact HSC.out _ HBB.out) (fun hHeld => ?_)
      refine tkG 0 17 ?_ rfl hHeld (.inl ⟨by rfl, ?_⟩) ?_; rotate_left; focus (intro w' hSw; (try dsimp only at hSw); go_simp; (try with_reducible rfl))
      try simp only [sIB, sC0, sCS]
      refine tkG 1 18 ?_ rfl hHeld (.inl ⟨by rfl, ?_⟩) ?_; rotate_left; focus (intro w' hSw; (try dsimp only at hSw); go_simp; (try with_reducible rfl))
      try simp only [sIB, sC0, sCS]
      refine tkG 2 19 ?_ rfl hHeld (.inl ⟨by rfl, ?_⟩) ?_; rotate_left; focus (intro w' hSw; (try dsimp only at hSw); go_simp; (try with_reducible rfl))
      try simp only [sIB, sC0, sCS]
      refine tkG 3 20 ?_ rfl hHeld (.inl ⟨by rfl, ?_⟩) ?_; rotate_left; focus (intro w' hSw; (try dsimp only at hSw); go_simp; (try with_reducible rfl))
      try simp only [sIB, sC0, sCS]
      refine tkG 4 21 ?_ rfl hHeld (.inl ⟨by rfl, ?_⟩) ?_; rotate_left; focus (intro w' hSw; (try dsimp only at hSw); go_simp; (try with_reducible rfl))
      try simp only [sIB, sC0, sCS]
      refine wpAnyG_two (i := 5) (j := 9) (by kernel_rfl) rfl rfl (by rfl) (by rfl) (fun K hK => ?_) (fun K hK => ?_)
      ·
        go_simp; refine (HADD.out _ HBB.out).mono ?_; rintro e W' ⟨hb, A5, n5, c5, A6, n6, c6, rfl, href⟩; (try have HNB := Lib.hid (And.intro (blk_below hb (blk_lt HNB.out.1) HNB.out.1) HNB.out.2)); have HBB := Lib.hid (HBB.out.trans (hb.mono HBB.out.size)); have HR := Lib.hid href; have h := HSC.out _ HBB.out; clear hb href; go_simp
        refine hK.out _ _ h (fun hHeld => ?_)
        clear hK K
        try simp only [Act.put, sIB, sC0, sCS]
        refine tkG 6 16 ?_ rfl hHeld (.inl ⟨by rfl, ?_⟩) ?_; rotate_left; focus (intro w' hSw; (try dsimp only at hSw); go_simp; (try with_reducible rfl))
        try simp only [sIB, sC0, sCS]
        refine tkG 7 23 ?_ rfl hHeld (.inl ⟨by rfl, ?_⟩) ?_; rotate_left; focus (intro w' hSw; (try dsimp only at hSw); go_simp; (try with_reducible rfl))
        try simp only [sIB, sC0, sCS]
        refine tkG 8 24 ?_ rfl hHeld (.inl ⟨by rfl, ?_⟩) ?_; rotate_left; focus (intro w' hSw; (try dsimp only at hSw); go_simp; (try with_reducible rfl))
        try simp only [sIB, sC0, sCS]
        refine wpAnyG_one (i := 9) (by kernel_rfl) rfl (by rfl) (fun K hK => ?_)
        go_simp; have HNB := Lib.hid (And.intro (bel_new HBB.out (.cells #[.slice none 0 0, .slice none 0 0] 34)) HBB.out.size); (try have HR := Lib.hid (HR.out.below ((Below.refl _ _).alloc (Nat.le_refl _) (.cells #[.slice none 0 0, .slice none 0 0] 34)) (Nat.le_refl _))); have HBB := Lib.hid (bel_alloc HBB.out (.cells #[.slice none 0 0, .slice none 0 0] 34)); refine gen_below HBB.out rfl (fun W' hW' => ?_); rw [← hW'] at HBB HNB; (try rw [← hW'] at HR); (try rw [show W.drew.heap.size = W.heap.size from rfl] at HNB); clear hW'; have h := HSC.out _ HBB.out
        refine hK.out _ _ h (fun hHeld => ?_)
        clear hK K
        try simp only [Act.put, sIB, sC0, sCS]
        refine wpAnyG_one (i := 10) (by kernel_rfl) rfl (by rfl) (fun K hK => ?_)
        have d0 := blk_cell HNB.out.1 0; have d1 := blk_cell HNB.out.1 1; have z0 := blk_froz HNB.out.1 0; have z1 := blk_froz HNB.out.1 1; simp only [List.getElem?_toArray, List.getElem?_cons_zero, List.getElem?_cons_succ] at d0 d1; go_simp; have HNB2 := Lib.hid (And.intro (ref_put HR.out HNB.out.1).1 HNB.out.2); have HR := Lib.hid (ref_put HR.out HNB.out.1).2; have HBB := Lib.hid (bel_put HBB.out HNB.out.2 (.slice A5 n5 c5) (.slice A6 n6 c6)); refine gen_below HBB.out rfl (fun W' hW' => ?_); rw [← hW'] at HBB HNB2 HR; clear hW' d0 d1 z0 z1; have h := HSC.out _ HBB.out
        refine hK.out _ _ h (fun hHeld => ?_)
        clear hK K
        try simp only [Act.put, sIB, sC0, sCS]
        refine wpAnyG_last (by kernel_rfl) rfl (by rfl) (fun K hK => ?_)
        go_simp
        refine hK.out _ _ ?_
        clear hK K
        try simp only [Act.put, sIB, sC0, sCS]
        refine wpAnyG_done (by kernel_rfl) ?_ _
        have HV := Lib.hid (HW.out.var.step HBB.out)
        have e0 := blk_cell HNB2.out.1 0
        have e1 := blk_cell HNB2.out.1 1
        simp only [List.getElem?_toArray, List.getElem?_cons_zero, List.getElem?_cons_succ] at e0 e1
        obtain ⟨_, _, _, _, hbk9, href9⟩ := HV.out.ex
        have t0 := blk_cell hbk9 0
        have t1 := blk_cell hbk9 1
        simp only [List.getElem?_toArray, List.getElem?_cons_zero, List.getElem?_cons_succ] at t0 t1
        clear hHeld h c0 c1' g0 g1
        rcases Decidable.em ((addT T x y).2.1 = 0) with he | he
        · have f0 := blk_froz hbk9 0
          have f1 := blk_froz hbk9 1
          have HPUT := Lib.hid (HV.out.put HR.out)
          have HE := Lib.hid he
          clear hbk9 href9
          go_wp2_with fail
          go_roundg (gk - 1)
          case measure => omega
          case rel =>
            refine ⟨k + 1, _, by omega, by simp, ?_, okT_add HW.out.ok _ _ HE.out, HPUT.out⟩
            rw [take_snoc hlt, addsT_snoc, HW.out.adds]
            simp only [Option.bind_some, HX.out, HY.out, HE.out, if_true]
        · have f0 := blk_froz HV.out.res 0
          have f1 := blk_froz HV.out.res 1
          have d0 := blk_cell HV.out.res 0
          have d1 := blk_cell HV.out.res 1
          simp only [List.getElem?_toArray, List.getElem?_cons_zero, List.getElem?_cons_succ] at d0 d1
          have HFIN := Lib.hid (HV.out.fin href9)
          have HE := Lib.hid he
          clear hbk9 href9
          go_wp2_with fail
          refine ret_ref2 (r := r) rfl rfl rfl rfl HFIN.out.1 ⟨HFIN.out.2.1, _, _, _, _, _, _, _, _, _, rfl, HFIN.out.2.2, HW.out.ok, HW.out.adds, .inr ⟨hlt, ?_, HE.out⟩⟩
          rw [HX.out, HY.out]
      ·
        go_simp; have HNB := Lib.hid (And.intro (bel_new HBB.out (.cells #[.slice none 0 0, .slice none 0 0] 34)) HBB.out.size); (try have HR := Lib.hid (HR.out.below ((Below.refl _ _).alloc (Nat.le_refl _) (.cells #[.slice none 0 0, .slice none 0 0] 34)) (Nat.le_refl _))); have HBB := Lib.hid (bel_alloc HBB.out (.cells #[.slice none 0 0, .slice none 0 0] 34)); refine gen_below HBB.out rfl (fun W' hW' => ?_); rw [← hW'] at HBB HNB; (try rw [← hW'] at HR); (try rw [show W.drew.heap.size = W.heap.size from rfl] at HNB); clear hW'; have h := HSC.out _ HBB.out
        refine hK.out _ _ h (fun hHeld => ?_)
        clear hK K
        try simp only [Act.put, sIB, sC0, sCS]
        refine wpAnyG_one (i := 5) (by kernel_rfl) rfl (by rfl) (fun K hK => ?_)
        go_simp; refine (HADD.out _ HBB.out).mono ?_; rintro e W' ⟨hb, A5, n5, c5, A6, n6, c6, rfl, href⟩; (try have HNB := Lib.hid (And.intro (blk_below hb (blk_lt HNB.out.1) HNB.out.1) HNB.out.2)); have HBB := Lib.hid (HBB.out.trans (hb.mono HBB.out.size)); have HR := Lib.hid href; have h := HSC.out _ HBB.out; clear hb href; go_simp
        refine hK.out _ _ h (fun hHeld => ?_)
        clear hK K
        try simp only [Act.put, sIB, sC0, sCS]
        refine tkG 6 16 ?_ rfl hHeld (.inl ⟨by rfl, ?_⟩) ?_; rotate_left; focus (intro w' hSw; (try dsimp only at hSw); go_simp; (try with_reducible rfl))
        try simp only [sIB, sC0, sCS]
        refine tkG 7 23 ?_ rfl hHeld (.inl ⟨by rfl, ?_⟩) ?_; rotate_left; focus (intro w' hSw; (try dsimp only at hSw); go_simp; (try with_reducible rfl))
        try simp only [sIB, sC0, sCS]
        refine tkG 8 24 ?_ rfl hHeld (.inl ⟨by rfl, ?_⟩) ?_; rotate_left; focus (intro w' hSw; (try dsimp only at hSw); go_simp; (try with_reducible rfl))
        try simp only [sIB, sC0, sCS]
        refine wpAnyG_one (i := 10) (by kernel_rfl) rfl (by rfl) (fun K hK => ?_)
        have d0 := blk_cell HNB.out.1 0; have d1 := blk_cell HNB.out.1 1; have z0 := blk_froz HNB.out.1 0; have z1 := blk_froz HNB.out.1 1; simp only [List.getElem?_toArray, List.getElem?_cons_zero, List.getElem?_cons_succ] at d0 d1; go_simp; have HNB2 := Lib.hid (And.intro (ref_put HR.out HNB.out.1).1 HNB.out.2); have HR := Lib.hid (ref_put HR.out HNB.out.1).2; have HBB := Lib.hid (bel_put HBB.out HNB.out.2 (.slice A5 n5 c5) (.slice A6 n6 c6)); refine gen_below HBB.out rfl (fun W' hW' => ?_); rw [← hW'] at HBB HNB2 HR; clear hW' d0 d1 z0 z1; have h := HSC.out _ HBB.out
        refine hK.out _ _ h (fun hHeld => ?_)
        clear hK K
        try simp only [Act.put, sIB, sC0, sCS]
        refine wpAnyG_last (by kernel_rfl) rfl (by rfl) (fun K hK => ?_)
        go_simp
        refine hK.out _ _ ?_
        clear hK K
        try simp only [Act.put, sIB, sC0, sCS]
        refine wpAnyG_done (by kernel_rfl) ?_ _
        have HV := Lib.hid (HW.out.var.step HBB.out)
        have e0 := blk_cell HNB2.out.1 0
        have e1 := blk_cell HNB2.out.1 1
        simp only [List.getElem?_toArray, List.getElem?_cons_zero, List.getElem?_cons_succ] at e0 e1
        obtain ⟨_, _, _, _, hbk9, href9⟩ := HV.out.ex
        have t0 := blk_cell hbk9 0
        have t1 := blk_cell hbk9 1
        simp only [List.getElem?_toArray, List.getElem?_cons_zero, List.getElem?_cons_succ] at t0 t1
        clear hHeld h c0 c1' g0 g1
        rcases Decidable.em ((addT T x y).2.1 = 0) with he | he
        · have f0 := blk_froz hbk9 0
          have f1 := blk_froz hbk9 1
          have HPUT := Lib.hid (HV.out.put HR.out)
          have HE := Lib.hid he
          clear hbk9 href9
          go_wp2_with fail
          go_roundg (gk - 1)
          case measure => omega
          case rel =>
            refine ⟨k + 1, _, by omega, by simp, ?_, okT_add HW.out.ok _ _ HE.out, HPUT.out⟩
            rw [take_snoc hlt, addsT_snoc, HW.out.adds]
            simp only [Option.bind_some, HX.out, HY.out, HE.out, if_true]
        · have f0 := blk_froz HV.out.res 0
          have f1 := blk_froz HV.out.res 1
          have d0 := blk_cell HV.out.res 0
          have d1 := blk_cell HV.out.res 1
          simp only [List.getElem?_toArray, List.getElem?_cons_zero, List.getElem?_cons_succ] at d0 d1
          have HFIN := Lib.hid (HV.out.fin href9)
          have HE := Lib.hid he
          clear hbk9 href9
          go_wp2_with fail
          refine ret_ref2 (r := r) rfl rfl rfl rfl HFIN.out.1 ⟨HFIN.out.2.1, _, _, _, _, _, _, _, _, _, rfl, HFIN.out.2.2, HW.out.ok, HW.out.adds, .inr ⟨hlt, ?_, HE.out⟩⟩
          rw [HX.out, HY.out]
    · have hke : k = l.length := by omega
      subst hke
      have hlt' : ¬ ((l.length : Nat) : Int) < (l.length : Int) := by omega
      have d0 := blk_cell hW.var.res 0
      have d1 := blk_cell hW.var.res 1
      have z0 := blk_froz hW.var.res 0
      have z1 := blk_froz hW.var.res 1
      simp only [List.getElem?_toArray, List.getElem?_cons_zero, List.getElem?_cons_succ] at d0 d1
      have HFIN := Lib.hid (hW.var.fin href)
      have HW := Lib.hid hW
      clear hW hbk href
      go_wp2_with fail
      refine ret_ref2 (r := r) rfl rfl rfl rfl HFIN.out.1 ⟨HFIN.out.2.1, _, _, _, _, _, _, _, _, _, rfl, HFIN.out.2.2, HW.out.ok, HW.out.adds, .inl ⟨rfl, rfl⟩⟩
def findM (M : List (Int × Int)) (m : Int × Int) : Option Nat := M.findIdx? (fun e => e == m)
theorem findIdx_congr {α : Type} {p q : α → Bool} : ∀ {l : List α}, (∀ x ∈ l, p x = q x) → l.findIdx? p = l.findIdx? q
  | [], _ => rfl
  | a :: l, h => by
    rw [List.findIdx?_cons, List.findIdx?_cons, h a (by simp), findIdx_congr (fun x hx => h x (by simp [hx]))]
theorem pairT_mrgs {T : List Ent} (h : OkT T) (m : Int × Int) : pairT T m = (findM (mrgsT T) m).map (· + 256) := by
  have h256 := okT_256 h
  have e : T = T.take 256 ++ T.drop 256 := (List.take_append_drop _ _).symm
  have hB : (T.take 256).findIdx? (fun e => e.2 == m && m != (-1, -1)) = none := by
    rw [List.findIdx?_eq_none_iff]
    intro x hx
    obtain ⟨i, hi, rfl⟩ := List.getElem_of_mem hx
    rw [List.length_take] at hi
    have := base_ent h (i := i) (by omega)
    rw [entT_nat _ _ (by omega)] at this
    rw [List.getElem_take, this, Bool.eq_false_iff]
    intro hh
    simp only [Bool.and_eq_true, beq_iff_eq, bne_iff_ne, ne_eq] at hh
    exact hh.2 hh.1.symm
  have hM : (T.drop 256).findIdx? (fun e => e.2 == m && m != (-1, -1)) = findM (mrgsT T) m := by
    unfold findM mrgsT
    rw [List.findIdx?_map]
    refine findIdx_congr (fun x hx => ?_)
    obtain ⟨i, hi, rfl⟩ := List.getElem_of_mem hx
    rw [List.length_drop] at hi
    obtain ⟨q1, _⟩ := h.made (256 + i) (by omega) (by omega)
    rw [entT_nat _ _ (by omega)] at q1
    simp only [List.getElem_drop, Function.comp]
    by_cases hm : T[256 + i].2 = m
    · have : m ≠ (-1, -1) := by intro e; rw [hm, e] at q1; simp at q1
      simp [hm, this]
    · have h1 : (T[256 + i].2 == m) = false := by simpa using hm
      rw [h1]; rfl
  have e2 : pairT T m = (T.take 256 ++ T.drop 256).findIdx? (fun e => e.2 == m && m != (-1, -1)) := by rw [List.take_append_drop]; rfl
  rw [e2, List.findIdx?_append, hB, hM]
  simp only [Option.none_or, List.length_take]
  have : min 256 T.length = 256 := by omega
  rw [this]
theorem mrgs_at {T : List Ent} {k : Nat} {m : Int × Int} (h : (mrgsT T)[k]? = some m) : 256 + k < T.length ∧ (entT T ((256 + k : Nat) : Int)).2 = m := by
  unfold mrgsT at h
  rw [List.getElem?_map, Option.map_eq_some_iff] at h
  obtain ⟨e, he, rfl⟩ := h
  rw [List.getElem?_drop] at he
  obtain ⟨hlt, he⟩ := List.getElem?_eq_some_iff.1 he
  exact ⟨hlt, by rw [entT_nat _ _ hlt, he]⟩
theorem mrgs_ok {T : List Ent} (hT : OkT T) {k : Nat} {m : Int × Int} (h : (mrgsT T)[k]? = some m) : pairT T m = some (256 + k) ∧ 0 ≤ m.1 ∧ 0 ≤ m.2 ∧ m.1 < 256 + (k : Int) ∧ m.2 < 256 + (k : Int) := by
  obtain ⟨h1, h2⟩ := mrgs_at h
  obtain ⟨q1, _, _, _, _, q2, q3, q4, q5, q6⟩ := made_all hT (i := 256 + k) (by omega) h1
  have e : parT T ((256 + k : Nat) : Int) = m := by unfold parT; rw [if_pos q1]; exact h2
  rw [e] at q2 q3 q4 q5 q6
  exact ⟨q2, q3, q4, by omega, by omega⟩
def mrgsB (T : List Ent) (bel : Int) : List (Int × Int) := (mrgsT T).take (bel - 256).toNat
theorem pairB_iff {T : List Ent} (hT : OkT T) (bel a b r : Int) : pairB T bel a b = some r ↔ ∃ k : Nat, (mrgsB T bel)[k]? = some (a, b) ∧ r = 256 + k := by
  unfold pairB mrgsB
  constructor
  · intro h
    cases hp : pairT T (a, b) with
    | none => rw [hp] at h; simp at h
    | some i =>
      rw [hp] at h
      simp only [Option.bind_some] at h
      by_cases hlt : (i : Int) < bel
      · rw [if_pos hlt] at h
        have h := Option.some.inj h
        subst h
        rw [pairT_mrgs hT, Option.map_eq_some_iff] at hp
        obtain ⟨k, hk, rfl⟩ := hp
        unfold findM at hk
        rw [List.findIdx?_eq_some_iff_getElem] at hk
        obtain ⟨hk1, hk2, _⟩ := hk
        refine ⟨k, ?_, by omega⟩
        rw [List.getElem?_take, if_pos (by omega), List.getElem?_eq_getElem hk1]
        simpa using hk2
      · rw [if_neg hlt] at h; simp at h
  · rintro ⟨k, hk, rfl⟩
    rw [List.getElem?_take] at hk
    by_cases hlt : k < (bel - 256).toNat
    · rw [if_pos hlt] at hk
      rw [(mrgs_ok hT hk).1]
      simp only [Option.bind_some]
      rw [if_pos (by omega)]
      congr 1
    · rw [if_neg hlt] at hk; simp at hk
theorem mrgsB_ok {T : List Ent} (hT : OkT T) (bel : Int) : OkM (mrgsB T bel) 256 := by
  intro k m hk
  unfold mrgsB at hk
  rw [List.getElem?_take] at hk
  by_cases hlt : k < (bel - 256).toNat
  · rw [if_pos hlt] at hk
    have := mrgs_ok hT hk
    exact ⟨this.2.2.2.1, this.2.2.2.2⟩
  · rw [if_neg hlt] at hk; simp at hk
theorem pairB_small {T : List Ent} (hT : OkT T) (bel a b r : Int) (h : pairB T bel a b = some r) : r < 1000000 := by
  obtain ⟨k, hk, rfl⟩ := (pairB_iff hT bel a b r).1 h
  have h2 := (List.getElem?_eq_some_iff.1 hk).1
  unfold mrgsB at h2
  rw [List.length_take, mrgs_len] at h2
  have := hT.small
  omega
def encT (T : List Ent) (bel : Int) (s : List UInt8) : List Int := seqE (mrgsB T bel) 256 (bysI s)
section
variable {w w' : World} {tbase tb : Nat} {T : List Ent} {sv : Value} {mb mp : Nat}
theorem ints_less {w : World} {b base : Nat} {v : Value} {l : List Int} (h : IntsIs w b v l) (hle : base ≤ b) : IntsIs w base v l := by
  obtain ⟨A, c, e, hr⟩ := h
  exact ⟨A, c, e, own_less hr hle⟩
set_option maxHeartbeats 4000000 in
theorem below_any (h : TabIs w tbase tb T sv mb mp) (hT : OkT T) (s : ByteArray) (hs : s.size ≤ 100000000) (bel : Int) :
    Calls Tryz.prog 157 #[.pointer (some ⟨tb, 0, none⟩), .string s, .int .i64 bel] w fun e w' => (∃ v, e = .returned v ∧ IntsIs w' w.heap.size v (encT T bel s.data.toList)) ∧ Below w.heap.size w w' := by
  have HT := Lib.hid h
  have HOK := Lib.hid hT
  clear h hT
  go_enter Tryz.func157, Tryz.ntmps157
  go_wp2_with fail
  refine (chain_begin s bel HT.out hs).mono ?_
  rintro e w1 ⟨cb, A, c, Q, turn, Aq, cq, rfl, hb, hbs⟩
  have HB := Lib.hid hb
  have HR := Lib.hid (run_any hb.ch (RunS.start (M := mrgsB T bel) (beg_lives s.data.toList) (by rw [begN_len, begL_len]) (by rw [begL_len, dataLen]; exact hbs)) (by rw [begL_len, dataLen]; exact hs) (pairB_iff HOK.out bel) (mrgsB_ok HOK.out bel) (pairB_small HOK.out bel))
  clear hb hbs
  go_wp2_with fail
  refine HR.out.mono ?_
  rintro e w2 ⟨rfl, N', L', turn', steps', Aq', cq', h2⟩
  have H2 := Lib.hid h2
  have hfin := h2.run.fin (pairB_iff HOK.out bel)
  rw [begL_ids] at hfin
  have hbl : Below w.heap.size w w2 := HB.out.bl.trans h2.bl
  have HBL := Lib.hid hbl
  have hids : Calls Tryz.prog 169 #[.pointer (some ⟨cb, 0, none⟩)] w2 fun e w' => (∃ v, e = .returned v ∧ IntsIs w' w2.heap.size v (encT T bel s.data.toList)) ∧ Below w2.heap.size w2 w' := by
    have e1 : encT T bel s.data.toList = idsC L' := hfin.1.symm
    rw [e1]
    by_cases hN : N' = []
    · subst hN
      have : L' = [] := by
        rcases L' with _ | ⟨x, L'⟩
        · rfl
        · obtain ⟨k, _, hk⟩ := h2.run.lives.place (x := x) (by simp)
          simp at hk
      subst this
      exact ids_none h2.ch.lk
    · refine ids_any h2.ch.lk h2.run.lives hN ?_
      have := h2.run.steps
      have := h2.run.pos
      rw [begL_len, dataLen] at *
      omega
  have HI := Lib.hid hids
  clear h2 hfin hbl hids HR
  go_wp2_with fail
  refine HI.out.mono ?_
  rintro e w3 ⟨⟨v, rfl, hv⟩, hb3⟩
  have HV := Lib.hid (ints_less hv HBL.out.size)
  have HB3 := Lib.hid (HBL.out.trans (hb3.mono HBL.out.size))
  clear hv hb3
  go_wp2_with fail
  go_ret
  exact ⟨⟨v, rfl, HV.out⟩, HB3.out⟩
theorem encode_any (h : TabIs w tbase tb T sv mb mp) (hT : OkT T) (s : ByteArray) (hs : s.size ≤ 100000000) :
    Calls Tryz.prog 135 #[.pointer (some ⟨tb, 0, none⟩), .string s] w fun e w' => (∃ v, e = .returned v ∧ IntsIs w' w.heap.size v (encT T T.length s.data.toList)) ∧ Below w.heap.size w w' := by
  have HT := Lib.hid h
  have HOK := Lib.hid hT
  clear h hT
  go_enter Tryz.func135, Tryz.ntmps135
  go_wp2_with fail
  refine (len_tab HT.out).mono ?_
  rintro e w1 ⟨rfl, rfl⟩
  go_wp2_with fail
  refine (below_any HT.out HOK.out s hs _).mono ?_
  rintro e w2 ⟨⟨v, rfl, hv⟩, hb⟩
  have HV := Lib.hid hv
  have HB := Lib.hid hb
  clear hv hb
  go_wp2_with fail
  go_ret
  exact ⟨⟨v, rfl, HV.out⟩, HB.out⟩
end
theorem bytesT_le {T : List Ent} (h : OkT T) (i : Int) : (bytesT T i).length ≤ 64 := by
  unfold bytesT
  split
  · rename_i hi
    obtain ⟨j, rfl, hj, e⟩ := hasT_at hi
    rw [e]
    exact (h.len _ (List.getElem_mem hj)).2
  · simp
theorem rep_two {a b c : Int} {L : List Int} {i : Nat} (h : i + 1 < L.length) (h1 : L[i] = a) (h2 : L[i + 1] = b) : rep a b c (L.drop i) = c :: rep a b c (L.drop (i + 2)) := by
  rw [List.drop_eq_getElem_cons (by omega), List.drop_eq_getElem_cons (i := i + 1) h, rep, if_pos ⟨h1, h2⟩]
theorem rep_one {a b c : Int} {L : List Int} {i : Nat} (h : i < L.length) (hn : ¬ ∃ h2 : i + 1 < L.length, L[i] = a ∧ L[i + 1] = b) : rep a b c (L.drop i) = L[i] :: rep a b c (L.drop (i + 1)) := by
  rw [List.drop_eq_getElem_cons h]
  by_cases h2 : i + 1 < L.length
  · rw [List.drop_eq_getElem_cons (i := i + 1) h2, rep, if_neg (fun e => hn ⟨h2, e⟩)]
  · have : L.drop (i + 1) = [] := List.drop_eq_nil_of_le (by omega)
    rw [this]; rfl
theorem bysI_take {l : List UInt8} {k : Nat} (h : k < l.length) : (bysI l).take (k + 1) = (bysI l).take k ++ [byI l k] := by
  have h' : k < (bysI l).length := by simpa [bysI] using h
  rw [take_snoc h']
  congr 2
  simp [bysI, byI, h]
theorem mrgsB_drop {T : List Ent} {bel : Int} {k : Nat} {a b : Int} {L : List Int} (h1 : k < (mrgsT T).length) (h2 : 256 + (k : Int) < bel) (hm : (mrgsT T)[k] = (a, b)) :
    seqE ((mrgsB T bel).drop k) (256 + k) L = seqE ((mrgsB T bel).drop (k + 1)) (256 + ((k + 1 : Nat) : Int)) (rep a b (256 + k) L) := by
  have h3 : k < (mrgsB T bel).length := by unfold mrgsB; rw [List.length_take]; omega
  rw [List.drop_eq_getElem_cons h3]
  have h4 : (mrgsB T bel)[k] = (a, b) := by
    have : (mrgsB T bel)[k]? = some (a, b) := by unfold mrgsB; rw [List.getElem?_take, if_pos (by omega), List.getElem?_eq_getElem h1, hm]
    rw [List.getElem?_eq_getElem h3] at this
    exact Option.some.inj this
  rw [h4, seqE]
  have e : 256 + (k : Int) + 1 = 256 + ((k + 1 : Nat) : Int) := by omega
  rw [e]
theorem mrgsB_all {T : List Ent} {bel : Int} {k : Nat} {L : List Int} (h : (mrgsT T).length ≤ k ∨ bel ≤ 256 + (k : Int)) : seqE ((mrgsB T bel).drop k) (256 + k) L = L := by
  rw [List.drop_eq_nil_of_le (by unfold mrgsB; rw [List.length_take]; omega)]
  rfl
structure REn (W0 W : World) (v : Value) (L : List Int) : Prop where
  row : IntsIs W W0.heap.size v L
  bl : Below W0.heap.size W0 W
section
variable {w w' : World} {base : Nat} {T : List Ent} {vb vm : Value}
set_option maxHeartbeats 8000000 in
theorem renc_any (h : RefIs w base T vb vm) (hT : OkT T) (s : ByteArray) (hs : s.size ≤ 100000000) (bel : Int) :
    Calls Tryz.prog 102 #[.agg #[vb, vm], .string s, .int .i64 bel] w fun e w' => (∃ v, e = .returned v ∧ IntsIs w' w.heap.size v (encT T bel s.data.toList)) ∧ Below w.heap.size w w' := by
  obtain ⟨A, c, rfl⟩ := own_slice h.row
  obtain ⟨A2, c2, hvm⟩ := own_slice h.mrg
  subst hvm
  have hb0 := (Below.refl w.heap.size w).alloc (Nat.le_refl _) (.cells #[.slice A T.length c, .slice A2 (mrgsT T).length c2] 34)
  have n0 := blk_cell (blk_new w (.cells #[.slice A T.length c, .slice A2 (mrgsT T).length c2] 34)) 1
  simp only [List.getElem?_toArray, List.getElem?_cons_zero, List.getElem?_cons_succ] at n0
  have HSL := Lib.hid ((own_sl (enc := encM) (fun _ => rfl) h.mrg (by decide)).below hb0 (Nat.le_refl _))
  have HB := Lib.hid hb0
  have hsm := hT.small
  have hml : (mrgsT T).length ≤ 1000 := by rw [mrgs_len]; omega
  have HN0 := Lib.hid n0
  have HDL := Lib.hid (dataLen s)
  have HSEQ : Hid (∀ k L a b (h1 : k < (mrgsT T).length), 256 + (k : Int) < bel → (mrgsT T)[k] = (a, b) → seqE ((mrgsB T bel).drop k) (256 + k) L = seqE ((mrgsB T bel).drop (k + 1)) (256 + ((k + 1 : Nat) : Int)) (rep a b (256 + k) L)) := Lib.hid (fun k L a b h1 h2 h3 => mrgsB_drop h1 h2 h3)
  have HALL : Hid (∀ (k : Nat) L, ((mrgsT T).length ≤ k ∨ bel ≤ 256 + (k : Int)) → seqE ((mrgsB T bel).drop k) (256 + k) L = L) := Lib.hid (fun k L h => mrgsB_all h)
  have HE0 : Hid (encT T bel s.data.toList = seqE ((mrgsB T bel).drop 0) (256 + ((0 : Nat) : Int)) (bysI s.data.toList)) := Lib.hid (by rw [List.drop_zero]; rfl)
  clear hb0 h n0 hT
  go_enter Tryz.func102, Tryz.ntmps102
  go_wp2_with fail
  generalize hW : w.alloc (.cells #[.slice A T.length c, .slice A2 (mrgsT T).length c2] 34) = W0 at *
  clear hW
  obtain ⟨E0, hE⟩ : ∃ E, encT T bel s.data.toList = E := ⟨_, rfl⟩
  have HEE := Lib.hid hE
  rw [hE] at HE0
  clear hE
  generalize mrgsB T bel = MB at *
  generalize mrgsT T = M at *
  have HG0 := Lib.hid (show w.heap.size < W0.heap.size from World.block_lt_of_cell? W0 ⟨w.heap.size, 1, none⟩ HN0.out)
  have HS : Hid (W0.ownsRow W0.heap.size 3 1 (.slice none 0 0) 0 ([] : List Value)) := Lib.hid (own_nil _ _ _ _)
  go_loopg [7, 8] s.size (fun n u i W => ∃ k A c, k + n = s.size ∧ i = .int .i64 ((k : Nat) : Int) ∧ u = .slice A k c ∧ W.ownsRow W0.heap.size 3 1 (.slice A k c) k (((bysI s.data.toList).take k).map (Value.int .i64)) ∧ Below W0.heap.size W0 W)
  case atStart => exact ⟨0, none, 0, by omega, rfl, rfl, by simpa using HS.out, Below.refl _ _⟩
  case round =>
    obtain ⟨k, A1, c1, hk, rfl, rfl, hrow, hbl⟩ := hrel
    rename World => W
    have HK := Lib.hid hk
    have HROW := Lib.hid hrow
    have HBL := Lib.hid hbl
    clear hrow hbl
    by_cases hlt : k < s.size
    · have p0 : (0 : Int) ≤ (k : Int) := by omega
      have p1 : (k : Int) < (s.size : Int) := by omega
      have w2 : IntKind.i64.wrap ((k : Int) + 1) = (k : Int) + 1 := IntWalk.i64_in _ (by omega)
      have h8 : IntKind.i64.wrap ((s[k]'hlt).toNat : Int) = ((s[k]'hlt).toNat : Int) := by have := (s[k]'hlt).toNat_lt; exact IntWalk.i64_in _ (by omega)
      have HBY := Lib.hid (byI_at s k hlt)
      have HTK := Lib.hid (bysI_take (l := s.data.toList) (k := k) (by rw [dataLen]; exact hlt))
      clear hk
      go_wp2_with (at_builtin; refine app_one W0.heap.size 57 3 (.int .i64 0) 1 8 [_] 1 _ _ rfl rfl Tryz.underlying57 info_int5 rfl (by decide) _ _ _ rfl rfl rfl (by intro u hu; simp at hu; subst hu; rfl) HROW.out (by omega) (by omega) HBL.out.size ?_)
      intro v' w6 hown hg6
      obtain ⟨A3, c3, rfl⟩ := own_slice hown
      have hk6 : Below W0.heap.size W w6 := Keep.below (Keep.of_grown (F := fun g => (Value.slice A1 k c1).ownBlock = some g) hg6 (fun g hg => hg)) HBL.out.size (fun x hx => own_base HROW.out x hx)
      have HR6 : Hid (w6.ownsRow W0.heap.size 3 1 (.slice A3 (k + 1) c3) (k + 1) (((bysI s.data.toList).take (k + 1)).map (Value.int .i64))) := Lib.hid (by rw [HTK.out, List.map_append, HBY.out]; first | exact hown | (rw [List.map_take]; exact hown))
      have HB6 := Lib.hid (HBL.out.trans hk6)
      clear hown hg6 hk6
      go_wp2_with fail
      go_roundg (gk - 1)
      case measure => have := HK.out; omega
      case rel => exact ⟨k + 1, A3, c3, by have := HK.out; omega, rfl, rfl, HR6.out, HB6.out⟩
    · have hke : k = s.size := by omega
      subst hke
      have HREN : Hid (REn W0 W (.slice A1 s.size c1) (bysI s.data.toList)) := Lib.hid (by
        have e1 : (bysI s.data.toList).length = s.size := by unfold bysI; rw [List.length_map]; exact HDL.out
        refine ⟨⟨A1, c1, by rw [e1], ?_⟩, HBL.out⟩
        have := HROW.out
        rw [List.take_of_length_le (by rw [e1]; exact Nat.le_refl _)] at this
        rw [e1]
        exact this)
      have HZ : Hid (s.size ≤ 100000000) := Lib.hid hs
      clear HROW HBL hk HK HS
      go_wp2_with fail
      go_loopg [7, 9] M.length (fun n u i W => ∃ k L A c, k + n = M.length ∧ i = .int .i64 ((k : Nat) : Int) ∧ u = .slice A (L : List Int).length c ∧ REn W0 W (.slice A L.length c) L ∧ seqE (MB.drop k) (256 + (k : Int)) L = E0 ∧ L.length ≤ s.size)
      case atStart =>
        obtain ⟨⟨A', c', e, hr⟩, hb⟩ := HREN.out
        injection e with e1 e2 e3
        subst e1; subst e3
        refine ⟨0, bysI s.data.toList, A1, c1, by omega, rfl, by rw [e2], ⟨⟨A1, c1, rfl, hr⟩, hb⟩, HE0.out.symm, by rw [e2]; exact Nat.le_refl _⟩
      case round =>
        obtain ⟨k, L, A1, c1, hk, rfl, rfl, hren, hseq, hll⟩ := hrel
        clear HREN
        rename World => W
        have HREN := Lib.hid hren
        have HK := Lib.hid hk
        have HSQ := Lib.hid hseq
        have HLL := Lib.hid (Nat.le_trans hll HZ.out)
        have HLS := Lib.hid hll
        have m1 := below_cell hren.bl (Nat.le_refl _) HN0.out
        clear hren hseq hll
        have w1 : IntKind.i64.wrap (256 + (k : Int)) = 256 + (k : Int) := IntWalk.i64_in _ (by omega)
        by_cases h1 : k < M.length
        · have q1 : (k : Int) < (M.length : Int) := by omega
          by_cases h2 : 256 + (k : Int) < bel
          · obtain ⟨⟨a, b⟩, hab⟩ : ∃ m, M[k] = m := ⟨_, rfl⟩
            have HNX := Lib.hid (HSEQ.out k L a b h1 h2 hab)
            have hab2 := List.getElem?_eq_getElem h1
            rw [hab] at hab2
            obtain ⟨ba, o, hA2, hcc⟩ := HSL.out k (a, b) hab2
            subst hA2
            have HMA : Hid (W.cell? ⟨ba, o + k * 2, none⟩ = some (.int .i64 a)) := Lib.hid (below_cell HREN.out.bl (Nat.le_refl _) (hcc 0 _ rfl))
            have HMB : Hid (W.cell? ⟨ba, o + k * 2 + 1, none⟩ = some (.int .i64 b)) := Lib.hid (below_cell HREN.out.bl (Nat.le_refl _) (hcc 1 _ rfl))
            clear hcc hab hab2 hk
            go_wp2_with fail
            have HM1 := Lib.hid m1
            clear m1
            go_loopg [10, 11] L.length (fun n u j W2 => ∃ i O A3 c3, i + n = L.length ∧ j = .int .i64 ((i : Nat) : Int) ∧ u = .slice A3 (O : List Int).length c3 ∧ W2.ownsRow W.heap.size 3 1 (.slice A3 O.length c3) O.length (O.map (Value.int .i64)) ∧ Below W.heap.size W W2 ∧ O ++ rep a b (256 + (k : Int)) (L.drop i) = rep a b (256 + (k : Int)) L ∧ O.length ≤ i)
            case atStart => exact ⟨0, [], none, 0, by omega, rfl, rfl, own_nil _ _ _ _, Below.refl _ _, rfl, Nat.le_refl _⟩
            case round =>
              obtain ⟨i, O, A3, c3, hi, rfl, rfl, hO, hbO, hrep, hol⟩ := hrel
              rename World => W2
              have HO := Lib.hid hO
              have HBO := Lib.hid hbO
              have HREP0 := Lib.hid hrep
              have HI := Lib.hid hi
              have hll := HLL.out
              clear hO hbO hrep
              have w2 : IntKind.i64.wrap ((i : Int) + 1) = (i : Int) + 1 := IntWalk.i64_in _ (by omega)
              have w3 : IntKind.i64.wrap ((i : Int) + 1 + 1) = (i : Int) + 1 + 1 := IntWalk.i64_in _ (by omega)
              by_cases hlt : i < L.length
              · have p0 : (0 : Int) ≤ (i : Int) := by omega
                have p1 : (i : Int) < (L.length : Int) := by omega
                have q0 : (0 : Int) ≤ (k : Int) := by omega
                obtain ⟨⟨A', c', e, hr⟩, _⟩ := HREN.out
                injection e with e1 e2 e3
                subst e1; subst e3
                have hsl := (own_sl1 hr).below HBO.out (Nat.le_refl _)
                have HSLL := Lib.hid hsl
                obtain ⟨b1, o1, hA1, l0⟩ := hsl.at i hlt
                subst hA1
                have m0 := below_cell HBO.out (Nat.le_refl _) HMA.out
                have m1 := below_cell HBO.out (Nat.le_refl _) HM1.out
                have mb := below_cell HBO.out (Nat.le_refl _) HMB.out
                clear hr hsl hi
                by_cases hn : i + 1 < L.length
                · have p2 : (i : Int) + 1 < (L.length : Int) := by omega
                  have p3 : (0 : Int) ≤ (i : Int) + 1 := by omega
                  have p4 : ((i : Int) + 1).toNat = i + 1 := by omega
                  obtain ⟨b1', o1', e, l1⟩ := HSLL.out.at (i + 1) hn
                  injection e with e
                  injection e with e1 e2
                  subst e1; subst e2
                  have HX : Hid (∀ x y, L[i] = x → L[i + 1] = y → (x = a → y = b → O ++ [256 + (k : Int)] ++ rep a b (256 + (k : Int)) (L.drop (i + 2)) = rep a b (256 + (k : Int)) L) ∧ (¬ (x = a ∧ y = b) → O ++ [x] ++ rep a b (256 + (k : Int)) (L.drop (i + 1)) = rep a b (256 + (k : Int)) L)) := Lib.hid (fun x y hx hy => ⟨fun e1 e2 => by rw [← HREP0.out, rep_two hn (hx.trans e1) (hy.trans e2)]; simp, fun e1 => by rw [← HREP0.out, rep_one hlt (fun ⟨_, e2, e3⟩ => e1 ⟨hx.symm.trans e2, hy.symm.trans e3⟩), hx]; simp⟩)
                  replace HX := Lib.hid (HX.out L[i] L[i + 1] rfl rfl)
                  generalize L[i] = x at *
                  generalize L[i + 1] = y at *
                  by_cases hx : x = a
                  · subst hx
                    by_cases hy : y = b
                    · subst hy
                      have HREP := Lib.hid (HX.out.1 rfl rfl)
                      go_upto_region 13 with fail
                      refine wp_region_held_drew (S := fun V => V.cell? ⟨w.heap.size, 1, none⟩ = some (.slice (some ⟨ba, o, none⟩) M.length c2) ∧ V.cell? ⟨ba, o + k * 2, none⟩ = some (.int .i64 x) ∧ V.cell? ⟨ba, o + k * 2 + 1, none⟩ = some (.int .i64 y) ∧ V.cell? ⟨b1, o1 + i, none⟩ = some (.int .i64 x) ∧ V.cell? ⟨b1, o1 + (i + 1), none⟩ = some (.int .i64 y)) (by kernel_rfl) (by exact ⟨m1, m0, mb, l0, l1⟩) (fun hHeld => ?_)
                      refine tkH 0 44 ?_ rfl hHeld (.inl ⟨by rfl, ?_⟩) ?_; rotate_left; focus (intro w' hSw; (try dsimp only at hSw); go_simp; (try with_reducible rfl))
                      try simp only [sIB, sC0, sCS]
                      refine tkH 1 45 ?_ rfl hHeld (.inl ⟨by rfl, ?_⟩) ?_; rotate_left; focus (intro w' hSw; (try dsimp only at hSw); go_simp; (try with_reducible rfl))
                      try simp only [sIB, sC0, sCS]
                      refine tkH 2 46 ?_ rfl hHeld (.inl ⟨by rfl, ?_⟩) ?_; rotate_left; focus (intro w' hSw; (try dsimp only at hSw); go_simp; (try with_reducible rfl))
                      try simp only [sIB, sC0, sCS]
                      refine tkH 3 47 ?_ rfl hHeld (.inl ⟨by rfl, ?_⟩) ?_; rotate_left; focus (intro w' hSw; (try dsimp only at hSw); go_simp; (try with_reducible rfl))
                      try simp only [sIB, sC0, sCS]
                      refine tkH 4 48 ?_ rfl hHeld (.inl ⟨by rfl, ?_⟩) ?_; rotate_left; focus (intro w' hSw; (try dsimp only at hSw); go_simp; (try with_reducible rfl))
                      try simp only [sIB, sC0, sCS]
                      refine tkH 5 49 ?_ rfl hHeld (.inl ⟨by rfl, ?_⟩) ?_; rotate_left; focus (intro w' hSw; (try dsimp only at hSw); go_simp; (try with_reducible rfl))
                      try simp only [sIB, sC0, sCS]
                      refine tkH 6 50 ?_ rfl hHeld (.inl ⟨by rfl, ?_⟩) ?_; rotate_left; focus (intro w' hSw; (try dsimp only at hSw); go_simp; (try with_reducible rfl))
                      try simp only [sIB, sC0, sCS]
                      refine tkH 7 51 ?_ rfl hHeld (.inl ⟨by rfl, ?_⟩) ?_; rotate_left; focus (intro w' hSw; (try dsimp only at hSw); go_simp; (try with_reducible rfl))
                      try simp only [sIB, sC0, sCS]
                      refine tkH 8 52 ?_ rfl hHeld (.inl ⟨by rfl, ?_⟩) ?_; rotate_left; focus (intro w' hSw; (try dsimp only at hSw); go_simp; (try with_reducible rfl))
                      try simp only [sIB, sC0, sCS]
                      refine tkH 9 53 ?_ rfl hHeld (.inl ⟨by rfl, ?_⟩) ?_; rotate_left; focus (intro w' hSw; (try dsimp only at hSw); go_simp; (try with_reducible rfl))
                      try simp only [sIB, sC0, sCS]
                      refine tkH 10 54 ?_ rfl hHeld (.inl ⟨by rfl, ?_⟩) ?_; rotate_left; focus (intro w' hSw; (try dsimp only at hSw); go_simp; (try with_reducible rfl))
                      try simp only [sIB, sC0, sCS]
                      refine tkH 11 55 ?_ rfl hHeld (.inl ⟨by rfl, ?_⟩) ?_; rotate_left; focus (intro w' hSw; (try dsimp only at hSw); go_simp; (try with_reducible rfl))
                      try simp only [sIB, sC0, sCS]
                      refine tkH 12 56 ?_ rfl hHeld (.inl ⟨by rfl, ?_⟩) ?_; rotate_left; focus (intro w' hSw; (try dsimp only at hSw); go_simp; (try with_reducible rfl))
                      try simp only [sIB, sC0, sCS]
                      refine tkH 13 57 ?_ rfl hHeld (.inl ⟨by rfl, ?_⟩) ?_; rotate_left; focus (intro w' hSw; (try dsimp only at hSw); go_simp; (try with_reducible rfl))
                      try simp only [sIB, sC0, sCS]
                      refine tkH 14 58 ?_ rfl hHeld (.inl ⟨by rfl, ?_⟩) ?_; rotate_left; focus (intro w' hSw; (try dsimp only at hSw); go_simp; (try with_reducible rfl))
                      try simp only [sIB, sC0, sCS]
                      refine tkH 15 59 ?_ rfl hHeld (.inl ⟨by rfl, ?_⟩) ?_; rotate_left; focus (intro w' hSw; (try dsimp only at hSw); go_simp; (try with_reducible rfl))
                      try simp only [sIB, sC0, sCS]
                      refine tkH 16 60 ?_ rfl hHeld (.inl ⟨by rfl, ?_⟩) ?_; rotate_left; focus (intro w' hSw; (try dsimp only at hSw); go_simp; (try with_reducible rfl))
                      try simp only [sIB, sC0, sCS]
                      refine tkH 17 61 ?_ rfl hHeld (.inl ⟨by rfl, ?_⟩) ?_; rotate_left; focus (intro w' hSw; (try dsimp only at hSw); go_simp; (try with_reducible rfl))
                      try simp only [sIB, sC0, sCS]
                      refine tkH 18 62 ?_ rfl hHeld (.inl ⟨by rfl, ?_⟩) ?_; rotate_left; focus (intro w' hSw; (try dsimp only at hSw); go_simp; (try with_reducible rfl))
                      try simp only [sIB, sC0, sCS]
                      refine tkH 19 63 ?_ rfl hHeld (.inl ⟨by rfl, ?_⟩) ?_; rotate_left; focus (intro w' hSw; (try dsimp only at hSw); go_simp; (try with_reducible rfl))
                      try simp only [sIB, sC0, sCS]
                      refine tkH 20 64 ?_ rfl hHeld (.inl ⟨by rfl, ?_⟩) ?_; rotate_left; focus (intro w' hSw; (try dsimp only at hSw); go_simp; (try with_reducible rfl))
                      try simp only [sIB, sC0, sCS]
                      refine tkH 21 65 ?_ rfl hHeld (.inl ⟨by rfl, ?_⟩) ?_; rotate_left; focus (intro w' hSw; (try dsimp only at hSw); go_simp; (try with_reducible rfl))
                      try simp only [sIB, sC0, sCS]
                      refine tkH 22 66 ?_ rfl hHeld (.inl ⟨by rfl, ?_⟩) ?_; rotate_left; focus (intro w' hSw; (try dsimp only at hSw); go_simp; (try with_reducible rfl))
                      try simp only [sIB, sC0, sCS]
                      refine tkH 23 67 ?_ rfl hHeld (.inl ⟨by rfl, ?_⟩) ?_; rotate_left; focus (intro w' hSw; (try dsimp only at hSw); go_simp; (try with_reducible rfl))
                      try simp only [sIB, sC0, sCS]
                      refine tkH 24 68 ?_ rfl hHeld (.inl ⟨by rfl, ?_⟩) ?_; rotate_left; focus (intro w' hSw; (try dsimp only at hSw); go_simp; (try with_reducible rfl))
                      try simp only [sIB, sC0, sCS]
                      refine tkH 25 69 ?_ rfl hHeld (.inl ⟨by rfl, ?_⟩) ?_; rotate_left; focus (intro w' hSw; (try dsimp only at hSw); go_simp; (try with_reducible rfl))
                      try simp only [sIB, sC0, sCS]
                      refine tkH 26 70 ?_ rfl hHeld (.inl ⟨by rfl, ?_⟩) ?_; rotate_left; focus (intro w' hSw; (try dsimp only at hSw); go_simp; (try with_reducible rfl))
                      try simp only [sIB, sC0, sCS]
                      refine tkH 27 71 ?_ rfl hHeld (.inl ⟨by rfl, ?_⟩) ?_; rotate_left; focus (intro w' hSw; (try dsimp only at hSw); go_simp; (try with_reducible rfl))
                      try simp only [sIB, sC0, sCS]
                      refine tkH 28 72 ?_ rfl hHeld (.inl ⟨by rfl, ?_⟩) ?_; rotate_left; focus (intro w' hSw; (try dsimp only at hSw); go_simp; (try with_reducible rfl))
                      try simp only [sIB, sC0, sCS]
                      refine tkH 29 73 ?_ rfl hHeld (.inl ⟨by rfl, ?_⟩) ?_; rotate_left; focus (intro w' hSw; (try dsimp only at hSw); go_simp; (try with_reducible rfl))
                      try simp only [sIB, sC0, sCS]
                      refine tkH 30 74 ?_ rfl hHeld (.inl ⟨by rfl, ?_⟩) ?_; rotate_left; focus (intro w' hSw; (try dsimp only at hSw); go_simp; (try with_reducible rfl))
                      try simp only [sIB, sC0, sCS]
                      refine tkH 31 75 ?_ rfl hHeld (.inl ⟨by rfl, ?_⟩) ?_; rotate_left; focus (intro w' hSw; (try dsimp only at hSw); go_simp; (try with_reducible rfl))
                      try simp only [sIB, sC0, sCS]
                      refine wpAnyH_done (by kernel_rfl) ?_ _
                      clear hHeld m0 m1 mb l1
                      replace l0 : W2.drew.cell? ⟨b1, o1 + i, none⟩ = some (.int .i64 x) := l0
                      replace HO : Hid (W2.drew.ownsRow W.heap.size 3 1 (.slice A3 O.length c3) O.length (O.map (Value.int .i64))) := Lib.hid (own_drew HO.out)
                      replace HBO := Lib.hid HBO.out.drew
                      generalize W2.drew = W2 at *
                      go_wp2_with (at_builtin; refine app_one W.heap.size 57 3 (.int .i64 0) 1 8 [_] 1 _ _ rfl rfl Tryz.underlying57 info_int5 rfl (by decide) _ _ _ rfl rfl rfl (by intro u hu; simp at hu; subst hu; rfl) HO.out (by omega) (by omega) HBO.out.size ?_)
                      intro v' w6 hown hg6
                      obtain ⟨A4, c4, rfl⟩ := own_slice hown
                      have hk6 : Below W.heap.size W2 w6 := Keep.below (Keep.of_grown (F := fun g => (Value.slice A3 O.length c3).ownBlock = some g) hg6 (fun g hg => hg)) HBO.out.size (fun x hx => own_base HO.out x hx)
                      have HO6 : Hid (w6.ownsRow W.heap.size 3 1 (.slice A4 (O ++ [256 + (k : Int)]).length c4) (O ++ [256 + (k : Int)]).length ((O ++ [256 + (k : Int)]).map (Value.int .i64))) := Lib.hid (by rw [List.length_append, List.map_append]; exact hown)
                      have HB6 := Lib.hid (HBO.out.trans hk6)
                      have HL6 : Hid ((O ++ [256 + (k : Int)]).length = O.length + 1) := Lib.hid (by simp)
                      clear hown hg6 hk6
                      go_wp2_with fail
                      go_roundg (gk - 2)
                      case measure => have := HI.out; omega
                      case rel => exact ⟨i + 2, O ++ [256 + (k : Int)], A4, c4, by have := HI.out; omega, by rw [show ((i + 2 : Nat) : Int) = (i : Int) + 1 + 1 by omega], by rw [HL6.out], HO6.out, HB6.out, HREP.out, by rw [HL6.out]; omega⟩
                    · have hyb : (y == b) = false := by simpa using hy
                      have HREP := Lib.hid (HX.out.2 (fun e => hy e.2))
                      clear hy
                      go_upto_region 13 with fail
                      refine wp_region_held_drew (S := fun V => V.cell? ⟨w.heap.size, 1, none⟩ = some (.slice (some ⟨ba, o, none⟩) M.length c2) ∧ V.cell? ⟨ba, o + k * 2, none⟩ = some (.int .i64 x) ∧ V.cell? ⟨ba, o + k * 2 + 1, none⟩ = some (.int .i64 b) ∧ V.cell? ⟨b1, o1 + i, none⟩ = some (.int .i64 x) ∧ V.cell? ⟨b1, o1 + (i + 1), none⟩ = some (.int .i64 y)) (by kernel_rfl) (by exact ⟨m1, m0, mb, l0, l1⟩) (fun hHeld => ?_)
                      refine tkH 0 44 ?_ rfl hHeld (.inl ⟨by rfl, ?_⟩) ?_; rotate_left; focus (intro w' hSw; (try dsimp only at hSw); go_simp; (try with_reducible rfl))
                      try simp only [sIB, sC0, sCS]
                      refine tkH 1 45 ?_ rfl hHeld (.inl ⟨by rfl, ?_⟩) ?_; rotate_left; focus (intro w' hSw; (try dsimp only at hSw); go_simp; (try with_reducible rfl))
                      try simp only [sIB, sC0, sCS]
                      refine tkH 2 46 ?_ rfl hHeld (.inl ⟨by rfl, ?_⟩) ?_; rotate_left; focus (intro w' hSw; (try dsimp only at hSw); go_simp; (try with_reducible rfl))
                      try simp only [sIB, sC0, sCS]
                      refine tkH 3 47 ?_ rfl hHeld (.inl ⟨by rfl, ?_⟩) ?_; rotate_left; focus (intro w' hSw; (try dsimp only at hSw); go_simp; (try with_reducible rfl))
                      try simp only [sIB, sC0, sCS]
                      refine tkH 4 48 ?_ rfl hHeld (.inl ⟨by rfl, ?_⟩) ?_; rotate_left; focus (intro w' hSw; (try dsimp only at hSw); go_simp; (try with_reducible rfl))
                      try simp only [sIB, sC0, sCS]
                      refine tkH 5 49 ?_ rfl hHeld (.inl ⟨by rfl, ?_⟩) ?_; rotate_left; focus (intro w' hSw; (try dsimp only at hSw); go_simp; (try with_reducible rfl))
                      try simp only [sIB, sC0, sCS]
                      refine tkH 6 50 ?_ rfl hHeld (.inl ⟨by rfl, ?_⟩) ?_; rotate_left; focus (intro w' hSw; (try dsimp only at hSw); go_simp; (try with_reducible rfl))
                      try simp only [sIB, sC0, sCS]
                      refine tkH 7 51 ?_ rfl hHeld (.inl ⟨by rfl, ?_⟩) ?_; rotate_left; focus (intro w' hSw; (try dsimp only at hSw); go_simp; (try with_reducible rfl))
                      try simp only [sIB, sC0, sCS]
                      refine tkH 8 52 ?_ rfl hHeld (.inl ⟨by rfl, ?_⟩) ?_; rotate_left; focus (intro w' hSw; (try dsimp only at hSw); go_simp; (try with_reducible rfl))
                      try simp only [sIB, sC0, sCS]
                      refine tkH 9 53 ?_ rfl hHeld (.inl ⟨by rfl, ?_⟩) ?_; rotate_left; focus (intro w' hSw; (try dsimp only at hSw); go_simp; (try with_reducible rfl))
                      try simp only [sIB, sC0, sCS]
                      refine tkH 10 54 ?_ rfl hHeld (.inl ⟨by rfl, ?_⟩) ?_; rotate_left; focus (intro w' hSw; (try dsimp only at hSw); go_simp; (try with_reducible rfl))
                      try simp only [sIB, sC0, sCS]
                      refine tkH 11 55 ?_ rfl hHeld (.inl ⟨by rfl, ?_⟩) ?_; rotate_left; focus (intro w' hSw; (try dsimp only at hSw); go_simp; (try with_reducible rfl))
                      try simp only [sIB, sC0, sCS]
                      refine tkH 12 56 ?_ rfl hHeld (.inl ⟨by rfl, ?_⟩) ?_; rotate_left; focus (intro w' hSw; (try dsimp only at hSw); go_simp; (try with_reducible rfl))
                      try simp only [sIB, sC0, sCS]
                      refine tkH 13 57 ?_ rfl hHeld (.inl ⟨by rfl, ?_⟩) ?_; rotate_left; focus (intro w' hSw; (try dsimp only at hSw); go_simp; (try with_reducible rfl))
                      try simp only [sIB, sC0, sCS]
                      refine tkH 14 58 ?_ rfl hHeld (.inl ⟨by rfl, ?_⟩) ?_; rotate_left; focus (intro w' hSw; (try dsimp only at hSw); go_simp; (try with_reducible rfl))
                      try simp only [sIB, sC0, sCS]
                      refine tkH 15 59 ?_ rfl hHeld (.inl ⟨by rfl, ?_⟩) ?_; rotate_left; focus (intro w' hSw; (try dsimp only at hSw); go_simp; (try with_reducible rfl))
                      try simp only [sIB, sC0, sCS]
                      refine tkH 16 60 ?_ rfl hHeld (.inl ⟨by rfl, ?_⟩) ?_; rotate_left; focus (intro w' hSw; (try dsimp only at hSw); go_simp; (try with_reducible rfl))
                      try simp only [sIB, sC0, sCS]
                      refine tkH 17 61 ?_ rfl hHeld (.inl ⟨by rfl, ?_⟩) ?_; rotate_left; focus (intro w' hSw; (try dsimp only at hSw); go_simp; (try with_reducible rfl))
                      try simp only [sIB, sC0, sCS]
                      refine tkH 18 62 ?_ rfl hHeld (.inl ⟨by rfl, ?_⟩) ?_; rotate_left; focus (intro w' hSw; (try dsimp only at hSw); go_simp; (try with_reducible rfl))
                      try simp only [sIB, sC0, sCS]
                      refine tkH 19 63 ?_ rfl hHeld (.inl ⟨by rfl, ?_⟩) ?_; rotate_left; focus (intro w' hSw; (try dsimp only at hSw); go_simp; (try with_reducible rfl))
                      try simp only [sIB, sC0, sCS]
                      refine tkH 20 64 ?_ rfl hHeld (.inl ⟨by rfl, ?_⟩) ?_; rotate_left; focus (intro w' hSw; (try dsimp only at hSw); go_simp; (try with_reducible rfl))
                      try simp only [sIB, sC0, sCS]
                      refine tkH 21 65 ?_ rfl hHeld (.inl ⟨by rfl, ?_⟩) ?_; rotate_left; focus (intro w' hSw; (try dsimp only at hSw); go_simp; (try with_reducible rfl))
                      try simp only [sIB, sC0, sCS]
                      refine tkH 22 66 ?_ rfl hHeld (.inl ⟨by rfl, ?_⟩) ?_; rotate_left; focus (intro w' hSw; (try dsimp only at hSw); go_simp; (try with_reducible rfl))
                      try simp only [sIB, sC0, sCS]
                      refine tkH 23 67 ?_ rfl hHeld (.inl ⟨by rfl, ?_⟩) ?_; rotate_left; focus (intro w' hSw; (try dsimp only at hSw); go_simp; (try with_reducible rfl))
                      try simp only [sIB, sC0, sCS]
                      refine tkH 24 68 ?_ rfl hHeld (.inl ⟨by rfl, ?_⟩) ?_; rotate_left; focus (intro w' hSw; (try dsimp only at hSw); go_simp; (try with_reducible rfl))
                      try simp only [sIB, sC0, sCS]
                      refine tkH 25 69 ?_ rfl hHeld (.inl ⟨by rfl, ?_⟩) ?_; rotate_left; focus (intro w' hSw; (try dsimp only at hSw); go_simp; (try with_reducible rfl))
                      try simp only [sIB, sC0, sCS]
                      refine tkH 26 70 ?_ rfl hHeld (.inl ⟨by rfl, ?_⟩) ?_; rotate_left; focus (intro w' hSw; (try dsimp only at hSw); go_simp; (try with_reducible rfl))
                      try simp only [sIB, sC0, sCS]
                      refine tkH 27 71 ?_ rfl hHeld (.inl ⟨by rfl, ?_⟩) ?_; rotate_left; focus (intro w' hSw; (try dsimp only at hSw); go_simp; (try with_reducible rfl))
                      try simp only [sIB, sC0, sCS]
                      refine tkH 28 72 ?_ rfl hHeld (.inl ⟨by rfl, ?_⟩) ?_; rotate_left; focus (intro w' hSw; (try dsimp only at hSw); go_simp; (try with_reducible rfl))
                      try simp only [sIB, sC0, sCS]
                      refine tkH 29 73 ?_ rfl hHeld (.inl ⟨by rfl, ?_⟩) ?_; rotate_left; focus (intro w' hSw; (try dsimp only at hSw); go_simp; (try with_reducible rfl))
                      try simp only [sIB, sC0, sCS]
                      refine tkH 30 74 ?_ rfl hHeld (.inl ⟨by rfl, ?_⟩) ?_; rotate_left; focus (intro w' hSw; (try dsimp only at hSw); go_simp; (try with_reducible rfl))
                      try simp only [sIB, sC0, sCS]
                      refine tkH 31 75 ?_ rfl hHeld (.inl ⟨by rfl, ?_⟩) ?_; rotate_left; focus (intro w' hSw; (try dsimp only at hSw); go_simp; (try with_reducible rfl))
                      try simp only [sIB, sC0, sCS]
                      refine wpAnyH_done (by kernel_rfl) ?_ _
                      clear hHeld m0 m1 mb l1
                      replace l0 : W2.drew.cell? ⟨b1, o1 + i, none⟩ = some (.int .i64 x) := l0
                      replace HO : Hid (W2.drew.ownsRow W.heap.size 3 1 (.slice A3 O.length c3) O.length (O.map (Value.int .i64))) := Lib.hid (own_drew HO.out)
                      replace HBO := Lib.hid HBO.out.drew
                      generalize W2.drew = W2 at *
                      go_wp2_with (at_builtin; refine app_one W.heap.size 57 3 (.int .i64 0) 1 8 [_] 1 _ _ rfl rfl Tryz.underlying57 info_int5 rfl (by decide) _ _ _ rfl rfl rfl (by intro u hu; simp at hu; subst hu; rfl) HO.out (by omega) (by omega) HBO.out.size ?_)
                      intro v' w6 hown hg6
                      obtain ⟨A4, c4, rfl⟩ := own_slice hown
                      have hk6 : Below W.heap.size W2 w6 := Keep.below (Keep.of_grown (F := fun g => (Value.slice A3 O.length c3).ownBlock = some g) hg6 (fun g hg => hg)) HBO.out.size (fun x hx => own_base HO.out x hx)
                      have HO6 : Hid (w6.ownsRow W.heap.size 3 1 (.slice A4 (O ++ [x]).length c4) (O ++ [x]).length ((O ++ [x]).map (Value.int .i64))) := Lib.hid (by rw [List.length_append, List.map_append]; exact hown)
                      have HB6 := Lib.hid (HBO.out.trans hk6)
                      have HL6 : Hid ((O ++ [x]).length = O.length + 1) := Lib.hid (by simp)
                      clear hown hg6 hk6
                      go_wp2_with fail
                      go_roundg (gk - 1)
                      case measure => have := HI.out; omega
                      case rel => exact ⟨i + 1, O ++ [x], A4, c4, by have := HI.out; omega, by go_num, by rw [HL6.out], HO6.out, HB6.out, HREP.out, by rw [HL6.out]; omega⟩
                  · have hxa : (x == a) = false := by simpa using hx
                    have HREP := Lib.hid (HX.out.2 (fun e => hx e.1))
                    clear hx
                    go_upto_region 13 with fail
                    refine wp_region_held_drew (S := fun V => V.cell? ⟨w.heap.size, 1, none⟩ = some (.slice (some ⟨ba, o, none⟩) M.length c2) ∧ V.cell? ⟨ba, o + k * 2, none⟩ = some (.int .i64 a) ∧ V.cell? ⟨ba, o + k * 2 + 1, none⟩ = some (.int .i64 b) ∧ V.cell? ⟨b1, o1 + i, none⟩ = some (.int .i64 x) ∧ V.cell? ⟨b1, o1 + (i + 1), none⟩ = some (.int .i64 y)) (by kernel_rfl) (by exact ⟨m1, m0, mb, l0, l1⟩) (fun hHeld => ?_)
                    refine tkH 0 44 ?_ rfl hHeld (.inl ⟨by rfl, ?_⟩) ?_; rotate_left; focus (intro w' hSw; (try dsimp only at hSw); go_simp; (try with_reducible rfl))
                    try simp only [sIB, sC0, sCS]
                    refine tkH 1 45 ?_ rfl hHeld (.inl ⟨by rfl, ?_⟩) ?_; rotate_left; focus (intro w' hSw; (try dsimp only at hSw); go_simp; (try with_reducible rfl))
                    try simp only [sIB, sC0, sCS]
                    refine tkH 2 46 ?_ rfl hHeld (.inl ⟨by rfl, ?_⟩) ?_; rotate_left; focus (intro w' hSw; (try dsimp only at hSw); go_simp; (try with_reducible rfl))
                    try simp only [sIB, sC0, sCS]
                    refine tkH 3 47 ?_ rfl hHeld (.inl ⟨by rfl, ?_⟩) ?_; rotate_left; focus (intro w' hSw; (try dsimp only at hSw); go_simp; (try with_reducible rfl))
                    try simp only [sIB, sC0, sCS]
                    refine tkH 4 48 ?_ rfl hHeld (.inl ⟨by rfl, ?_⟩) ?_; rotate_left; focus (intro w' hSw; (try dsimp only at hSw); go_simp; (try with_reducible rfl))
                    try simp only [sIB, sC0, sCS]
                    refine tkH 5 49 ?_ rfl hHeld (.inl ⟨by rfl, ?_⟩) ?_; rotate_left; focus (intro w' hSw; (try dsimp only at hSw); go_simp; (try with_reducible rfl))
                    try simp only [sIB, sC0, sCS]
                    refine tkH 6 50 ?_ rfl hHeld (.inl ⟨by rfl, ?_⟩) ?_; rotate_left; focus (intro w' hSw; (try dsimp only at hSw); go_simp; (try with_reducible rfl))
                    try simp only [sIB, sC0, sCS]
                    refine tkH 7 51 ?_ rfl hHeld (.inl ⟨by rfl, ?_⟩) ?_; rotate_left; focus (intro w' hSw; (try dsimp only at hSw); go_simp; (try with_reducible rfl))
                    try simp only [sIB, sC0, sCS]
                    refine tkH 8 52 ?_ rfl hHeld (.inl ⟨by rfl, ?_⟩) ?_; rotate_left; focus (intro w' hSw; (try dsimp only at hSw); go_simp; (try with_reducible rfl))
                    try simp only [sIB, sC0, sCS]
                    refine tkH 9 53 ?_ rfl hHeld (.inl ⟨by rfl, ?_⟩) ?_; rotate_left; focus (intro w' hSw; (try dsimp only at hSw); go_simp; (try with_reducible rfl))
                    try simp only [sIB, sC0, sCS]
                    refine tkH 10 54 ?_ rfl hHeld (.inl ⟨by rfl, ?_⟩) ?_; rotate_left; focus (intro w' hSw; (try dsimp only at hSw); go_simp; (try with_reducible rfl))
                    try simp only [sIB, sC0, sCS]
                    refine tkH 11 55 ?_ rfl hHeld (.inl ⟨by rfl, ?_⟩) ?_; rotate_left; focus (intro w' hSw; (try dsimp only at hSw); go_simp; (try with_reducible rfl))
                    try simp only [sIB, sC0, sCS]
                    refine tkH 12 56 ?_ rfl hHeld (.inl ⟨by rfl, ?_⟩) ?_; rotate_left; focus (intro w' hSw; (try dsimp only at hSw); go_simp; (try with_reducible rfl))
                    try simp only [sIB, sC0, sCS]
                    refine tkH 13 57 ?_ rfl hHeld (.inl ⟨by rfl, ?_⟩) ?_; rotate_left; focus (intro w' hSw; (try dsimp only at hSw); go_simp; (try with_reducible rfl))
                    try simp only [sIB, sC0, sCS]
                    refine tkH 14 58 ?_ rfl hHeld (.inl ⟨by rfl, ?_⟩) ?_; rotate_left; focus (intro w' hSw; (try dsimp only at hSw); go_simp; (try with_reducible rfl))
                    try simp only [sIB, sC0, sCS]
                    refine tkH 15 59 ?_ rfl hHeld (.inl ⟨by rfl, ?_⟩) ?_; rotate_left; focus (intro w' hSw; (try dsimp only at hSw); go_simp; (try with_reducible rfl))
                    try simp only [sIB, sC0, sCS]
                    refine tkH 16 60 ?_ rfl hHeld (.inl ⟨by rfl, ?_⟩) ?_; rotate_left; focus (intro w' hSw; (try dsimp only at hSw); go_simp; (try with_reducible rfl))
                    try simp only [sIB, sC0, sCS]
                    refine tkH 17 61 ?_ rfl hHeld (.inl ⟨by rfl, ?_⟩) ?_; rotate_left; focus (intro w' hSw; (try dsimp only at hSw); go_simp; (try with_reducible rfl))
                    try simp only [sIB, sC0, sCS]
                    refine tkH 18 62 ?_ rfl hHeld (.inl ⟨by rfl, ?_⟩) ?_; rotate_left; focus (intro w' hSw; (try dsimp only at hSw); go_simp; (try with_reducible rfl))
                    try simp only [sIB, sC0, sCS]
                    refine tkH 19 63 undef rfl hHeld (.inr ⟨by rfl, rfl⟩) ?_; try simp only [sIB, sC0, sCS]
                    refine tkH 20 64 undef rfl hHeld (.inr ⟨by rfl, rfl⟩) ?_; try simp only [sIB, sC0, sCS]
                    refine tkH 21 65 undef rfl hHeld (.inr ⟨by rfl, rfl⟩) ?_; try simp only [sIB, sC0, sCS]
                    refine tkH 22 66 undef rfl hHeld (.inr ⟨by rfl, rfl⟩) ?_; try simp only [sIB, sC0, sCS]
                    refine tkH 23 67 undef rfl hHeld (.inr ⟨by rfl, rfl⟩) ?_; try simp only [sIB, sC0, sCS]
                    refine tkH 24 68 undef rfl hHeld (.inr ⟨by rfl, rfl⟩) ?_; try simp only [sIB, sC0, sCS]
                    refine tkH 25 69 undef rfl hHeld (.inr ⟨by rfl, rfl⟩) ?_; try simp only [sIB, sC0, sCS]
                    refine tkH 26 70 undef rfl hHeld (.inr ⟨by rfl, rfl⟩) ?_; try simp only [sIB, sC0, sCS]
                    refine tkH 27 71 undef rfl hHeld (.inr ⟨by rfl, rfl⟩) ?_; try simp only [sIB, sC0, sCS]
                    refine tkH 28 72 undef rfl hHeld (.inr ⟨by rfl, rfl⟩) ?_; try simp only [sIB, sC0, sCS]
                    refine tkH 29 73 undef rfl hHeld (.inr ⟨by rfl, rfl⟩) ?_; try simp only [sIB, sC0, sCS]
                    refine tkH 30 74 undef rfl hHeld (.inr ⟨by rfl, rfl⟩) ?_; try simp only [sIB, sC0, sCS]
                    refine tkH 31 75 ?_ rfl hHeld (.inl ⟨by rfl, ?_⟩) ?_; rotate_left; focus (intro w' hSw; (try dsimp only at hSw); go_simp; (try with_reducible rfl))
                    try simp only [sIB, sC0, sCS]
                    refine wpAnyH_done (by kernel_rfl) ?_ _
                    clear hHeld m0 m1 mb l1
                    replace l0 : W2.drew.cell? ⟨b1, o1 + i, none⟩ = some (.int .i64 x) := l0
                    replace HO : Hid (W2.drew.ownsRow W.heap.size 3 1 (.slice A3 O.length c3) O.length (O.map (Value.int .i64))) := Lib.hid (own_drew HO.out)
                    replace HBO := Lib.hid HBO.out.drew
                    generalize W2.drew = W2 at *
                    go_wp2_with (at_builtin; refine app_one W.heap.size 57 3 (.int .i64 0) 1 8 [_] 1 _ _ rfl rfl Tryz.underlying57 info_int5 rfl (by decide) _ _ _ rfl rfl rfl (by intro u hu; simp at hu; subst hu; rfl) HO.out (by omega) (by omega) HBO.out.size ?_)
                    intro v' w6 hown hg6
                    obtain ⟨A4, c4, rfl⟩ := own_slice hown
                    have hk6 : Below W.heap.size W2 w6 := Keep.below (Keep.of_grown (F := fun g => (Value.slice A3 O.length c3).ownBlock = some g) hg6 (fun g hg => hg)) HBO.out.size (fun x hx => own_base HO.out x hx)
                    have HO6 : Hid (w6.ownsRow W.heap.size 3 1 (.slice A4 (O ++ [x]).length c4) (O ++ [x]).length ((O ++ [x]).map (Value.int .i64))) := Lib.hid (by rw [List.length_append, List.map_append]; exact hown)
                    have HB6 := Lib.hid (HBO.out.trans hk6)
                    have HL6 : Hid ((O ++ [x]).length = O.length + 1) := Lib.hid (by simp)
                    clear hown hg6 hk6
                    go_wp2_with fail
                    go_roundg (gk - 1)
                    case measure => have := HI.out; omega
                    case rel => exact ⟨i + 1, O ++ [x], A4, c4, by have := HI.out; omega, by go_num, by rw [HL6.out], HO6.out, HB6.out, HREP.out, by rw [HL6.out]; omega⟩
                · have p2 : ¬ (i : Int) + 1 < (L.length : Int) := by omega
                  have HREP : Hid (O ++ [L[i]] ++ rep a b (256 + (k : Int)) (L.drop (i + 1)) = rep a b (256 + (k : Int)) L) := Lib.hid (by rw [← HREP0.out, rep_one hlt (fun ⟨e, _⟩ => hn e)]; simp)
                  generalize L[i] = x at *
                  go_upto_region 13 with fail
                  refine wp_region_held_drew (S := fun V => V.cell? ⟨w.heap.size, 1, none⟩ = some (.slice (some ⟨ba, o, none⟩) M.length c2) ∧ V.cell? ⟨ba, o + k * 2, none⟩ = some (.int .i64 a) ∧ V.cell? ⟨ba, o + k * 2 + 1, none⟩ = some (.int .i64 b) ∧ V.cell? ⟨b1, o1 + i, none⟩ = some (.int .i64 x)) (by kernel_rfl) (by exact ⟨m1, m0, mb, l0⟩) (fun hHeld => ?_)
                  refine tkH 0 44 ?_ rfl hHeld (.inl ⟨by rfl, ?_⟩) ?_; rotate_left; focus (intro w' hSw; (try dsimp only at hSw); go_simp; (try with_reducible rfl))
                  try simp only [sIB, sC0, sCS]
                  refine tkH 1 45 ?_ rfl hHeld (.inl ⟨by rfl, ?_⟩) ?_; rotate_left; focus (intro w' hSw; (try dsimp only at hSw); go_simp; (try with_reducible rfl))
                  try simp only [sIB, sC0, sCS]
                  refine tkH 2 46 ?_ rfl hHeld (.inl ⟨by rfl, ?_⟩) ?_; rotate_left; focus (intro w' hSw; (try dsimp only at hSw); go_simp; (try with_reducible rfl))
                  try simp only [sIB, sC0, sCS]
                  refine tkH 3 47 ?_ rfl hHeld (.inl ⟨by rfl, ?_⟩) ?_; rotate_left; focus (intro w' hSw; (try dsimp only at hSw); go_simp; (try with_reducible rfl))
                  try simp only [sIB, sC0, sCS]
                  refine tkH 4 48 ?_ rfl hHeld (.inl ⟨by rfl, ?_⟩) ?_; rotate_left; focus (intro w' hSw; (try dsimp only at hSw); go_simp; (try with_reducible rfl))
                  try simp only [sIB, sC0, sCS]
                  refine tkH 5 49 ?_ rfl hHeld (.inl ⟨by rfl, ?_⟩) ?_; rotate_left; focus (intro w' hSw; (try dsimp only at hSw); go_simp; (try with_reducible rfl))
                  try simp only [sIB, sC0, sCS]
                  refine tkH 6 50 undef rfl hHeld (.inr ⟨by rfl, rfl⟩) ?_; try simp only [sIB, sC0, sCS]
                  refine tkH 7 51 undef rfl hHeld (.inr ⟨by rfl, rfl⟩) ?_; try simp only [sIB, sC0, sCS]
                  refine tkH 8 52 undef rfl hHeld (.inr ⟨by rfl, rfl⟩) ?_; try simp only [sIB, sC0, sCS]
                  refine tkH 9 53 undef rfl hHeld (.inr ⟨by rfl, rfl⟩) ?_; try simp only [sIB, sC0, sCS]
                  refine tkH 10 54 undef rfl hHeld (.inr ⟨by rfl, rfl⟩) ?_; try simp only [sIB, sC0, sCS]
                  refine tkH 11 55 undef rfl hHeld (.inr ⟨by rfl, rfl⟩) ?_; try simp only [sIB, sC0, sCS]
                  refine tkH 12 56 undef rfl hHeld (.inr ⟨by rfl, rfl⟩) ?_; try simp only [sIB, sC0, sCS]
                  refine tkH 13 57 undef rfl hHeld (.inr ⟨by rfl, rfl⟩) ?_; try simp only [sIB, sC0, sCS]
                  refine tkH 14 58 undef rfl hHeld (.inr ⟨by rfl, rfl⟩) ?_; try simp only [sIB, sC0, sCS]
                  refine tkH 15 59 undef rfl hHeld (.inr ⟨by rfl, rfl⟩) ?_; try simp only [sIB, sC0, sCS]
                  refine tkH 16 60 undef rfl hHeld (.inr ⟨by rfl, rfl⟩) ?_; try simp only [sIB, sC0, sCS]
                  refine tkH 17 61 ?_ rfl hHeld (.inl ⟨by rfl, ?_⟩) ?_; rotate_left; focus (intro w' hSw; (try dsimp only at hSw); go_simp; (try with_reducible rfl))
                  try simp only [sIB, sC0, sCS]
                  refine tkH 18 62 ?_ rfl hHeld (.inl ⟨by rfl, ?_⟩) ?_; rotate_left; focus (intro w' hSw; (try dsimp only at hSw); go_simp; (try with_reducible rfl))
                  try simp only [sIB, sC0, sCS]
                  refine tkH 19 63 undef rfl hHeld (.inr ⟨by rfl, rfl⟩) ?_; try simp only [sIB, sC0, sCS]
                  refine tkH 20 64 undef rfl hHeld (.inr ⟨by rfl, rfl⟩) ?_; try simp only [sIB, sC0, sCS]
                  refine tkH 21 65 undef rfl hHeld (.inr ⟨by rfl, rfl⟩) ?_; try simp only [sIB, sC0, sCS]
                  refine tkH 22 66 undef rfl hHeld (.inr ⟨by rfl, rfl⟩) ?_; try simp only [sIB, sC0, sCS]
                  refine tkH 23 67 undef rfl hHeld (.inr ⟨by rfl, rfl⟩) ?_; try simp only [sIB, sC0, sCS]
                  refine tkH 24 68 undef rfl hHeld (.inr ⟨by rfl, rfl⟩) ?_; try simp only [sIB, sC0, sCS]
                  refine tkH 25 69 undef rfl hHeld (.inr ⟨by rfl, rfl⟩) ?_; try simp only [sIB, sC0, sCS]
                  refine tkH 26 70 undef rfl hHeld (.inr ⟨by rfl, rfl⟩) ?_; try simp only [sIB, sC0, sCS]
                  refine tkH 27 71 undef rfl hHeld (.inr ⟨by rfl, rfl⟩) ?_; try simp only [sIB, sC0, sCS]
                  refine tkH 28 72 undef rfl hHeld (.inr ⟨by rfl, rfl⟩) ?_; try simp only [sIB, sC0, sCS]
                  refine tkH 29 73 undef rfl hHeld (.inr ⟨by rfl, rfl⟩) ?_; try simp only [sIB, sC0, sCS]
                  refine tkH 30 74 undef rfl hHeld (.inr ⟨by rfl, rfl⟩) ?_; try simp only [sIB, sC0, sCS]
                  refine tkH 31 75 ?_ rfl hHeld (.inl ⟨by rfl, ?_⟩) ?_; rotate_left; focus (intro w' hSw; (try dsimp only at hSw); go_simp; (try with_reducible rfl))
                  try simp only [sIB, sC0, sCS]
                  refine wpAnyH_done (by kernel_rfl) ?_ _
                  clear hHeld m0 m1 mb
                  replace l0 : W2.drew.cell? ⟨b1, o1 + i, none⟩ = some (.int .i64 x) := l0
                  replace HO : Hid (W2.drew.ownsRow W.heap.size 3 1 (.slice A3 O.length c3) O.length (O.map (Value.int .i64))) := Lib.hid (own_drew HO.out)
                  replace HBO := Lib.hid HBO.out.drew
                  generalize W2.drew = W2 at *
                  go_wp2_with (at_builtin; refine app_one W.heap.size 57 3 (.int .i64 0) 1 8 [_] 1 _ _ rfl rfl Tryz.underlying57 info_int5 rfl (by decide) _ _ _ rfl rfl rfl (by intro u hu; simp at hu; subst hu; rfl) HO.out (by omega) (by omega) HBO.out.size ?_)
                  intro v' w6 hown hg6
                  obtain ⟨A4, c4, rfl⟩ := own_slice hown
                  have hk6 : Below W.heap.size W2 w6 := Keep.below (Keep.of_grown (F := fun g => (Value.slice A3 O.length c3).ownBlock = some g) hg6 (fun g hg => hg)) HBO.out.size (fun x hx => own_base HO.out x hx)
                  have HO6 : Hid (w6.ownsRow W.heap.size 3 1 (.slice A4 (O ++ [x]).length c4) (O ++ [x]).length ((O ++ [x]).map (Value.int .i64))) := Lib.hid (by rw [List.length_append, List.map_append]; exact hown)
                  have HB6 := Lib.hid (HBO.out.trans hk6)
                  have HL6 : Hid ((O ++ [x]).length = O.length + 1) := Lib.hid (by simp)
                  clear hown hg6 hk6
                  go_wp2_with fail
                  go_roundg (gk - 1)
                  case measure => have := HI.out; omega
                  case rel => exact ⟨i + 1, O ++ [x], A4, c4, by have := HI.out; omega, by go_num, by rw [HL6.out], HO6.out, HB6.out, HREP.out, by rw [HL6.out]; omega⟩
              · have hie : i = L.length := by omega
                subst hie
                have HNL : Hid (O = rep a b (256 + (k : Int)) L) := Lib.hid (by have := HREP0.out; rw [List.drop_length] at this; simpa [rep] using this)
                have HNEW : Hid (REn W0 W2 (.slice A3 O.length c3) O) := Lib.hid ⟨⟨A3, c3, rfl, own_less HO.out HREN.out.bl.size⟩, HREN.out.bl.trans (HBO.out.mono HREN.out.bl.size)⟩
                have HSQ2 : Hid (seqE (MB.drop (k + 1)) (256 + ((k + 1 : Nat) : Int)) O = E0) := Lib.hid (by rw [HNL.out, ← HNX.out]; exact HSQ.out)
                clear hi
                go_wp2_with fail
                go_roundg (M.length - (k + 1))
                case measure => have := HK.out; omega
                case rel => exact ⟨k + 1, O, A3, c3, by have := HK.out; omega, by go_num, rfl, HNEW.out, HSQ2.out, Nat.le_trans hol HLS.out⟩
          · have HFIN : Hid (L = E0) := Lib.hid (by rw [← HSQ.out]; exact (HALL.out k L (.inr (by omega))).symm)
            go_wp2_with fail
            go_ret
            exact ⟨⟨_, rfl, by rw [HEE.out, ← HFIN.out]; exact ints_less HREN.out.row (Nat.le_of_lt HG0.out)⟩, HB.out.trans (HREN.out.bl.mono (Nat.le_of_lt HG0.out))⟩
        · have q1 : ¬ (k : Int) < (M.length : Int) := by omega
          have HFIN : Hid (L = E0) := Lib.hid (by rw [← HSQ.out]; exact (HALL.out k L (.inl (by omega))).symm)
          go_wp2_with fail
          go_ret
          exact ⟨⟨_, rfl, by rw [HEE.out, ← HFIN.out]; exact ints_less HREN.out.row (Nat.le_of_lt HG0.out)⟩, HB.out.trans (HREN.out.bl.mono (Nat.le_of_lt HG0.out))⟩
end
def bytesV (x : List UInt8) : List Value := x.map fun b => Value.int .u8 b.toNat
theorem info_u8 : (Tryz.prog.info? 5).map (fun i => (i.zero, i.size, i.bytes)) = some (some (.int .u8 0), 1, 1) := by kernel_rfl
theorem conv_own {w : World} {base n : Nat} {v : Value} {x : List UInt8} (h : w.ownsRow base 5 1 v n (bytesV x)) : (convert 126 9 v).run Tryz.prog w = .ok (.string (bs x)) w := by
  have hl := h.1
  rw [Nat.mul_one] at hl
  have hl2 : x.length = n := by rw [← hl]; simp [bytesV]
  rcases h.2 with ⟨rfl, rfl⟩ | ⟨g, cap, cur, rfl, _⟩
  · have : x = [] := List.eq_nil_of_length_eq_zero hl2
    subst this
    simp [go_sem, bs]
    rfl
  · have := run_convert_bytes_back (P := Tryz.prog) w 126 9 5 ⟨g, 0, none⟩ cap x Tryz.underlying126 Tryz.underlying5 Tryz.underlying9 (fun j hj => by
      have := h.cells (g := g) rfl j (.int .u8 (x[j]).toNat) (by simp [bytesV, hj])
      exact this)
    rw [hl2] at this
    exact this
def catT (T : List Ent) (l : List Int) : List UInt8 := l.flatMap (bytesT T)
section
variable {w w' : World} {base : Nat} {T : List Ent} {vb vm : Value}
theorem rall_any (h : RefIs w base T vb vm) (hT : OkT T) (s : ByteArray) (hs : s.size ≤ 100000000) :
    Calls Tryz.prog 59 #[.agg #[vb, vm], .string s] w fun e w' => (∃ v, e = .returned v ∧ IntsIs w' w.heap.size v (encT T T.length s.data.toList)) ∧ Below w.heap.size w w' := by
  obtain ⟨A, c, rfl⟩ := own_slice h.row
  obtain ⟨A2, c2, hvm⟩ := own_slice h.mrg
  subst hvm
  have hb0 := (Below.refl w.heap.size w).alloc (Nat.le_refl _) (.cells #[.slice A T.length c, .slice A2 (mrgsT T).length c2] 34)
  have n0 := blk_cell (blk_new w (.cells #[.slice A T.length c, .slice A2 (mrgsT T).length c2] 34)) 0
  have n1 := blk_cell (blk_new w (.cells #[.slice A T.length c, .slice A2 (mrgsT T).length c2] 34)) 1
  simp only [List.getElem?_toArray, List.getElem?_cons_zero, List.getElem?_cons_succ] at n0 n1
  have HB := Lib.hid hb0
  have HC := Lib.hid (renc_any (h.below hb0 (Nat.le_refl _)) hT s hs (T.length : Int))
  clear hb0 h hT
  go_enter Tryz.func59, Tryz.ntmps59
  go_wp2_with fail
  refine HC.out.mono ?_
  rintro e w2 ⟨⟨v, rfl, hv⟩, hb⟩
  have HV := Lib.hid (ints_less hv HB.out.size)
  have HB2 := Lib.hid (HB.out.trans (hb.mono HB.out.size))
  clear hv hb HC
  go_wp2_with fail
  go_ret
  exact ⟨⟨v, rfl, HV.out⟩, HB2.out⟩
end
theorem adds_take (l : List (Int × Int)) : ∀ (T T' : List Ent) (k : Nat) (hk : k < l.length) (Tk : List Ent), addsT T l = some T' → addsT T (l.take k) = some Tk → (addT Tk l[k].1 l[k].2).2.1 = 0 := by
  induction l with
  | nil => intro T T' k hk; exact absurd hk (by simp)
  | cons a l ih =>
    intro T T' k hk Tk h1 h2
    simp only [addsT] at h1
    split at h1
    · rename_i h0
      match k, hk, h2 with
      | 0, _, h2 => simp only [List.take_zero, addsT, Option.some.injEq] at h2; subst h2; exact h0
      | k + 1, hk, h2 =>
        simp only [List.take_succ_cons, addsT, if_pos h0] at h2
        exact ih _ _ k (by simpa using hk) _ h1 h2
    · cases h1
structure BothIs (w w' : World) (T : List Ent) (tb : Nat) (sv : Value) (mb mp : Nat) (vb vm : Value) : Prop where
  tab : TabIs w' w.heap.size tb T sv mb mp
  ref : RefIs w' w.heap.size T vb vm
  bl : Below w.heap.size w w'
theorem BothIs.step {w w' w2 : World} {T : List Ent} {tb : Nat} {sv : Value} {mb mp : Nat} {vb vm : Value} (h : BothIs w w' T tb sv mb mp vb vm) (hb : Below w'.heap.size w' w2) : BothIs w w2 T tb sv mb mp vb vm :=
  ⟨h.tab.below hb (Nat.le_refl _), h.ref.below hb (Nat.le_refl _), h.bl.trans (hb.mono h.bl.size)⟩
theorem TabIs.less {w : World} {b base tb : Nat} {T : List Ent} {sv : Value} {mb mp : Nat} (h : TabIs w b tb T sv mb mp) (hle : base ≤ b) : TabIs w base tb T sv mb mp :=
  ⟨h.blk, own_less h.row hle, h.bys, h.prs, h.ne, by have := h.lt; omega⟩
theorem new_ok {l : List (Int × Int)} {T : List Ent} (hT : addsT baseT l = some T) (A : Option Addr) (c : Nat) (w : World) (hl : Sl w A encM 2 l) (hlen : l.length < 9000000000000000000) :
    Calls Tryz.prog 21 #[.slice A l.length c] w fun e w' => ∃ tb sv mb mp, e = .returned (.tuple #[.pointer (some ⟨tb, 0, none⟩), .int .i64 (l.length : Nat), .int .i64 0]) ∧ OkT T ∧ TabIs w' w.heap.size tb T sv mb mp ∧ Below w.heap.size w w' := by
  refine (new_any l A c w hl hlen).mono ?_
  rintro e w' ⟨hb, (⟨T', tb, sv, mb, mp, rfl, ha, hok, ht⟩ | ⟨k, hk, T', ha, hok, he, rfl⟩)⟩
  · rw [hT] at ha
    injection ha with ha
    subst ha
    exact ⟨tb, sv, mb, mp, rfl, hok, ht, hb⟩
  · exact absurd (adds_take l baseT T k hk T' hT ha) he
theorem sl_mrg {w : World} {g : Nat} {l : List (Int × Int)} (h : w.heap[g]? = some (.cells (l.flatMap encM).toArray 55)) : Sl w (some ⟨g, 0, none⟩) encM 2 l := by
  intro i x hx
  refine ⟨g, 0, rfl, fun j v hv => ?_⟩
  rw [blk_cell h, List.getElem?_toArray, Nat.zero_add]
  have key : ∀ (l : List (Int × Int)) (i : Nat), l[i]? = some x → (l.flatMap encM)[i * 2 + j]? = some v := by
    intro l
    induction l with
    | nil => intro i h; simp at h
    | cons y ys ih =>
      intro i hx
      have hj : j < 2 := (List.getElem?_eq_some_iff.1 hv).1
      cases i with
      | zero =>
        simp at hx
        subst hx
        rw [List.flatMap_cons, List.getElem?_append_left (by show 0 * 2 + j < 2; omega)]
        simpa using hv
      | succ i =>
        simp at hx
        rw [List.flatMap_cons, List.getElem?_append_right (by show 2 ≤ _; omega)]
        have := ih i hx
        rw [show (i + 1) * 2 + j - (encM y).length = i * 2 + j by show (i + 1) * 2 + j - 2 = _; omega]
        exact this
  exact key l i hx
theorem rep_len (a b c : Int) : ∀ l, (rep a b c l).length ≤ l.length
  | [] => Nat.le_refl _
  | [x] => Nat.le_refl _
  | x :: y :: l => by
    rw [rep]
    split
    · have := rep_len a b c l
      simp only [List.length_cons]; omega
    · have := rep_len a b c (y :: l)
      simp only [List.length_cons] at this ⊢; omega
theorem seqE_len : ∀ (M : List (Int × Int)) (c : Int) (l : List Int), (seqE M c l).length ≤ l.length
  | [], _, _ => Nat.le_refl _
  | m :: M, c, l => Nat.le_trans (seqE_len M (c + 1) (rep m.1 m.2 c l)) (rep_len _ _ _ _)
theorem encT_len (T : List Ent) (bel : Int) (s : ByteArray) : (encT T bel s.data.toList).length ≤ s.size := by
  refine Nat.le_trans (seqE_len _ _ _) ?_
  unfold bysI
  rw [List.length_map, dataLen]
  exact Nat.le_refl _
theorem rep_cat (T : List Ent) (a b c : Int) (h : bytesT T c = bytesT T a ++ bytesT T b) : ∀ l : List Int, catT T (rep a b c l) = catT T l
  | [] => rfl
  | [x] => rfl
  | x :: y :: l => by
    rw [rep]
    split
    · rename_i e
      have ih := rep_cat T a b c h l
      unfold catT at ih ⊢
      rw [List.flatMap_cons, List.flatMap_cons, List.flatMap_cons, ih, h, e.1, e.2, List.append_assoc]
    · have ih := rep_cat T a b c h (y :: l)
      unfold catT at ih ⊢
      rw [List.flatMap_cons, ih]
      simp
theorem seqE_cat (T : List Ent) : ∀ (M : List (Int × Int)) (c : Int) (l : List Int), (∀ (k : Nat) m, M[k]? = some m → bytesT T (c + k) = bytesT T m.1 ++ bytesT T m.2) → catT T (seqE M c l) = catT T l
  | [], _, _, _ => rfl
  | m :: M, c, l, h => by
    rw [seqE, seqE_cat T M (c + 1) _ (fun k x hx => by have := h (k + 1) x (by simpa using hx); rw [← this]; congr 1; omega)]
    exact rep_cat T _ _ _ (by have := h 0 m rfl; simpa using this) l
theorem rep_all (p : Int → Prop) (a b c : Int) (hc : p c) : ∀ l : List Int, (∀ x ∈ l, p x) → ∀ x ∈ rep a b c l, p x
  | [], h => h
  | [x], h => h
  | x :: y :: l, h => by
    rw [rep]
    split
    · intro z hz
      rcases List.mem_cons.1 hz with rfl | hz
      · exact hc
      · exact rep_all p a b c hc l (fun u hu => h u (by simp [hu])) z hz
    · intro z hz
      rcases List.mem_cons.1 hz with rfl | hz
      · exact h _ (by simp)
      · exact rep_all p a b c hc (y :: l) (fun u hu => h u (List.mem_cons_of_mem _ hu)) z hz
theorem seqE_all (p : Int → Prop) : ∀ (M : List (Int × Int)) (c : Int) (l : List Int), (∀ k : Nat, k < M.length → p (c + k)) → (∀ x ∈ l, p x) → ∀ x ∈ seqE M c l, p x
  | [], _, _, _, h => h
  | m :: M, c, l, hM, h => by
    rw [seqE]
    refine seqE_all p M (c + 1) _ (fun k hk => ?_) (rep_all p _ _ _ ?_ l h)
    · have := hM (k + 1) (by simpa using hk)
      rw [show c + 1 + (k : Int) = c + ((k + 1 : Nat) : Int) by omega]
      exact this
    · have := hM 0 (by simp)
      simpa using this
theorem mrgsB_at {T : List Ent} (hT : OkT T) {bel : Int} {k : Nat} {m : Int × Int} (h : (mrgsB T bel)[k]? = some m) : hasT T (256 + (k : Int)) = true ∧ bytesT T (256 + (k : Int)) = bytesT T m.1 ++ bytesT T m.2 := by
  unfold mrgsB at h
  rw [List.getElem?_take] at h
  by_cases hlt : k < (bel - 256).toNat
  · rw [if_pos hlt] at h
    obtain ⟨h1, h2⟩ := mrgs_at h
    obtain ⟨q1, _, _, q4, q5, _⟩ := made_all hT (i := 256 + k) (by omega) h1
    have e : parT T ((256 + k : Nat) : Int) = m := by unfold parT; rw [if_pos q1]; exact h2
    rw [e] at q5
    rw [show (256 : Int) + (k : Int) = ((256 + k : Nat) : Int) by omega]
    exact ⟨q4, q5⟩
  · rw [if_neg hlt] at h; simp at h
theorem byte_has {T : List Ent} (hT : OkT T) {i : Nat} (hi : i < 256) : hasT T (i : Int) = true ∧ bytesT T (i : Int) = [UInt8.ofNat i] := by
  have h2 := okT_256 hT
  have hh : hasT T (i : Int) = true := by simp [hasT]; omega
  refine ⟨hh, ?_⟩
  unfold bytesT
  rw [if_pos hh, base_ent hT hi]
theorem bysI_cat {T : List Ent} (hT : OkT T) (s : List UInt8) : catT T (bysI s) = s := by
  induction s with
  | nil => rfl
  | cons x s ih =>
    have e : catT T (bysI (x :: s)) = bytesT T (x.toNat : Int) ++ catT T (bysI s) := rfl
    rw [e, ih, (byte_has hT x.toNat_lt).2]
    simp
theorem bysI_has {T : List Ent} (hT : OkT T) (s : List UInt8) : ∀ x ∈ bysI s, hasT T x = true := by
  intro x hx
  unfold bysI at hx
  obtain ⟨c, _, rfl⟩ := List.mem_map.1 hx
  exact (byte_has hT c.toNat_lt).1
theorem encT_cat {T : List Ent} (hT : OkT T) (bel : Int) (s : List UInt8) : catT T (encT T bel s) = s := by
  unfold encT
  rw [seqE_cat T _ _ _ (fun k m h => (mrgsB_at hT h).2), bysI_cat hT]
theorem encT_has {T : List Ent} (hT : OkT T) (bel : Int) (s : List UInt8) : ∀ x ∈ encT T bel s, hasT T x = true := by
  unfold encT
  refine seqE_all (fun x => hasT T x = true) _ _ _ (fun k hk => (mrgsB_at hT (List.getElem?_eq_getElem hk)).1) (bysI_has hT s)
theorem rep_split (a b c : Int) : ∀ (l W1 W2 : List Int), rep a b c l = W1 ++ W2 → ∃ U1 U2, l = U1 ++ U2 ∧ W1 = rep a b c U1 ∧ W2 = rep a b c U2
  | l, [], W2, h => ⟨[], l, rfl, rfl, h.symm⟩
  | [], w :: W1, W2, h => by simp [rep] at h
  | [x], w :: W1, W2, h => by
    simp [rep] at h
    obtain ⟨rfl, rfl, rfl⟩ := h
    exact ⟨[x], [], rfl, rfl, rfl⟩
  | x :: y :: l, w :: W1, W2, h => by
    rw [rep] at h
    split at h
    · rename_i e
      simp at h
      obtain ⟨rfl, h⟩ := h
      obtain ⟨U1, U2, rfl, rfl, rfl⟩ := rep_split a b c l W1 W2 h
      exact ⟨x :: y :: U1, U2, rfl, by rw [rep, if_pos e], rfl⟩
    · rename_i e
      simp at h
      obtain ⟨rfl, h⟩ := h
      obtain ⟨U1, U2, h1, rfl, rfl⟩ := rep_split a b c (y :: l) W1 W2 h
      refine ⟨x :: U1, U2, by rw [List.cons_append, ← h1], ?_, rfl⟩
      rcases U1 with _ | ⟨z, U1⟩
      · rfl
      · simp at h1
        rw [← h1.1, rep, if_neg e]
theorem seqE_split : ∀ (M : List (Int × Int)) (c : Int) (l W1 W2 : List Int), seqE M c l = W1 ++ W2 → ∃ U1 U2, l = U1 ++ U2 ∧ W1 = seqE M c U1 ∧ W2 = seqE M c U2
  | [], _, l, W1, W2, h => ⟨W1, W2, h, rfl, rfl⟩
  | m :: M, c, l, W1, W2, h => by
    obtain ⟨V1, V2, h1, rfl, rfl⟩ := seqE_split M (c + 1) _ W1 W2 h
    obtain ⟨U1, U2, rfl, rfl, rfl⟩ := rep_split _ _ _ l V1 V2 h1
    exact ⟨U1, U2, rfl, rfl, rfl⟩
theorem bysI_len (s : List UInt8) : (bysI s).length = s.length := by unfold bysI; rw [List.length_map]
theorem bysI_append (a b : List UInt8) : bysI (a ++ b) = bysI a ++ bysI b := by unfold bysI; rw [List.map_append]
theorem cat_len_bys {T : List Ent} (hT : OkT T) (U : List Int) (s : List UInt8) (h : ∀ x ∈ U, x ∈ bysI s) : (catT T U).length = U.length := by
  induction U with
  | nil => rfl
  | cons x U ih =>
    have hx := h x (by simp)
    unfold bysI at hx
    obtain ⟨c, _, rfl⟩ := List.mem_map.1 hx
    have e : catT T ((c.toNat : Int) :: U) = bytesT T (c.toNat : Int) ++ catT T U := rfl
    rw [e, List.length_append, ih (fun y hy => h y (by simp [hy])), (byte_has hT c.toNat_lt).2]
    simp; omega
theorem encT_cut {T : List Ent} (hT : OkT T) (bel : Int) (a b : List UInt8) {W1 W2 : List Int} (h : encT T bel (a ++ b) = W1 ++ W2) (hl : (catT T W1).length = a.length) : W1 = encT T bel a ∧ W2 = encT T bel b := by
  unfold encT at h ⊢
  obtain ⟨U1, U2, h1, h2, h3⟩ := seqE_split _ _ _ _ _ h
  have hmem : ∀ x ∈ U1, x ∈ bysI (a ++ b) := fun x hx => by rw [h1]; simp [hx]
  have hc : (catT T W1).length = U1.length := by
    rw [h2, seqE_cat T _ _ _ (fun k m h => (mrgsB_at hT h).2)]
    exact cat_len_bys hT U1 (a ++ b) hmem
  rw [bysI_append] at h1
  obtain ⟨e1, e2⟩ := List.append_inj h1 (by rw [bysI_len]; omega)
  rw [e1, e2]
  exact ⟨h2, h3⟩
def specV (rk : Bool) (AM : Option Addr) (nM cM : Nat) (AT : Option Addr) (nT cT : Nat) (AX : Option Addr) (nX cX : Nat) (AC : Option Addr) (nC cC : Nat) (AJ : Option Addr) (nJ cJ : Nat) : Value :=
  .agg #[.bool rk, .slice AM nM cM, .slice AT nT cT, .slice AX nX cX, .slice AC nC cC, .slice AJ nJ cJ]
section
variable {w : World} {rk : Bool} {AM : Option Addr} {nM cM : Nat} {AT : Option Addr} {nT cT : Nat} {AX : Option Addr} {nX cX : Nat} {AC : Option Addr} {nC cC : Nat} {AJ : Option Addr} {nJ cJ : Nat}
theorem load_false {R : Value → Value → Value → World → Prop} (hR : rk = false) (h : ∀ W, Below w.heap.size w W → Calls Tryz.prog 21 #[.slice AM nM cM] W fun e w' => ∃ x y z, e = .returned (.tuple #[x, y, z]) ∧ R x y z w') :
    Calls Tryz.prog 87 #[specV rk AM nM cM AT nT cT AX nX cX AC nC cC AJ nJ cJ] w fun e w' => ∃ x y z, e = .returned (.tuple #[x, y, z]) ∧ R x y z w' := by
  subst hR
  have HI := Lib.hid (h _ ((Below.refl w.heap.size w).alloc (Nat.le_refl _) (.cells #[.bool false, .slice AM nM cM, .slice AT nT cT, .slice AX nX cX, .slice AC nC cC, .slice AJ nJ cJ] 48)))
  clear h
  unfold specV
  go_enter Tryz.func87, Tryz.ntmps87
  go_wp2_with fail
  refine HI.out.mono ?_
  rintro e w1 ⟨x, y, z, rfl, hr⟩
  have HRR := Lib.hid hr
  clear hr
  go_wp2_with fail
  exact bodyPost_ret (results_tmp3 rfl _ _ _) rfl ⟨x, y, z, rfl, HRR.out⟩
def RTab (F : Nat → List Ent → Int → Prop) (w : World) (e : Ending) (w' : World) : Prop :=
  Below w.heap.size w w' ∧ ∃ (k : Nat) (T : List Ent) (A1 : Option Addr) (n1 c1 : Nat) (A2 : Option Addr) (n2 c2 : Nat) (no : Int), e = .returned (.tuple #[.agg #[.slice A1 n1 c1, .slice A2 n2 c2], .int .i64 (k : Nat), .int .i64 no]) ∧
    RefIs w' w.heap.size T (.slice A1 n1 c1) (.slice A2 n2 c2) ∧ F k T no
set_option maxHeartbeats 1000000 in
theorem rload_false {F : Nat → List Ent → Int → Prop} (hR : rk = false) (h : ∀ W, Below w.heap.size w W → Calls Tryz.prog 146 #[.slice AM nM cM] W (RTab F W)) :
    Calls Tryz.prog 110 #[specV rk AM nM cM AT nT cT AX nX cX AC nC cC AJ nJ cJ] w (RTab F w) := by
  subst hR
  have hb1 := (Below.refl w.heap.size w).alloc (Nat.le_refl _) (.cells #[.bool false, .slice AM nM cM, .slice AT nT cT, .slice AX nX cX, .slice AC nC cC, .slice AJ nJ cJ] 48)
  have hb2 := hb1.alloc (by simp) (.cells #[.slice none 0 0, .slice none 0 0] 34)
  have HN := Lib.hid (blk_new (w.alloc (.cells #[.bool false, .slice AM nM cM, .slice AT nT cT, .slice AX nX cX, .slice AC nC cC, .slice AJ nJ cJ] 48)) (.cells #[.slice none 0 0, .slice none 0 0] 34))
  have bn := blk_alloc (blk_new w (.cells #[.bool false, .slice AM nM cM, .slice AT nT cT, .slice AX nX cX, .slice AC nC cC, .slice AJ nJ cJ] 48)) (.cells #[.slice none 0 0, .slice none 0 0] 34)
  have n0 := blk_cell bn 0
  have n1 := blk_cell bn 1
  have n2 := blk_cell bn 2
  simp only [List.getElem?_toArray, List.getElem?_cons_zero, List.getElem?_cons_succ] at n0 n1 n2
  have HI := Lib.hid (h _ hb2)
  have HB := Lib.hid hb2
  have HSZ : Hid (((w.alloc (.cells #[.bool false, .slice AM nM cM, .slice AT nT cT, .slice AX nX cX, .slice AC nC cC, .slice AJ nJ cJ] 48)).alloc (.cells #[.slice none 0 0, .slice none 0 0] 34)).heap.size = w.heap.size + 2) := Lib.hid (by simp)
  rw [size_alloc] at HN
  clear h hb1 hb2 bn
  unfold specV
  go_enter Tryz.func110, Tryz.ntmps110
  go_upto_region 1 with fail
  generalize (w.alloc (.cells #[.bool false, .slice AM nM cM, .slice AT nT cT, .slice AX nX cX, .slice AC nC cC, .slice AJ nJ cJ] 48)).alloc (.cells #[.slice none 0 0, .slice none 0 0] 34) = W1 at *
  go_wp2_with fail
  refine HI.out.mono ?_
  rintro e w2 ⟨hb, k, T, A1, n1', c1, A2, n2', c2, no, rfl, href, hF⟩
  have hn := blk_below hb (by rw [HSZ.out]; omega) HN.out
  have d0 := blk_cell hn 0
  have d1 := blk_cell hn 1
  have z0 := blk_froz hn 0
  have z1 := blk_froz hn 1
  simp only [List.getElem?_toArray, List.getElem?_cons_zero, List.getElem?_cons_succ] at d0 d1
  have KF : Keep (fun x => x = w.heap.size + 1) w2 ((w2.setCell ⟨w.heap.size + 1, 0, none⟩ (.slice A1 n1' c1)).setCell ⟨w.heap.size + 1, 1, none⟩ (.slice A2 n2' c2)) := ((Keep.refl (fun x => x = w.heap.size + 1) w2).setCell (p := ⟨w.heap.size + 1, 0, none⟩) (.inl rfl) _).setCell (p := ⟨w.heap.size + 1, 1, none⟩) (.inl rfl) _
  have hb3 := HB.out.trans (hb.mono HB.out.size)
  have hn5 := blk_set (blk_set hn 0 (.slice A1 n1' c1)) 1 (.slice A2 n2' c2)
  simp only [List.setIfInBounds_toArray, List.set_cons_zero, List.set_cons_succ] at hn5
  have HN5 := Lib.hid hn5
  have HR5 := Lib.hid ((href.keep KF (fun g hg => by rw [HSZ.out]; omega)).less (Nat.le_trans (Nat.le_add_right _ 2) (Nat.le_of_eq HSZ.out.symm)))
  have HB5 := Lib.hid (hb3.trans (KF.below (B := w.heap.size) hb3.size (fun x hx => by omega)))
  have HF := Lib.hid hF
  clear hb hn KF hb3 hn5 href hF n0 n1 n2
  go_wp2_with fail
  refine ret_ref2 (r := w.heap.size + 1) rfl rfl rfl rfl HN5.out ⟨HB5.out, k, T, A1, n1', c1, A2, n2', c2, no, rfl, HR5.out, HF.out⟩
end
structure SpecP where
  rk : Bool
  ms : List (Int × Int)
  ts : List (List UInt8)
  xs : List (Int × List UInt8)
  cs : List Cls
  js : List Jn
structure SpecAt (w : World) (s : SpecP) (AM AT AX AC AJ : Option Addr) : Prop where
  ms : Sl w AM encM 2 s.ms
  ts : Sl1 w AT strV s.ts
  xs : Sl w AX encIS 2 s.xs
  cs : Sl w AC encCls 3 s.cs
  js : Sl w AJ encJn 2 s.js
  len : s.ms.length < 9000000000000000000 ∧ s.ts.length < 9000000000000000000 ∧ s.xs.length < 9000000000000000000 ∧ s.cs.length < 9000000000000000000 ∧ s.js.length < 9000000000000000000
theorem SpecAt.below {w w' : World} {s : SpecP} {AM AT AX AC AJ : Option Addr} (h : SpecAt w s AM AT AX AC AJ) {B : Nat} (hb : Below B w w') (hB : w.heap.size ≤ B) : SpecAt w' s AM AT AX AC AJ :=
  ⟨h.ms.below hb hB, h.ts.below hb hB, h.xs.below hb hB, h.cs.below hb hB, h.js.below hb hB, h.len⟩
def headR (s : SpecP) : Bool := if s.rk = true then decide (s.ms.length = 0) else decide (s.ts.length = 0)
def rightS (s : SpecP) : Bool := headR s && (decide ((s.ms.length : Int) ≤ 744) && s.ms.all mrgR) && (decide ((s.ts.length : Int) ≤ 744) && s.ts.all txtL) && (decide ((s.xs.length : Int) ≤ 32) && s.xs.all splL) && (decide ((s.cs.length : Int) ≤ 64) && s.cs.all clsR) && (decide ((s.js.length : Int) ≤ 64) && s.js.all jnR)
def specW (s : SpecP) (AM AT AX AC AJ : Option Addr) (cM cT cX cC cJ : Nat) : Value := specV s.rk AM s.ms.length cM AT s.ts.length cT AX s.xs.length cX AC s.cs.length cC AJ s.js.length cJ
section
variable {w : World} {s : SpecP} {AM AT AX AC AJ : Option Addr} {cM cT cX cC cJ nM nT nX nC nJ : Nat}
theorem right_bad_t (hd : 0 < nM) : Calls Tryz.prog 47 #[specV true AM nM cM AT nT cT AX nX cX AC nC cC AJ nJ cJ] w fun e w' => e = .returned (.bool false) ∧ Below w.heap.size w w' := by
  unfold specV
  have HB0 := Lib.hid ((Below.refl w.heap.size w).alloc (Nat.le_refl _) (.cells #[.bool true, .slice AM nM cM, .slice AT nT cT, .slice AX nX cX, .slice AC nC cC, .slice AJ nJ cJ] 48))
  have hd2 : decide (0 < nM) = true := decide_eq_true hd
  go_enter Tryz.func47, Tryz.ntmps47
  go_wp2_with fail
  go_ret
  exact ⟨rfl, HB0.out⟩
theorem right_bad_f (hd : 0 < nT) : Calls Tryz.prog 47 #[specV false AM nM cM AT nT cT AX nX cX AC nC cC AJ nJ cJ] w fun e w' => e = .returned (.bool false) ∧ Below w.heap.size w w' := by
  unfold specV
  have HB0 := Lib.hid ((Below.refl w.heap.size w).alloc (Nat.le_refl _) (.cells #[.bool false, .slice AM nM cM, .slice AT nT cT, .slice AX nX cX, .slice AC nC cC, .slice AJ nJ cJ] 48))
  have hd2 : decide (0 < nT) = true := decide_eq_true hd
  go_enter Tryz.func47, Tryz.ntmps47
  go_wp2_with fail
  go_ret
  exact ⟨rfl, HB0.out⟩
set_option maxHeartbeats 1000000 in
theorem right_t (q0 q1 q2 q3 q4 : Bool)
    (h0 : ∀ V, Below w.heap.size w V → Calls Tryz.prog 77 #[.slice AM 0 cM, .int .i64 744, .func (.func 78) #[] #[]] V fun e w' => e = .returned (.bool q0) ∧ Below V.heap.size V w')
    (h1 : ∀ V, Below w.heap.size w V → Calls Tryz.prog 79 #[.slice AT nT cT, .int .i64 744, .func (.func 80) #[] #[]] V fun e w' => e = .returned (.bool q1) ∧ Below V.heap.size V w')
    (h2 : ∀ V, Below w.heap.size w V → Calls Tryz.prog 81 #[.slice AX nX cX, .int .i64 32, .func (.func 82) #[] #[]] V fun e w' => e = .returned (.bool q2) ∧ Below V.heap.size V w')
    (h3 : ∀ V, Below w.heap.size w V → Calls Tryz.prog 83 #[.slice AC nC cC, .int .i64 64, .func (.func 84) #[] #[]] V fun e w' => e = .returned (.bool q3) ∧ Below V.heap.size V w')
    (h4 : ∀ V, Below w.heap.size w V → Calls Tryz.prog 85 #[.slice AJ nJ cJ, .int .i64 64, .func (.func 86) #[] #[]] V fun e w' => e = .returned (.bool q4) ∧ Below V.heap.size V w')
    : Calls Tryz.prog 47 #[specV true AM 0 cM AT nT cT AX nX cX AC nC cC AJ nJ cJ] w fun e w' => e = .returned (.bool (q0 && q1 && q2 && q3 && q4)) ∧ Below w.heap.size w w' := by
  unfold specV
  have H0 := Lib.hid h0
  have H1 := Lib.hid h1
  have H2 := Lib.hid h2
  have H3 := Lib.hid h3
  have H4 := Lib.hid h4
  have HB0 := Lib.hid ((Below.refl w.heap.size w).alloc (Nat.le_refl _) (.cells #[.bool true, .slice AM 0 cM, .slice AT nT cT, .slice AX nX cX, .slice AC nC cC, .slice AJ nJ cJ] 48))
  have HO0 := Lib.hid (blk_new w (.cells #[.bool true, .slice AM 0 cM, .slice AT nT cT, .slice AX nX cX, .slice AC nC cC, .slice AJ nJ cJ] 48))
  clear h0 h1 h2 h3 h4
  rcases q0 with _ | _
  · go_enter Tryz.func47, Tryz.ntmps47
    go_wp2_with (go_at_call 77; (refine (H0.out _ HB0.out).mono ?_); (rintro e V1 ⟨rfl, hb⟩); (have HB1 := Lib.hid (HB0.out.trans (hb.mono HB0.out.size))); (have HO1 := Lib.hid (blk_below hb (blk_lt HO0.out) HO0.out)); (have c1 := blk_cell HO1.out 2); (simp only [List.getElem?_toArray, List.getElem?_cons_zero, List.getElem?_cons_succ] at c1); (clear hb))
    go_ret
    exact ⟨rfl, HB1.out⟩
  ·
    rcases q1 with _ | _
    · go_enter Tryz.func47, Tryz.ntmps47
      go_wp2_with (first | (go_at_call 77; (refine (H0.out _ HB0.out).mono ?_); (rintro e V1 ⟨rfl, hb⟩); (have HB1 := Lib.hid (HB0.out.trans (hb.mono HB0.out.size))); (have HO1 := Lib.hid (blk_below hb (blk_lt HO0.out) HO0.out)); (have c1 := blk_cell HO1.out 2); (simp only [List.getElem?_toArray, List.getElem?_cons_zero, List.getElem?_cons_succ] at c1); (clear hb)) | (go_at_call 79; (refine (H1.out _ HB1.out).mono ?_); (rintro e V2 ⟨rfl, hb⟩); (have HB2 := Lib.hid (HB1.out.trans (hb.mono HB1.out.size))); (have HO2 := Lib.hid (blk_below hb (blk_lt HO1.out) HO1.out)); (have c2 := blk_cell HO2.out 3); (simp only [List.getElem?_toArray, List.getElem?_cons_zero, List.getElem?_cons_succ] at c2); (clear hb)))
      go_ret
      exact ⟨rfl, HB2.out⟩
    ·
      rcases q2 with _ | _
      · go_enter Tryz.func47, Tryz.ntmps47
        go_wp2_with (first | (go_at_call 77; (refine (H0.out _ HB0.out).mono ?_); (rintro e V1 ⟨rfl, hb⟩); (have HB1 := Lib.hid (HB0.out.trans (hb.mono HB0.out.size))); (have HO1 := Lib.hid (blk_below hb (blk_lt HO0.out) HO0.out)); (have c1 := blk_cell HO1.out 2); (simp only [List.getElem?_toArray, List.getElem?_cons_zero, List.getElem?_cons_succ] at c1); (clear hb)) | (go_at_call 79; (refine (H1.out _ HB1.out).mono ?_); (rintro e V2 ⟨rfl, hb⟩); (have HB2 := Lib.hid (HB1.out.trans (hb.mono HB1.out.size))); (have HO2 := Lib.hid (blk_below hb (blk_lt HO1.out) HO1.out)); (have c2 := blk_cell HO2.out 3); (simp only [List.getElem?_toArray, List.getElem?_cons_zero, List.getElem?_cons_succ] at c2); (clear hb)) | (go_at_call 81; (refine (H2.out _ HB2.out).mono ?_); (rintro e V3 ⟨rfl, hb⟩); (have HB3 := Lib.hid (HB2.out.trans (hb.mono HB2.out.size))); (have HO3 := Lib.hid (blk_below hb (blk_lt HO2.out) HO2.out)); (have c3 := blk_cell HO3.out 4); (simp only [List.getElem?_toArray, List.getElem?_cons_zero, List.getElem?_cons_succ] at c3); (clear hb)))
        go_ret
        exact ⟨rfl, HB3.out⟩
      ·
        rcases q3 with _ | _
        · go_enter Tryz.func47, Tryz.ntmps47
          go_wp2_with (first | (go_at_call 77; (refine (H0.out _ HB0.out).mono ?_); (rintro e V1 ⟨rfl, hb⟩); (have HB1 := Lib.hid (HB0.out.trans (hb.mono HB0.out.size))); (have HO1 := Lib.hid (blk_below hb (blk_lt HO0.out) HO0.out)); (have c1 := blk_cell HO1.out 2); (simp only [List.getElem?_toArray, List.getElem?_cons_zero, List.getElem?_cons_succ] at c1); (clear hb)) | (go_at_call 79; (refine (H1.out _ HB1.out).mono ?_); (rintro e V2 ⟨rfl, hb⟩); (have HB2 := Lib.hid (HB1.out.trans (hb.mono HB1.out.size))); (have HO2 := Lib.hid (blk_below hb (blk_lt HO1.out) HO1.out)); (have c2 := blk_cell HO2.out 3); (simp only [List.getElem?_toArray, List.getElem?_cons_zero, List.getElem?_cons_succ] at c2); (clear hb)) | (go_at_call 81; (refine (H2.out _ HB2.out).mono ?_); (rintro e V3 ⟨rfl, hb⟩); (have HB3 := Lib.hid (HB2.out.trans (hb.mono HB2.out.size))); (have HO3 := Lib.hid (blk_below hb (blk_lt HO2.out) HO2.out)); (have c3 := blk_cell HO3.out 4); (simp only [List.getElem?_toArray, List.getElem?_cons_zero, List.getElem?_cons_succ] at c3); (clear hb)) | (go_at_call 83; (refine (H3.out _ HB3.out).mono ?_); (rintro e V4 ⟨rfl, hb⟩); (have HB4 := Lib.hid (HB3.out.trans (hb.mono HB3.out.size))); (have HO4 := Lib.hid (blk_below hb (blk_lt HO3.out) HO3.out)); (have c4 := blk_cell HO4.out 5); (simp only [List.getElem?_toArray, List.getElem?_cons_zero, List.getElem?_cons_succ] at c4); (clear hb)))
          go_ret
          exact ⟨rfl, HB4.out⟩
        ·
          rcases q4 with _ | _
          · go_enter Tryz.func47, Tryz.ntmps47
            go_wp2_with (first | (go_at_call 77; (refine (H0.out _ HB0.out).mono ?_); (rintro e V1 ⟨rfl, hb⟩); (have HB1 := Lib.hid (HB0.out.trans (hb.mono HB0.out.size))); (have HO1 := Lib.hid (blk_below hb (blk_lt HO0.out) HO0.out)); (have c1 := blk_cell HO1.out 2); (simp only [List.getElem?_toArray, List.getElem?_cons_zero, List.getElem?_cons_succ] at c1); (clear hb)) | (go_at_call 79; (refine (H1.out _ HB1.out).mono ?_); (rintro e V2 ⟨rfl, hb⟩); (have HB2 := Lib.hid (HB1.out.trans (hb.mono HB1.out.size))); (have HO2 := Lib.hid (blk_below hb (blk_lt HO1.out) HO1.out)); (have c2 := blk_cell HO2.out 3); (simp only [List.getElem?_toArray, List.getElem?_cons_zero, List.getElem?_cons_succ] at c2); (clear hb)) | (go_at_call 81; (refine (H2.out _ HB2.out).mono ?_); (rintro e V3 ⟨rfl, hb⟩); (have HB3 := Lib.hid (HB2.out.trans (hb.mono HB2.out.size))); (have HO3 := Lib.hid (blk_below hb (blk_lt HO2.out) HO2.out)); (have c3 := blk_cell HO3.out 4); (simp only [List.getElem?_toArray, List.getElem?_cons_zero, List.getElem?_cons_succ] at c3); (clear hb)) | (go_at_call 83; (refine (H3.out _ HB3.out).mono ?_); (rintro e V4 ⟨rfl, hb⟩); (have HB4 := Lib.hid (HB3.out.trans (hb.mono HB3.out.size))); (have HO4 := Lib.hid (blk_below hb (blk_lt HO3.out) HO3.out)); (have c4 := blk_cell HO4.out 5); (simp only [List.getElem?_toArray, List.getElem?_cons_zero, List.getElem?_cons_succ] at c4); (clear hb)) | (go_at_call 85; (refine (H4.out _ HB4.out).mono ?_); (rintro e V5 ⟨rfl, hb⟩); (have HB5 := Lib.hid (HB4.out.trans (hb.mono HB4.out.size))); (clear hb)))
            go_ret
            exact ⟨rfl, HB5.out⟩
          ·
            go_enter Tryz.func47, Tryz.ntmps47
            go_wp2_with (first | (go_at_call 77; (refine (H0.out _ HB0.out).mono ?_); (rintro e V1 ⟨rfl, hb⟩); (have HB1 := Lib.hid (HB0.out.trans (hb.mono HB0.out.size))); (have HO1 := Lib.hid (blk_below hb (blk_lt HO0.out) HO0.out)); (have c1 := blk_cell HO1.out 2); (simp only [List.getElem?_toArray, List.getElem?_cons_zero, List.getElem?_cons_succ] at c1); (clear hb)) | (go_at_call 79; (refine (H1.out _ HB1.out).mono ?_); (rintro e V2 ⟨rfl, hb⟩); (have HB2 := Lib.hid (HB1.out.trans (hb.mono HB1.out.size))); (have HO2 := Lib.hid (blk_below hb (blk_lt HO1.out) HO1.out)); (have c2 := blk_cell HO2.out 3); (simp only [List.getElem?_toArray, List.getElem?_cons_zero, List.getElem?_cons_succ] at c2); (clear hb)) | (go_at_call 81; (refine (H2.out _ HB2.out).mono ?_); (rintro e V3 ⟨rfl, hb⟩); (have HB3 := Lib.hid (HB2.out.trans (hb.mono HB2.out.size))); (have HO3 := Lib.hid (blk_below hb (blk_lt HO2.out) HO2.out)); (have c3 := blk_cell HO3.out 4); (simp only [List.getElem?_toArray, List.getElem?_cons_zero, List.getElem?_cons_succ] at c3); (clear hb)) | (go_at_call 83; (refine (H3.out _ HB3.out).mono ?_); (rintro e V4 ⟨rfl, hb⟩); (have HB4 := Lib.hid (HB3.out.trans (hb.mono HB3.out.size))); (have HO4 := Lib.hid (blk_below hb (blk_lt HO3.out) HO3.out)); (have c4 := blk_cell HO4.out 5); (simp only [List.getElem?_toArray, List.getElem?_cons_zero, List.getElem?_cons_succ] at c4); (clear hb)) | (go_at_call 85; (refine (H4.out _ HB4.out).mono ?_); (rintro e V5 ⟨rfl, hb⟩); (have HB5 := Lib.hid (HB4.out.trans (hb.mono HB4.out.size))); (clear hb)))
            go_ret
            exact ⟨rfl, HB5.out⟩
set_option maxHeartbeats 1000000 in
theorem right_f (q0 q1 q2 q3 q4 : Bool)
    (h0 : ∀ V, Below w.heap.size w V → Calls Tryz.prog 77 #[.slice AM nM cM, .int .i64 744, .func (.func 78) #[] #[]] V fun e w' => e = .returned (.bool q0) ∧ Below V.heap.size V w')
    (h1 : ∀ V, Below w.heap.size w V → Calls Tryz.prog 79 #[.slice AT 0 cT, .int .i64 744, .func (.func 80) #[] #[]] V fun e w' => e = .returned (.bool q1) ∧ Below V.heap.size V w')
    (h2 : ∀ V, Below w.heap.size w V → Calls Tryz.prog 81 #[.slice AX nX cX, .int .i64 32, .func (.func 82) #[] #[]] V fun e w' => e = .returned (.bool q2) ∧ Below V.heap.size V w')
    (h3 : ∀ V, Below w.heap.size w V → Calls Tryz.prog 83 #[.slice AC nC cC, .int .i64 64, .func (.func 84) #[] #[]] V fun e w' => e = .returned (.bool q3) ∧ Below V.heap.size V w')
    (h4 : ∀ V, Below w.heap.size w V → Calls Tryz.prog 85 #[.slice AJ nJ cJ, .int .i64 64, .func (.func 86) #[] #[]] V fun e w' => e = .returned (.bool q4) ∧ Below V.heap.size V w')
    : Calls Tryz.prog 47 #[specV false AM nM cM AT 0 cT AX nX cX AC nC cC AJ nJ cJ] w fun e w' => e = .returned (.bool (q0 && q1 && q2 && q3 && q4)) ∧ Below w.heap.size w w' := by
  unfold specV
  have H0 := Lib.hid h0
  have H1 := Lib.hid h1
  have H2 := Lib.hid h2
  have H3 := Lib.hid h3
  have H4 := Lib.hid h4
  have HB0 := Lib.hid ((Below.refl w.heap.size w).alloc (Nat.le_refl _) (.cells #[.bool false, .slice AM nM cM, .slice AT 0 cT, .slice AX nX cX, .slice AC nC cC, .slice AJ nJ cJ] 48))
  have HO0 := Lib.hid (blk_new w (.cells #[.bool false, .slice AM nM cM, .slice AT 0 cT, .slice AX nX cX, .slice AC nC cC, .slice AJ nJ cJ] 48))
  clear h0 h1 h2 h3 h4
  rcases q0 with _ | _
  · go_enter Tryz.func47, Tryz.ntmps47
    go_wp2_with (go_at_call 77; (refine (H0.out _ HB0.out).mono ?_); (rintro e V1 ⟨rfl, hb⟩); (have HB1 := Lib.hid (HB0.out.trans (hb.mono HB0.out.size))); (have HO1 := Lib.hid (blk_below hb (blk_lt HO0.out) HO0.out)); (have c1 := blk_cell HO1.out 2); (simp only [List.getElem?_toArray, List.getElem?_cons_zero, List.getElem?_cons_succ] at c1); (clear hb))
    go_ret
    exact ⟨rfl, HB1.out⟩
  ·
    rcases q1 with _ | _
    · go_enter Tryz.func47, Tryz.ntmps47
      go_wp2_with (first | (go_at_call 77; (refine (H0.out _ HB0.out).mono ?_); (rintro e V1 ⟨rfl, hb⟩); (have HB1 := Lib.hid (HB0.out.trans (hb.mono HB0.out.size))); (have HO1 := Lib.hid (blk_below hb (blk_lt HO0.out) HO0.out)); (have c1 := blk_cell HO1.out 2); (simp only [List.getElem?_toArray, List.getElem?_cons_zero, List.getElem?_cons_succ] at c1); (clear hb)) | (go_at_call 79; (refine (H1.out _ HB1.out).mono ?_); (rintro e V2 ⟨rfl, hb⟩); (have HB2 := Lib.hid (HB1.out.trans (hb.mono HB1.out.size))); (have HO2 := Lib.hid (blk_below hb (blk_lt HO1.out) HO1.out)); (have c2 := blk_cell HO2.out 3); (simp only [List.getElem?_toArray, List.getElem?_cons_zero, List.getElem?_cons_succ] at c2); (clear hb)))
      go_ret
      exact ⟨rfl, HB2.out⟩
    ·
      rcases q2 with _ | _
      · go_enter Tryz.func47, Tryz.ntmps47
        go_wp2_with (first | (go_at_call 77; (refine (H0.out _ HB0.out).mono ?_); (rintro e V1 ⟨rfl, hb⟩); (have HB1 := Lib.hid (HB0.out.trans (hb.mono HB0.out.size))); (have HO1 := Lib.hid (blk_below hb (blk_lt HO0.out) HO0.out)); (have c1 := blk_cell HO1.out 2); (simp only [List.getElem?_toArray, List.getElem?_cons_zero, List.getElem?_cons_succ] at c1); (clear hb)) | (go_at_call 79; (refine (H1.out _ HB1.out).mono ?_); (rintro e V2 ⟨rfl, hb⟩); (have HB2 := Lib.hid (HB1.out.trans (hb.mono HB1.out.size))); (have HO2 := Lib.hid (blk_below hb (blk_lt HO1.out) HO1.out)); (have c2 := blk_cell HO2.out 3); (simp only [List.getElem?_toArray, List.getElem?_cons_zero, List.getElem?_cons_succ] at c2); (clear hb)) | (go_at_call 81; (refine (H2.out _ HB2.out).mono ?_); (rintro e V3 ⟨rfl, hb⟩); (have HB3 := Lib.hid (HB2.out.trans (hb.mono HB2.out.size))); (have HO3 := Lib.hid (blk_below hb (blk_lt HO2.out) HO2.out)); (have c3 := blk_cell HO3.out 4); (simp only [List.getElem?_toArray, List.getElem?_cons_zero, List.getElem?_cons_succ] at c3); (clear hb)))
        go_ret
        exact ⟨rfl, HB3.out⟩
      ·
        rcases q3 with _ | _
        · go_enter Tryz.func47, Tryz.ntmps47
          go_wp2_with (first | (go_at_call 77; (refine (H0.out _ HB0.out).mono ?_); (rintro e V1 ⟨rfl, hb⟩); (have HB1 := Lib.hid (HB0.out.trans (hb.mono HB0.out.size))); (have HO1 := Lib.hid (blk_below hb (blk_lt HO0.out) HO0.out)); (have c1 := blk_cell HO1.out 2); (simp only [List.getElem?_toArray, List.getElem?_cons_zero, List.getElem?_cons_succ] at c1); (clear hb)) | (go_at_call 79; (refine (H1.out _ HB1.out).mono ?_); (rintro e V2 ⟨rfl, hb⟩); (have HB2 := Lib.hid (HB1.out.trans (hb.mono HB1.out.size))); (have HO2 := Lib.hid (blk_below hb (blk_lt HO1.out) HO1.out)); (have c2 := blk_cell HO2.out 3); (simp only [List.getElem?_toArray, List.getElem?_cons_zero, List.getElem?_cons_succ] at c2); (clear hb)) | (go_at_call 81; (refine (H2.out _ HB2.out).mono ?_); (rintro e V3 ⟨rfl, hb⟩); (have HB3 := Lib.hid (HB2.out.trans (hb.mono HB2.out.size))); (have HO3 := Lib.hid (blk_below hb (blk_lt HO2.out) HO2.out)); (have c3 := blk_cell HO3.out 4); (simp only [List.getElem?_toArray, List.getElem?_cons_zero, List.getElem?_cons_succ] at c3); (clear hb)) | (go_at_call 83; (refine (H3.out _ HB3.out).mono ?_); (rintro e V4 ⟨rfl, hb⟩); (have HB4 := Lib.hid (HB3.out.trans (hb.mono HB3.out.size))); (have HO4 := Lib.hid (blk_below hb (blk_lt HO3.out) HO3.out)); (have c4 := blk_cell HO4.out 5); (simp only [List.getElem?_toArray, List.getElem?_cons_zero, List.getElem?_cons_succ] at c4); (clear hb)))
          go_ret
          exact ⟨rfl, HB4.out⟩
        ·
          rcases q4 with _ | _
          · go_enter Tryz.func47, Tryz.ntmps47
            go_wp2_with (first | (go_at_call 77; (refine (H0.out _ HB0.out).mono ?_); (rintro e V1 ⟨rfl, hb⟩); (have HB1 := Lib.hid (HB0.out.trans (hb.mono HB0.out.size))); (have HO1 := Lib.hid (blk_below hb (blk_lt HO0.out) HO0.out)); (have c1 := blk_cell HO1.out 2); (simp only [List.getElem?_toArray, List.getElem?_cons_zero, List.getElem?_cons_succ] at c1); (clear hb)) | (go_at_call 79; (refine (H1.out _ HB1.out).mono ?_); (rintro e V2 ⟨rfl, hb⟩); (have HB2 := Lib.hid (HB1.out.trans (hb.mono HB1.out.size))); (have HO2 := Lib.hid (blk_below hb (blk_lt HO1.out) HO1.out)); (have c2 := blk_cell HO2.out 3); (simp only [List.getElem?_toArray, List.getElem?_cons_zero, List.getElem?_cons_succ] at c2); (clear hb)) | (go_at_call 81; (refine (H2.out _ HB2.out).mono ?_); (rintro e V3 ⟨rfl, hb⟩); (have HB3 := Lib.hid (HB2.out.trans (hb.mono HB2.out.size))); (have HO3 := Lib.hid (blk_below hb (blk_lt HO2.out) HO2.out)); (have c3 := blk_cell HO3.out 4); (simp only [List.getElem?_toArray, List.getElem?_cons_zero, List.getElem?_cons_succ] at c3); (clear hb)) | (go_at_call 83; (refine (H3.out _ HB3.out).mono ?_); (rintro e V4 ⟨rfl, hb⟩); (have HB4 := Lib.hid (HB3.out.trans (hb.mono HB3.out.size))); (have HO4 := Lib.hid (blk_below hb (blk_lt HO3.out) HO3.out)); (have c4 := blk_cell HO4.out 5); (simp only [List.getElem?_toArray, List.getElem?_cons_zero, List.getElem?_cons_succ] at c4); (clear hb)) | (go_at_call 85; (refine (H4.out _ HB4.out).mono ?_); (rintro e V5 ⟨rfl, hb⟩); (have HB5 := Lib.hid (HB4.out.trans (hb.mono HB4.out.size))); (clear hb)))
            go_ret
            exact ⟨rfl, HB5.out⟩
          ·
            go_enter Tryz.func47, Tryz.ntmps47
            go_wp2_with (first | (go_at_call 77; (refine (H0.out _ HB0.out).mono ?_); (rintro e V1 ⟨rfl, hb⟩); (have HB1 := Lib.hid (HB0.out.trans (hb.mono HB0.out.size))); (have HO1 := Lib.hid (blk_below hb (blk_lt HO0.out) HO0.out)); (have c1 := blk_cell HO1.out 2); (simp only [List.getElem?_toArray, List.getElem?_cons_zero, List.getElem?_cons_succ] at c1); (clear hb)) | (go_at_call 79; (refine (H1.out _ HB1.out).mono ?_); (rintro e V2 ⟨rfl, hb⟩); (have HB2 := Lib.hid (HB1.out.trans (hb.mono HB1.out.size))); (have HO2 := Lib.hid (blk_below hb (blk_lt HO1.out) HO1.out)); (have c2 := blk_cell HO2.out 3); (simp only [List.getElem?_toArray, List.getElem?_cons_zero, List.getElem?_cons_succ] at c2); (clear hb)) | (go_at_call 81; (refine (H2.out _ HB2.out).mono ?_); (rintro e V3 ⟨rfl, hb⟩); (have HB3 := Lib.hid (HB2.out.trans (hb.mono HB2.out.size))); (have HO3 := Lib.hid (blk_below hb (blk_lt HO2.out) HO2.out)); (have c3 := blk_cell HO3.out 4); (simp only [List.getElem?_toArray, List.getElem?_cons_zero, List.getElem?_cons_succ] at c3); (clear hb)) | (go_at_call 83; (refine (H3.out _ HB3.out).mono ?_); (rintro e V4 ⟨rfl, hb⟩); (have HB4 := Lib.hid (HB3.out.trans (hb.mono HB3.out.size))); (have HO4 := Lib.hid (blk_below hb (blk_lt HO3.out) HO3.out)); (have c4 := blk_cell HO4.out 5); (simp only [List.getElem?_toArray, List.getElem?_cons_zero, List.getElem?_cons_succ] at c4); (clear hb)) | (go_at_call 85; (refine (H4.out _ HB4.out).mono ?_); (rintro e V5 ⟨rfl, hb⟩); (have HB5 := Lib.hid (HB4.out.trans (hb.mono HB4.out.size))); (clear hb)))
            go_ret
            exact ⟨rfl, HB5.out⟩
theorem sright_any (h : SpecAt w s AM AT AX AC AJ) : Calls Tryz.prog 47 #[specW s AM AT AX AC AJ cM cT cX cC cJ] w fun e w' => e = .returned (.bool (rightS s)) ∧ Below w.heap.size w w' := by
  obtain ⟨rk, ms, ts, xs, cs, js⟩ := s
  unfold specW rightS headR
  have k0 := fun V (hV : Below w.heap.size w V) => all_Mrg ms AM cM 744 V (h.ms.below hV (Nat.le_refl _)) h.len.1
  have k1 := fun V (hV : Below w.heap.size w V) => all_Txt ts AT cT 744 V (h.ts.below hV (Nat.le_refl _)) h.len.2.1
  have k2 := fun V (hV : Below w.heap.size w V) => all_Spl xs AX cX 32 V (h.xs.below hV (Nat.le_refl _)) h.len.2.2.1
  have k3 := fun V (hV : Below w.heap.size w V) => all_Cls cs AC cC 64 V (h.cs.below hV (Nat.le_refl _)) h.len.2.2.2.1
  have k4 := fun V (hV : Below w.heap.size w V) => all_Jns js AJ cJ 64 V (h.js.below hV (Nat.le_refl _)) h.len.2.2.2.2
  cases rk with
  | true =>
    by_cases hd : 0 < ms.length
    · have := right_bad_t (w := w) (AM := AM) (AT := AT) (AX := AX) (AC := AC) (AJ := AJ) (cM := cM) (cT := cT) (cX := cX) (cC := cC) (cJ := cJ) (nT := ts.length) (nX := xs.length) (nC := cs.length) (nJ := js.length) hd
      refine this.mono ?_
      rintro e w' ⟨rfl, hb⟩
      refine ⟨?_, hb⟩
      simp only [if_true]
      rw [decide_eq_false (show ¬ ms.length = 0 from by omega)]
      simp
    · obtain rfl : ms = [] := List.length_eq_zero_iff.1 (by omega)
      have := right_t _ _ _ _ _ k0 k1 k2 k3 k4
      refine this.mono ?_
      rintro e w' ⟨rfl, hb⟩
      refine ⟨?_, hb⟩
      simp only [if_true]
      simp only [List.length_nil, decide_true, Bool.true_and]
  | false =>
    by_cases hd : 0 < ts.length
    · have := right_bad_f (w := w) (AM := AM) (AT := AT) (AX := AX) (AC := AC) (AJ := AJ) (cM := cM) (cT := cT) (cX := cX) (cC := cC) (cJ := cJ) (nM := ms.length) (nX := xs.length) (nC := cs.length) (nJ := js.length) hd
      refine this.mono ?_
      rintro e w' ⟨rfl, hb⟩
      refine ⟨?_, hb⟩
      simp only [Bool.false_eq_true, if_false]
      rw [decide_eq_false (show ¬ ts.length = 0 from by omega)]
      simp
    · obtain rfl : ts = [] := List.length_eq_zero_iff.1 (by omega)
      have := right_f _ _ _ _ _ k0 k1 k2 k3 k4
      refine this.mono ?_
      rintro e w' ⟨rfl, hb⟩
      refine ⟨?_, hb⟩
      simp only [Bool.false_eq_true, if_false]
      simp only [List.length_nil, decide_true, Bool.true_and]
end
theorem flat_at {α : Type} {enc : α → List Value} {sz : Nat} (hsz : ∀ x, (enc x).length = sz) : ∀ (l : List α) (j : Nat) (u : Value), (l.flatMap enc)[j]? = some u → ∃ i x k, l[i]? = some x ∧ (enc x)[k]? = some u ∧ j = i * sz + k
  | [], j, u, h => by simp at h
  | a :: l, j, u, h => by
    rw [List.flatMap_cons] at h
    by_cases hj : j < sz
    · rw [List.getElem?_append_left (by rw [hsz]; exact hj)] at h
      exact ⟨0, a, j, rfl, h, by omega⟩
    · rw [List.getElem?_append_right (by rw [hsz]; omega), hsz] at h
      obtain ⟨i, x, k, h1, h2, h3⟩ := flat_at hsz l _ _ h
      exact ⟨i + 1, x, k, by simpa using h1, h2, by rw [Nat.succ_mul]; omega⟩
theorem flat_len {α : Type} {enc : α → List Value} {sz : Nat} (hsz : ∀ x, (enc x).length = sz) : ∀ l : List α, (l.flatMap enc).length = l.length * sz
  | [] => by simp
  | a :: l => by rw [List.flatMap_cons, List.length_append, hsz, flat_len hsz l, List.length_cons, Nat.succ_mul]; omega
theorem flat_one {α : Type} {enc : α → List Value} (h1 : ∀ x, ∀ u ∈ enc x, u.oneCell' = true) (l : List α) : ∀ u ∈ l.flatMap enc, u.oneCell' = true := by
  intro u hu
  obtain ⟨x, _, hx⟩ := List.mem_flatMap.1 hu
  exact h1 x u hx
def encS1 (x : List UInt8) : List Value := [strV x]
theorem sl_of1 {w : World} {A : Option Addr} {l : List (List UInt8)} (h : Sl1 w A strV l) : Sl w A encS1 1 l := by
  intro i x hx
  obtain ⟨b, o, e, hc⟩ := h i x hx
  refine ⟨b, o, e, fun j v hv => ?_⟩
  cases j with
  | zero => cases hv; simpa using hc
  | succ j => simp [encS1] at hv
theorem sl_to1 {w : World} {A : Option Addr} {l : List (List UInt8)} (h : Sl w A encS1 1 l) : Sl1 w A strV l := by
  intro i x hx
  obtain ⟨b, o, e, hc⟩ := h i x hx
  exact ⟨b, o, e, by simpa using hc 0 _ rfl⟩
theorem info_cMrg : (Tryz.prog.info? 55).map (fun i => (i.zero, i.size, i.bytes)) = some (some (.agg #[.int .i64 0, .int .i64 0]), 2, 16) := by kernel_rfl
theorem eql_cMrg (A : Option Addr) (n c : Nat) (w : World) : (binOp .eql 32 (.slice A n c) (.slice none 0 0)).run Tryz.prog w = .ok (.bool A.isNone) w := by
  cases A <;> kernel_rfl
theorem len_cMrg (x : Int × Int) : (encM x).length = 2 := rfl
theorem one_cMrg (x : Int × Int) : ∀ u ∈ encM x, u.oneCell' = true := by
  intro u hu
  simp [encM] at hu
  (try (rcases hu with rfl | rfl | rfl)) <;> (try (rcases hu with rfl | rfl)) <;> (try subst hu) <;> rfl
theorem clone_Mrg (l : List (Int × Int)) (A : Option Addr) (c : Nat) (w : World) (h : Sl w A encM 2 l) (hlen : l.length ≤ 1000000) :
    Calls Tryz.prog 111 #[.slice A l.length c] w fun e w' => ∃ A' c', e = .returned (.slice A' l.length c') ∧ Sl w' A' encM 2 l ∧ (∀ a, A' = some a → w.heap.size ≤ a.block) ∧ Below w.heap.size w w' := by
  have HL := Lib.hid h
  clear h
  cases A with
  | none =>
    have hl0 : l = [] := by
      rcases l with _ | ⟨x, l⟩
      · rfl
      · obtain ⟨b, o, e, _⟩ := HL.out 0 x rfl
        cases e
    subst hl0
    have heq := eql_cMrg none 0 c w
    simp only [Option.isNone_none] at heq
    go_enter Tryz.func111, Tryz.ntmps111
    go_wp2_with fail
    go_ret
    exact ⟨none, 0, rfl, Sl.nil _ _ _ _, fun a ha => (by cases ha), Below.refl _ _⟩
  | some a =>
    have heq := eql_cMrg (some a) l.length c w
    simp only [Option.isNone_some] at heq
    have HE : Hid ((w.alloc (.cells #[] 55)).ownsRow w.heap.size 55 2 (.slice (some ⟨w.heap.size, 0, none⟩) 0 0) 0 []) := Lib.hid ⟨by simp, .inr ⟨w.heap.size, 0, #[], rfl, Nat.le_refl _, blk_new w _, Nat.le_refl _, Nat.zero_le _, by simp, by simp⟩⟩
    have HN : Hid (∀ j u, (l.flatMap encM)[j]? = some u → (w.alloc (.cells #[] 55)).cell? (a.add j) = some u) := Lib.hid (by
      intro j u hu
      obtain ⟨i, x, k, h1, h2, rfl⟩ := flat_at len_cMrg l j u hu
      obtain ⟨b, o, e, hc⟩ := HL.out i x h1
      cases e
      rw [add_plain, ← Nat.add_assoc]
      exact below_cell ((Below.refl w.heap.size w).alloc (Nat.le_refl _) _) (Nat.le_refl _) (hc k u h2))
    have H1 := Lib.hid (flat_one one_cMrg l)
    have HLEN := Lib.hid (flat_len len_cMrg l)
    obtain ⟨i, hif, hz0, hz1, hz2⟩ := info_parts info_cMrg
    have HI := Lib.hid hif
    have HZ := Lib.hid (And.intro hz0 (And.intro hz1 hz2))
    clear hif hz0 hz1 hz2
    go_enter Tryz.func111, Tryz.ntmps111
    go_wp2_with (at_builtin; refine wpList_append_own_at _ rfl _ _ 32 rfl w.heap.size 55 i (.agg #[.int .i64 0, .int .i64 0]) 2 16 Tryz.underlying32 HI.out HZ.out.1 HZ.out.2.1 HZ.out.2.2 rfl (by decide) _ 0 [] rfl HE.out a l.length c _ rfl HLEN.out HN.out H1.out (by unfold maxLen; omega) (by omega) (by simp) ?_)
    intro v' w' r1 r2 _ _
    have hb : Below w.heap.size w w' := by
      have h0 := (Below.refl w.heap.size w).alloc (Nat.le_refl _) (.cells #[] 55)
      have hk : Keep (fun k => k = w.heap.size) (w.alloc (.cells #[] 55)) w' := Keep.of_grown r2 (fun k hk => by simpa [Value.ownBlock] using hk.symm)
      exact h0.trans (hk.below (by simp) (fun x hx => by omega))
    obtain ⟨A, c', rfl⟩ := own_slice r1
    have HB := Lib.hid hb
    have HR := Lib.hid r1
    clear r1 r2 hb
    go_wp2_with fail
    go_ret
    refine ⟨_, _, rfl, own_sl len_cMrg HR.out (by decide), fun a ha => ?_, HB.out⟩
    subst ha
    rcases HR.out.2 with ⟨h1, _⟩ | ⟨g, cap, cur, h1, hb, hg, _⟩
    · cases h1
    · cases h1; exact hb
theorem info_cTxt : (Tryz.prog.info? 9).map (fun i => (i.zero, i.size, i.bytes)) = some (some (.string ⟨#[]⟩), 1, 16) := by kernel_rfl
theorem eql_cTxt (A : Option Addr) (n c : Nat) (w : World) : (binOp .eql 31 (.slice A n c) (.slice none 0 0)).run Tryz.prog w = .ok (.bool A.isNone) w := by
  cases A <;> kernel_rfl
theorem len_cTxt (x : List UInt8) : (encS1 x).length = 1 := rfl
theorem one_cTxt (x : List UInt8) : ∀ u ∈ encS1 x, u.oneCell' = true := by
  intro u hu
  simp [encS1, strV] at hu
  (try (rcases hu with rfl | rfl | rfl)) <;> (try (rcases hu with rfl | rfl)) <;> (try subst hu) <;> rfl
theorem clone_Txt (l : List (List UInt8)) (A : Option Addr) (c : Nat) (w : World) (h : Sl w A encS1 1 l) (hlen : l.length ≤ 1000000) :
    Calls Tryz.prog 112 #[.slice A l.length c] w fun e w' => ∃ A' c', e = .returned (.slice A' l.length c') ∧ Sl w' A' encS1 1 l ∧ (∀ a, A' = some a → w.heap.size ≤ a.block) ∧ Below w.heap.size w w' := by
  have HL := Lib.hid h
  clear h
  cases A with
  | none =>
    have hl0 : l = [] := by
      rcases l with _ | ⟨x, l⟩
      · rfl
      · obtain ⟨b, o, e, _⟩ := HL.out 0 x rfl
        cases e
    subst hl0
    have heq := eql_cTxt none 0 c w
    simp only [Option.isNone_none] at heq
    go_enter Tryz.func112, Tryz.ntmps112
    go_wp2_with fail
    go_ret
    exact ⟨none, 0, rfl, Sl.nil _ _ _ _, fun a ha => (by cases ha), Below.refl _ _⟩
  | some a =>
    have heq := eql_cTxt (some a) l.length c w
    simp only [Option.isNone_some] at heq
    have HE : Hid ((w.alloc (.cells #[] 9)).ownsRow w.heap.size 9 1 (.slice (some ⟨w.heap.size, 0, none⟩) 0 0) 0 []) := Lib.hid ⟨by simp, .inr ⟨w.heap.size, 0, #[], rfl, Nat.le_refl _, blk_new w _, Nat.le_refl _, Nat.zero_le _, by simp, by simp⟩⟩
    have HN : Hid (∀ j u, (l.flatMap encS1)[j]? = some u → (w.alloc (.cells #[] 9)).cell? (a.add j) = some u) := Lib.hid (by
      intro j u hu
      obtain ⟨i, x, k, h1, h2, rfl⟩ := flat_at len_cTxt l j u hu
      obtain ⟨b, o, e, hc⟩ := HL.out i x h1
      cases e
      rw [add_plain, ← Nat.add_assoc]
      exact below_cell ((Below.refl w.heap.size w).alloc (Nat.le_refl _) _) (Nat.le_refl _) (hc k u h2))
    have H1 := Lib.hid (flat_one one_cTxt l)
    have HLEN := Lib.hid (flat_len len_cTxt l)
    obtain ⟨i, hif, hz0, hz1, hz2⟩ := info_parts info_cTxt
    have HI := Lib.hid hif
    have HZ := Lib.hid (And.intro hz0 (And.intro hz1 hz2))
    clear hif hz0 hz1 hz2
    go_enter Tryz.func112, Tryz.ntmps112
    go_wp2_with (at_builtin; refine wpList_append_own_at _ rfl _ _ 31 rfl w.heap.size 9 i (.string ⟨#[]⟩) 1 16 Tryz.underlying31 HI.out HZ.out.1 HZ.out.2.1 HZ.out.2.2 rfl (by decide) _ 0 [] rfl HE.out a l.length c _ rfl HLEN.out HN.out H1.out (by unfold maxLen; omega) (by omega) (by simp) ?_)
    intro v' w' r1 r2 _ _
    have hb : Below w.heap.size w w' := by
      have h0 := (Below.refl w.heap.size w).alloc (Nat.le_refl _) (.cells #[] 9)
      have hk : Keep (fun k => k = w.heap.size) (w.alloc (.cells #[] 9)) w' := Keep.of_grown r2 (fun k hk => by simpa [Value.ownBlock] using hk.symm)
      exact h0.trans (hk.below (by simp) (fun x hx => by omega))
    obtain ⟨A, c', rfl⟩ := own_slice r1
    have HB := Lib.hid hb
    have HR := Lib.hid r1
    clear r1 r2 hb
    go_wp2_with fail
    go_ret
    refine ⟨_, _, rfl, own_sl len_cTxt HR.out (by decide), fun a ha => ?_, HB.out⟩
    subst ha
    rcases HR.out.2 with ⟨h1, _⟩ | ⟨g, cap, cur, h1, hb, hg, _⟩
    · cases h1
    · cases h1; exact hb
theorem info_cSpl : (Tryz.prog.info? 98).map (fun i => (i.zero, i.size, i.bytes)) = some (some (.agg #[.int .i64 0, .string ⟨#[]⟩]), 2, 24) := by kernel_rfl
theorem eql_cSpl (A : Option Addr) (n c : Nat) (w : World) : (binOp .eql 25 (.slice A n c) (.slice none 0 0)).run Tryz.prog w = .ok (.bool A.isNone) w := by
  cases A <;> kernel_rfl
theorem len_cSpl (x : Int × List UInt8) : (encIS x).length = 2 := rfl
theorem one_cSpl (x : Int × List UInt8) : ∀ u ∈ encIS x, u.oneCell' = true := by
  intro u hu
  simp [encIS, strV] at hu
  (try (rcases hu with rfl | rfl | rfl)) <;> (try (rcases hu with rfl | rfl)) <;> (try subst hu) <;> rfl
theorem clone_Spl (l : List (Int × List UInt8)) (A : Option Addr) (c : Nat) (w : World) (h : Sl w A encIS 2 l) (hlen : l.length ≤ 1000000) :
    Calls Tryz.prog 113 #[.slice A l.length c] w fun e w' => ∃ A' c', e = .returned (.slice A' l.length c') ∧ Sl w' A' encIS 2 l ∧ (∀ a, A' = some a → w.heap.size ≤ a.block) ∧ Below w.heap.size w w' := by
  have HL := Lib.hid h
  clear h
  cases A with
  | none =>
    have hl0 : l = [] := by
      rcases l with _ | ⟨x, l⟩
      · rfl
      · obtain ⟨b, o, e, _⟩ := HL.out 0 x rfl
        cases e
    subst hl0
    have heq := eql_cSpl none 0 c w
    simp only [Option.isNone_none] at heq
    go_enter Tryz.func113, Tryz.ntmps113
    go_wp2_with fail
    go_ret
    exact ⟨none, 0, rfl, Sl.nil _ _ _ _, fun a ha => (by cases ha), Below.refl _ _⟩
  | some a =>
    have heq := eql_cSpl (some a) l.length c w
    simp only [Option.isNone_some] at heq
    have HE : Hid ((w.alloc (.cells #[] 98)).ownsRow w.heap.size 98 2 (.slice (some ⟨w.heap.size, 0, none⟩) 0 0) 0 []) := Lib.hid ⟨by simp, .inr ⟨w.heap.size, 0, #[], rfl, Nat.le_refl _, blk_new w _, Nat.le_refl _, Nat.zero_le _, by simp, by simp⟩⟩
    have HN : Hid (∀ j u, (l.flatMap encIS)[j]? = some u → (w.alloc (.cells #[] 98)).cell? (a.add j) = some u) := Lib.hid (by
      intro j u hu
      obtain ⟨i, x, k, h1, h2, rfl⟩ := flat_at len_cSpl l j u hu
      obtain ⟨b, o, e, hc⟩ := HL.out i x h1
      cases e
      rw [add_plain, ← Nat.add_assoc]
      exact below_cell ((Below.refl w.heap.size w).alloc (Nat.le_refl _) _) (Nat.le_refl _) (hc k u h2))
    have H1 := Lib.hid (flat_one one_cSpl l)
    have HLEN := Lib.hid (flat_len len_cSpl l)
    obtain ⟨i, hif, hz0, hz1, hz2⟩ := info_parts info_cSpl
    have HI := Lib.hid hif
    have HZ := Lib.hid (And.intro hz0 (And.intro hz1 hz2))
    clear hif hz0 hz1 hz2
    go_enter Tryz.func113, Tryz.ntmps113
    go_wp2_with (at_builtin; refine wpList_append_own_at _ rfl _ _ 25 rfl w.heap.size 98 i (.agg #[.int .i64 0, .string ⟨#[]⟩]) 2 24 Tryz.underlying25 HI.out HZ.out.1 HZ.out.2.1 HZ.out.2.2 rfl (by decide) _ 0 [] rfl HE.out a l.length c _ rfl HLEN.out HN.out H1.out (by unfold maxLen; omega) (by omega) (by simp) ?_)
    intro v' w' r1 r2 _ _
    have hb : Below w.heap.size w w' := by
      have h0 := (Below.refl w.heap.size w).alloc (Nat.le_refl _) (.cells #[] 98)
      have hk : Keep (fun k => k = w.heap.size) (w.alloc (.cells #[] 98)) w' := Keep.of_grown r2 (fun k hk => by simpa [Value.ownBlock] using hk.symm)
      exact h0.trans (hk.below (by simp) (fun x hx => by omega))
    obtain ⟨A, c', rfl⟩ := own_slice r1
    have HB := Lib.hid hb
    have HR := Lib.hid r1
    clear r1 r2 hb
    go_wp2_with fail
    go_ret
    refine ⟨_, _, rfl, own_sl len_cSpl HR.out (by decide), fun a ha => ?_, HB.out⟩
    subst ha
    rcases HR.out.2 with ⟨h1, _⟩ | ⟨g, cap, cur, h1, hb, hg, _⟩
    · cases h1
    · cases h1; exact hb
theorem info_cCls : (Tryz.prog.info? 132).map (fun i => (i.zero, i.size, i.bytes)) = some (some (.agg #[.int .i64 0, .int .i64 0, .int .i64 0]), 3, 24) := by kernel_rfl
theorem eql_cCls (A : Option Addr) (n c : Nat) (w : World) : (binOp .eql 23 (.slice A n c) (.slice none 0 0)).run Tryz.prog w = .ok (.bool A.isNone) w := by
  cases A <;> kernel_rfl
theorem len_cCls (x : Cls) : (encCls x).length = 3 := rfl
theorem one_cCls (x : Cls) : ∀ u ∈ encCls x, u.oneCell' = true := by
  intro u hu
  simp [encCls] at hu
  (try (rcases hu with rfl | rfl | rfl)) <;> (try (rcases hu with rfl | rfl)) <;> (try subst hu) <;> rfl
theorem clone_Cls (l : List (Cls)) (A : Option Addr) (c : Nat) (w : World) (h : Sl w A encCls 3 l) (hlen : l.length ≤ 1000000) :
    Calls Tryz.prog 114 #[.slice A l.length c] w fun e w' => ∃ A' c', e = .returned (.slice A' l.length c') ∧ Sl w' A' encCls 3 l ∧ (∀ a, A' = some a → w.heap.size ≤ a.block) ∧ Below w.heap.size w w' := by
  have HL := Lib.hid h
  clear h
  cases A with
  | none =>
    have hl0 : l = [] := by
      rcases l with _ | ⟨x, l⟩
      · rfl
      · obtain ⟨b, o, e, _⟩ := HL.out 0 x rfl
        cases e
    subst hl0
    have heq := eql_cCls none 0 c w
    simp only [Option.isNone_none] at heq
    go_enter Tryz.func114, Tryz.ntmps114
    go_wp2_with fail
    go_ret
    exact ⟨none, 0, rfl, Sl.nil _ _ _ _, fun a ha => (by cases ha), Below.refl _ _⟩
  | some a =>
    have heq := eql_cCls (some a) l.length c w
    simp only [Option.isNone_some] at heq
    have HE : Hid ((w.alloc (.cells #[] 132)).ownsRow w.heap.size 132 3 (.slice (some ⟨w.heap.size, 0, none⟩) 0 0) 0 []) := Lib.hid ⟨by simp, .inr ⟨w.heap.size, 0, #[], rfl, Nat.le_refl _, blk_new w _, Nat.le_refl _, Nat.zero_le _, by simp, by simp⟩⟩
    have HN : Hid (∀ j u, (l.flatMap encCls)[j]? = some u → (w.alloc (.cells #[] 132)).cell? (a.add j) = some u) := Lib.hid (by
      intro j u hu
      obtain ⟨i, x, k, h1, h2, rfl⟩ := flat_at len_cCls l j u hu
      obtain ⟨b, o, e, hc⟩ := HL.out i x h1
      cases e
      rw [add_plain, ← Nat.add_assoc]
      exact below_cell ((Below.refl w.heap.size w).alloc (Nat.le_refl _) _) (Nat.le_refl _) (hc k u h2))
    have H1 := Lib.hid (flat_one one_cCls l)
    have HLEN := Lib.hid (flat_len len_cCls l)
    obtain ⟨i, hif, hz0, hz1, hz2⟩ := info_parts info_cCls
    have HI := Lib.hid hif
    have HZ := Lib.hid (And.intro hz0 (And.intro hz1 hz2))
    clear hif hz0 hz1 hz2
    go_enter Tryz.func114, Tryz.ntmps114
    go_wp2_with (at_builtin; refine wpList_append_own_at _ rfl _ _ 23 rfl w.heap.size 132 i (.agg #[.int .i64 0, .int .i64 0, .int .i64 0]) 3 24 Tryz.underlying23 HI.out HZ.out.1 HZ.out.2.1 HZ.out.2.2 rfl (by decide) _ 0 [] rfl HE.out a l.length c _ rfl HLEN.out HN.out H1.out (by unfold maxLen; omega) (by omega) (by simp) ?_)
    intro v' w' r1 r2 _ _
    have hb : Below w.heap.size w w' := by
      have h0 := (Below.refl w.heap.size w).alloc (Nat.le_refl _) (.cells #[] 132)
      have hk : Keep (fun k => k = w.heap.size) (w.alloc (.cells #[] 132)) w' := Keep.of_grown r2 (fun k hk => by simpa [Value.ownBlock] using hk.symm)
      exact h0.trans (hk.below (by simp) (fun x hx => by omega))
    obtain ⟨A, c', rfl⟩ := own_slice r1
    have HB := Lib.hid hb
    have HR := Lib.hid r1
    clear r1 r2 hb
    go_wp2_with fail
    go_ret
    refine ⟨_, _, rfl, own_sl len_cCls HR.out (by decide), fun a ha => ?_, HB.out⟩
    subst ha
    rcases HR.out.2 with ⟨h1, _⟩ | ⟨g, cap, cur, h1, hb, hg, _⟩
    · cases h1
    · cases h1; exact hb
theorem info_cJns : (Tryz.prog.info? 133).map (fun i => (i.zero, i.size, i.bytes)) = some (some (.agg #[.int .i64 0, .int .i64 0]), 2, 16) := by kernel_rfl
theorem eql_cJns (A : Option Addr) (n c : Nat) (w : World) : (binOp .eql 24 (.slice A n c) (.slice none 0 0)).run Tryz.prog w = .ok (.bool A.isNone) w := by
  cases A <;> kernel_rfl
theorem len_cJns (x : Jn) : (encJn x).length = 2 := rfl
theorem one_cJns (x : Jn) : ∀ u ∈ encJn x, u.oneCell' = true := by
  intro u hu
  simp [encJn] at hu
  (try (rcases hu with rfl | rfl | rfl)) <;> (try (rcases hu with rfl | rfl)) <;> (try subst hu) <;> rfl
theorem clone_Jns (l : List (Jn)) (A : Option Addr) (c : Nat) (w : World) (h : Sl w A encJn 2 l) (hlen : l.length ≤ 1000000) :
    Calls Tryz.prog 115 #[.slice A l.length c] w fun e w' => ∃ A' c', e = .returned (.slice A' l.length c') ∧ Sl w' A' encJn 2 l ∧ (∀ a, A' = some a → w.heap.size ≤ a.block) ∧ Below w.heap.size w w' := by
  have HL := Lib.hid h
  clear h
  cases A with
  | none =>
    have hl0 : l = [] := by
      rcases l with _ | ⟨x, l⟩
      · rfl
      · obtain ⟨b, o, e, _⟩ := HL.out 0 x rfl
        cases e
    subst hl0
    have heq := eql_cJns none 0 c w
    simp only [Option.isNone_none] at heq
    go_enter Tryz.func115, Tryz.ntmps115
    go_wp2_with fail
    go_ret
    exact ⟨none, 0, rfl, Sl.nil _ _ _ _, fun a ha => (by cases ha), Below.refl _ _⟩
  | some a =>
    have heq := eql_cJns (some a) l.length c w
    simp only [Option.isNone_some] at heq
    have HE : Hid ((w.alloc (.cells #[] 133)).ownsRow w.heap.size 133 2 (.slice (some ⟨w.heap.size, 0, none⟩) 0 0) 0 []) := Lib.hid ⟨by simp, .inr ⟨w.heap.size, 0, #[], rfl, Nat.le_refl _, blk_new w _, Nat.le_refl _, Nat.zero_le _, by simp, by simp⟩⟩
    have HN : Hid (∀ j u, (l.flatMap encJn)[j]? = some u → (w.alloc (.cells #[] 133)).cell? (a.add j) = some u) := Lib.hid (by
      intro j u hu
      obtain ⟨i, x, k, h1, h2, rfl⟩ := flat_at len_cJns l j u hu
      obtain ⟨b, o, e, hc⟩ := HL.out i x h1
      cases e
      rw [add_plain, ← Nat.add_assoc]
      exact below_cell ((Below.refl w.heap.size w).alloc (Nat.le_refl _) _) (Nat.le_refl _) (hc k u h2))
    have H1 := Lib.hid (flat_one one_cJns l)
    have HLEN := Lib.hid (flat_len len_cJns l)
    obtain ⟨i, hif, hz0, hz1, hz2⟩ := info_parts info_cJns
    have HI := Lib.hid hif
    have HZ := Lib.hid (And.intro hz0 (And.intro hz1 hz2))
    clear hif hz0 hz1 hz2
    go_enter Tryz.func115, Tryz.ntmps115
    go_wp2_with (at_builtin; refine wpList_append_own_at _ rfl _ _ 24 rfl w.heap.size 133 i (.agg #[.int .i64 0, .int .i64 0]) 2 16 Tryz.underlying24 HI.out HZ.out.1 HZ.out.2.1 HZ.out.2.2 rfl (by decide) _ 0 [] rfl HE.out a l.length c _ rfl HLEN.out HN.out H1.out (by unfold maxLen; omega) (by omega) (by simp) ?_)
    intro v' w' r1 r2 _ _
    have hb : Below w.heap.size w w' := by
      have h0 := (Below.refl w.heap.size w).alloc (Nat.le_refl _) (.cells #[] 133)
      have hk : Keep (fun k => k = w.heap.size) (w.alloc (.cells #[] 133)) w' := Keep.of_grown r2 (fun k hk => by simpa [Value.ownBlock] using hk.symm)
      exact h0.trans (hk.below (by simp) (fun x hx => by omega))
    obtain ⟨A, c', rfl⟩ := own_slice r1
    have HB := Lib.hid hb
    have HR := Lib.hid r1
    clear r1 r2 hb
    go_wp2_with fail
    go_ret
    refine ⟨_, _, rfl, own_sl len_cJns HR.out (by decide), fun a ha => ?_, HB.out⟩
    subst ha
    rcases HR.out.2 with ⟨h1, _⟩ | ⟨g, cap, cur, h1, hb, hg, _⟩
    · cases h1
    · cases h1; exact hb
def Fr {α : Type} (W : World) (sb : Nat) (A : Option Addr) (enc : α → List Value) (sz : Nat) (l : List α) : Prop := Sl W A enc sz l ∧ ∀ a, A = some a → sb + 1 < a.block
theorem Fr.below {α : Type} {W V : World} {sb : Nat} {A : Option Addr} {enc : α → List Value} {sz : Nat} {l : List α} (h : Fr W sb A enc sz l) (hb : Below W.heap.size W V) : Fr V sb A enc sz l := ⟨h.1.below hb (Nat.le_refl _), h.2⟩
theorem Fr.keep {α : Type} {W V : World} {sb : Nat} {A : Option Addr} {enc : α → List Value} {sz : Nat} {l : List α} (h : Fr W sb A enc sz l) (hk : Keep (fun g => g = sb) W V) : Fr V sb A enc sz l := ⟨sl_keep h.1 hk (fun a ha e => by have := h.2 a ha; omega), h.2⟩
theorem Fr.keep1 {α : Type} {W V : World} {sb : Nat} {A : Option Addr} {enc : α → List Value} {sz : Nat} {l : List α} (h : Fr W sb A enc sz l) (hk : Keep (fun g => g = sb + 1) W V) : Sl V A enc sz l := sl_keep h.1 hk (fun a ha e => by have := h.2 a ha; omega)
structure CpIs (w W : World) (sb : Nat) (C : List Value) : Prop where
  bl : Below w.heap.size w W
  blk : W.heap[sb]? = some (.cells C.toArray 48)
  res : W.heap[sb + 1]? = some (.cells #[.bool false, .slice none 0 0, .slice none 0 0, .slice none 0 0, .slice none 0 0, .slice none 0 0] 48)
  lt : w.heap.size ≤ sb
theorem CpIs.below {w W V : World} {sb : Nat} {C : List Value} (h : CpIs w W sb C) (hb : Below W.heap.size W V) : CpIs w V sb C :=
  ⟨h.bl.trans (hb.mono h.bl.size), blk_below hb (blk_lt h.blk) h.blk, blk_below hb (blk_lt h.res) h.res, h.lt⟩
theorem CpIs.put {w W V : World} {sb : Nat} {C C' : List Value} (h : CpIs w W sb C) (hk : Keep (fun g => g = sb) W V) (hc : V.heap[sb]? = some (.cells C'.toArray 48)) : CpIs w V sb C' :=
  ⟨h.bl.trans (hk.below h.bl.size (fun x hx => by have := h.lt; omega)), hc, hk.blk h.res (by omega), h.lt⟩
theorem Fr.drew {α : Type} {W : World} {sb : Nat} {A : Option Addr} {enc : α → List Value} {sz : Nat} {l : List α} (h : Fr W sb A enc sz l) : Fr W.drew sb A enc sz l := h
theorem CpIs.drew {w W : World} {sb : Nat} {C : List Value} (h : CpIs w W sb C) : CpIs w W.drew sb C := ⟨h.bl.drew, h.blk, h.res, h.lt⟩
theorem CpIs.fresh {α : Type} {w W V : World} {sb : Nat} {C : List Value} {A : Option Addr} {enc : α → List Value} {sz : Nat} {l : List α} (h : CpIs w W sb C) (hs : Sl V A enc sz l) (hf : ∀ a, A = some a → W.heap.size ≤ a.block) : Fr V sb A enc sz l :=
  ⟨hs, fun a ha => by have := hf a ha; have := blk_lt h.res; omega⟩
theorem load_spec {w : World} {r : Nat} {rk : Bool} {AM AT AX AC AJ : Option Addr} {nM nT nX nC nJ cM cT cX cC cJ : Nat} (h : w.heap[r]? = some (.cells #[.bool rk, .slice AM nM cM, .slice AT nT cT, .slice AX nX cX, .slice AC nC cC, .slice AJ nJ cJ] 48)) :
    (loadVar 48 ⟨r, 0, none⟩).run Tryz.prog w = .ok (specV rk AM nM cM AT nT cT AX nX cX AC nC cC AJ nJ cJ) w := by
  have n0 := blk_cell h 0
  have n1 := blk_cell h 1
  have n2 := blk_cell h 2
  have n3 := blk_cell h 3
  have n4 := blk_cell h 4
  have n5 := blk_cell h 5
  simp only [List.getElem?_toArray, List.getElem?_cons_zero, List.getElem?_cons_succ] at n0 n1 n2 n3 n4 n5
  simp [go_sem, specV, n0, n1, n2, n3, n4, n5]
section
variable {w : World} {s : SpecP} {AM AT AX AC AJ : Option Addr} {cM cT cX cC cJ : Nat}
set_option maxHeartbeats 8000000 in
theorem copied_any (hs : SpecAt w s AM AT AX AC AJ) (hln : s.ms.length ≤ 1000000 ∧ s.ts.length ≤ 1000000 ∧ s.xs.length ≤ 1000000 ∧ s.cs.length ≤ 1000000 ∧ s.js.length ≤ 1000000) :
    Calls Tryz.prog 76 #[specW s AM AT AX AC AJ cM cT cX cC cJ] w fun e w' => (∃ A1 A2 A3 A4 A5 c1 c2 c3 c4 c5, e = .returned (specW s A1 A2 A3 A4 A5 c1 c2 c3 c4 c5) ∧ SpecAt w' s A1 A2 A3 A4 A5) ∧ Below w.heap.size w w' := by
  unfold specW specV
  have HS0 := Lib.hid hs
  have HLN := Lib.hid hln
  have hb1 := (Below.refl w.heap.size w).alloc (Nat.le_refl _) (.cells #[.bool s.rk, .slice AM s.ms.length cM, .slice AT s.ts.length cT, .slice AX s.xs.length cX, .slice AC s.cs.length cC, .slice AJ s.js.length cJ] 48)
  have hb2 := hb1.alloc (by simp) (.cells #[.bool false, .slice none 0 0, .slice none 0 0, .slice none 0 0, .slice none 0 0, .slice none 0 0] 48)
  have HC0 : Hid (CpIs w ((w.alloc (.cells #[.bool s.rk, .slice AM s.ms.length cM, .slice AT s.ts.length cT, .slice AX s.xs.length cX, .slice AC s.cs.length cC, .slice AJ s.js.length cJ] 48)).alloc (.cells #[.bool false, .slice none 0 0, .slice none 0 0, .slice none 0 0, .slice none 0 0, .slice none 0 0] 48)) w.heap.size [.bool s.rk, .slice AM s.ms.length cM, .slice AT s.ts.length cT, .slice AX s.xs.length cX, .slice AC s.cs.length cC, .slice AJ s.js.length cJ]) := Lib.hid ⟨hb2, blk_alloc (blk_new w _) _, by have := blk_new (w.alloc (.cells #[.bool s.rk, .slice AM s.ms.length cM, .slice AT s.ts.length cT, .slice AX s.xs.length cX, .slice AC s.cs.length cC, .slice AJ s.js.length cJ] 48)) (.cells #[.bool false, .slice none 0 0, .slice none 0 0, .slice none 0 0, .slice none 0 0, .slice none 0 0] 48); simpa using this, Nat.le_refl _⟩
  clear hs hln hb1 hb2
  go_enter Tryz.func76, Tryz.ntmps76
  go_upto_region 1 with fail
  obtain ⟨W0, hW0⟩ : ∃ W0, ((w.alloc (.cells #[.bool s.rk, .slice AM s.ms.length cM, .slice AT s.ts.length cT, .slice AX s.xs.length cX, .slice AC s.cs.length cC, .slice AJ s.js.length cJ] 48)).alloc (.cells #[.bool false, .slice none 0 0, .slice none 0 0, .slice none 0 0, .slice none 0 0, .slice none 0 0] 48)) = W0 := ⟨_, rfl⟩
  rw [hW0] at HC0 ⊢
  obtain ⟨sb, hsb⟩ : ∃ sb, w.heap.size = sb := ⟨_, rfl⟩
  have HC : Hid (CpIs w W0 sb [.bool s.rk, .slice AM s.ms.length cM, .slice AT s.ts.length cT, .slice AX s.xs.length cX, .slice AC s.cs.length cC, .slice AJ s.js.length cJ]) := Lib.hid (by rw [← hsb]; exact HC0.out)
  clear HC0 hW0
  refine wp_region_D (Ds := [10, 12, 14]) (S := fun V => V.cell? ⟨sb, 1, none⟩ = some (.slice AM s.ms.length cM) ∧ V.cell? ⟨sb, 2, none⟩ = some (.slice AT s.ts.length cT) ∧ V.cell? ⟨sb, 3, none⟩ = some (.slice AX s.xs.length cX)) (by kernel_rfl) (by (have q1 := blk_cell HC.out.blk 1); (have q2 := blk_cell HC.out.blk 2); (have q3 := blk_cell HC.out.blk 3); (simp only [List.getElem?_toArray, List.getElem?_cons_zero, List.getElem?_cons_succ] at q1 q2 q3); exact And.intro q1 (And.intro q2 q3)) (fun hHeld => ?_)
  (replace HC := Lib.hid HC.out.drew); generalize W0.drew = W1 at *
  refine tkP 0 3 ?_ rfl (.inl ⟨by rfl, ?_⟩) ?_; rotate_left; focus (intro w' _; go_simp; (try with_reducible rfl))
  try simp only [sIB, sC0, sCS]
  refine tkP 3 6 ?_ rfl (.inl ⟨by rfl, ?_⟩) ?_; rotate_left; focus (intro w' _; go_simp; (try with_reducible rfl))
  try simp only [sIB, sC0, sCS]
  refine tkP 6 9 ?_ rfl (.inl ⟨by rfl, ?_⟩) ?_; rotate_left; focus (intro w' _; go_simp; (try with_reducible rfl))
  try simp only [sIB, sC0, sCS]
  refine tkD 1 4 ?_ rfl hHeld (.inl ⟨by rfl, ?_⟩) ?_; rotate_left; focus (intro w' hSw; (try dsimp only at hSw); go_simp; (try with_reducible rfl))
  try simp only [sIB, sC0, sCS]
  refine tkD 4 7 ?_ rfl hHeld (.inl ⟨by rfl, ?_⟩) ?_; rotate_left; focus (intro w' hSw; (try dsimp only at hSw); go_simp; (try with_reducible rfl))
  try simp only [sIB, sC0, sCS]
  refine tkD 7 10 ?_ rfl hHeld (.inl ⟨by rfl, ?_⟩) ?_; rotate_left; focus (intro w' hSw; (try dsimp only at hSw); go_simp; (try with_reducible rfl))
  try simp only [sIB, sC0, sCS]
  refine wpAnyD_one (i := 2) (by kernel_rfl) rfl (by rfl) (fun K hK => ?_)
  go_simp; refine (clone_Mrg s.ms AM cM _ ((HS0.out.below HC.out.bl (Nat.le_refl _)).ms) (by have := HLN.out; omega)).mono ?_; rintro e V1 ⟨A1, c1, rfl, hsl, hfr, hb⟩; have HM0 := Lib.hid (HC.out.fresh hsl hfr); replace HC := Lib.hid (HC.out.below hb); clear hsl hfr hb; have q1 := blk_cell HC.out.blk 1; have q2 := blk_cell HC.out.blk 2; have q3 := blk_cell HC.out.blk 3; simp only [List.getElem?_toArray, List.getElem?_cons_zero, List.getElem?_cons_succ] at q1 q2 q3; have h := And.intro q1 (And.intro q2 (q3)); clear q1 q2 q3; go_simp
  refine hK.out _ _ h (fun hHeld => ?_)
  clear hK K
  try simp only [Act.put, sIB, sC0, sCS]
  refine tkP 9 12 ?_ rfl (.inl ⟨by rfl, ?_⟩) ?_; rotate_left; focus (intro w' _; go_simp; (try with_reducible rfl))
  try simp only [sIB, sC0, sCS]
  refine wpAnyD_one (i := 5) (by kernel_rfl) rfl (by rfl) (fun K hK => ?_)
  go_simp; refine (clone_Txt s.ts AT cT _ (sl_of1 (HS0.out.below HC.out.bl (Nat.le_refl _)).ts) (by have := HLN.out; omega)).mono ?_; rintro e V1 ⟨A2, c2, rfl, hsl, hfr, hb⟩; have HM1 := Lib.hid (HC.out.fresh hsl hfr); replace HC := Lib.hid (HC.out.below hb); replace HM0 := Lib.hid (HM0.out.below hb); clear hsl hfr hb; have q1 := blk_cell HC.out.blk 1; have q2 := blk_cell HC.out.blk 2; have q3 := blk_cell HC.out.blk 3; simp only [List.getElem?_toArray, List.getElem?_cons_zero, List.getElem?_cons_succ] at q1 q2 q3; have h := And.intro q1 (And.intro q2 (q3)); clear q1 q2 q3; go_simp
  refine hK.out _ _ h (fun hHeld => ?_)
  clear hK K
  try simp only [Act.put, sIB, sC0, sCS]
  refine wpAnyD_one (i := 8) (by kernel_rfl) rfl (by rfl) (fun K hK => ?_)
  go_simp; refine (clone_Spl s.xs AX cX _ ((HS0.out.below HC.out.bl (Nat.le_refl _)).xs) (by have := HLN.out; omega)).mono ?_; rintro e V1 ⟨A3, c3, rfl, hsl, hfr, hb⟩; have HM2 := Lib.hid (HC.out.fresh hsl hfr); replace HC := Lib.hid (HC.out.below hb); replace HM0 := Lib.hid (HM0.out.below hb); replace HM1 := Lib.hid (HM1.out.below hb); clear hsl hfr hb; have q1 := blk_cell HC.out.blk 1; have q2 := blk_cell HC.out.blk 2; have q3 := blk_cell HC.out.blk 3; simp only [List.getElem?_toArray, List.getElem?_cons_zero, List.getElem?_cons_succ] at q1 q2 q3; have h := And.intro q1 (And.intro q2 (q3)); clear q1 q2 q3; go_simp
  refine hK.out _ _ h (fun hHeld => ?_)
  clear hK K
  try simp only [Act.put, sIB, sC0, sCS]
  refine wpAnyD_last (D := 10) (by decide) (by kernel_rfl) rfl (by rfl) (fun K hK => ?_)
  have z0 := blk_froz HC.out.blk 1; have d0 := blk_cell HC.out.blk 1; simp only [List.getElem?_toArray, List.getElem?_cons_zero, List.getElem?_cons_succ] at d0; go_simp; have hk : Keep (fun g => g = sb) V1 (V1.setCell ⟨sb, 1, none⟩ (.slice A1 s.ms.length c1)) := (Keep.refl (fun g => g = sb) V1).setCell (p := ⟨sb, 1, none⟩) (.inl rfl) (.slice A1 s.ms.length c1); have hc := blk_set HC.out.blk 1 (.slice A1 s.ms.length c1); simp only [List.setIfInBounds_toArray, List.set_cons_zero, List.set_cons_succ] at hc; replace HC := Lib.hid (HC.out.put hk hc); replace HM0 := Lib.hid (HM0.out.keep hk); replace HM1 := Lib.hid (HM1.out.keep hk); replace HM2 := Lib.hid (HM2.out.keep hk); clear z0 d0 hk hc; generalize V1.setCell ⟨sb, 1, none⟩ (.slice A1 s.ms.length c1) = X1 at *
  refine hK.out _ _ ?_
  clear hK K
  try simp only [Act.put, sIB, sC0, sCS]
  refine tkP 11 13 ?_ rfl (.inl ⟨by rfl, ?_⟩) ?_; rotate_left; focus (intro w' _; go_simp; (try with_reducible rfl))
  try simp only [sIB, sC0, sCS]
  refine wpAnyD_last (D := 12) (by decide) (by kernel_rfl) rfl (by rfl) (fun K hK => ?_)
  have z0 := blk_froz HC.out.blk 2; have d0 := blk_cell HC.out.blk 2; simp only [List.getElem?_toArray, List.getElem?_cons_zero, List.getElem?_cons_succ] at d0; go_simp; have hk : Keep (fun g => g = sb) X1 (X1.setCell ⟨sb, 2, none⟩ (.slice A2 s.ts.length c2)) := (Keep.refl (fun g => g = sb) X1).setCell (p := ⟨sb, 2, none⟩) (.inl rfl) (.slice A2 s.ts.length c2); have hc := blk_set HC.out.blk 2 (.slice A2 s.ts.length c2); simp only [List.setIfInBounds_toArray, List.set_cons_zero, List.set_cons_succ] at hc; replace HC := Lib.hid (HC.out.put hk hc); replace HM0 := Lib.hid (HM0.out.keep hk); replace HM1 := Lib.hid (HM1.out.keep hk); replace HM2 := Lib.hid (HM2.out.keep hk); clear z0 d0 hk hc; generalize X1.setCell ⟨sb, 2, none⟩ (.slice A2 s.ts.length c2) = X2 at *
  refine hK.out _ _ ?_
  clear hK K
  try simp only [Act.put, sIB, sC0, sCS]
  refine tkP 13 14 ?_ rfl (.inl ⟨by rfl, ?_⟩) ?_; rotate_left; focus (intro w' _; go_simp; (try with_reducible rfl))
  try simp only [sIB, sC0, sCS]
  refine wpAnyD_last (D := 14) (by decide) (by kernel_rfl) rfl (by rfl) (fun K hK => ?_)
  have z0 := blk_froz HC.out.blk 3; have d0 := blk_cell HC.out.blk 3; simp only [List.getElem?_toArray, List.getElem?_cons_zero, List.getElem?_cons_succ] at d0; go_simp; have hk : Keep (fun g => g = sb) X2 (X2.setCell ⟨sb, 3, none⟩ (.slice A3 s.xs.length c3)) := (Keep.refl (fun g => g = sb) X2).setCell (p := ⟨sb, 3, none⟩) (.inl rfl) (.slice A3 s.xs.length c3); have hc := blk_set HC.out.blk 3 (.slice A3 s.xs.length c3); simp only [List.setIfInBounds_toArray, List.set_cons_zero, List.set_cons_succ] at hc; replace HC := Lib.hid (HC.out.put hk hc); replace HM0 := Lib.hid (HM0.out.keep hk); replace HM1 := Lib.hid (HM1.out.keep hk); replace HM2 := Lib.hid (HM2.out.keep hk); clear z0 d0 hk hc; generalize X2.setCell ⟨sb, 3, none⟩ (.slice A3 s.xs.length c3) = X3 at *
  refine hK.out _ _ ?_
  clear hK K
  try simp only [Act.put, sIB, sC0, sCS]
  refine wpAnyD_done (by kernel_rfl) ?_ _
  clear hHeld h
  go_upto_region 2 with fail
  refine wp_region_D (Ds := [7, 9]) (S := fun V => V.cell? ⟨sb, 4, none⟩ = some (.slice AC s.cs.length cC) ∧ V.cell? ⟨sb, 5, none⟩ = some (.slice AJ s.js.length cJ)) (by kernel_rfl) (by (have q4 := blk_cell HC.out.blk 4); (have q5 := blk_cell HC.out.blk 5); (simp only [List.getElem?_toArray, List.getElem?_cons_zero, List.getElem?_cons_succ] at q4 q5); exact And.intro q4 q5) (fun hHeld => ?_)
  (replace HC := Lib.hid HC.out.drew); (replace HM0 := Lib.hid HM0.out.drew); (replace HM1 := Lib.hid HM1.out.drew); (replace HM2 := Lib.hid HM2.out.drew); generalize X3.drew = Y0 at *
  refine tkP 0 15 ?_ rfl (.inl ⟨by rfl, ?_⟩) ?_; rotate_left; focus (intro w' _; go_simp; (try with_reducible rfl))
  try simp only [sIB, sC0, sCS]
  refine tkP 3 18 ?_ rfl (.inl ⟨by rfl, ?_⟩) ?_; rotate_left; focus (intro w' _; go_simp; (try with_reducible rfl))
  try simp only [sIB, sC0, sCS]
  refine tkD 1 16 ?_ rfl hHeld (.inl ⟨by rfl, ?_⟩) ?_; rotate_left; focus (intro w' hSw; (try dsimp only at hSw); go_simp; (try with_reducible rfl))
  try simp only [sIB, sC0, sCS]
  refine tkD 4 19 ?_ rfl hHeld (.inl ⟨by rfl, ?_⟩) ?_; rotate_left; focus (intro w' hSw; (try dsimp only at hSw); go_simp; (try with_reducible rfl))
  try simp only [sIB, sC0, sCS]
  refine wpAnyD_one (i := 2) (by kernel_rfl) rfl (by rfl) (fun K hK => ?_)
  go_simp; refine (clone_Cls s.cs AC cC _ ((HS0.out.below HC.out.bl (Nat.le_refl _)).cs) (by have := HLN.out; omega)).mono ?_; rintro e V1 ⟨A4, c4, rfl, hsl, hfr, hb⟩; have HM3 := Lib.hid (HC.out.fresh hsl hfr); replace HC := Lib.hid (HC.out.below hb); replace HM0 := Lib.hid (HM0.out.below hb); replace HM1 := Lib.hid (HM1.out.below hb); replace HM2 := Lib.hid (HM2.out.below hb); clear hsl hfr hb; have q4 := blk_cell HC.out.blk 4; have q5 := blk_cell HC.out.blk 5; simp only [List.getElem?_toArray, List.getElem?_cons_zero, List.getElem?_cons_succ] at q4 q5; have h := And.intro q4 (q5); clear q4 q5; go_simp
  refine hK.out _ _ h (fun hHeld => ?_)
  clear hK K
  try simp only [Act.put, sIB, sC0, sCS]
  refine tkP 6 21 ?_ rfl (.inl ⟨by rfl, ?_⟩) ?_; rotate_left; focus (intro w' _; go_simp; (try with_reducible rfl))
  try simp only [sIB, sC0, sCS]
  refine wpAnyD_one (i := 5) (by kernel_rfl) rfl (by rfl) (fun K hK => ?_)
  go_simp; refine (clone_Jns s.js AJ cJ _ ((HS0.out.below HC.out.bl (Nat.le_refl _)).js) (by have := HLN.out; omega)).mono ?_; rintro e V1 ⟨A5, c5, rfl, hsl, hfr, hb⟩; have HM4 := Lib.hid (HC.out.fresh hsl hfr); replace HC := Lib.hid (HC.out.below hb); replace HM0 := Lib.hid (HM0.out.below hb); replace HM1 := Lib.hid (HM1.out.below hb); replace HM2 := Lib.hid (HM2.out.below hb); replace HM3 := Lib.hid (HM3.out.below hb); clear hsl hfr hb; have q4 := blk_cell HC.out.blk 4; have q5 := blk_cell HC.out.blk 5; simp only [List.getElem?_toArray, List.getElem?_cons_zero, List.getElem?_cons_succ] at q4 q5; have h := And.intro q4 (q5); clear q4 q5; go_simp
  refine hK.out _ _ h (fun hHeld => ?_)
  clear hK K
  try simp only [Act.put, sIB, sC0, sCS]
  refine wpAnyD_last (D := 7) (by decide) (by kernel_rfl) rfl (by rfl) (fun K hK => ?_)
  have z0 := blk_froz HC.out.blk 4; have d0 := blk_cell HC.out.blk 4; simp only [List.getElem?_toArray, List.getElem?_cons_zero, List.getElem?_cons_succ] at d0; go_simp; have hk : Keep (fun g => g = sb) V1 (V1.setCell ⟨sb, 4, none⟩ (.slice A4 s.cs.length c4)) := (Keep.refl (fun g => g = sb) V1).setCell (p := ⟨sb, 4, none⟩) (.inl rfl) (.slice A4 s.cs.length c4); have hc := blk_set HC.out.blk 4 (.slice A4 s.cs.length c4); simp only [List.setIfInBounds_toArray, List.set_cons_zero, List.set_cons_succ] at hc; replace HC := Lib.hid (HC.out.put hk hc); replace HM0 := Lib.hid (HM0.out.keep hk); replace HM1 := Lib.hid (HM1.out.keep hk); replace HM2 := Lib.hid (HM2.out.keep hk); replace HM3 := Lib.hid (HM3.out.keep hk); replace HM4 := Lib.hid (HM4.out.keep hk); clear z0 d0 hk hc; generalize V1.setCell ⟨sb, 4, none⟩ (.slice A4 s.cs.length c4) = Z1 at *
  refine hK.out _ _ ?_
  clear hK K
  try simp only [Act.put, sIB, sC0, sCS]
  refine tkP 8 22 ?_ rfl (.inl ⟨by rfl, ?_⟩) ?_; rotate_left; focus (intro w' _; go_simp; (try with_reducible rfl))
  try simp only [sIB, sC0, sCS]
  refine wpAnyD_last (D := 9) (by decide) (by kernel_rfl) rfl (by rfl) (fun K hK => ?_)
  have z0 := blk_froz HC.out.blk 5; have d0 := blk_cell HC.out.blk 5; simp only [List.getElem?_toArray, List.getElem?_cons_zero, List.getElem?_cons_succ] at d0; go_simp; have hk : Keep (fun g => g = sb) Z1 (Z1.setCell ⟨sb, 5, none⟩ (.slice A5 s.js.length c5)) := (Keep.refl (fun g => g = sb) Z1).setCell (p := ⟨sb, 5, none⟩) (.inl rfl) (.slice A5 s.js.length c5); have hc := blk_set HC.out.blk 5 (.slice A5 s.js.length c5); simp only [List.setIfInBounds_toArray, List.set_cons_zero, List.set_cons_succ] at hc; replace HC := Lib.hid (HC.out.put hk hc); replace HM0 := Lib.hid (HM0.out.keep hk); replace HM1 := Lib.hid (HM1.out.keep hk); replace HM2 := Lib.hid (HM2.out.keep hk); replace HM3 := Lib.hid (HM3.out.keep hk); replace HM4 := Lib.hid (HM4.out.keep hk); clear z0 d0 hk hc; generalize Z1.setCell ⟨sb, 5, none⟩ (.slice A5 s.js.length c5) = Z2 at *
  refine hK.out _ _ ?_
  clear hK K
  try simp only [Act.put, sIB, sC0, sCS]
  refine wpAnyD_done (by kernel_rfl) ?_ _
  clear hHeld h
  have g0 := blk_cell HC.out.blk 0
  have g1 := blk_cell HC.out.blk 1
  have g2 := blk_cell HC.out.blk 2
  have g3 := blk_cell HC.out.blk 3
  have g4 := blk_cell HC.out.blk 4
  have g5 := blk_cell HC.out.blk 5
  simp only [List.getElem?_toArray, List.getElem?_cons_zero, List.getElem?_cons_succ] at g0 g1 g2 g3 g4 g5
  have d0 := blk_cell HC.out.res 0
  have d1 := blk_cell HC.out.res 1
  have d2 := blk_cell HC.out.res 2
  have d3 := blk_cell HC.out.res 3
  have d4 := blk_cell HC.out.res 4
  have d5 := blk_cell HC.out.res 5
  simp only [List.getElem?_toArray, List.getElem?_cons_zero, List.getElem?_cons_succ] at d0 d1 d2 d3 d4 d5
  have z0 := blk_froz HC.out.res 0
  have z1 := blk_froz HC.out.res 1
  have z2 := blk_froz HC.out.res 2
  have z3 := blk_froz HC.out.res 3
  have z4 := blk_froz HC.out.res 4
  have z5 := blk_froz HC.out.res 5
  go_wp2_with fail
  clear d0 d1 d2 d3 d4 d5 z0 z1 z2 z3 z4 z5 g0 g1 g2 g3 g4 g5
  have hc := (blk_set (blk_set (blk_set (blk_set (blk_set (blk_set HC.out.res 0 (.bool s.rk)) 1 (.slice A1 s.ms.length c1)) 2 (.slice A2 s.ts.length c2)) 3 (.slice A3 s.xs.length c3)) 4 (.slice A4 s.cs.length c4)) 5 (.slice A5 s.js.length c5))
  simp only [List.setIfInBounds_toArray, List.set_cons_zero, List.set_cons_succ] at hc
  have hk := (((((((Keep.refl (fun g => g = sb + 1) Z2).setCell (p := ⟨sb + 1, 0, none⟩) (.inl rfl) (.bool s.rk)).setCell (p := ⟨sb + 1, 1, none⟩) (.inl rfl) (.slice A1 s.ms.length c1)).setCell (p := ⟨sb + 1, 2, none⟩) (.inl rfl) (.slice A2 s.ts.length c2)).setCell (p := ⟨sb + 1, 3, none⟩) (.inl rfl) (.slice A3 s.xs.length c3)).setCell (p := ⟨sb + 1, 4, none⟩) (.inl rfl) (.slice A4 s.cs.length c4)).setCell (p := ⟨sb + 1, 5, none⟩) (.inl rfl) (.slice A5 s.js.length c5))
  refine ret_cell1 (r := sb + 1) rfl rfl (load_spec hc) ?_
  have hbf := hk.below HC.out.bl.size (fun x hx => by have := HC.out.lt; omega)
  exact ⟨⟨A1, A2, A3, A4, A5, c1, c2, c3, c4, c5, rfl, ⟨HM0.out.keep1 hk, sl_to1 (HM1.out.keep1 hk), HM2.out.keep1 hk, HM3.out.keep1 hk, HM4.out.keep1 hk, HS0.out.len⟩⟩, HC.out.bl.trans hbf⟩
end
def markC (sv : Value) (mi mt : Nat) (fs : Nat → Bool) (mo : Nat) (i : Nat) : Value := if i = 0 then sv else if i = 1 then .map (some mi) else if i = 2 then .map (some mt) else if i < 259 then .bool (fs (i - 3)) else .int .i64 (mo : Nat)
def markA (sv : Value) (mi mt : Nat) (fs : Nat → Bool) (mo : Nat) : Array Value := Array.ofFn (n := 260) fun i => markC sv mi mt fs mo i
theorem mark_get (sv : Value) (mi mt : Nat) (fs : Nat → Bool) (mo : Nat) (i : Nat) (h : i < 260) : (markA sv mi mt fs mo)[i]? = some (markC sv mi mt fs mo i) := by simp [markA, h]
def fndI (M : List (Int × List UInt8)) (id : Int) : Option Nat := M.findIdx? (fun x => x.1 == id)
def fndX (M : List (Int × List UInt8)) (s : List UInt8) : Option Nat := M.findIdx? (fun x => x.2 == s)
def firstB (M : List (Int × List UInt8)) (b : Nat) : Bool := M.any (fun x => match x.2 with | [] => false | c :: _ => c.toNat == b)
def mostM (M : List (Int × List UInt8)) : Nat := M.foldl (fun n x => max n x.2.length) 0
structure MarkIs (w : World) (base mb : Nat) (M : List (Int × List UInt8)) (sv : Value) (mi mt : Nat) : Prop where
  blk : w.heap[mb]? = some (.cells (markA sv mi mt (firstB M) (mostM M)) 214)
  row : w.ownsRow base 98 2 sv M.length (M.flatMap encIS)
  ids : MapOf Tryz.prog 3 3 (Value.int .i64) w mi M.length (fun i => (fndI M i).map Int.ofNat)
  txs : MapOf Tryz.prog 9 3 strV w mt M.length (fun s => (fndX M s).map Int.ofNat)
  ne : mi ≠ mt
  lt : base ≤ mb ∧ base ≤ mi ∧ base ≤ mt
theorem MarkIs.below {B : Nat} {w w' : World} {base mb : Nat} {M : List (Int × List UInt8)} {sv : Value} {mi mt : Nat} (h : MarkIs w base mb M sv mi mt) (hb : Below B w w') (hB : w.heap.size ≤ B) : MarkIs w' base mb M sv mi mt :=
  ⟨blk_below hb (Nat.lt_of_lt_of_le (blk_lt h.blk) hB) h.blk, own_below h.row hb hB, h.ids.below hb (Nat.lt_of_lt_of_le h.ids.lt hB), h.txs.below hb (Nat.lt_of_lt_of_le h.txs.lt hB), h.ne, h.lt⟩
theorem keyed_int : Keyed Tryz.prog 3 := int_keyed Tryz.underlying3
theorem key_int {n : Int} (h : (Lit.int .i64 n).wf = true) : ∃ l, keyOf Tryz.prog 3 (.int .i64 n) = some l := ⟨_, keyOf_int_mk Tryz.underlying3 h⟩
theorem mitem_any (n : Int) (h0 : 0 ≤ n) (h1 : n < 1000000) (w : World) : Calls Tryz.prog 132 #[.int .i64 n] w fun e w' => e = .returned (.int .i64 (-1 - n)) ∧ w' = w := by
  have e1 : IntKind.i64.wrap (-1 - n) = -1 - n := IntWalk.i64_in _ (by omega)
  go_enter Tryz.func132, Tryz.ntmps132
  go_wp2_with fail
  go_ret
  exact ⟨rfl, rfl⟩
set_option maxHeartbeats 1000000 in
theorem mark_any {w : World} {base mb : Nat} {M : List (Int × List UInt8)} {sv : Value} {mi mt : Nat} (h : MarkIs w base mb M sv mi mt) (id : Int) (hw : (Lit.int .i64 id).wf = true) (hM : M.length ≤ 1000) :
    Calls Tryz.prog 93 #[.pointer (some ⟨mb, 0, none⟩), .int .i64 id] w fun e w' => e = .returned (.tuple #[.int .i64 (match fndI M id with | some i => -1 - (i : Int) | none => 0), .bool (fndI M id).isSome]) ∧ w' = w := by
  have c1 := blk_cell h.blk 1
  rw [mark_get _ _ _ _ _ _ (by decide)] at c1
  change w.cell? ⟨mb, 1, none⟩ = some (.map (some mi)) at c1
  obtain ⟨f, hfd⟩ : ∃ f : Int → Option Int, (fun i => (fndI M i).map Int.ofNat) = f := ⟨_, rfl⟩
  have hids := h.ids
  rw [hfd] at hids
  have HB := Lib.hid hids
  clear hids
  have HK := Lib.hid (key_int hw)
  cases hf : fndI M id with
  | none =>
    have HF : Hid (f id = none) := Lib.hid (by rw [← hfd]; simp only [hf]; rfl)
    clear h hw hf hfd
    go_enter Tryz.func93, Tryz.ntmps93
    go_wp2_with (refine map_look 49 _ _ rfl rfl keyed_int Tryz.underlying49 Tryz.underlying3 (zero_int _) rfl HB.out id rfl HK.out ?_; (simp only [HF.out, Option.getD_none, Option.isSome_none]))
    go_ret2
    exact ⟨rfl, rfl⟩
  | some i =>
    have hi : i < M.length := by
      unfold fndI at hf
      rw [List.findIdx?_eq_some_iff_getElem] at hf
      exact hf.1
    have HF : Hid (f id = some (i : Int)) := Lib.hid (by rw [← hfd]; simp only [hf]; rfl)
    have HI := Lib.hid (fun V => mitem_any (i : Int) (by omega) (by omega) V)
    clear h hw hf hi hM hfd
    go_enter Tryz.func93, Tryz.ntmps93
    go_wp2_with (first | (refine map_look 49 _ _ rfl rfl keyed_int Tryz.underlying49 Tryz.underlying3 (zero_int _) rfl HB.out id rfl HK.out ?_; (simp only [HF.out, Option.getD_some, Option.isSome_some])) | (go_at_call 132; (refine (HI.out w).mono ?_); (rintro e V1 ⟨rfl, rfl⟩)))
    go_ret2
    exact ⟨rfl, rfl⟩
abbrev Spl := Int × List UInt8
def longX (xs : List Spl) : Bool := xs.any (fun x => decide (100 < x.2.length))
def greatX (xs : List Spl) : Bool := longX xs || decide (40 < xs.length)
def rightX (x : Spl) : Bool := decide (0 ≤ x.1) && decide (x.1 ≤ 1073741824) && decide (1 ≤ x.2.length) && decide (x.2.length ≤ 64)
def freshX (l : List Spl) (x : Spl) : Bool := l.all (fun y => decide (y.1 ≠ x.1) && decide (y.2 ≠ x.2))
def okX (xs : List Spl) : Bool := decide (xs.length ≤ 32) && (List.range xs.length).all (fun i => rightX (xs.getD i (0, [])) && freshX (xs.take i) (xs.getD i (0, [])))
theorem okX_iff (xs : List Spl) : okX xs = true ↔ xs.length ≤ 32 ∧ ∀ i (h : i < xs.length), rightX xs[i] = true ∧ freshX (xs.take i) xs[i] = true := by
  unfold okX
  rw [Bool.and_eq_true, decide_eq_true_eq, List.all_eq_true]
  constructor
  · rintro ⟨h1, h2⟩
    refine ⟨h1, fun i h => ?_⟩
    have := h2 i (List.mem_range.2 h)
    rw [Bool.and_eq_true, List.getD_eq_getElem?_getD, List.getElem?_eq_getElem h] at this
    exact this
  · rintro ⟨h1, h2⟩
    refine ⟨h1, fun i hi => ?_⟩
    have h := List.mem_range.1 hi
    rw [Bool.and_eq_true, List.getD_eq_getElem?_getD, List.getElem?_eq_getElem h]
    exact h2 i h
theorem okX_bad {xs : List Spl} {i : Nat} (h : i < xs.length) (h2 : rightX xs[i] = false ∨ freshX (xs.take i) xs[i] = false ∨ 32 ≤ i) : okX xs = false := by
  rw [Bool.eq_false_iff]
  intro hk
  obtain ⟨h3, h4⟩ := (okX_iff xs).1 hk
  obtain ⟨h5, h6⟩ := h4 i h
  rcases h2 with h2 | h2 | h2
  · rw [h5] at h2; cases h2
  · rw [h6] at h2; cases h2
  · omega
theorem fresh_step {l : List Spl} {x : Spl} {k : Nat} (h : k < l.length) (h1 : freshX (l.take k) x = true) (h2 : l[k].1 ≠ x.1) (h3 : l[k].2 ≠ x.2) : freshX (l.take (k + 1)) x = true := by
  unfold freshX at *
  rw [List.take_add_one, List.getElem?_eq_getElem h, List.all_append, h1]
  simp [h2, h3]
theorem fresh_no {l : List Spl} {x : Spl} {k i : Nat} (h : k < l.length) (hk : k < i) (h2 : l[k].1 = x.1 ∨ l[k].2 = x.2) : freshX (l.take i) x = false := by
  rw [Bool.eq_false_iff]
  intro hf
  unfold freshX at hf
  rw [List.all_eq_true] at hf
  have := hf l[k] (List.mem_take_iff_getElem.2 ⟨k, by omega, rfl⟩)
  simp only [Bool.and_eq_true, decide_eq_true_eq] at this
  rcases h2 with h2 | h2
  · exact this.1 h2
  · exact this.2 h2
section
variable {w : World} {xs : List Spl} {A : Option Addr} {c : Nat}
theorem rgreat9_any (h : Sl w A encIS 2 xs) (hl : xs.length ≤ 9223372036854775807) :
    Calls Tryz.prog 72 #[.slice A xs.length c] w fun e w' => e = .returned (.bool (greatX xs)) ∧ w' = w := by
  have HS := Lib.hid h
  have HL := Lib.hid hl
  clear h hl
  go_enter Tryz.func72, Tryz.ntmps72
  go_wp2_with fail
  obtain ⟨N, hN⟩ : ∃ N, xs.length = N := ⟨_, rfl⟩
  have HN := Lib.hid hN
  rw [hN] at HL ⊢
  clear hN
  go_loopg [3] N (fun n i W => ∃ k : Nat, k + n = N ∧ i = .int .i64 (k : Int) ∧ longX (xs.take k) = false ∧ W = w)
  case atStart => exact ⟨0, by omega, rfl, rfl, rfl⟩
  case round =>
    obtain ⟨k, hk, rfl, hlo, hW⟩ := hrel
    subst hW
    have HLO := Lib.hid hlo
    clear hlo
    by_cases hlt : k < N
    · have hlt' : (k : Int) < (N : Int) := by omega
      have q0 : (0 : Int) ≤ (k : Int) := by omega
      have hk2 : k < xs.length := by rw [HN.out]; exact hlt
      obtain ⟨b, o, hA, hc⟩ := HS.out.at k hk2
      subst hA
      obtain ⟨x, hx⟩ : ∃ x, xs[k] = x := ⟨_, rfl⟩
      have HX := Lib.hid hx
      rw [hx] at hc
      have c1 : World.cell? _ ⟨b, o + k * 2 + 1, none⟩ = some (.string (bs x.2)) := hc 1 _ rfl
      have hsz : ((bs x.2).size : Int) = (x.2.length : Int) := by rw [bs_size]
      have ws : IntKind.i64.wrap ((k : Int) + 1) = (k : Int) + 1 := IntWalk.i64_in _ (by have := HL.out; omega)
      clear hc hx
      have HK2 := Lib.hid hk2
      by_cases h100 : 100 < x.2.length
      · have h100' : (100 : Int) < (x.2.length : Int) := by omega
        go_wp2_with fail
        go_ret
        refine ⟨?_, rfl⟩
        have : greatX xs = true := by
          unfold greatX longX
          rw [Bool.or_eq_true, List.any_eq_true]
          exact .inl ⟨xs[k]'HK2.out, List.getElem_mem _, by rw [HX.out]; simpa using h100⟩
        rw [this]
        rfl
      · have h100' : ¬ (100 : Int) < (x.2.length : Int) := by omega
        go_wp2_with fail
        go_roundg (gk - 1)
        case measure => omega
        case rel => exact ⟨k + 1, by omega, by simp, by
          unfold longX at *
          rw [List.take_add_one, List.getElem?_eq_getElem HK2.out, List.any_append, HLO.out, HX.out]
          simpa using h100, rfl⟩
    · have hke : k = N := by omega
      subst hke
      have hlt' : ¬ ((k : Nat) : Int) < (k : Int) := by omega
      go_wp2_with fail
      go_ret
      refine ⟨?_, rfl⟩
      have h1 := HLO.out
      rw [List.take_of_length_le (by rw [HN.out]; exact Nat.le_refl _)] at h1
      unfold greatX
      rw [h1, HN.out]
      simp
      omega
theorem rgreat_any {AL AC AJ : Option Addr} {cL cC cJ nl nc nj : Nat} (h : Sl w A encIS 2 xs) (hl : xs.length ≤ 9223372036854775807) :
    Calls Tryz.prog 41 #[.slice AL nl cL, .slice AC nc cC, .slice AJ nj cJ, .slice A xs.length c] w fun e w' => e = .returned (.bool (decide (60 < nl) || decide (20 < nc) || decide (20 < nj) || greatX xs)) ∧ w' = w := by
  have HG := Lib.hid (rgreat9_any (c := c) h hl)
  clear h hl
  by_cases h1 : 60 < nl
  · have h1' : (60 : Int) < (nl : Int) := by omega
    go_enter Tryz.func41, Tryz.ntmps41
    go_wp2_with fail
    go_ret
    exact ⟨by simp [h1], rfl⟩
  · have h1' : ¬ (60 : Int) < (nl : Int) := by omega
    by_cases h2 : 20 < nc
    · have h2' : (20 : Int) < (nc : Int) := by omega
      go_enter Tryz.func41, Tryz.ntmps41
      go_wp2_with fail
      go_ret
      exact ⟨by simp [h2], rfl⟩
    · have h2' : ¬ (20 : Int) < (nc : Int) := by omega
      by_cases h3 : 20 < nj
      · have h3' : (20 : Int) < (nj : Int) := by omega
        go_enter Tryz.func41, Tryz.ntmps41
        go_wp2_with fail
        go_ret
        exact ⟨by simp [h3], rfl⟩
      · have h3' : ¬ (20 : Int) < (nj : Int) := by omega
        obtain ⟨q, hq⟩ : ∃ q, greatX xs = q := ⟨_, rfl⟩
        rw [hq] at HG ⊢
        clear hq
        go_enter Tryz.func41, Tryz.ntmps41
        go_wp2_with (go_at_call 72; refine HG.out.mono ?_; rintro e W1 ⟨rfl, rfl⟩)
        go_ret
        exact ⟨by simp [h1, h2, h3], rfl⟩
end
def chkE (xs : List Spl) (e : Ending) : Prop := ∃ (n : Nat) (k : Int), e = .returned (.tuple #[.int .i64 (n : Int), .int .i64 k]) ∧ (okX xs = true → n = xs.length ∧ k = 0) ∧ (okX xs = false → k ≠ 0)
section
variable {w : World} {xs : List Spl} {A : Option Addr} {c : Nat}
theorem rightX_no {x : Spl} (h : ¬ (0 ≤ x.1 ∧ x.1 ≤ 1073741824 ∧ 1 ≤ x.2.length ∧ x.2.length ≤ 64)) : rightX x = false := by
  unfold rightX
  rw [Bool.eq_false_iff]
  intro h2
  simp only [Bool.and_eq_true, decide_eq_true_eq] at h2
  exact h ⟨h2.1.1.1, h2.1.1.2, h2.1.2, h2.2⟩
theorem rightX_yes {x : Spl} (h : 0 ≤ x.1 ∧ x.1 ≤ 1073741824 ∧ 1 ≤ x.2.length ∧ x.2.length ≤ 64) : rightX x = true := by
  unfold rightX
  simp only [Bool.and_eq_true, decide_eq_true_eq]
  exact ⟨⟨⟨h.1, h.2.1⟩, h.2.2.1⟩, h.2.2.2⟩
set_option maxHeartbeats 4000000 in
theorem rcheck_any (h : Sl w A encIS 2 xs) (hl : xs.length < 1000000000) :
    Calls Tryz.prog 74 #[.slice A xs.length c] w fun e w' => chkE xs e ∧ ∃ m, w' = w.drewN m := by
  have HS := Lib.hid h
  have HL := Lib.hid hl
  clear h hl
  go_enter Tryz.func74, Tryz.ntmps74
  go_wp2_with fail
  obtain ⟨N, hN⟩ : ∃ N, xs.length = N := ⟨_, rfl⟩
  have HN := Lib.hid hN
  rw [hN] at HL ⊢
  clear hN
  go_loopg [4] N (fun n i W => ∃ k : Nat, k + n = N ∧ i = .int .i64 (k : Int) ∧ (k ≤ 32 ∧ ∀ j (h : j < xs.length), j < k → rightX xs[j] = true ∧ freshX (xs.take j) xs[j] = true) ∧ ∃ m, W = w.drewN m)
  case atStart => exact ⟨0, by omega, rfl, ⟨by omega, fun j h hj => by omega⟩, 0, rfl⟩
  case round =>
    obtain ⟨k, hk, rfl, hok, m, hW⟩ := hrel
    subst hW
    have HOK := Lib.hid hok
    clear hok
    by_cases hlt : k < N
    · have hlt' : (k : Int) < (N : Int) := by omega
      have q0 : (0 : Int) ≤ (k : Int) := by omega
      have hk2 : k < xs.length := by rw [HN.out]; exact hlt
      have HK2 := Lib.hid hk2
      obtain ⟨b, o, hA, hc⟩ := HS.out.at k hk2
      subst hA
      obtain ⟨x, hx⟩ : ∃ x, xs[k] = x := ⟨_, rfl⟩
      replace hc : ∀ j v, (encIS x)[j]? = some v → (w.drewN m).cell? ⟨b, o + k * 2 + j, none⟩ = some v := by rw [← hx]; exact hc
      obtain ⟨id, tx⟩ := x
      have HX := Lib.hid hx
      have c0 : (w.drewN m).cell? ⟨b, o + k * 2, none⟩ = some (.int .i64 id) := hc 0 _ rfl
      obtain ⟨z, hz⟩ : ∃ z, bs tx = z := ⟨_, rfl⟩
      have HZ := Lib.hid hz
      have c1 : (w.drewN m).cell? ⟨b, o + k * 2 + 1, none⟩ = some (.string z) := by rw [← hz]; exact hc 1 _ rfl
      have hsz : (z.size : Int) = (tx.length : Int) := by rw [← hz, bs_size]
      clear hz
      have ws : IntKind.i64.wrap ((k : Int) + 1) = (k : Int) + 1 := IntWalk.i64_in _ (by have := HL.out; omega)
      clear hc hx
      have hbad : ∀ (e : Ending), ¬ (0 ≤ id ∧ id ≤ 1073741824 ∧ 1 ≤ tx.length ∧ tx.length ≤ 64) → e = .returned (.tuple #[.int .i64 (k : Int), .int .i64 1]) → chkE xs e := fun e hn he => ⟨k, 1, he, fun h => absurd h (by rw [okX_bad HK2.out (.inl ((congrArg rightX HX.out).trans (rightX_no hn)))]; decide), fun _ => by decide⟩
      have HBAD := Lib.hid hbad
      clear hbad
      by_cases n1 : id < 0
      · go_wp2_with fail
        go_ret2
        exact ⟨HBAD.out _ (by omega) rfl, m, rfl⟩
      · by_cases n2 : 1073741824 < id
        · go_wp2_with fail
          go_ret2
          exact ⟨HBAD.out _ (by omega) rfl, m, rfl⟩
        · by_cases n3 : tx.length < 1
          · have n3' : (tx.length : Int) < 1 := by omega
            go_wp2_with fail
            go_ret2
            exact ⟨HBAD.out _ (by omega) rfl, m, rfl⟩
          · have n3' : ¬ (tx.length : Int) < 1 := by omega
            by_cases n4 : 64 < tx.length
            · have n4' : (64 : Int) < (tx.length : Int) := by omega
              go_wp2_with fail
              go_ret2
              exact ⟨HBAD.out _ (by omega) rfl, m, rfl⟩
            · have n4' : ¬ (64 : Int) < (tx.length : Int) := by omega
              have HR := Lib.hid (rightX_yes (x := (id, tx)) (by simp only; omega))
              by_cases n5 : 32 ≤ k
              · have n5' : (32 : Int) ≤ (k : Int) := by omega
                go_wp2_with fail
                go_ret2
                exact ⟨⟨k, 3, rfl, fun h => absurd h (by rw [okX_bad HK2.out (.inr (.inr n5))]; decide), fun _ => by decide⟩, m, rfl⟩
              · have n5' : ¬ (32 : Int) ≤ (k : Int) := by omega
                have HC0 : Hid (∀ m, (w.drewN m).cell? ⟨b, o + k * 2, none⟩ = some (.int .i64 id)) := Lib.hid (fun _ => c0)
                have HC1 : Hid (∀ m, (w.drewN m).cell? ⟨b, o + k * 2 + 1, none⟩ = some (.string z)) := Lib.hid (fun _ => c1)
                go_upto_region 8 with fail
                have HN5 := Lib.hid n5
                clear c0 c1 n1 n2 n3 n3' n4 n4' n5 n5' hsz
                go_upto_region 9 with fail
                obtain ⟨g0, hg0⟩ : ∃ g, g + 1 = gk := ⟨gk - 1, by omega⟩
                have HG0 : Hid (k + 1 + g0 = N) := Lib.hid (by omega)
                clear hg0
                go_loopg [5] k (fun n j W => ∃ q m : Nat, q + n = k ∧ j = .int .i64 (q : Int) ∧ freshX (xs.take q) (id, tx) = true ∧ W = w.drewN m)
                case atStart => exact ⟨0, m, by omega, rfl, rfl, rfl⟩
                case round =>
                  obtain ⟨q, m2, hq, rfl, hfr, hW⟩ := hrel
                  subst hW
                  have HFR := Lib.hid hfr
                  clear hfr
                  by_cases hqk : q < k
                  · have hqk' : (q : Int) < (k : Int) := by omega
                    have hqN : (q : Int) < (N : Int) := by omega
                    have p0 : (0 : Int) ≤ (q : Int) := by omega
                    have hq2 : q < xs.length := by rw [HN.out]; omega
                    have HQ2 := Lib.hid hq2
                    obtain ⟨b2, o2, hA2, hc2⟩ := HS.out.at q hq2
                    injection hA2 with hA2
                    injection hA2 with hA2 hA3
                    subst hA2
                    subst hA3
                    obtain ⟨y, hy⟩ : ∃ y, xs[q] = y := ⟨_, rfl⟩
                    replace hc2 : ∀ j v, (encIS y)[j]? = some v → (w.drewN m2).cell? ⟨b, o + q * 2 + j, none⟩ = some v := by rw [← hy]; exact hc2
                    obtain ⟨id2, tx2⟩ := y
                    have HY := Lib.hid hy
                    have d0 : (w.drewN m2).cell? ⟨b, o + q * 2, none⟩ = some (.int .i64 id2) := hc2 0 _ rfl
                    obtain ⟨z2, hz2⟩ : ∃ z, bs tx2 = z := ⟨_, rfl⟩
                    have HZ2 := Lib.hid hz2
                    have d1 : (w.drewN m2).cell? ⟨b, o + q * 2 + 1, none⟩ = some (.string z2) := by rw [← hz2]; exact hc2 1 _ rfl
                    clear hz2
                    have c0 := HC0.out m2
                    have c1 := HC1.out m2
                    have wq : IntKind.i64.wrap ((q : Int) + 1) = (q : Int) + 1 := IntWalk.i64_in _ (by have := HL.out; omega)
                    clear hc2 hy
                    have HNO : Hid ((id2 = id ∨ tx2 = tx) → chkE xs (.returned (.tuple #[.int .i64 (k : Int), .int .i64 10]))) := Lib.hid (fun h => ⟨k, 10, rfl, fun h2 => absurd h2 (by
                      rw [okX_bad HK2.out (.inr (.inl ((congrArg (freshX (xs.take k)) HX.out).trans (fresh_no HQ2.out hqk (by
                        have e : xs[q]'HQ2.out = (id2, tx2) := HY.out
                        rcases h with h | h
                        · exact .inl ((congrArg Prod.fst e).trans h)
                        · exact .inr ((congrArg Prod.snd e).trans h))))))]; decide), fun _ => by decide⟩)
                    have HYES : Hid (id2 ≠ id → tx2 ≠ tx → freshX (xs.take (q + 1)) (id, tx) = true) := Lib.hid (fun h1 h2 => fresh_step HQ2.out HFR.out (fun e => h1 ((congrArg Prod.fst HY.out).symm.trans e)) (fun e => h2 ((congrArg Prod.snd HY.out).symm.trans e)))
                    by_cases hid : id2 = id
                    · have HNO2 := Lib.hid (HNO.out (.inl hid))
                      subst hid
                      go_upto_region 11 with fail
                      refine wp_region_held_drew (S := fun V => V.cell? ⟨b, o + k * 2, none⟩ = some (.int .i64 id2) ∧ V.cell? ⟨b, o + k * 2 + 1, none⟩ = some (.string z) ∧ V.cell? ⟨b, o + q * 2, none⟩ = some (.int .i64 id2) ∧ V.cell? ⟨b, o + q * 2 + 1, none⟩ = some (.string z2)) (by kernel_rfl) (by exact And.intro c0 (And.intro c1 (And.intro d0 d1))) (fun hHeld => ?_)
                      refine tkH 0 53 ?_ rfl hHeld (.inl ⟨by rfl, ?_⟩) ?_; rotate_left; focus (intro w' hSw; (try dsimp only at hSw); go_simp; (try with_reducible rfl))
                      try simp only [sIB, sC0, sCS]
                      refine tkH 1 54 ?_ rfl hHeld (.inl ⟨by rfl, ?_⟩) ?_; rotate_left; focus (intro w' hSw; (try dsimp only at hSw); go_simp; (try with_reducible rfl))
                      try simp only [sIB, sC0, sCS]
                      refine tkH 2 55 ?_ rfl hHeld (.inl ⟨by rfl, ?_⟩) ?_; rotate_left; focus (intro w' hSw; (try dsimp only at hSw); go_simp; (try with_reducible rfl))
                      try simp only [sIB, sC0, sCS]
                      refine tkH 3 56 ?_ rfl hHeld (.inl ⟨by rfl, ?_⟩) ?_; rotate_left; focus (intro w' hSw; (try dsimp only at hSw); go_simp; (try with_reducible rfl))
                      try simp only [sIB, sC0, sCS]
                      refine tkH 4 57 ?_ rfl hHeld (.inl ⟨by rfl, ?_⟩) ?_; rotate_left; focus (intro w' hSw; (try dsimp only at hSw); go_simp; (try with_reducible rfl))
                      try simp only [sIB, sC0, sCS]
                      refine tkH 5 58 ?_ rfl hHeld (.inl ⟨by rfl, ?_⟩) ?_; rotate_left; focus (intro w' hSw; (try dsimp only at hSw); go_simp; (try with_reducible rfl))
                      try simp only [sIB, sC0, sCS]
                      refine tkH 6 59 ?_ rfl hHeld (.inl ⟨by rfl, ?_⟩) ?_; rotate_left; focus (intro w' hSw; (try dsimp only at hSw); go_simp; (try with_reducible rfl))
                      try simp only [sIB, sC0, sCS]
                      refine tkH 7 60 ?_ rfl hHeld (.inl ⟨by rfl, ?_⟩) ?_; rotate_left; focus (intro w' hSw; (try dsimp only at hSw); go_simp; (try with_reducible rfl))
                      try simp only [sIB, sC0, sCS]
                      refine tkH 8 61 ?_ rfl hHeld (.inl ⟨by rfl, ?_⟩) ?_; rotate_left; focus (intro w' hSw; (try dsimp only at hSw); go_simp; (try with_reducible rfl))
                      try simp only [sIB, sC0, sCS]
                      refine tkH 9 62 ?_ rfl hHeld (.inl ⟨by rfl, ?_⟩) ?_; rotate_left; focus (intro w' hSw; (try dsimp only at hSw); go_simp; (try with_reducible rfl))
                      try simp only [sIB, sC0, sCS]
                      refine tkH 10 63 ?_ rfl hHeld (.inl ⟨by rfl, ?_⟩) ?_; rotate_left; focus (intro w' hSw; (try dsimp only at hSw); go_simp; (try with_reducible rfl))
                      try simp only [sIB, sC0, sCS]
                      refine tkH 11 64 ?_ rfl hHeld (.inl ⟨by rfl, ?_⟩) ?_; rotate_left; focus (intro w' hSw; (try dsimp only at hSw); go_simp; (try with_reducible rfl))
                      try simp only [sIB, sC0, sCS]
                      refine tkH 12 65 undef rfl hHeld (.inr ⟨by rfl, rfl⟩) ?_; try simp only [sIB, sC0, sCS]
                      refine tkH 13 66 undef rfl hHeld (.inr ⟨by rfl, rfl⟩) ?_; try simp only [sIB, sC0, sCS]
                      refine tkH 14 67 undef rfl hHeld (.inr ⟨by rfl, rfl⟩) ?_; try simp only [sIB, sC0, sCS]
                      refine tkH 15 68 undef rfl hHeld (.inr ⟨by rfl, rfl⟩) ?_; try simp only [sIB, sC0, sCS]
                      refine tkH 16 69 undef rfl hHeld (.inr ⟨by rfl, rfl⟩) ?_; try simp only [sIB, sC0, sCS]
                      refine tkH 17 70 undef rfl hHeld (.inr ⟨by rfl, rfl⟩) ?_; try simp only [sIB, sC0, sCS]
                      refine tkH 18 71 undef rfl hHeld (.inr ⟨by rfl, rfl⟩) ?_; try simp only [sIB, sC0, sCS]
                      refine tkH 19 72 undef rfl hHeld (.inr ⟨by rfl, rfl⟩) ?_; try simp only [sIB, sC0, sCS]
                      refine tkH 20 73 undef rfl hHeld (.inr ⟨by rfl, rfl⟩) ?_; try simp only [sIB, sC0, sCS]
                      refine tkH 21 74 undef rfl hHeld (.inr ⟨by rfl, rfl⟩) ?_; try simp only [sIB, sC0, sCS]
                      refine tkH 22 75 undef rfl hHeld (.inr ⟨by rfl, rfl⟩) ?_; try simp only [sIB, sC0, sCS]
                      refine tkH 23 76 ?_ rfl hHeld (.inl ⟨by rfl, ?_⟩) ?_; rotate_left; focus (intro w' hSw; (try dsimp only at hSw); go_simp; (try with_reducible rfl))
                      try simp only [sIB, sC0, sCS]
                      refine wpAnyH_done (by kernel_rfl) ?_ _
                      go_wp2_with fail
                      go_ret2
                      exact ⟨HNO2.out, _, rfl⟩
                    · have hid2 : (id2 == id) = false := by simp [hid]
                      by_cases htx : tx2 = tx
                      · have HNO2 := Lib.hid (HNO.out (.inr htx))
                        have hz3 : (z2.toList == z.toList) = true := by
                          rw [beq_iff_eq, ← HZ2.out, ← HZ.out, ByteArray.toList_eq, ByteArray.toList_eq]
                          exact htx
                        have HZ3 := Lib.hid hz3
                        clear htx hz3
                        go_upto_region 11 with fail
                        refine wp_region_held_drew (S := fun V => V.cell? ⟨b, o + k * 2, none⟩ = some (.int .i64 id) ∧ V.cell? ⟨b, o + k * 2 + 1, none⟩ = some (.string z) ∧ V.cell? ⟨b, o + q * 2, none⟩ = some (.int .i64 id2) ∧ V.cell? ⟨b, o + q * 2 + 1, none⟩ = some (.string z2)) (by kernel_rfl) (by exact And.intro c0 (And.intro c1 (And.intro d0 d1))) (fun hHeld => ?_)
                        refine tkH 0 53 ?_ rfl hHeld (.inl ⟨by rfl, ?_⟩) ?_; rotate_left; focus (intro w' hSw; (try dsimp only at hSw); go_simp; (try with_reducible rfl))
                        try simp only [sIB, sC0, sCS]
                        refine tkH 1 54 ?_ rfl hHeld (.inl ⟨by rfl, ?_⟩) ?_; rotate_left; focus (intro w' hSw; (try dsimp only at hSw); go_simp; (try with_reducible rfl))
                        try simp only [sIB, sC0, sCS]
                        refine tkH 2 55 ?_ rfl hHeld (.inl ⟨by rfl, ?_⟩) ?_; rotate_left; focus (intro w' hSw; (try dsimp only at hSw); go_simp; (try with_reducible rfl))
                        try simp only [sIB, sC0, sCS]
                        refine tkH 3 56 ?_ rfl hHeld (.inl ⟨by rfl, ?_⟩) ?_; rotate_left; focus (intro w' hSw; (try dsimp only at hSw); go_simp; (try with_reducible rfl))
                        try simp only [sIB, sC0, sCS]
                        refine tkH 4 57 ?_ rfl hHeld (.inl ⟨by rfl, ?_⟩) ?_; rotate_left; focus (intro w' hSw; (try dsimp only at hSw); go_simp; (try with_reducible rfl))
                        try simp only [sIB, sC0, sCS]
                        refine tkH 5 58 ?_ rfl hHeld (.inl ⟨by rfl, ?_⟩) ?_; rotate_left; focus (intro w' hSw; (try dsimp only at hSw); go_simp; (try with_reducible rfl))
                        try simp only [sIB, sC0, sCS]
                        refine tkH 6 59 ?_ rfl hHeld (.inl ⟨by rfl, ?_⟩) ?_; rotate_left; focus (intro w' hSw; (try dsimp only at hSw); go_simp; (try with_reducible rfl))
                        try simp only [sIB, sC0, sCS]
                        refine tkH 7 60 ?_ rfl hHeld (.inl ⟨by rfl, ?_⟩) ?_; rotate_left; focus (intro w' hSw; (try dsimp only at hSw); go_simp; (try with_reducible rfl))
                        try simp only [sIB, sC0, sCS]
                        refine tkH 8 61 ?_ rfl hHeld (.inl ⟨by rfl, ?_⟩) ?_; rotate_left; focus (intro w' hSw; (try dsimp only at hSw); go_simp; (try with_reducible rfl))
                        try simp only [sIB, sC0, sCS]
                        refine tkH 9 62 ?_ rfl hHeld (.inl ⟨by rfl, ?_⟩) ?_; rotate_left; focus (intro w' hSw; (try dsimp only at hSw); go_simp; (try with_reducible rfl))
                        try simp only [sIB, sC0, sCS]
                        refine tkH 10 63 ?_ rfl hHeld (.inl ⟨by rfl, ?_⟩) ?_; rotate_left; focus (intro w' hSw; (try dsimp only at hSw); go_simp; ((try rw [hid2])); (try with_reducible rfl))
                        try simp only [sIB, sC0, sCS]
                        refine tkH 11 64 ?_ rfl hHeld (.inl ⟨by rfl, ?_⟩) ?_; rotate_left; focus (intro w' hSw; (try dsimp only at hSw); go_simp; (try with_reducible rfl))
                        try simp only [sIB, sC0, sCS]
                        refine tkH 12 65 ?_ rfl hHeld (.inl ⟨by rfl, ?_⟩) ?_; rotate_left; focus (intro w' hSw; (try dsimp only at hSw); go_simp; (try with_reducible rfl))
                        try simp only [sIB, sC0, sCS]
                        refine tkH 13 66 ?_ rfl hHeld (.inl ⟨by rfl, ?_⟩) ?_; rotate_left; focus (intro w' hSw; (try dsimp only at hSw); go_simp; (try with_reducible rfl))
                        try simp only [sIB, sC0, sCS]
                        refine tkH 14 67 ?_ rfl hHeld (.inl ⟨by rfl, ?_⟩) ?_; rotate_left; focus (intro w' hSw; (try dsimp only at hSw); go_simp; (try with_reducible rfl))
                        try simp only [sIB, sC0, sCS]
                        refine tkH 15 68 ?_ rfl hHeld (.inl ⟨by rfl, ?_⟩) ?_; rotate_left; focus (intro w' hSw; (try dsimp only at hSw); go_simp; (try with_reducible rfl))
                        try simp only [sIB, sC0, sCS]
                        refine tkH 16 69 ?_ rfl hHeld (.inl ⟨by rfl, ?_⟩) ?_; rotate_left; focus (intro w' hSw; (try dsimp only at hSw); go_simp; (try with_reducible rfl))
                        try simp only [sIB, sC0, sCS]
                        refine tkH 17 70 ?_ rfl hHeld (.inl ⟨by rfl, ?_⟩) ?_; rotate_left; focus (intro w' hSw; (try dsimp only at hSw); go_simp; (try with_reducible rfl))
                        try simp only [sIB, sC0, sCS]
                        refine tkH 18 71 ?_ rfl hHeld (.inl ⟨by rfl, ?_⟩) ?_; rotate_left; focus (intro w' hSw; (try dsimp only at hSw); go_simp; (try with_reducible rfl))
                        try simp only [sIB, sC0, sCS]
                        refine tkH 19 72 ?_ rfl hHeld (.inl ⟨by rfl, ?_⟩) ?_; rotate_left; focus (intro w' hSw; (try dsimp only at hSw); go_simp; (try with_reducible rfl))
                        try simp only [sIB, sC0, sCS]
                        refine tkH 20 73 ?_ rfl hHeld (.inl ⟨by rfl, ?_⟩) ?_; rotate_left; focus (intro w' hSw; (try dsimp only at hSw); go_simp; (try with_reducible rfl))
                        try simp only [sIB, sC0, sCS]
                        refine tkH 21 74 ?_ rfl hHeld (.inl ⟨by rfl, ?_⟩) ?_; rotate_left; focus (intro w' hSw; (try dsimp only at hSw); go_simp; (try with_reducible rfl))
                        try simp only [sIB, sC0, sCS]
                        refine tkH 22 75 ?_ rfl hHeld (.inl ⟨by rfl, ?_⟩) ?_; rotate_left; focus (intro w' hSw; (try dsimp only at hSw); go_simp; (rw [HZ3.out]); (try with_reducible rfl))
                        try simp only [sIB, sC0, sCS]
                        refine tkH 23 76 ?_ rfl hHeld (.inl ⟨by rfl, ?_⟩) ?_; rotate_left; focus (intro w' hSw; (try dsimp only at hSw); go_simp; (try with_reducible rfl))
                        try simp only [sIB, sC0, sCS]
                        refine wpAnyH_done (by kernel_rfl) ?_ _
                        go_wp2_with fail
                        go_ret2
                        exact ⟨HNO2.out, _, rfl⟩
                      · have hz3 : (z2.toList == z.toList) = false := by
                          rw [beq_eq_false_iff_ne, ← HZ2.out, ← HZ.out, ByteArray.toList_eq, ByteArray.toList_eq]
                          exact htx
                        have HZ3 := Lib.hid hz3
                        clear htx hz3
                        go_upto_region 11 with fail
                        refine wp_region_held_drew (S := fun V => V.cell? ⟨b, o + k * 2, none⟩ = some (.int .i64 id) ∧ V.cell? ⟨b, o + k * 2 + 1, none⟩ = some (.string z) ∧ V.cell? ⟨b, o + q * 2, none⟩ = some (.int .i64 id2) ∧ V.cell? ⟨b, o + q * 2 + 1, none⟩ = some (.string z2)) (by kernel_rfl) (by exact And.intro c0 (And.intro c1 (And.intro d0 d1))) (fun hHeld => ?_)
                        refine tkH 0 53 ?_ rfl hHeld (.inl ⟨by rfl, ?_⟩) ?_; rotate_left; focus (intro w' hSw; (try dsimp only at hSw); go_simp; (try with_reducible rfl))
                        try simp only [sIB, sC0, sCS]
                        refine tkH 1 54 ?_ rfl hHeld (.inl ⟨by rfl, ?_⟩) ?_; rotate_left; focus (intro w' hSw; (try dsimp only at hSw); go_simp; (try with_reducible rfl))
                        try simp only [sIB, sC0, sCS]
                        refine tkH 2 55 ?_ rfl hHeld (.inl ⟨by rfl, ?_⟩) ?_; rotate_left; focus (intro w' hSw; (try dsimp only at hSw); go_simp; (try with_reducible rfl))
                        try simp only [sIB, sC0, sCS]
                        refine tkH 3 56 ?_ rfl hHeld (.inl ⟨by rfl, ?_⟩) ?_; rotate_left; focus (intro w' hSw; (try dsimp only at hSw); go_simp; (try with_reducible rfl))
                        try simp only [sIB, sC0, sCS]
                        refine tkH 4 57 ?_ rfl hHeld (.inl ⟨by rfl, ?_⟩) ?_; rotate_left; focus (intro w' hSw; (try dsimp only at hSw); go_simp; (try with_reducible rfl))
                        try simp only [sIB, sC0, sCS]
                        refine tkH 5 58 ?_ rfl hHeld (.inl ⟨by rfl, ?_⟩) ?_; rotate_left; focus (intro w' hSw; (try dsimp only at hSw); go_simp; (try with_reducible rfl))
                        try simp only [sIB, sC0, sCS]
                        refine tkH 6 59 ?_ rfl hHeld (.inl ⟨by rfl, ?_⟩) ?_; rotate_left; focus (intro w' hSw; (try dsimp only at hSw); go_simp; (try with_reducible rfl))
                        try simp only [sIB, sC0, sCS]
                        refine tkH 7 60 ?_ rfl hHeld (.inl ⟨by rfl, ?_⟩) ?_; rotate_left; focus (intro w' hSw; (try dsimp only at hSw); go_simp; (try with_reducible rfl))
                        try simp only [sIB, sC0, sCS]
                        refine tkH 8 61 ?_ rfl hHeld (.inl ⟨by rfl, ?_⟩) ?_; rotate_left; focus (intro w' hSw; (try dsimp only at hSw); go_simp; (try with_reducible rfl))
                        try simp only [sIB, sC0, sCS]
                        refine tkH 9 62 ?_ rfl hHeld (.inl ⟨by rfl, ?_⟩) ?_; rotate_left; focus (intro w' hSw; (try dsimp only at hSw); go_simp; (try with_reducible rfl))
                        try simp only [sIB, sC0, sCS]
                        refine tkH 10 63 ?_ rfl hHeld (.inl ⟨by rfl, ?_⟩) ?_; rotate_left; focus (intro w' hSw; (try dsimp only at hSw); go_simp; ((try rw [hid2])); (try with_reducible rfl))
                        try simp only [sIB, sC0, sCS]
                        refine tkH 11 64 ?_ rfl hHeld (.inl ⟨by rfl, ?_⟩) ?_; rotate_left; focus (intro w' hSw; (try dsimp only at hSw); go_simp; (try with_reducible rfl))
                        try simp only [sIB, sC0, sCS]
                        refine tkH 12 65 ?_ rfl hHeld (.inl ⟨by rfl, ?_⟩) ?_; rotate_left; focus (intro w' hSw; (try dsimp only at hSw); go_simp; (try with_reducible rfl))
                        try simp only [sIB, sC0, sCS]
                        refine tkH 13 66 ?_ rfl hHeld (.inl ⟨by rfl, ?_⟩) ?_; rotate_left; focus (intro w' hSw; (try dsimp only at hSw); go_simp; (try with_reducible rfl))
                        try simp only [sIB, sC0, sCS]
                        refine tkH 14 67 ?_ rfl hHeld (.inl ⟨by rfl, ?_⟩) ?_; rotate_left; focus (intro w' hSw; (try dsimp only at hSw); go_simp; (try with_reducible rfl))
                        try simp only [sIB, sC0, sCS]
                        refine tkH 15 68 ?_ rfl hHeld (.inl ⟨by rfl, ?_⟩) ?_; rotate_left; focus (intro w' hSw; (try dsimp only at hSw); go_simp; (try with_reducible rfl))
                        try simp only [sIB, sC0, sCS]
                        refine tkH 16 69 ?_ rfl hHeld (.inl ⟨by rfl, ?_⟩) ?_; rotate_left; focus (intro w' hSw; (try dsimp only at hSw); go_simp; (try with_reducible rfl))
                        try simp only [sIB, sC0, sCS]
                        refine tkH 17 70 ?_ rfl hHeld (.inl ⟨by rfl, ?_⟩) ?_; rotate_left; focus (intro w' hSw; (try dsimp only at hSw); go_simp; (try with_reducible rfl))
                        try simp only [sIB, sC0, sCS]
                        refine tkH 18 71 ?_ rfl hHeld (.inl ⟨by rfl, ?_⟩) ?_; rotate_left; focus (intro w' hSw; (try dsimp only at hSw); go_simp; (try with_reducible rfl))
                        try simp only [sIB, sC0, sCS]
                        refine tkH 19 72 ?_ rfl hHeld (.inl ⟨by rfl, ?_⟩) ?_; rotate_left; focus (intro w' hSw; (try dsimp only at hSw); go_simp; (try with_reducible rfl))
                        try simp only [sIB, sC0, sCS]
                        refine tkH 20 73 ?_ rfl hHeld (.inl ⟨by rfl, ?_⟩) ?_; rotate_left; focus (intro w' hSw; (try dsimp only at hSw); go_simp; (try with_reducible rfl))
                        try simp only [sIB, sC0, sCS]
                        refine tkH 21 74 ?_ rfl hHeld (.inl ⟨by rfl, ?_⟩) ?_; rotate_left; focus (intro w' hSw; (try dsimp only at hSw); go_simp; (try with_reducible rfl))
                        try simp only [sIB, sC0, sCS]
                        refine tkH 22 75 ?_ rfl hHeld (.inl ⟨by rfl, ?_⟩) ?_; rotate_left; focus (intro w' hSw; (try dsimp only at hSw); go_simp; (rw [HZ3.out]); (try with_reducible rfl))
                        try simp only [sIB, sC0, sCS]
                        refine tkH 23 76 ?_ rfl hHeld (.inl ⟨by rfl, ?_⟩) ?_; rotate_left; focus (intro w' hSw; (try dsimp only at hSw); go_simp; (try with_reducible rfl))
                        try simp only [sIB, sC0, sCS]
                        refine wpAnyH_done (by kernel_rfl) ?_ _
                        have HYY := Lib.hid (HYES.out hid (fun e => by
                          have h3 := HZ3.out
                          rw [beq_eq_false_iff_ne, ← HZ2.out, ← HZ.out, ByteArray.toList_eq, ByteArray.toList_eq] at h3
                          exact h3 e))
                        go_wp2_with fail
                        go_roundg (gk - 1)
                        case measure => omega
                        case rel => exact ⟨q + 1, m2 + 1, by omega, by simp, HYY.out, rfl⟩
                  · have hke : q = k := by omega
                    subst hke
                    have hqk' : ¬ ((q : Nat) : Int) < (q : Int) := by omega
                    go_wp2_with fail
                    go_roundg g0
                    case measure => have := HG0.out; omega
                    case rel => exact ⟨q + 1, HG0.out, by simp, ⟨by have := HN5.out; omega, fun j h hj => by
                      by_cases e : j = q
                      · subst e
                        exact ⟨(congrArg rightX HX.out).trans HR.out, (congrArg (freshX (xs.take j)) HX.out).trans HFR.out⟩
                      · exact HOK.out.2 j h (by omega)⟩, m2, rfl⟩
    · have hke : k = N := by omega
      subst hke
      have hlt' : ¬ ((k : Nat) : Int) < (k : Int) := by omega
      go_wp2_with fail
      go_ret2
      refine ⟨⟨k, 0, rfl, fun _ => ⟨HN.out.symm, rfl⟩, fun h => ?_⟩, m, rfl⟩
      exfalso
      have := (okX_iff xs).2 ⟨by rw [HN.out]; exact HOK.out.1, fun i hi => HOK.out.2 i hi (by rw [HN.out] at hi; exact hi)⟩
      rw [h] at this
      cases this
end
def cutLast (cut : Nat → Nat → Bool) (p : List UInt8) (c : UInt8) : Bool := match p.getLast? with | none => false | some d => cut d.toNat c.toNat
theorem cutLast_snoc (cut : Nat → Nat → Bool) (p : List UInt8) (d c : UInt8) : cutLast cut (p ++ [d]) c = cut d.toNat c.toNat := by simp [cutLast]
def addByte (cut : Nat → Nat → Bool) (acc : List (List UInt8)) (c : UInt8) : List (List UInt8) :=
  match acc.getLast? with
  | none => [[c]]
  | some p => if cutLast cut p c then acc ++ [[c]] else acc.dropLast ++ [p ++ [c]]
def pcs (cut : Nat → Nat → Bool) (l : List UInt8) : List (List UInt8) := l.foldl (addByte cut) []
theorem pcs_snoc (cut : Nat → Nat → Bool) (l : List UInt8) (c : UInt8) : pcs cut (l ++ [c]) = addByte cut (pcs cut l) c := by simp [pcs]
theorem pcs_nil (cut : Nat → Nat → Bool) : pcs cut [] = [] := rfl
theorem pcs_one (cut : Nat → Nat → Bool) (c : UInt8) : pcs cut [c] = [[c]] := rfl
theorem addByte_new {cut : Nat → Nat → Bool} {acc : List (List UInt8)} {p : List UInt8} {d c : UInt8} (h : cut d.toNat c.toNat = true) : addByte cut (acc ++ [p ++ [d]]) c = acc ++ [p ++ [d]] ++ [[c]] := by
  simp [addByte, cutLast_snoc, h]
theorem addByte_grow {cut : Nat → Nat → Bool} {acc : List (List UInt8)} {p : List UInt8} {d c : UInt8} (h : cut d.toNat c.toNat = false) : addByte cut (acc ++ [p ++ [d]]) c = acc ++ [p ++ [d] ++ [c]] := by
  simp [addByte, cutLast_snoc, h]
def Open (cut : Nat → Nat → Bool) (l : List UInt8) (done : List (List UInt8)) (f i : Nat) : Prop :=
  f < i ∧ i ≤ l.length ∧ pcs cut (l.take i) = done ++ [(l.drop f).take (i - f)]
theorem open_start (cut : Nat → Nat → Bool) (l : List UInt8) (h : 0 < l.length) : Open cut l [] 0 1 := by
  refine ⟨by omega, by omega, ?_⟩
  cases l with
  | nil => simp at h
  | cons c l => simp [pcs_one]
theorem slice_snoc (l : List UInt8) (f i : Nat) (h : f ≤ i) (hi : i < l.length) : (l.drop f).take (i + 1 - f) = (l.drop f).take (i - f) ++ [l[i]] := by
  rw [show i + 1 - f = (i - f) + 1 by omega, List.take_succ_eq_append_getElem (by rw [List.length_drop]; omega)]
  congr 2
  rw [List.getElem_drop]
  congr 1
  omega
theorem open_last {l : List UInt8} {f i : Nat} (h : f < i) (hi : i ≤ l.length) : (l.drop f).take (i - f) = (l.drop f).take (i - 1 - f) ++ [l[i - 1]] := by
  have := slice_snoc l f (i - 1) (by omega) (by omega)
  rwa [show i - 1 + 1 = i by omega] at this
theorem open_cut {cut : Nat → Nat → Bool} {l : List UInt8} {done : List (List UInt8)} {f i : Nat} (h : Open cut l done f i) (hi : i < l.length) (hc : cut (l[i - 1]'(by omega)).toNat l[i].toNat = true) :
    Open cut l (done ++ [(l.drop f).take (i - f)]) i (i + 1) := by
  obtain ⟨h1, h2, h3⟩ := h
  refine ⟨by omega, by omega, ?_⟩
  rw [take_snoc hi, pcs_snoc, h3, open_last h1 h2, addByte_new hc, show i + 1 - i = 0 + 1 by omega, List.take_succ_eq_append_getElem (by rw [List.length_drop]; omega)]
  simp
theorem open_grow {cut : Nat → Nat → Bool} {l : List UInt8} {done : List (List UInt8)} {f i : Nat} (h : Open cut l done f i) (hi : i < l.length) (hc : cut (l[i - 1]'(by omega)).toNat l[i].toNat = false) :
    Open cut l done f (i + 1) := by
  obtain ⟨h1, h2, h3⟩ := h
  refine ⟨by omega, by omega, ?_⟩
  rw [take_snoc hi, pcs_snoc, h3, open_last h1 h2, addByte_grow hc, ← open_last h1 h2, slice_snoc l f i (by omega) hi]
theorem open_end {cut : Nat → Nat → Bool} {l : List UInt8} {done : List (List UInt8)} {f : Nat} (h : Open cut l done f l.length) : pcs cut l = done ++ [(l.drop f).take (l.length - f)] := by
  have := h.2.2
  rwa [List.take_length] at this
theorem length_pcs_le (cut : Nat → Nat → Bool) (l : List UInt8) : (pcs cut l).length ≤ l.length := by
  have key : ∀ (l : List UInt8) (acc : List (List UInt8)), (l.foldl (addByte cut) acc).length ≤ acc.length + l.length := by
    intro l
    induction l with
    | nil => intro acc; simp
    | cons c l ih =>
      intro acc
      rw [List.foldl_cons]
      refine Nat.le_trans (ih _) ?_
      have : (addByte cut acc c).length ≤ acc.length + 1 := by
        unfold addByte
        split
        · simp
        · split
          · simp
          · simp
      simp only [List.length_cons]
      omega
  have := key l []
  simpa [pcs] using this
theorem addByte_ends (cut : Nat → Nat → Bool) (acc : List (List UInt8)) (c : UInt8) : ∃ init p, addByte cut acc c = init ++ [p ++ [c]] := by
  unfold addByte
  split
  · exact ⟨[], [], rfl⟩
  · rename_i p hp
    split
    · exact ⟨acc, [], rfl⟩
    · exact ⟨acc.dropLast, p, rfl⟩
theorem pcs_ends (cut : Nat → Nat → Bool) (l : List UInt8) (c : UInt8) : ∃ init p, pcs cut (l ++ [c]) = init ++ [p ++ [c]] := by
  rw [pcs_snoc]; exact addByte_ends cut _ c
def midP (new : Bool) (acc : List (List UInt8)) : List (List UInt8) := if new then acc ++ [[]] else acc
def setLast (mid : List (List UInt8)) (c : UInt8) : List (List UInt8) := mid.set (mid.length - 1) (mid.getD (mid.length - 1) [] ++ [c])
theorem setLast_snoc (init : List (List UInt8)) (p : List UInt8) (c : UInt8) : setLast (init ++ [p]) c = init ++ [p ++ [c]] := by
  unfold setLast
  simp
theorem pcs_first (cut : Nat → Nat → Bool) (c : UInt8) : pcs cut ([] ++ [c]) = setLast (midP true (pcs cut [])) c := by
  rw [pcs_nil]; rfl
theorem pcs_next (cut : Nat → Nat → Bool) (l : List UInt8) (d c : UInt8) : pcs cut (l ++ [d] ++ [c]) = setLast (midP (cut d.toNat c.toNat) (pcs cut (l ++ [d]))) c := by
  rw [pcs_snoc]
  obtain ⟨init, p, h⟩ := pcs_ends cut l d
  rw [h]
  cases hc : cut d.toNat c.toNat with
  | true => rw [addByte_new hc]; unfold midP; rw [if_pos rfl, setLast_snoc]; rfl
  | false => rw [addByte_grow hc]; unfold midP; rw [if_neg (by simp), setLast_snoc]
theorem midP_pos {new : Bool} {acc : List (List UInt8)} (h : new = true ∨ acc ≠ []) : 0 < (midP new acc).length := by
  unfold midP
  cases new with
  | true => simp
  | false => simp; cases acc with
    | nil => simp at h
    | cons a l => simp
def newAt (cut : Nat → Nat → Bool) (l : List UInt8) : Nat → Bool
  | 0 => true
  | k + 1 => cut (l.getD k 0).toNat (l.getD (k + 1) 0).toNat
theorem pcs_step (cut : Nat → Nat → Bool) (l : List UInt8) (k : Nat) (h : k < l.length) : pcs cut (l.take (k + 1)) = setLast (midP (newAt cut l k) (pcs cut (l.take k))) l[k] := by
  rw [take_snoc h]
  cases k with
  | zero => rw [List.take_zero, pcs_first]; rfl
  | succ k =>
    rw [take_snoc (show k < l.length by omega), pcs_next]
    have e : newAt cut l (k + 1) = cut l[k].toNat l[k + 1].toNat := by
      show cut (l.getD k 0).toNat (l.getD (k + 1) 0).toNat = _
      rw [List.getD_eq_getElem?_getD, List.getD_eq_getElem?_getD, List.getElem?_eq_getElem h, List.getElem?_eq_getElem (show k < l.length by omega)]
      rfl
    rw [e]
theorem mid_pos (cut : Nat → Nat → Bool) (l : List UInt8) (k : Nat) (h : k < l.length) : 0 < (midP (newAt cut l k) (pcs cut (l.take k))).length := by
  apply midP_pos
  cases k with
  | zero => exact .inl rfl
  | succ k =>
    refine .inr ?_
    rw [take_snoc (show k < l.length by omega)]
    obtain ⟨init, p, e⟩ := pcs_ends cut (l.take k) l[k]
    rw [e]
    simp
theorem pcs_flatten (cut : Nat → Nat → Bool) (l : List UInt8) : (pcs cut l).flatten = l := by
  have key : ∀ (l : List UInt8) (acc : List (List UInt8)), (l.foldl (addByte cut) acc).flatten = acc.flatten ++ l := by
    intro l
    induction l with
    | nil => intro acc; simp
    | cons c l ih =>
      intro acc
      rw [List.foldl_cons, ih]
      have : (addByte cut acc c).flatten = acc.flatten ++ [c] := by
        unfold addByte
        split
        · rename_i h; rw [List.getLast?_eq_none_iff] at h; rw [h]; rfl
        · rename_i p h
          obtain ⟨ini, e⟩ : ∃ ini, acc = ini ++ [p] := List.getLast?_eq_some_iff.1 h
          split
          · simp
          · rw [e]; simp
      rw [this]; simp
  have := key l []
  simpa [pcs] using this
open Go.RowKit
def TP (w : World) (p : Option Addr) (cut : Nat → Nat → Bool) : Prop :=
  (p = none ∧ cut = fun _ _ => false) ∨ ∃ bk C J, p = some ⟨bk, 0, none⟩ ∧ BTab w bk C J ∧ cut = cutB C J
theorem TP.below {B : Nat} {w w' : World} {p : Option Addr} {cut : Nat → Nat → Bool} (h : TP w p cut) (hb : Below B w w') (hB : w.heap.size ≤ B) : TP w' p cut := by
  rcases h with h | ⟨bk, C, J, h1, h2, h3⟩
  · exact .inl h
  · exact .inr ⟨bk, C, J, h1, h2.below hb (Nat.lt_of_lt_of_le (blk_lt h2.1) hB), h3⟩
theorem TP.drewN {w : World} {p : Option Addr} {cut : Nat → Nat → Bool} (h : TP w p cut) (n : Nat) : TP (w.drewN n) p cut := h
theorem cuts_any (p : Option Addr) (cut : Nat → Nat → Bool) (a b : Int) (w : World) (ha0 : 0 ≤ a) (ha : a < 256) (hb0 : 0 ≤ b) (hb : b < 256) (h : TP w p cut) :
    Calls Tryz.prog 137 #[.pointer p, .int .u8 a, .int .u8 b] w fun e w' => e = .returned (.bool (cut a.toNat b.toNat)) ∧ ∃ m, w' = w.drewN m := by
  rcases h with ⟨rfl, rfl⟩ | ⟨bk, C, J, rfl, h2, rfl⟩
  · exact cuts_nil a b w
  · obtain ⟨a, rfl⟩ := Int.eq_ofNat_of_zero_le ha0
    obtain ⟨b, rfl⟩ := Int.eq_ofNat_of_zero_le hb0
    exact cuts_tab bk C J a b w (by omega) (by omega) h2
theorem info_str : (Tryz.prog.info? 9).map (fun i => (i.zero, i.size, i.bytes)) = some (some (.string ⟨#[]⟩), 1, 16) := by kernel_rfl
def PcRel (cut : Nat → Nat → Bool) (s : ByteArray) (w : World) (v : Value) (done : List (List UInt8)) (f i : Nat) (wr : World) : Prop :=
  Below w.heap.size w wr ∧ wr.ownsRow w.heap.size 9 1 v done.length (done.map strV) ∧ done.length < i ∧
  (i ≤ s.size → Open cut s.data.toList done f i) ∧ (s.size < i → done = pcs cut s.data.toList)
def PiecesPost (cut : Nat → Nat → Bool) (s : ByteArray) (w : World) (e : Ending) (w' : World) : Prop :=
  ∃ v, e = .returned v ∧ Below w.heap.size w w' ∧ w'.ownsRow w.heap.size 9 1 v (pcs cut s.data.toList).length ((pcs cut s.data.toList).map strV)
theorem data_len (s : ByteArray) : s.data.toList.length = s.size := by cases s; rfl
theorem data_get (s : ByteArray) (i : Nat) (h : i < s.size) : s.data.toList[i]'(by rw [data_len]; exact h) = s[i] := rfl
theorem grown_below {B : Nat} {w w1 w2 : World} {v : Value} {e : TypeId} {size n : Nat} {xs : List Value} (h : Below B w w1) (hB : B ≤ w1.heap.size) (hg : w1.grownBy w2 v.ownBlock) (ho : w1.ownsRow B e size v n xs) : Below B w w2 :=
  h.grown hg hB (own_base ho)
theorem pc_add {s : ByteArray} {w wr w1 : World} {v v' : Value} {done : List (List UInt8)} {nf k : Nat} (hk : k + 1 ≤ s.size) (hf : nf ≤ k) (hb : Below w.heap.size w wr) (hg : wr.grownBy w1 v.ownBlock)
    (ho : wr.ownsRow w.heap.size 9 1 v done.length (done.map strV))
    (ho1 : w1.ownsRow w.heap.size 9 1 v' (done.length + 1) (done.map strV ++ [.string (s.extract nf (k + 1))])) :
    Below w.heap.size w w1 ∧ w1.ownsRow w.heap.size 9 1 v' (done ++ [(s.data.toList.drop nf).take (k + 1 - nf)]).length ((done ++ [(s.data.toList.drop nf).take (k + 1 - nf)]).map strV) := by
  refine ⟨grown_below hb hb.size hg ho, ?_⟩
  rw [extract_bs] at ho1
  simpa [strV] using ho1
set_option maxHeartbeats 1000000 in
theorem pieces_any (p : Option Addr) (cut : Nat → Nat → Bool) (s : ByteArray) (w : World) (hp : TP w p cut) (hs : s.size ≤ 1000000000) :
    Calls Tryz.prog 158 #[.pointer p, .string s] w (PiecesPost cut s w) := by
  have HP := Lib.hid hp
  clear hp
  go_enter Tryz.func158, Tryz.ntmps158
  go_wp2
  go_loopw [5, 6, 7] (fun v f i wr => ∃ (done : List (List UInt8)) (nf k : Nat), f = .int .i64 nf ∧ i = .int .i64 k ∧ 1 ≤ k ∧ k ≤ s.size + 1 ∧ nf < k ∧ PcRel cut s w v done nf k wr) (fun _ _ i _ => s.size + 1 - (intOf i).toNat)
  case atStart =>
    refine ⟨[], 0, 1, rfl, rfl, by omega, by omega, by omega, Below.refl _ _, own_nil _ _ _ _, by simp, fun h => open_start _ _ (by rw [data_len]; omega), fun h => ?_⟩
    have : s.data.toList = [] := List.eq_nil_of_length_eq_zero (by rw [data_len]; omega)
    rw [this]
    rfl
  case round =>
    obtain ⟨done, nf, k, rfl, rfl, hk1, hk2, hnf, hb, hown, hdl, hop, hdone⟩ := hrel
    have HB := Lib.hid hb
    have HO := Lib.hid hown
    have HOP := Lib.hid hop
    have HD := Lib.hid hdone
    have hsz := hb.size
    clear hb hown hop hdone
    obtain ⟨k, rfl⟩ : ∃ m, k = m + 1 := ⟨k - 1, by omega⟩
    by_cases hle : k + 1 ≤ s.size
    · have HOPEN := Lib.hid (HOP.out hle)
      have f1 : (nf : Int) ≤ (k : Int) + 1 := by omega
      have f2 : (k : Int) + 1 ≤ (s.size : Int) := by omega
      clear HOP HD
      by_cases he : k + 1 = s.size
      · have HE := Lib.hid he
        have hbk : ((k : Int) + 1 == (s.size : Int)) = true := by rw [beq_iff_eq]; omega
        have hbk' : (k + 1 == s.size) = true := by rw [beq_iff_eq]; omega
        clear he
        go_wp2_with fail
        go_quiet (fail)
        clear hbk hbk'
        go_wp2_with (at_builtin; refine app_one (w.heap.size) 31 9 (.string ⟨#[]⟩) 1 16 [_] 1 _ _ rfl rfl Tryz.underlying31 info_str rfl (by decide) _ _ _ rfl rfl rfl (by intro u hu; simp at hu; subst hu; rfl) HO.out (by omega) (by omega) hsz ?_)
        intro v' w1 hown1 hg1
        have HO1 := Lib.hid hown1
        have HG1 := Lib.hid hg1
        clear hown1 hg1
        go_wp2_with fail
        go_roundw
        case rel =>
          have h := pc_add (wr := wr.drewN nq) (nf := nf) (k := k) hle (by omega) (below_drewN HB.out _) HG1.out (own_drewN HO.out _) HO1.out
          refine ⟨done ++ [(s.data.toList.drop nf).take (k + 1 - nf)], k + 1, k + 2, by go_num, by go_num, by omega, by omega, by omega, h.1, h.2, by simp; omega, fun hh => absurd hh (by have := HE.out; omega), fun _ => ?_⟩
          have hop := HOPEN.out
          rw [HE.out, ← data_len s] at hop
          rw [open_end hop, HE.out, data_len]
        case measure => simp [intOf]; omega
      · have he1 : ((k : Int) + 1 == (s.size : Int)) = false := by rw [beq_eq_false_iff_ne]; omega
        have he2 : (k + 1 == s.size) = false := by rw [beq_eq_false_iff_ne]; omega
        have HE := Lib.hid he
        have hlt : (k : Int) + 1 < s.size := by omega
        have hlt1 : (k : Int) < s.size := by omega
        have q0 : 0 ≤ (k : Int) := by omega
        have q2 : 0 ≤ (k : Int) + 1 := by omega
        have q3 : ((k : Int) + 1).toNat = k + 1 := by omega
        clear he
        obtain ⟨x, hx⟩ : ∃ x, s[k]'(by omega) = x := ⟨_, rfl⟩
        obtain ⟨y, hy⟩ : ∃ y, s[k + 1]'(by omega) = y := ⟨_, rfl⟩
        have HX := Lib.hid hx
        have HY := Lib.hid hy
        clear hx hy
        have q1 : IntKind.i64.wrap (k : Int) = k := IntWalk.i64_in _ (by omega)
        have HC := Lib.hid (fun n => cuts_any p cut (s[k].toNat : Int) (s[k + 1].toNat : Int) (wr.drewN n) (by omega) (by have := s[k].toNat_lt; omega) (by omega) (by have := s[k + 1].toNat_lt; omega) ((HP.out.below HB.out (Nat.le_refl _)).drewN n))
        go_wp2_with fail
        go_quiet ((go_at_call 137; exact Calls.quiet_of (HC.out _)))
        clear HC
        simp only [Int.toNat_natCast]
        simp only [HX.out, HY.out]
        clear q1
        cases hc : cut x.toNat y.toNat with
        | true =>
          have HCUT := Lib.hid hc
          clear hc
          go_wp2_with (at_builtin; refine app_one (w.heap.size) 31 9 (.string ⟨#[]⟩) 1 16 [_] 1 _ _ rfl rfl Tryz.underlying31 info_str rfl (by decide) _ _ _ rfl rfl rfl (by intro u hu; simp at hu; subst hu; rfl) (own_drewN HO.out _) (by omega) (by omega) (by exact hsz) ?_)
          intro v' w1 hown1 hg1
          have HO1 := Lib.hid hown1
          have HG1 := Lib.hid hg1
          clear hown1 hg1
          go_wp2_with fail
          go_roundw
          case rel =>
            have h := pc_add (wr := wr.drewN nq) (nf := nf) (k := k) hle (by omega) (below_drewN HB.out _) HG1.out (own_drewN HO.out _) HO1.out
            refine ⟨done ++ [(s.data.toList.drop nf).take (k + 1 - nf)], k + 1, k + 2, by go_num, by go_num, by omega, by omega, by omega, h.1, h.2, by simp; omega, fun hh => ?_, fun hh => absurd hh (by omega)⟩
            exact open_cut HOPEN.out (by rw [data_len]; omega) (by have := HCUT.out; rw [← HX.out, ← HY.out] at this; exact this)
          case measure => simp [intOf]; omega
        | false =>
          have HCUT := Lib.hid hc
          clear hc
          go_wp2_with fail
          go_roundw
          case rel =>
            exact ⟨done, nf, k + 2, rfl, by go_num, by omega, by omega, by omega, below_drewN HB.out _, own_drewN HO.out _, by omega, fun hh => open_grow HOPEN.out (by rw [data_len]; omega) (by have := HCUT.out; rw [← HX.out, ← HY.out] at this; exact this), fun hh => absurd hh (by omega)⟩
          case measure => simp [intOf]; omega
    · have HDN := Lib.hid (HD.out (by omega))
      clear HOP HD
      go_wp2_with fail
      go_ret
      refine ⟨u5, by simp, HB.out, ?_⟩
      rw [← HDN.out]
      exact HO.out
theorem whole_any (p : Option Addr) (cut : Nat → Nat → Bool) (s : ByteArray) (w : World) (hp : TP w p cut) (hs : s.size ≤ 1000000000) :
    Calls Tryz.prog 136 #[.pointer p, .string s] w fun e w' => e = .returned (.bool (decide ((pcs cut s.data.toList).length ≤ 1))) ∧ Below w.heap.size w w' := by
  have HC := Lib.hid (pieces_any p cut s w hp hs)
  have hl := length_pcs_le cut s.data.toList
  rw [data_len] at hl
  clear hp
  go_enter Tryz.func136, Tryz.ntmps136
  go_wp2_with fail
  refine HC.out.mono ?_
  rintro e w' ⟨v, rfl, hb, ho⟩
  obtain ⟨A, c, rfl⟩ := own_slice ho
  clear ho HC
  go_wp2_with fail
  go_ret
  exact ⟨by simp; omega, hb⟩
def betB (cut : Nat → Nat → Bool) (a b : List UInt8) : Bool :=
  match a.getLast?, b.head? with
  | some x, some y => cut x.toNat y.toNat
  | _, _ => false
theorem toList_data (s : ByteArray) : s.toList = s.data.toList := by
  rw [ByteArray.toList_eq]
theorem between_none (p : Option Addr) (s u : ByteArray) (w : World) (h : s.data.toList = [] ∨ u.data.toList = []) :
    Calls Tryz.prog 99 #[.pointer p, .string s, .string u] w fun e w' => e = .returned (.bool false) ∧ ∃ m, w' = w.drewN m := by
  by_cases hs : s.data.toList = []
  · have h1 : s.toList = [] := by rw [toList_data]; exact hs
    clear h hs
    go_enter Tryz.func99, Tryz.ntmps99
    go_wp2_with fail
    go_quiet (fail)
    go_wp2_with fail
    go_ret
    exact ⟨by simp, _, rfl⟩
  · have h1 : s.toList.isEmpty = false := by rw [toList_data]; simpa using hs
    have h1' : (!s.toList.isEmpty) = true := by rw [h1]; rfl
    have h2 : u.toList = [] := by rw [toList_data]; exact h.resolve_left hs
    clear h hs
    go_enter Tryz.func99, Tryz.ntmps99
    go_wp2_with fail
    go_quiet (fail)
    go_wp2_with fail
    go_ret
    exact ⟨by simp, _, rfl⟩
theorem between_some (p : Option Addr) (cut : Nat → Nat → Bool) (s u : ByteArray) (k : Nat) (x y : UInt8) (w : World) (hp : TP w p cut) (hs : s.size = k + 1) (hu : 0 < u.size) (hsz : s.size ≤ 1000000000) (hk : k < s.size) (hx : s[k]'hk = x) (hy : u[0] = y) :
    Calls Tryz.prog 99 #[.pointer p, .string s, .string u] w fun e w' => e = .returned (.bool (cut x.toNat y.toNat)) ∧ ∃ m, w' = w.drewN m := by
  have h1 : s.toList.isEmpty = false := by rw [toList_data, ← Bool.not_eq_true, List.isEmpty_iff]; intro h; have := data_len s; rw [h] at this; simp at this; omega
  have h1' : (!s.toList.isEmpty) = true := by rw [h1]; rfl
  have h2 : u.toList.isEmpty = false := by rw [toList_data, ← Bool.not_eq_true, List.isEmpty_iff]; intro h; have := data_len u; rw [h] at this; simp at this; omega
  have h2' : (!u.toList.isEmpty) = true := by rw [h2]; rfl
  have HX := Lib.hid hx
  have HY := Lib.hid hy
  have f0 : (0 : Int) < (u.size : Int) := by omega
  have f2 : (k : Int) < (s.size : Int) := by omega
  have f3 : 0 ≤ (k : Int) := by omega
  have q1 : IntKind.i64.wrap ((s.size : Int) - 1) = k := by rw [IntWalk.i64_in _ (by omega)]; omega
  have HC := Lib.hid (fun n => cuts_any p cut (x.toNat : Int) (y.toNat : Int) (w.drewN n) (by omega) (by have := x.toNat_lt; omega) (by omega) (by have := y.toNat_lt; omega) (hp.drewN n))
  clear hx hy hp hs
  go_enter Tryz.func99, Tryz.ntmps99
  go_wp2_with fail
  go_quiet (first | (go_at_call 137; simp only [HX.out, HY.out]; exact Calls.quiet_of (HC.out _)))
  go_wp2_with fail
  go_ret
  exact ⟨by simp, _, rfl⟩
theorem between_any (p : Option Addr) (cut : Nat → Nat → Bool) (s u : ByteArray) (w : World) (hp : TP w p cut) (hs : s.size ≤ 1000000000) :
    Calls Tryz.prog 99 #[.pointer p, .string s, .string u] w fun e w' => e = .returned (.bool (betB cut s.data.toList u.data.toList)) ∧ ∃ m, w' = w.drewN m := by
  by_cases h : s.data.toList = [] ∨ u.data.toList = []
  · have e : betB cut s.data.toList u.data.toList = false := by
      rcases h with h | h
      · simp [betB, h]
      · simp only [betB, h, List.head?_nil]; split <;> first | rfl | contradiction
    rw [e]
    exact between_none p s u w h
  · have h1 : 0 < s.size := by
      rcases Nat.eq_zero_or_pos s.size with e | e
      · exact absurd (.inl (List.eq_nil_of_length_eq_zero (by rw [data_len]; exact e))) h
      · exact e
    have h2 : 0 < u.size := by
      rcases Nat.eq_zero_or_pos u.size with e | e
      · exact absurd (.inr (List.eq_nil_of_length_eq_zero (by rw [data_len]; exact e))) h
      · exact e
    have e : betB cut s.data.toList u.data.toList = cut (s[s.size - 1]'(by omega)).toNat u[0].toNat := by
      unfold betB
      rw [List.getLast?_eq_getElem?, List.head?_eq_getElem?, data_len, List.getElem?_eq_getElem (by rw [data_len]; omega), List.getElem?_eq_getElem (by rw [data_len]; omega)]
      rfl
    rw [e]
    exact between_some p cut s u (s.size - 1) _ _ w hp (by omega) h2 hs (by omega) rfl rfl
def hasC (c : Cls) (b : Nat) : Bool := decide (c.lo ≤ (b : Int)) && decide ((b : Int) ≤ c.hi)
theorem putC_hit {C : Nat → Int} {c : Cls} {b : Nat} (h : hasC c b = true) : putC C c b = c.n := by
  simp only [hasC, Bool.and_eq_true, decide_eq_true_eq] at h
  simp only [putC, if_pos h]
theorem putC_miss {C : Nat → Int} {c : Cls} {b : Nat} (h : hasC c b = false) : putC C c b = C b := by
  simp only [hasC, Bool.and_eq_false_iff, decide_eq_false_iff_not] at h
  simp only [putC]
  rw [if_neg (by omega)]
theorem foldC_miss (l : List Cls) (b : Nat) : ∀ C : Nat → Int, (∀ c ∈ l, hasC c b = false) → l.foldl putC C b = C b := by
  induction l with
  | nil => intro C _; rfl
  | cons c l ih =>
    intro C h
    rw [List.foldl_cons, ih _ (fun c hc => h c (List.mem_cons_of_mem _ hc)), putC_miss (h c List.mem_cons_self)]
theorem Cof_at {l : List Cls} {k b : Nat} (hk : k < l.length) (h : hasC l[k] b = true) (hr : ∀ c ∈ l.drop (k + 1), hasC c b = false) : Cof l b = l[k].n := by
  have e : l = l.take k ++ (l[k] :: l.drop (k + 1)) := by rw [← List.drop_eq_getElem_cons hk, List.take_append_drop]
  unfold Cof
  conv => lhs; rw [e]
  rw [List.foldl_append, List.foldl_cons, foldC_miss _ _ _ hr, putC_hit h]
theorem Cof_none {l : List Cls} {b : Nat} (h : ∀ c ∈ l, hasC c b = false) : Cof l b = 0 := foldC_miss l b _ h
set_option maxHeartbeats 1000000 in
theorem rcls_any (cs : List Cls) (A : Option Addr) (B : Value) (cA : Nat) (b : Nat) (w : World) (hA : Sl w A encCls 3 cs) (hcs : cs.length < 9000000000000000000) (hb : b < 256) (hB : B.oneCell' = true) :
    Calls Tryz.prog 144 #[.agg #[.slice A cs.length cA, B], .int .u8 (b : Int)] w fun e w' => e = .returned (.int .i64 (Cof cs b)) ∧ Below w.heap.size w w' := by
  have HSA := Lib.hid hA
  clear hA
  go_enter Tryz.func144, Tryz.ntmps144
  go_wp2_with fail
  have hS := HSA.out.below ((Below.refl w.heap.size w).alloc (Nat.le_refl _) (.cells #[.slice A cs.length cA, B] 36)) (Nat.le_refl _)
  have c0 := blk_cell (blk_new w (.cells #[.slice A cs.length cA, B] 36)) 0
  have HS := Lib.hid hS
  have HBL := Lib.hid ((Below.refl w.heap.size w).alloc (Nat.le_refl _) (.cells #[.slice A cs.length cA, B] 36))
  clear hS
  simp only [List.getElem?_toArray, List.getElem?_cons_zero] at c0
  generalize hW : w.alloc (.cells #[.slice A cs.length cA, B] 36) = W at *
  clear hW
  go_loop [5] (fun i => ∃ k : Nat, k ≤ cs.length ∧ i = .int .i64 ((k : Int) - 1) ∧ (∀ c ∈ cs.drop k, hasC c b = false)) (fun i => (intOf i + 1).toNat)
  case atStart => exact ⟨cs.length, Nat.le_refl _, by simp, by simp⟩
  case round =>
    obtain ⟨k, hk, rfl, hr⟩ := hrel
    have HR := Lib.hid hr
    clear hr
    cases k with
    | zero =>
      go_wp2_with fail
      go_ret
      refine ⟨ret_int ?_, HBL.out⟩
      rw [Cof_none (by simpa using HR.out)]
    | succ k =>
      have hlt : k < cs.length := by omega
      obtain ⟨ba, o, rfl, hc0⟩ := HS.out.at k hlt
      have g0 : W.cell? ⟨ba, o + k * 3, none⟩ = some (.int .i64 cs[k].lo) := hc0 0 _ rfl
      have g1 : W.cell? ⟨ba, o + k * 3 + 1, none⟩ = some (.int .i64 cs[k].hi) := hc0 1 _ rfl
      have g2 : W.cell? ⟨ba, o + k * 3 + 2, none⟩ = some (.int .i64 cs[k].n) := hc0 2 _ rfl
      have HAT := Lib.hid (fun h => @Cof_at cs k b hlt h HR.out)
      have HD := Lib.hid (List.drop_eq_getElem_cons hlt)
      obtain ⟨c, hc⟩ : ∃ c, cs[k] = c := ⟨_, rfl⟩
      rw [hc] at g0 g1 g2
      have HC := Lib.hid hc
      clear hc0 hc
      go_wp2_with fail
      · have h1 : c.lo ≤ (b : Int) := by assumption
        have h2 : (b : Int) ≤ c.hi := by assumption
        go_ret
        refine ⟨ret_int ?_, HBL.out⟩
        rw [HAT.out (by rw [HC.out]; simp [hasC, h1, h2]), HC.out]
      · have h1 : c.hi < (b : Int) := by assumption
        go_round
        case rel =>
          refine ⟨k, by omega, rfl, ?_⟩
          rw [HD.out, HC.out]
          intro d hd
          rcases List.mem_cons.1 hd with rfl | hd
          · simp [hasC]; omega
          · exact HR.out d hd
        case measure => (simp [intOf]; try omega)
      · have h1 : ¬ c.lo ≤ (b : Int) := by assumption
        go_round
        case rel =>
          refine ⟨k, by omega, rfl, ?_⟩
          rw [HD.out, HC.out]
          intro d hd
          rcases List.mem_cons.1 hd with rfl | hd
          · simp [hasC]; omega
          · exact HR.out d hd
        case measure => (simp [intOf]; try omega)
theorem Jof_foldl (l : List Jn) (x y : Nat) : ∀ J : Nat → Nat → Bool, l.foldl putJ J x y = (l.any (fun j => decide ((x : Int) = j.a ∧ (y : Int) = j.b)) || J x y) := by
  induction l with
  | nil => intro J; simp
  | cons c l ih =>
    intro J
    rw [List.foldl_cons, ih, List.any_cons]
    unfold putJ
    by_cases h : (x : Int) = c.a ∧ (y : Int) = c.b
    · simp [h]
    · simp [h]
theorem Jof_any (l : List Jn) (x y : Nat) : Jof l x y = l.any (fun j => decide ((x : Int) = j.a ∧ (y : Int) = j.b)) := by
  unfold Jof
  rw [Jof_foldl]; simp
structure BRTab (w0 : World) (cs : List Cls) (js : List Jn) (A B : Option Addr) (w : World) : Prop where
  below : Below w0.heap.size w0 w
  cl0 : Sl w0 A encCls 3 cs
  jn0 : Sl w0 B encJn 2 js
theorem BRTab.cl {w0 w : World} {cs : List Cls} {js : List Jn} {A B : Option Addr} (h : BRTab w0 cs js A B w) : Sl w A encCls 3 cs := h.cl0.below h.below (Nat.le_refl _)
theorem BRTab.jn {w0 w : World} {cs : List Cls} {js : List Jn} {A B : Option Addr} (h : BRTab w0 cs js A B w) : Sl w B encJn 2 js := h.jn0.below h.below (Nat.le_refl _)
theorem BRTab.keep {w0 w w' : World} {cs : List Cls} {js : List Jn} {A B : Option Addr} (h : BRTab w0 cs js A B w) (hb : Below w0.heap.size w w') : BRTab w0 cs js A B w' := ⟨h.1.trans hb, h.2, h.3⟩
theorem BRTab.step {w0 w w' : World} {cs : List Cls} {js : List Jn} {A B : Option Addr} (h : BRTab w0 cs js A B w) (hb : Below w.heap.size w w') : BRTab w0 cs js A B w' :=
  ⟨below_then h.1 h.1.size hb, h.2, h.3⟩
theorem BRTab.drew {w0 w : World} {cs : List Cls} {js : List Jn} {A B : Option Addr} (h : BRTab w0 cs js A B w) : BRTab w0 cs js A B w.drew := ⟨h.1.drew, h.2, h.3⟩
set_option maxHeartbeats 1000000 in
theorem rcuts_any (cs : List Cls) (js : List Jn) (A B : Option Addr) (cA cB : Nat) (a b : Int) (w : World) (hA : Sl w A encCls 3 cs) (hB : Sl w B encJn 2 js) (hcs : cs.length < 9000000000000000000) (hjs : js.length < 9000000000000000000) (ha0 : 0 ≤ a) (ha : a < 256) (hb0 : 0 ≤ b) (hb : b < 256) (hr : cs.all spanB = true) :
    Calls Tryz.prog 108 #[.agg #[.slice A cs.length cA, .slice B js.length cB], .int .u8 a, .int .u8 b] w fun e w' => e = .returned (.bool (cutB (Cof cs) (Jof js) a.toNat b.toNat)) ∧ Below w.heap.size w w' := by
  obtain ⟨a, rfl⟩ := Int.eq_ofNat_of_zero_le ha0
  obtain ⟨b, rfl⟩ := Int.eq_ofNat_of_zero_le hb0
  have RA := Cof_small cs hr a
  have RB := Cof_small cs hr b
  simp only [Int.toNat_natCast]
  have H0 : BRTab w cs js A B (w.alloc (.cells #[.slice A cs.length cA, .slice B js.length cB] 36)) := BRTab.step ⟨Below.refl _ _, hA, hB⟩ ((Below.refl w.heap.size w).alloc (Nat.le_refl _) _)
  have c0 := blk_cell (blk_new w (.cells #[.slice A cs.length cA, .slice B js.length cB] 36)) 0
  have c1 := blk_cell (blk_new w (.cells #[.slice A cs.length cA, .slice B js.length cB] 36)) 1
  simp only [List.getElem?_toArray, List.getElem?_cons_zero, List.getElem?_cons_succ] at c0 c1
  have HC : ∀ (c : Nat) (W : World), c < 256 → W.cell? ⟨w.heap.size, 0, none⟩ = some (.slice A cs.length cA) ∧ W.cell? ⟨w.heap.size, 1, none⟩ = some (.slice B js.length cB) ∧ BRTab w cs js A B W →
      Calls Tryz.prog 144 #[.agg #[.slice A cs.length cA, .slice B js.length cB], .int .u8 (c : Int)] W fun e W' => e = .returned (.int .i64 (Cof cs c)) ∧ W'.cell? ⟨w.heap.size, 0, none⟩ = some (.slice A cs.length cA) ∧ W'.cell? ⟨w.heap.size, 1, none⟩ = some (.slice B js.length cB) ∧ BRTab w cs js A B W' := by
    intro c W hc ⟨h1, h2, h3⟩
    refine (rcls_any cs A (.slice B js.length cB) cA c W h3.cl hcs hc rfl).mono ?_
    rintro e W' ⟨rfl, hbW⟩
    exact ⟨rfl, below_cell hbW (Nat.le_refl _) h1, below_cell hbW (Nat.le_refl _) h2, h3.step hbW⟩
  have HCC := Lib.hid HC
  clear hA hB HC ha0 hb0
  go_enter Tryz.func108, Tryz.ntmps108
  go_wp2_with fail
  generalize w.alloc (.cells #[.slice A cs.length cA, .slice B js.length cB] 36) = W0 at *
  have HH := Lib.hid H0
  clear H0
  go_region_held3 (fun w' => w'.cell? ⟨w.heap.size, 0, none⟩ = some (.slice A cs.length cA) ∧ w'.cell? ⟨w.heap.size, 1, none⟩ = some (.slice B js.length cB) ∧ BRTab w cs js A B w') (first | exact ⟨c0, c1, HH.out.drew⟩ | assumption | (refine ⟨?_, ?_, ?_⟩ <;> assumption))
    (first | (go_at_call 144; refine (HCC.out _ _ (by omega) (by assumption)).mono ?_; rintro e w' ⟨rfl, h⟩))
  rename World => W
  obtain ⟨d0, d1, dR⟩ := h
  have HR := Lib.hid dR
  clear c0 c1 dR HH HCC
  go_wp2_with fail
  go_loop [9] (fun i => ∃ k : Nat, k ≤ js.length ∧ i = .int .i64 (k : Int) ∧ (∀ j ∈ js.take k, ¬ (Cof cs a = j.a ∧ Cof cs b = j.b))) (fun i => js.length - (intOf i).toNat)
  case atStart => exact ⟨0, Nat.zero_le _, rfl, by simp⟩
  case round =>
    obtain ⟨k, hk, rfl, hno⟩ := hrel
    have HNO := Lib.hid hno
    clear hno
    by_cases hlt : k < js.length
    · obtain ⟨ba, o, rfl, hc0⟩ := HR.out.jn.at k hlt
      have g0 : W.cell? ⟨ba, o + k * 2, none⟩ = some (.int .i64 js[k].a) := hc0 0 _ rfl
      have g1 : W.cell? ⟨ba, o + k * 2 + 1, none⟩ = some (.int .i64 js[k].b) := hc0 1 _ rfl
      have HT := Lib.hid (take_snoc hlt)
      have HMEM := Lib.hid (List.getElem_mem hlt)
      obtain ⟨c, hc⟩ : ∃ c, js[k] = c := ⟨_, rfl⟩
      rw [hc] at g0 g1
      have HC := Lib.hid hc
      clear hc0 hc
      by_cases e1 : c.a = Cof cs a
      · by_cases e2 : c.b = Cof cs b
        · have E1 := Lib.hid e1
          have E2 := Lib.hid e2
          have t1 : (c.a == Cof cs a) = true := beq_iff_eq.2 e1
          have t2 : (c.b == Cof cs b) = true := beq_iff_eq.2 e2
          clear e1 e2
          go_wp2_with fail
          go_ret
          refine ⟨ret_bool ?_, HR.out.below⟩
          have hJ : Jof js (Cof cs a).toNat (Cof cs b).toNat = true := by
            rw [Jof_any, List.any_eq_true]
            refine ⟨c, by rw [← HC.out]; exact HMEM.out, ?_⟩
            rw [decide_eq_true_eq, E1.out, E2.out, Int.toNat_of_nonneg RA.1, Int.toNat_of_nonneg RB.1]
            exact ⟨rfl, rfl⟩
          simp [cutB, hJ]
        · have E2 := Lib.hid e2
          have t1 : (c.a == Cof cs a) = true := beq_iff_eq.2 e1
          have t2 : (c.b == Cof cs b) = false := beq_eq_false_iff_ne.2 e2
          clear e1 e2
          go_wp2_with fail
          go_round
          case rel =>
            refine ⟨k + 1, by omega, by go_num, ?_⟩
            rw [HT.out, HC.out]
            intro j hj
            rcases List.mem_append.1 hj with hj | hj
            · exact HNO.out j hj
            · rw [List.mem_singleton] at hj; subst hj; exact fun h => E2.out h.2.symm
          case measure => (simp [intOf]; try omega)
      · have E1 := Lib.hid e1
        have t1 : (c.a == Cof cs a) = false := beq_eq_false_iff_ne.2 e1
        clear e1
        go_wp2_with fail
        go_round
        case rel =>
          refine ⟨k + 1, by omega, by go_num, ?_⟩
          rw [HT.out, HC.out]
          intro j hj
          rcases List.mem_append.1 hj with hj | hj
          · exact HNO.out j hj
          · rw [List.mem_singleton] at hj; subst hj; exact fun h => E1.out h.1.symm
        case measure => (simp [intOf]; try omega)
    · obtain rfl : k = js.length := by omega
      go_wp2_with fail
      go_ret
      refine ⟨ret_bool ?_, HR.out.below⟩
      have hJ : Jof js (Cof cs a).toNat (Cof cs b).toNat = false := by
        rw [Jof_any, List.any_eq_false]
        intro j hj h
        rw [decide_eq_true_eq, Int.toNat_of_nonneg RA.1, Int.toNat_of_nonneg RB.1] at h
        exact HNO.out j (by rw [List.take_length]; exact hj) h
      rw [cutB, hJ]; by_cases e : Cof cs a = Cof cs b <;> simp [e]
end Go.Proofs.YtbppaiejpgdbiaaGreat
