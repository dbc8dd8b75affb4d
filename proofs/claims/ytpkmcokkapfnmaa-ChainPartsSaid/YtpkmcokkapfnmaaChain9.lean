/- Layer 5 (chain): ids. -/
import Derived.Test.YtpkmcokkapfnmaaChain8
namespace Go.Proofs.Ytpkmcokkapfnmaa
open Go.RowKit Go.Maps Go.WideMaps
set_option maxRecDepth 100000
set_option linter.unusedVariables false
set_option linter.unusedSimpArgs false

theorem info_int5 : (Try.prog.info? 3).map (fun i => (i.zero, i.size, i.bytes)) = some (some (.int .i64 0), 1, 8) := by kernel_rfl
/-- numbers in a row of the call's own -/
def IntsIs (w : World) (base : Nat) (v : Value) (l : List Int) : Prop := ∃ A c, v = .slice A l.length c ∧ w.ownsRow base 3 1 (.slice A l.length c) l.length (l.map (Value.int .i64))
section
variable {w w' : World} {base tbase tb : Nat} {T : List Ent} {sv : Value} {mb mp cb qb : Nat} {N : List Node} {bel steps : Int} {A : Option Addr} {c g : Nat} {Q : List (Th Wt)} {turn : Int} {Aq : Option Addr} {cq : Nat}
structure IdsIs (w W : World) (base cb tb qb : Nat) (N : List Node) (bel steps : Int) (A : Option Addr) (c : Nat) (p : List Nd) (A2 : Option Addr) (c2 : Nat) : Prop where
  lk : LinkIs W base cb tb qb N bel steps A c
  row : W.ownsRow w.heap.size 3 1 (.slice A2 p.length c2) p.length ((idsC p).map (Value.int .i64))
  bl : Below w.heap.size w W
theorem ids_none (h : LinkIs w base cb tb qb [] bel steps A c) :
    Calls Try.prog 39 #[.pointer (some ⟨cb, 0, none⟩)] w fun e w' => (∃ v, e = .returned v ∧ IntsIs w' w.heap.size v []) ∧ Below w.heap.size w w' := by
  have h1 := blk_cell h.blk 1
  simp only [List.getElem?_toArray, List.getElem?_cons_zero, List.getElem?_cons_succ, List.length_nil] at h1
  clear h
  go_enter Try.func39, Try.ntmps39
  go_wp2_with fail
  go_loopg [3, 4] 0 (fun n u i W => u = .slice none 0 0 ∧ i = .int .i64 0 ∧ W = w)
  case atStart => exact ⟨rfl, rfl, rfl⟩
  case round =>
    obtain ⟨rfl, rfl, rfl⟩ := hrel
    go_wp2_with fail
    go_ret
    exact ⟨⟨_, rfl, none, 0, rfl, own_nil _ _ _ _⟩, Below.refl _ _⟩
set_option maxHeartbeats 4000000 in
theorem ids_any {L : List Nd} (h : LinkIs w base cb tb qb N bel steps A c) (hL : Lives N L) (hN : N ≠ []) (hn : L.length ≤ 100000000) :
    Calls Try.prog 39 #[.pointer (some ⟨cb, 0, none⟩)] w fun e w' => (∃ v, e = .returned v ∧ IntsIs w' w.heap.size v (idsC L)) ∧ Below w.heap.size w w' := by
  have HS : Hid (IdsIs w w base cb tb qb N bel steps A c [] none 0) := Lib.hid ⟨h, by simpa [idsC] using own_nil _ _ _ _, Below.refl _ _⟩
  have HLT := Lib.hid (blk_lt h.blk)
  have HAT : Hid (∀ g, A = some ⟨g, 0, none⟩ → g < w.heap.size) := Lib.hid (fun g hg => hw.own_lt h.row g (hw.addr_own hg))
  have HL := Lib.hid hL
  have hN0 : 0 < N.length := by
    rcases N with _ | ⟨x, N⟩
    · exact absurd rfl hN
    · simp
  obtain ⟨a0, q0, e0⟩ := hL.first hN
  have HE := Lib.hid e0
  have h0i : (0 : Int) = headI L := by rw [e0]; rfl
  have H0 := Lib.hid h0i
  clear h hL hN e0 h0i
  go_enter Try.func39, Try.ntmps39
  go_wp2_with fail
  go_loopg [3, 4] L.length (fun n u i W => ∃ p q A2 c2, L = p ++ q ∧ q.length = n ∧ u = .slice A2 p.length c2 ∧ i = .int .i64 (headI q) ∧ IdsIs w W base cb tb qb N bel steps A c p A2 c2)
  case atStart => exact ⟨[], L, none, 0, rfl, rfl, rfl, by rw [← H0.out], HS.out⟩
  case round =>
    obtain ⟨p, q, A2, c2, hLq, hq, rfl, rfl, hW⟩ := hrel
    clear HS
    rename World => W
    have HW := Lib.hid hW
    have HLQ := Lib.hid hLq
    have HQ := Lib.hid hq
    have hlen : p.length + q.length = L.length := by rw [hLq]; simp
    have HLEN := Lib.hid hlen
    have h1 := blk_cell hW.lk.blk 1
    simp only [List.getElem?_toArray, List.getElem?_cons_zero, List.getElem?_cons_succ] at h1
    clear hW hLq hq hlen
    rcases q with _ | ⟨⟨k, a⟩, q⟩
    · rw [headI_nil]
      go_wp2_with fail
      go_ret
      have e := HLQ.out
      rw [List.append_nil] at e
      subst e
      exact ⟨⟨_, rfl, A2, c2, by simp [idsC], by simpa [idsC] using HW.out.row⟩, HW.out.bl⟩
    · obtain ⟨k', rfl, hk⟩ := HL.out.at_ p k a q HLQ.out
      have hkl := (List.getElem?_eq_some_iff.1 hk).1
      obtain ⟨g, hA, c0, c1, c2'⟩ := HW.out.lk.at k' _ hk
      subst hA
      simp only at c0 c2'
      have HKK := Lib.hid hk
      clear c1 hk
      rw [headI_cons]
      simp only
      have p0 : (0 : Int) ≤ (k' : Int) := by omega
      have p1 : (k' : Int) < (N.length : Int) := by omega
      have q1 : ((k' : Int) != -1) = true := by simp
      have hpl : p.length ≤ 100000000 := by have := HLEN.out; simp at this; omega
      go_wp2_with (at_builtin; refine app_one (w.heap.size) 31 3 (.int .i64 0) 1 8 [_] 1 _ _ rfl rfl Try.underlying31 info_int5 rfl (by decide) _ _ _ rfl rfl rfl (by intro u hu; simp at hu; subst hu; rfl) HW.out.row (by omega) (by omega) HW.out.bl.size ?_)
      intro v' w6 hown hg6
      obtain ⟨A3, c3, rfl⟩ := own_slice hown
      have hk6 : Keep (fun g => (Value.slice A2 p.length c2).ownBlock = some g) W w6 := Keep.of_grown hg6 (fun g hg => hg)
      have hnew : IdsIs w w6 base cb tb qb N bel steps (some ⟨g, 0, none⟩) c (p ++ [((k' : Int), a)]) A3 c3 := by
        refine ⟨HW.out.lk.keep hk6 (fun e => ?_) (fun x hx e => ?_), ?_, ?_⟩
        · have := own_base HW.out.row _ e; have := HLT.out; omega
        · have := own_base HW.out.row _ e; have := HAT.out x hx; omega
        · have e2 : (p ++ [((k' : Int), a)]).length = p.length + 1 := by simp
          rw [e2]
          unfold idsC at hown ⊢
          rw [List.map_append, List.map_append]
          exact hown
        · exact HW.out.bl.trans (Keep.below hk6 HW.out.bl.size (fun x hx => own_base HW.out.row x hx))
      have HNEW := Lib.hid hnew
      have HP1 := Lib.hid (show (p ++ [((k' : Int), a)]).length = p.length + 1 from by simp)
      clear hown hg6 hk6 hnew h1 c0 c2'
      obtain ⟨g', e, d0, d1, d2⟩ := HNEW.out.lk.at k' _ HKK.out
      injection e with e
      injection e with e
      subst e
      have h1 := blk_cell HNEW.out.lk.blk 1
      simp only [List.getElem?_toArray, List.getElem?_cons_zero, List.getElem?_cons_succ] at h1 d2
      clear d0 d1
      go_wp2_with fail
      go_roundg q.length
      case measure => have := HQ.out; simp at this; omega
      case rel => exact ⟨p ++ [((k' : Int), a)], q, A3, c3, by rw [HLQ.out]; simp, rfl, by rw [HP1.out], rfl, HNEW.out⟩
end
end Go.Proofs.Ytpkmcokkapfnmaa
