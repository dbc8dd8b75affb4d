/- Layer 4 (token): a program's table and the document's, side by side; one that is added to. -/
import Derived.Test.YtdppdjiigecjoaaTokenSame
import Derived.Test.YtdppdjiigecjoaaTokenLawW
namespace Go.Proofs.Ytdppdjiigecjoaa
open Go.RowKit Go.Maps Go.WideMaps
set_option maxRecDepth 100000
set_option linter.unusedVariables false
set_option linter.unusedSimpArgs false

section
variable {w W : World} {base base' tb mb mp : Nat} {T T' : List Ent} {sv : Value}
theorem tabF_row (h : TabIs w base tb T sv mb mp) {e : TypeId} {size n : Nat} {v : Value} {xs : List Value} (hr : w.ownsRow base' e size v n xs) (h1 : 113 ≠ e) (h2 : e ≠ 115) : ∀ g, v.ownBlock = some g → ¬ tabF tb sv mb mp g := by
  intro g hg hF
  rcases hF with rfl | h3 | rfl | rfl
  · exact row_ne hr h.blk h1 hg
  · exact row_row_ne hr h.row h2 g hg h3
  · exact h.bys.row_ne hr hg
  · exact h.prs.row_ne hr hg
theorem tabF_blk (h : TabIs w base tb T sv mb mp) {g : Nat} {cs : Array Value} {t : TypeId} {fz : Nat × Nat} (hb : w.heap[g]? = some (.cells cs t fz)) (h1 : t ≠ 113) (h2 : t ≠ 115) : ¬ tabF tb sv mb mp g := by
  intro hF
  rcases hF with rfl | h3 | h3 | h3
  · have := h.blk
    rw [hb] at this
    simp only [Option.some.injEq, Obj.cells.injEq] at this
    exact h1 this.2.1
  · exact row_ne h.row hb h2 h3
  · exact h.bys.blk_ne hb h3.symm
  · exact h.prs.blk_ne hb h3.symm
theorem RefIs.keepT (h : TabIs w base tb T sv mb mp) {vb vm : Value} (hr : RefIs w base' T' vb vm) (k : Keep (tabF tb sv mb mp) w W) : RefIs W base' T' vb vm :=
  ⟨own_keep hr.row k (tabF_row h hr.row (by decide) (by decide)), own_keep hr.mrg k (tabF_row h hr.mrg (by decide) (by decide)), hr.nil⟩
end
theorem addT_no {T : List Ent} {a b : Int} (he : (addT T a b).2.1 ≠ 0) : (addT T a b).1 = 0 ∧ (addT T a b).2.2 = T := by
  unfold addT at *
  by_cases h1 : (!(hasT T a && hasT T b)) = true
  · rw [if_pos h1]; exact ⟨rfl, rfl⟩
  rw [if_neg h1] at he ⊢
  by_cases h2 : ((entT T a).1 ++ (entT T b).1).length > 64
  · rw [if_pos h2]; exact ⟨rfl, rfl⟩
  rw [if_neg h2] at he ⊢
  by_cases h3 : T.length ≥ 1000
  · rw [if_pos h3]; exact ⟨rfl, rfl⟩
  rw [if_neg h3] at he ⊢
  by_cases h4 : (findT T ((entT T a).1 ++ (entT T b).1)).isSome = true
  · rw [if_pos h4]; exact ⟨rfl, rfl⟩
  rw [if_neg h4] at he
  exact absurd rfl he
theorem addT_yes {T : List Ent} {a b : Int} (he : (addT T a b).2.1 = 0) : (addT T a b).1 = (T.length : Nat) := by
  unfold addT at *
  by_cases h1 : (!(hasT T a && hasT T b)) = true
  · rw [if_pos h1] at he; simp at he
  rw [if_neg h1] at he ⊢
  by_cases h2 : ((entT T a).1 ++ (entT T b).1).length > 64
  · rw [if_pos h2] at he; simp at he
  rw [if_neg h2] at he ⊢
  by_cases h3 : T.length ≥ 1000
  · rw [if_pos h3] at he; simp at he
  rw [if_neg h3] at he ⊢
  by_cases h4 : (findT T ((entT T a).1 ++ (entT T b).1)).isSome = true
  · rw [if_pos h4] at he; simp at he
  rw [if_neg h4]
theorem born_has {T : List Ent} (h : OkT T) (a : Int) : bornT T a = (hasT T a && decide (a > 255)) := by
  unfold bornT
  cases hh : hasT T a with
  | false => rfl
  | true =>
    obtain ⟨k, rfl, hk, he⟩ := hasT_at hh
    simp only [Bool.true_and]
    by_cases h2 : k < 256
    · rw [base_ent h h2]
      have : ¬ ((k : Int) > 255) := by omega
      simp [this]
    · have hb := (made_all h (i := k) (by omega) hk).1
      unfold bornT at hb
      rw [hh] at hb
      have : ((k : Int) > 255) := by omega
      simpa [this] using hb

/-- both tables behind some additions -/
structure AddsIs (w W : World) (T : List Ent) (tb mb mp mv : Nat) : Prop where
  ok : OkT T
  tab : ∃ sv, TabIs W w.heap.size tb T sv mb mp
  ref : ∃ A c A2 c2, W.heap[mv]? = some (.cells #[.slice A T.length c, .slice A2 (mrgsT T).length c2] 48) ∧ RefIs W w.heap.size T (.slice A T.length c) (.slice A2 (mrgsT T).length c2)
  below : Below w.heap.size w W
  le : w.heap.size ≤ mv
theorem AddsIs.step {w W W2 : World} {T : List Ent} {tb mb mp mv : Nat} (h : AddsIs w W T tb mb mp mv) (hb : Below W.heap.size W W2) : AddsIs w W2 T tb mb mp mv := by
  obtain ⟨sv, ht⟩ := h.tab
  obtain ⟨A, c, A2, c2, hbk, href⟩ := h.ref
  exact ⟨h.ok, ⟨sv, ht.below hb (Nat.le_refl _)⟩, ⟨A, c, A2, c2, blk_below hb (blk_lt hbk) hbk, href.below hb (Nat.le_refl _)⟩, h.below.trans (hb.mono h.below.size), h.le⟩
/-- the new table is laid into the variable -/
theorem AddsIs.put {w W W3 W5 : World} {T : List Ent} {tb mb mp mv n m c c2 : Nat} {x y : Int} {A A2 : Option Addr} {sv : Value} (h : AddsIs w W T tb mb mp mv) (ht : TabIs W w.heap.size tb T sv mb mp)
    (hb3 : Below W.heap.size W W3) (href : RefIs W3 w.heap.size (addT T x y).2.2 (.slice A n c) (.slice A2 m c2))
    (htab : ∃ sv', TabIs W5 w.heap.size tb (addT T x y).2.2 sv' mb mp) (hk : Keep (tabF tb sv mb mp) W3 W5) (hok : OkT (addT T x y).2.2) :
    AddsIs w ((W5.setCell ⟨mv, 0, none⟩ (.slice A n c)).setCell ⟨mv, 1, none⟩ (.slice A2 m c2)) (addT T x y).2.2 tb mb mp mv := by
  obtain ⟨A0, c0, A20, c20, hbk, _⟩ := h.ref
  have ht3 := ht.below hb3 (Nat.le_refl _)
  have hbk3 := blk_below hb3 (blk_lt hbk) hbk
  have hr5 := RefIs.keepT ht3 href hk
  have hbk5 := hk.blk hbk3 (tabF_blk ht3 hbk3 (by decide) (by decide))
  have en : n = (addT T x y).2.2.length := by obtain ⟨_, _, e⟩ := own_slice href.row; injection e
  have em : m = (mrgsT (addT T x y).2.2).length := by obtain ⟨_, _, e⟩ := own_slice href.mrg; injection e
  subst en; subst em
  obtain ⟨p1, p2⟩ := ref_put hr5 hbk5
  obtain ⟨sv', ht5⟩ := htab
  have hb5 : Below w.heap.size w W5 := (h.below.trans (hb3.mono h.below.size)).trans (hk.below (Nat.le_trans h.below.size hb3.size) (fun g hg => by
    rcases hg with rfl | hg | rfl | rfl
    · exact ht3.lt.1
    · exact own_base ht3.row g hg
    · exact ht3.lt.2.1
    · exact ht3.lt.2.2))
  have K3 : ∀ (W : World) (i : Nat) (u : Value), Keep (fun g => g = mv) W (W.setCell ⟨mv, i, none⟩ u) := fun W i u => Keep.setCell (F := fun g => g = mv) (p := ⟨mv, i, none⟩) (Keep.refl _ _) (Or.inl rfl) _
  have hmv : ∀ g, tabF tb sv' mb mp g → ¬ g = mv := fun g hg e => tabF_blk ht5 hbk5 (by decide) (by decide) (by rw [← e]; exact hg)
  exact ⟨hok, ⟨sv', (ht5.keep (K3 _ 0 _) hmv).keep (K3 _ 1 _) hmv⟩, ⟨_, _, _, _, p1, p2⟩, (hb5.setCell (p := ⟨mv, 0, none⟩) h.le _).setCell (p := ⟨mv, 1, none⟩) h.le _, h.le⟩
end Go.Proofs.Ytdppdjiigecjoaa
