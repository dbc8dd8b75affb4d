/- Layer 4 (token): TokenNews. -/
import Derived.Test.YtdppdjiigecjoaaTokenSame
import Derived.Test.YtdppdjiigecjoaaTokenAwake
import Derived.Test.YtdppdjiigecjoaaTokenLawM
import Derived.Test.YtdppdjiigecjoaaOpen
namespace Go.Proofs.Ytdppdjiigecjoaa
open Go.RowKit Go.Maps Go.WideMaps
set_option maxRecDepth 100000
set_option linter.unusedVariables false
set_option linter.unusedSimpArgs false

def toMrg (l : List Int) : Int × Int := (l.getD 0 0, l.getD 1 0)
theorem enc_toMrg (l : List Int) (h : l.length = 2) : encInts .i64 l = encM (toMrg l) := by
  match l, h with
  | [a, b], _ => rfl
theorem sl_mrg {w : World} {A : Option Addr} {xs : List (List Int)} (hA : Sl w A (encInts .i64) 2 xs) (h : ∀ y ∈ xs, y.length = 2) : Sl w A encM 2 (xs.map toMrg) := by
  intro i x hx
  rw [List.getElem?_map, Option.map_eq_some_iff] at hx
  obtain ⟨y, hy, rfl⟩ := hx
  obtain ⟨b, o, e, hc⟩ := hA i y hy
  exact ⟨b, o, e, by rw [← enc_toMrg y (h y (List.mem_of_getElem? hy))]; exact hc⟩

/-- how far a list can be added, told by both -/
theorem news_agree {l : List (Int × Int)} {k k' : Nat} {T T' : List Ent} {no : Int} (hk : k < l.length) (h1 : addsT baseT (l.take k) = some T) (he : (addT T l[k].1 l[k].2).2.1 ≠ 0)
    (h2 : addsT baseT (l.take k') = some T') (h : (k' = l.length ∧ no = 0) ∨ ∃ hk : k' < l.length, no = (addT T' l[k'].1 l[k'].2).2.1 ∧ no ≠ 0) : k' = k ∧ no = (addT T l[k].1 l[k].2).2.1 := by
  have step : ∀ {j m : Nat} {S S' : List Ent} (hj : j < m) (hm : m ≤ l.length), addsT baseT (l.take m) = some S' → addsT baseT (l.take j) = some S → (addT S (l[j]'(by omega)).1 (l[j]'(by omega)).2).2.1 = 0 := by
    intro j m S S' hj hm a b
    have hjl : j < (l.take m).length := by rw [List.length_take]; omega
    have := adds_take (l.take m) baseT S' j hjl S a (by rw [List.take_take]; rw [Nat.min_eq_left (by omega)]; exact b)
    rw [List.getElem_take] at this
    exact this
  rcases h with ⟨rfl, rfl⟩ | ⟨hk', e, hne⟩
  · exact absurd (step hk (Nat.le_refl _) h2 h1) he
  · rcases Nat.lt_trichotomy k k' with hlt | rfl | hgt
    · exact absurd (step hlt (by omega) h2 h1) he
    · rw [h1] at h2
      injection h2 with h2
      subst h2
      exact ⟨rfl, e⟩
    · have := step hgt (by omega) h1 h2
      exact absurd (e.trans this) hne

set_option maxHeartbeats 4000000 in
theorem tnews_small (l : List (Int × Int)) (A : Option Addr) (c : Nat) (w : World) (hl : Sl w A encM 2 l) (hlen : l.length ≤ 60) : Calls Try.prog 11 #[.slice A l.length c] w (RetTrue w) := by
  have h60 : ¬ (60 : Int) < (l.length : Int) := by omega
  have HL := Lib.hid hl
  clear hl
  go_enter Try.func11, Try.ntmps11
  go_wp2_with fail
  refine (new_any l A c w HL.out (by omega)).mono ?_
  rintro e w1 ⟨hb1, (⟨T, tb, sv, mb, mp, rfl, ha, hok, ht⟩ | ⟨k, hk, T, ha, hok, he, rfl⟩)⟩
  · have HB1 := Lib.hid hb1
    have HL1 := Lib.hid (HL.out.below hb1 (Nat.le_refl _))
    have HA := Lib.hid ha
    have HOK := Lib.hid hok
    have HT := Lib.hid ht
    clear ha hok ht hb1
    go_wp2_with fail
    refine (rnew_any l A c w1 HL1.out (by omega)).mono ?_
    rintro e w2 ⟨hb2, k, T', A1, n1, c1, A2, n2, c2, no, rfl, href, hok', ha', hor⟩
    have hkn : k = l.length ∧ no = 0 := by
      rcases hor with h | ⟨hk, e, hne⟩
      · exact h
      · exact absurd (e.trans (adds_take l baseT T k hk T' HA.out ha')) hne
    obtain ⟨rfl, rfl⟩ := hkn
    rw [List.take_length, HA.out] at ha'
    injection ha' with ha'
    subst ha'
    have hbt := hb2.alloc hb2.size (.cells #[.slice A1 n1 c1, .slice A2 n2 c2] 48)
    have hbn := blk_new w2 (.cells #[.slice A1 n1 c1, .slice A2 n2 c2] 48)
    have m0 := blk_cell hbn 0
    have m1 := blk_cell hbn 1
    simp only [List.getElem?_toArray, List.getElem?_cons_zero, List.getElem?_cons_succ] at m0 m1
    have HT2 : Hid (TabIs (w2.alloc (.cells #[.slice A1 n1 c1, .slice A2 n2 c2] 48)) w.heap.size tb T sv mb mp) := Lib.hid (HT.out.below hbt (Nat.le_refl _))
    have HR2 : Hid (RefIs (w2.alloc (.cells #[.slice A1 n1 c1, .slice A2 n2 c2] 48)) w.heap.size T (.slice A1 n1 c1) (.slice A2 n2 c2)) := Lib.hid ((href.less HB1.out.size).below ((Below.refl w2.heap.size w2).alloc (Nat.le_refl _) _) (Nat.le_refl _))
    have HB2 := Lib.hid (HB1.out.trans (hbt.mono HB1.out.size))
    clear hb2 href hor hok' hbt hbn
    go_upto_region 7 with fail
    generalize w2.alloc (.cells #[.slice A1 n1 c1, .slice A2 n2 c2] 48) = w3 at *
    go_wp2_with fail
    refine (same_any HT2.out HR2.out HOK.out).mono ?_
    rintro e w4 ⟨rfl, hb4⟩
    have HB4 := Lib.hid (HB2.out.trans (hb4.mono HB2.out.size))
    clear hb4
    go_wp2_with fail
    refine (awake4_any _).mono ?_
    rintro e w5 ⟨rfl, hb5⟩
    have HB5 := Lib.hid (HB4.out.trans (hb5.mono HB4.out.size))
    clear hb5
    go_wp2_with fail
    go_ret
    exact ⟨rfl, HB5.out⟩
  · have HB1 := Lib.hid hb1
    have HL1 := Lib.hid (HL.out.below hb1 (Nat.le_refl _))
    have HA := Lib.hid ha
    have HE := Lib.hid he
    obtain ⟨E, hE⟩ : ∃ E, (addT T l[k].1 l[k].2).2.1 = E := ⟨_, rfl⟩
    have HEE := Lib.hid hE
    rw [hE] at he ⊢
    clear ha hok hb1 hE
    go_wp2_with fail
    refine (rnew_any l A c w1 HL1.out (by omega)).mono ?_
    rintro e w2 ⟨hb2, k', T', A1, n1, c1, A2, n2, c2, no, rfl, href, hok', ha', hor⟩
    have hkn := news_agree hk HA.out HE.out ha' hor
    rw [HEE.out] at hkn
    obtain ⟨rfl, rfl⟩ := hkn
    have hbt := hb2.alloc hb2.size (.cells #[.slice A1 n1 c1, .slice A2 n2 c2] 48)
    have hbn := blk_new w2 (.cells #[.slice A1 n1 c1, .slice A2 n2 c2] 48)
    have HB2 := Lib.hid (HB1.out.trans (hbt.mono HB1.out.size))
    clear hb2 href hor hok' hbt ha' hbn
    go_upto_region 7 with fail
    generalize w2.alloc (.cells #[.slice A1 n1 c1, .slice A2 n2 c2] 48) = w3 at *
    go_wp2_with fail
    refine (awake4_any _).mono ?_
    rintro e w5 ⟨rfl, hb5⟩
    have HB5 := Lib.hid (HB2.out.trans (hb5.mono HB2.out.size))
    clear hb5
    go_wp2_with fail
    go_ret
    exact ⟨rfl, HB5.out⟩

theorem tnews_law (x0 : List (List Int)) (A : Option Addr) (cA : Nat) (w : World)
    (_ : x0.length ≤ cA) (_ : cA ≤ maxLen) (h0 : ∀ y ∈ x0, y.length = 2 ∧ ∀ z ∈ y, (Lit.int .i64 z).wf = true) (hA : Sl w A (encInts .i64) 2 x0) :
    Calls Try.prog 11 #[.slice A x0.length cA] w (RetTrue w) := by
  by_cases h : x0.length ≤ 60
  · have e0 : x0.length = (x0.map toMrg).length := by simp
    rw [e0]
    exact tnews_small _ A cA w (sl_mrg hA (fun y hy => (h0 y hy).1)) (by rw [← e0]; exact h)
  · have h1 : (60 : Int) < (x0.length : Int) := by omega
    go_enter Try.func11, Try.ntmps11
    go_wp2_with fail
    refine (awake4_any _).mono ?_
    rintro e w1 ⟨rfl, hb1⟩
    go_wp2_with fail
    go_ret
    exact ⟨by simp, hb1⟩
end Go.Proofs.Ytdppdjiigecjoaa
