/- Texts of several layers, one behind the other: SpineP3, RVoc0, RVoc1, Bound5, RVoc2, RVoc3, RFirst0, Find2, Alone0, Spine1, Spine2, Spine3. -/
import Derived.Test.YtbppaiejpgdbiaaGreatZW4
import Derived.WalkKit
import Derived.KernelRfl
import Derived.Lib.Hide
import Derived.Deep.QuietTactic
import Derived.BigQuiet
import Derived.OwnWalk
import Derived.Lib.Strings
import Derived.Deep.DeepCutAuto
import Derived.Deep.RegionHeld3
import Derived.StillTailTactics
import Derived.Test.YtbppaiejpgdbiaaGreatProg
import Derived.Deep.Slices
import Derived.Deep.Fields
import Derived.ChangeSame
import Derived.SliceStrings
import Derived.OpenShut
import Derived.Maps.OwnSet
import Derived.Maps.OwnOps
import Derived.DeepKeys4
import Derived.WideKeyEntry
import Derived.Maps.AppendAt
import Derived.Laws.ResultCell
import Derived.Laws.IdiomStrings
import Derived.Laws.AppendOwnNone
import Derived.Lib.AppendStr
import Derived.Laws.LoneSync
import Derived.Tactics
import Derived.Tactics2
import Derived.Defers
import Derived.Laws.Pointers
import Derived.RegionTactic
import Derived.RegionCalls
import Derived.ChangeAlike
import Derived.Test.YtbppaiejpgdbiaaGreatRows
import Derived.ProofKit
import Derived.ShutString
import Derived.ChangeOld
import Derived.Below
import Derived.Lib.SmallJoins
set_option maxRecDepth 100000
set_option linter.unusedVariables false
set_option linter.unusedSimpArgs false
namespace Go.Proofs.YtbppaiejpgdbiaaGreat
theorem fold_from (cut : Nat → Nat → Bool) : ∀ (l : List UInt8) (y : UInt8), ∃ p ps, ∀ (ini : List (List UInt8)) (q : List UInt8), l.foldl (addByte cut) (ini ++ [q ++ [y]]) = ini ++ (q ++ y :: p) :: ps
  | [], y => ⟨[], [], fun ini q => by simp⟩
  | z :: l, y => by
    obtain ⟨p, ps, h⟩ := fold_from cut l z
    cases hc : cut y.toNat z.toNat with
    | true =>
      refine ⟨[], (z :: p) :: ps, fun ini q => ?_⟩
      rw [List.foldl_cons, addByte_new hc]
      have := h (ini ++ [q ++ [y]]) []
      simp only [List.nil_append] at this
      rw [this]
      simp
    | false =>
      refine ⟨z :: p, ps, fun ini q => ?_⟩
      rw [List.foldl_cons, addByte_grow hc]
      have := h ini (q ++ [y])
      rw [this]
      simp
theorem pcs_from (cut : Nat → Nat → Bool) (l : List UInt8) (y : UInt8) : ∃ p ps, pcs cut (y :: l) = (y :: p) :: ps ∧ ∀ (ini : List (List UInt8)) (q : List UInt8), l.foldl (addByte cut) (ini ++ [q ++ [y]]) = ini ++ (q ++ y :: p) :: ps := by
  obtain ⟨p, ps, h⟩ := fold_from cut l y
  exact ⟨p, ps, h [] [], h⟩
theorem pcs_app (cut : Nat → Nat → Bool) (a b : List UInt8) : pcs cut (a ++ b) = b.foldl (addByte cut) (pcs cut a) := by unfold pcs; rw [List.foldl_append]
theorem pcs_bet {cut : Nat → Nat → Bool} {a b : List UInt8} (h : betB cut a b = true) : pcs cut (a ++ b) = pcs cut a ++ pcs cut b := by
  rcases snoc_cases a with rfl | ⟨a', x, rfl⟩
  · rfl
  · cases b with
    | nil => simp [pcs_nil]
    | cons y l =>
      have hc : cut x.toNat y.toNat = true := by simpa [betB] using h
      obtain ⟨p, ps, e1, e2⟩ := pcs_from cut l y
      obtain ⟨ini, q, e3⟩ := pcs_ends cut a' x
      rw [pcs_app, e3, e1, List.foldl_cons, addByte_new hc]
      have := e2 (ini ++ [q ++ [x]]) []
      simp only [List.nil_append] at this
      rw [this]
theorem pcs_nobet {cut : Nat → Nat → Bool} {a b : List UInt8} (ha : a ≠ []) (hb : b ≠ []) (h : betB cut a b = false) : ∃ R p q U, pcs cut a = R ++ [p] ∧ p ≠ [] ∧ pcs cut b = q :: U ∧ q ≠ [] ∧ pcs cut (a ++ b) = R ++ (p ++ q) :: U := by
  rcases snoc_cases a with rfl | ⟨a', x, rfl⟩
  · exact absurd rfl ha
  · cases b with
    | nil => exact absurd rfl hb
    | cons y l =>
      have hc : cut x.toNat y.toNat = false := by simpa [betB] using h
      obtain ⟨p, ps, e1, e2⟩ := pcs_from cut l y
      obtain ⟨ini, q, e3⟩ := pcs_ends cut a' x
      refine ⟨ini, q ++ [x], y :: p, ps, e3, by simp, e1, by simp, ?_⟩
      rw [pcs_app, e3, List.foldl_cons, addByte_grow hc, e2 ini (q ++ [x])]
theorem pcs_pos {cut : Nat → Nat → Bool} {s : List UInt8} : ∀ p ∈ pcs cut s, p ≠ [] := by
  have key : ∀ (l : List UInt8) (acc : List (List UInt8)), (∀ p ∈ acc, p ≠ []) → ∀ p ∈ l.foldl (addByte cut) acc, p ≠ [] := by
    intro l
    induction l with
    | nil => intro acc h; exact h
    | cons c l ih =>
      intro acc h
      rw [List.foldl_cons]
      refine ih _ ?_
      intro p hp
      unfold addByte at hp
      split at hp
      · simp at hp; subst hp; simp
      · split at hp
        · rcases List.mem_append.1 hp with hp | hp
          · exact h p hp
          · simp at hp; subst hp; simp
        · rcases List.mem_append.1 hp with hp | hp
          · exact h p ((List.dropLast_sublist acc).subset hp)
          · simp at hp; subst hp; simp
  exact key s [] (by simp)
def encP (T : List Ent) (cut : Nat → Nat → Bool) (s : List UInt8) : List Int := (pcs cut s).flatMap (encT T T.length)
theorem encP_nil (T : List Ent) (cut : Nat → Nat → Bool) : encP T cut [] = [] := rfl
theorem encP_bet {T : List Ent} {cut : Nat → Nat → Bool} {a b : List UInt8} (h : betB cut a b = true) : encP T cut (a ++ b) = encP T cut a ++ encP T cut b := by
  unfold encP; rw [pcs_bet h, List.flatMap_append]
theorem catT_app (T : List Ent) (l r : List Int) : catT T (l ++ r) = catT T l ++ catT T r := by unfold catT; rw [List.flatMap_append]
theorem catT_one (T : List Ent) (x : Int) : catT T [x] = bytesT T x := by simp [catT]
theorem encP_cat {T : List Ent} (hT : OkT T) (cut : Nat → Nat → Bool) (s : List UInt8) : catT T (encP T cut s) = s := by
  have key : ∀ l : List (List UInt8), catT T (l.flatMap (encT T T.length)) = l.flatten := by
    intro l
    induction l with
    | nil => rfl
    | cons a l ih => rw [List.flatMap_cons, catT_app, ih, encT_cat hT]; rfl
  unfold encP
  rw [key, pcs_flatten]
theorem encT_ne {T : List Ent} (hT : OkT T) {s : List UInt8} (h : s ≠ []) : encT T T.length s ≠ [] := by
  intro e
  have := encT_cat hT T.length s
  rw [e] at this
  exact h this.symm
theorem flat_nil {T : List Ent} (hT : OkT T) {l : List (List UInt8)} (h : ∀ p ∈ l, p ≠ []) (e : l.flatMap (encT T T.length) = []) : l = [] := by
  cases l with
  | nil => rfl
  | cons a l =>
    rw [List.flatMap_cons, List.append_eq_nil_iff] at e
    exact absurd e.1 (encT_ne hT (h a (by simp)))
theorem encP_alone {T : List Ent} (hT : OkT T) (C : Nat → Int) (J : Nat → Nat → Bool) {x : Int} (hx : hasT T x = true) : encP T (cutB C J) (bytesT T x) = [x] ↔ aloneB T C J x = true := by
  unfold aloneB
  rw [Bool.and_eq_true, decide_eq_true_eq, decide_eq_true_eq]
  have hp : bytesT T x ≠ [] := by intro e; have := bytes_pos hT hx; rw [e] at this; simp at this
  have hpos := pcs_pos (cut := cutB C J) (s := bytesT T x)
  have hf := pcs_flatten (cutB C J) (bytesT T x)
  unfold encP
  cases hc : pcs (cutB C J) (bytesT T x) with
  | nil => rw [hc] at hf; exact absurd hf.symm hp
  | cons q U =>
    rw [hc] at hpos hf
    have hq : encT T T.length q ≠ [] := encT_ne hT (hpos q (by simp))
    constructor
    · intro h
      rw [List.flatMap_cons] at h
      have hU : U.flatMap (encT T T.length) = [] := by
        have hl := congrArg List.length h
        rw [List.length_append] at hl
        have : 0 < (encT T T.length q).length := List.length_pos_iff.2 hq
        simp only [List.length_cons, List.length_nil] at hl
        exact List.eq_nil_of_length_eq_zero (by omega)
      have hU2 := flat_nil hT (fun p hp => hpos p (List.mem_cons_of_mem _ hp)) hU
      subst hU2
      have e : q = bytesT T x := by simpa using hf
      rw [hU, List.append_nil] at h
      rw [← e]
      exact ⟨h, by simp⟩
    · rintro ⟨h1, h2⟩
      have hU2 : U = [] := by cases U with
        | nil => rfl
        | cons a U => simp at h2
      subst hU2
      have e : q = bytesT T x := by simpa using hf
      rw [e]
      simpa using h1
theorem nox_all {T : List Ent} (hT : OkT T) {a b : Int} (ha : hasT T a = true) (hb : hasT T b = true) (hA : Aln T a) (hB : Aln T b) : NoX T (mrgsT T).length (bytesT T a) (bytesT T b) ↔ (wlkT T a b 9223372036854775807).1 = true := by
  have h256 := okT_256 hT
  have hsm := hT.small
  have h1 := hasT_iff.1 ha
  have h2 := hasT_iff.1 hb
  have hL : (256 : Int) + ((mrgsT T).length : Nat) = T.length := by rw [mrgs_len]; omega
  rw [nox_nc hT ha hb hA hB, hL, wlk_all (lim := 9223372036854775807) (lim' := T.length) (by omega) (Int.le_refl _), walk_nc hT _ a b T.length (Nat.lt_succ_self _) ha hb (by omega) (by omega)]
theorem encT_stgL {T : List Ent} (s : List UInt8) : encT T T.length s = stg T (mrgsT T).length s := by
  rw [encT_stg, len_mrgs]
  have : ((T.length : Int) - 256).toNat = T.length - 256 := by omega
  rw [this]
theorem nox_last {T : List Ent} (hT : OkT T) {p' s u : List UInt8} {L : Nat} (hs : s ≠ []) (h : NoX T L p' s) : NoX T L (p' ++ s) u ↔ NoX T L s u := by
  have e : ∀ k, k ≤ L → (stg T k (p' ++ s)).getLast? = (stg T k s).getLast? := fun k hk => by
    rw [stg_join k (nox_mono h hk), last_append (stg_ne hT k (List.length_pos_iff.2 hs))]
  constructor
  · intro h1 k m hk hm
    rw [← e (k + 1) (by omega)]
    exact h1 k m hk hm
  · intro h1 k m hk hm
    rw [e (k + 1) (by omega)]
    exact h1 k m hk hm
theorem encP_more {T : List Ent} (hT : OkT T) (C : Nat → Int) (J : Nat → Nat → Bool) (Q : List Int) {x y : Int} (hx : hasT T x = true) (hy : hasT T y = true) :
    encP T (cutB C J) (catT T (Q ++ [y]) ++ bytesT T x) = Q ++ [y] ++ [x] ↔ encP T (cutB C J) (catT T (Q ++ [y])) = Q ++ [y] ∧ aloneB T C J x = true ∧ (betB (cutB C J) (bytesT T y) (bytesT T x) || (wlkT T y x 9223372036854775807).1) = true := by
  have hux : bytesT T x ≠ [] := by intro e; have := bytes_pos hT hx; rw [e] at this; simp at this
  have huy : bytesT T y ≠ [] := by intro e; have := bytes_pos hT hy; rw [e] at this; simp at this
  have er : catT T (Q ++ [y]) = catT T Q ++ bytesT T y := by rw [catT_app, catT_one]
  obtain ⟨r, hr⟩ : ∃ r, catT T (Q ++ [y]) = r := ⟨_, rfl⟩
  have hrn : r ≠ [] := by rw [← hr, er]; simp [huy]
  have eb : betB (cutB C J) r (bytesT T x) = betB (cutB C J) (bytesT T y) (bytesT T x) := by
    rw [← hr, er]
    unfold betB
    rw [List.getLast?_append]
    cases hl : (bytesT T y).getLast? with
    | none => rw [List.getLast?_eq_none_iff] at hl; exact absurd hl huy
    | some z => rfl
  rw [hr]
  cases hb : betB (cutB C J) (bytesT T y) (bytesT T x) with
  | true =>
    rw [hb] at eb
    rw [encP_bet eb, ← encP_alone hT C J hx, Bool.true_or]
    constructor
    · intro h
      have h1 : (catT T (encP T (cutB C J) r)).length = (catT T (Q ++ [y])).length := by rw [encP_cat hT, hr]
      have h2 := congrArg (catT T) h
      have hl : (encP T (cutB C J) (bytesT T x)).length = 1 := by
        apply Classical.byContradiction
        intro hne
        have hpos : 0 < (encP T (cutB C J) (bytesT T x)).length := by
          apply Nat.pos_of_ne_zero
          intro h0
          have h3 := encP_cat hT (cutB C J) (bytesT T x)
          rw [List.eq_nil_of_length_eq_zero h0] at h3
          exact hux h3.symm
        obtain ⟨W, z, hW⟩ : ∃ W z, encP T (cutB C J) (bytesT T x) = W ++ [z] := by
          rcases List.eq_nil_or_concat (encP T (cutB C J) (bytesT T x)) with h0 | ⟨W, z, h0⟩
          · rw [h0] at hpos; simp at hpos
          · exact ⟨W, z, by rw [h0, List.concat_eq_append]⟩
        rw [hW, ← List.append_assoc] at h
        have h4 := List.append_inj' h rfl
        have hz : z = x := by simpa using h4.2
        have h5 := encP_cat hT (cutB C J) (bytesT T x)
        rw [hW, catT_app, catT_one, hz] at h5
        have h6 : catT T W = [] := by
          have := congrArg List.length h5
          rw [List.length_append] at this
          exact List.eq_nil_of_length_eq_zero (by omega)
        have h7 : encP T (cutB C J) r ++ W = Q ++ [y] := h4.1
        have hW0 : W = [] := by
          apply catT_nil hT _ h6
          intro v hv
          apply Classical.byContradiction
          intro hnv
          have : v ∈ encP T (cutB C J) (bytesT T x) := by rw [hW]; simp [hv]
          unfold encP at this
          rw [List.mem_flatMap] at this
          obtain ⟨p, _, hp⟩ := this
          exact hnv (encT_has hT _ p v hp)
        rw [hW, hW0] at hne
        simp at hne
      have h3 := List.append_inj' h (by rw [hl]; rfl)
      exact ⟨h3.1, h3.2, rfl⟩
    · rintro ⟨h1, h2, _⟩
      rw [h1, h2]
  | false =>
    rw [hb] at eb
    obtain ⟨R, p, q, U, e1, hp, e2, hq, e3⟩ := pcs_nobet hrn hux eb
    have hUp : ∀ v ∈ U, v ≠ [] := fun v hv => pcs_pos (cut := cutB C J) (s := bytesT T x) v (by rw [e2]; exact List.mem_cons_of_mem _ hv)
    have hqU : q ++ U.flatten = bytesT T x := by rw [← pcs_flatten (cutB C J) (bytesT T x), e2]; rfl
    have hRp : R.flatten ++ p = r := by rw [← pcs_flatten (cutB C J) r, e1]; simp
    have E1 : encP T (cutB C J) r = R.flatMap (encT T T.length) ++ encT T T.length p := by unfold encP; rw [e1]; simp
    have E3 : encP T (cutB C J) (r ++ bytesT T x) = R.flatMap (encT T T.length) ++ (encT T T.length (p ++ q) ++ U.flatMap (encT T T.length)) := by unfold encP; rw [e3]; simp
    have hfc : ∀ l : List (List UInt8), catT T (l.flatMap (encT T T.length)) = l.flatten := by
      intro l
      induction l with
      | nil => rfl
      | cons a l ih => rw [List.flatMap_cons, catT_app, ih, encT_cat hT]; rfl
    rw [Bool.false_or, E3, E1, ← encP_alone hT C J hx]
    have lastY : R.flatMap (encT T T.length) ++ encT T T.length p = Q ++ [y] → ∃ p', p = p' ++ bytesT T y ∧ NoX T (mrgsT T).length p' (bytesT T y) ∧ Aln T y := by
      intro h
      have hne : encT T T.length p ≠ [] := encT_ne hT hp
      rcases List.eq_nil_or_concat (encT T T.length p) with h0 | ⟨W, z, h0⟩
      · exact absurd h0 hne
      · rw [List.concat_eq_append] at h0
        rw [h0, ← List.append_assoc] at h
        have hz : z = y := by simpa using (List.append_inj' h rfl).2
        subst hz
        have hcp := encT_cat hT T.length p
        rw [h0, catT_app, catT_one] at hcp
        have h1 : encT T T.length (catT T W ++ bytesT T z) = W ++ [z] := by rw [hcp, h0]
        have h2 := encT_cut hT _ _ _ h1 rfl
        rw [encT_stgL] at h1
        exact ⟨catT T W, hcp.symm, stg_apart hT h1 rfl, h2.2.symm⟩
    constructor
    · intro h
      have hU : U = [] := by
        apply Classical.byContradiction
        intro hU
        rcases List.eq_nil_or_concat (U.flatMap (encT T T.length)) with h0 | ⟨W, z, h0⟩
        · exact hU (flat_nil hT hUp h0)
        · rw [List.concat_eq_append] at h0
          have hcU := hfc U
          rw [h0, catT_app, catT_one] at hcU
          rw [h0, ← List.append_assoc, ← List.append_assoc] at h
          have hz : z = x := by simpa using (List.append_inj' h rfl).2
          rw [hz] at hcU
          have l1 := congrArg List.length hqU
          have l2 := congrArg List.length hcU
          rw [List.length_append] at l1 l2
          have : 0 < q.length := List.length_pos_iff.2 hq
          omega
      subst hU
      have eq : q = bytesT T x := by simpa using hqU
      subst eq
      rw [List.flatMap_nil, List.append_nil] at h
      rcases List.eq_nil_or_concat (encT T T.length (p ++ bytesT T x)) with h0 | ⟨W, z, h0⟩
      · exact absurd h0 (encT_ne hT (by simp [hp]))
      · rw [List.concat_eq_append] at h0
        rw [h0, ← List.append_assoc] at h
        have h4 := List.append_inj' h rfl
        have hz : z = x := by simpa using h4.2
        subst hz
        have hcp := encT_cat hT T.length (p ++ bytesT T z)
        rw [h0, catT_app, catT_one] at hcp
        have hW : catT T W = p := List.append_cancel_right hcp
        have h5 := encT_cut hT _ _ _ h0 (by rw [hW])
        have h6 : R.flatMap (encT T T.length) ++ encT T T.length p = Q ++ [y] := by rw [← h5.1]; exact h4.1
        obtain ⟨p', e5, h7, h8⟩ := lastY h6
        have hA : Aln T z := h5.2.symm
        have hnx : NoX T (mrgsT T).length p (bytesT T z) := by
          rw [encT_stgL] at h0
          exact stg_apart hT h0 (by rw [hW])
        refine ⟨h6, ?_, ?_⟩
        · unfold encP
          rw [e2]
          simpa using h5.2.symm
        · rw [e5] at hnx
          exact (nox_all hT hy hx h8 hA).1 ((nox_last hT huy h7).1 hnx)
    · rintro ⟨h1, h2, h3⟩
      have hU : U = [] := by
        unfold encP at h2
        rw [e2, List.flatMap_cons] at h2
        have hl := congrArg List.length h2
        rw [List.length_append] at hl
        have : 0 < (encT T T.length q).length := List.length_pos_iff.2 (encT_ne hT hq)
        simp only [List.length_cons, List.length_nil] at hl
        exact flat_nil hT hUp (List.eq_nil_of_length_eq_zero (by omega))
      subst hU
      have eq : q = bytesT T x := by simpa using hqU
      subst eq
      have hA : encT T T.length (bytesT T x) = [x] := by
        unfold encP at h2
        rw [e2] at h2
        simpa using h2
      obtain ⟨p', e5, h7, h8⟩ := lastY h1
      have h9 := (nox_all hT hy hx h8 hA).2 h3
      have h10 : NoX T (mrgsT T).length p (bytesT T x) := by rw [e5]; exact (nox_last hT huy h7).2 h9
      have h11 : encT T T.length (p ++ bytesT T x) = encT T T.length p ++ [x] := by
        rw [encT_stgL, stg_join _ h10, ← encT_stgL, ← encT_stgL, hA]
      rw [h11, List.flatMap_nil, List.append_nil, ← List.append_assoc, h1]
def itmV (T : List Ent) (xs : List (Int × List UInt8)) (id : Int) : List Int := match fndI xs id with | some k => [-1 - (k : Int)] | none => bysI (bytesT T id)
def itmsV (T : List Ent) (xs : List (Int × List UInt8)) (ids : List Int) : List Int := ids.flatMap (itmV T xs)
def encI (T : List Ent) (cut : Nat → Nat → Bool) (xs : List (Int × List UInt8)) : List Int → List UInt8 → List Int
  | [], run => encP T cut run
  | i :: is, run => if 0 ≤ i then encI T cut xs is (run ++ [UInt8.ofNat i.toNat]) else encP T cut run ++ (xs.getD (-1 - i).toNat (0, [])).1 :: encI T cut xs is []
def canV (T : List Ent) (cut : Nat → Nat → Bool) (xs : List (Int × List UInt8)) (ids : List Int) : Bool := decide (encI T cut xs (itmsV T xs ids) [] = ids)
theorem encI_bytes (T : List Ent) (cut : Nat → Nat → Bool) (xs : List (Int × List UInt8)) (is : List Int) : ∀ (s run : List UInt8), encI T cut xs (bysI s ++ is) run = encI T cut xs is (run ++ s)
  | [], run => by simp [bysI]
  | c :: s, run => by
    have e : bysI (c :: s) = (c.toNat : Int) :: bysI s := rfl
    rw [e, List.cons_append, encI, if_pos (by omega), encI_bytes T cut xs is s]
    congr 1
    simp
theorem encI_mark (T : List Ent) (cut : Nat → Nat → Bool) (xs : List (Int × List UInt8)) (is : List Int) {x : Int} (h : (fndI xs x).isSome = true) (run : List UInt8) : encI T cut xs (itmV T xs x ++ is) run = encP T cut run ++ x :: encI T cut xs is [] := by
  obtain ⟨k, hk⟩ := Option.isSome_iff_exists.1 h
  unfold itmV
  rw [hk]
  have h1 := hk
  unfold fndI at h1
  rw [List.findIdx?_eq_some_iff_getElem] at h1
  obtain ⟨hlt, h2, _⟩ := h1
  show encI T cut xs ((-1 - (k : Int)) :: is) run = _
  rw [encI, if_neg (by omega)]
  have e : (-1 - (-1 - (k : Int))).toNat = k := by omega
  rw [e, List.getD_eq_getElem?_getD, List.getElem?_eq_getElem hlt]
  simp at h2
  simp [h2]
theorem encI_ord (T : List Ent) (cut : Nat → Nat → Bool) (xs : List (Int × List UInt8)) (is : List Int) {x : Int} (h : (fndI xs x).isSome = false) (run : List UInt8) : encI T cut xs (itmV T xs x ++ is) run = encI T cut xs is (run ++ bytesT T x) := by
  have hk : fndI xs x = none := by simpa using h
  unfold itmV
  rw [hk]
  exact encI_bytes T cut xs is _ run
theorem encI_ords (T : List Ent) (cut : Nat → Nat → Bool) (xs : List (Int × List UInt8)) (is : List Int) : ∀ (Q : List Int) (run : List UInt8), (∀ x ∈ Q, (fndI xs x).isSome = false) → encI T cut xs (itmsV T xs Q ++ is) run = encI T cut xs is (run ++ catT T Q)
  | [], run, _ => by simp [itmsV, catT]
  | x :: Q, run, h => by
    have e : itmsV T xs (x :: Q) = itmV T xs x ++ itmsV T xs Q := by simp [itmsV]
    rw [e, List.append_assoc, encI_ord T cut xs _ (h x (by simp)), encI_ords T cut xs is Q _ (fun v hv => h v (by simp [hv]))]
    congr 1
    simp [catT]
theorem itmsV_app (T : List Ent) (xs : List (Int × List UInt8)) (a b : List Int) : itmsV T xs (a ++ b) = itmsV T xs a ++ itmsV T xs b := by simp [itmsV]
structure SC (T : List Ent) (cut : Nat → Nat → Bool) (xs : List (Int × List UInt8)) (P P' Q : List Int) : Prop where
  eq : P = P' ++ Q
  ord : ∀ x ∈ Q, (fndI xs x).isSome = false ∧ hasT T x = true
  fst : ∀ is, encI T cut xs (itmsV T xs P' ++ is) [] = P' ++ encI T cut xs is []
  lst : encP T cut (catT T Q) = Q
  emp : Q = [] → P' = [] ∨ ∃ R z, P' = R ++ [z] ∧ (fndI xs z).isSome = true
section
variable {T : List Ent} {C : Nat → Int} {J : Nat → Nat → Bool} {xs : List (Int × List UInt8)}
theorem sc_nil : SC T (cutB C J) xs [] [] [] := ⟨rfl, by simp, fun is => by simp [itmsV], rfl, fun _ => .inl rfl⟩
def okB (T : List Ent) (C : Nat → Int) (J : Nat → Nat → Bool) (xs : List (Int × List UInt8)) (z : Option Int) (x : Int) : Bool :=
  ((fndI xs x).isSome || (hasT T x && aloneB T C J x)) && (match z with | none => true | some y => (fndI xs y).isSome || (fndI xs x).isSome || (betB (cutB C J) (bytesT T y) (bytesT T x) || (hasT T y && hasT T x && (wlkT T y x 9223372036854775807).1)))
theorem sc_mark {P P' Q : List Int} (h : SC T (cutB C J) xs P P' Q) {x : Int} (hx : (fndI xs x).isSome = true) : SC T (cutB C J) xs (P ++ [x]) (P ++ [x]) [] ∧ canV T (cutB C J) xs (P ++ [x]) = true := by
  have key : ∀ is, encI T (cutB C J) xs (itmsV T xs (P ++ [x]) ++ is) [] = (P ++ [x]) ++ encI T (cutB C J) xs is [] := by
    intro is
    have e1 : itmsV T xs [x] = itmV T xs x := by simp [itmsV]
    rw [h.eq, itmsV_app, itmsV_app, List.append_assoc, List.append_assoc, h.fst, encI_ords T _ xs _ Q [] (fun v hv => (h.ord v hv).1), e1, encI_mark T _ xs is hx, List.nil_append, h.lst]
    simp
  refine ⟨⟨by simp, by simp, key, rfl, fun _ => .inr ⟨P, x, rfl, hx⟩⟩, ?_⟩
  unfold canV
  have := key []
  rw [List.append_nil] at this
  rw [this, decide_eq_true_eq]
  show (P ++ [x]) ++ encP T (cutB C J) [] = P ++ [x]
  rw [encP_nil, List.append_nil]
theorem sc_can {P P' Q : List Int} (h : SC T (cutB C J) xs P P' Q) {x : Int} (hx : (fndI xs x).isSome = false) : canV T (cutB C J) xs (P ++ [x]) = true ↔ encP T (cutB C J) (catT T Q ++ bytesT T x) = Q ++ [x] := by
  unfold canV
  have e1 : itmsV T xs [x] = itmV T xs x ++ [] := by simp [itmsV]
  rw [decide_eq_true_eq, h.eq, itmsV_app, itmsV_app, List.append_assoc, h.fst, encI_ords T _ xs _ Q [] (fun v hv => (h.ord v hv).1), e1, encI_ord T _ xs [] hx, List.nil_append]
  show P' ++ encP T (cutB C J) (catT T Q ++ bytesT T x) = _ ↔ _
  rw [List.append_assoc, List.append_right_inj]
theorem sc_step (hT : OkT T) {P P' Q : List Int} (h : SC T (cutB C J) xs P P' Q) (x : Int) :
    (((fndI xs x).isSome || hasT T x) && canV T (cutB C J) xs (P ++ [x])) = okB T C J xs P.getLast? x ∧ (okB T C J xs P.getLast? x = true → ∃ P2 Q2, SC T (cutB C J) xs (P ++ [x]) P2 Q2) := by
  cases hx : (fndI xs x).isSome with
  | true =>
    obtain ⟨h1, h2⟩ := sc_mark h hx
    rw [h2]
    refine ⟨?_, fun _ => ⟨_, _, h1⟩⟩
    unfold okB
    rw [hx]
    cases P.getLast? <;> simp
  | false =>
    rw [Bool.false_or]
    cases hh : hasT T x with
    | false =>
      have : okB T C J xs P.getLast? x = false := by unfold okB; rw [hx, hh]; rfl
      rw [this]
      exact ⟨rfl, fun h => by cases h⟩
    | true =>
      rw [Bool.true_and]
      have key : canV T (cutB C J) xs (P ++ [x]) = true ↔ okB T C J xs P.getLast? x = true := by
        rw [sc_can h hx]
        rcases List.eq_nil_or_concat Q with h0 | ⟨Q1, y, h0⟩
        · subst h0
          have e : catT T [] = [] := rfl
          rw [e, List.nil_append, List.nil_append, encP_alone hT C J hh]
          unfold okB
          rw [hx, hh, h.eq, List.append_nil]
          rcases h.emp rfl with h1 | ⟨R, z, h1, h2⟩
          · subst h1; simp
          · subst h1; simp [h2]
        · rw [List.concat_eq_append] at h0
          subst h0
          obtain ⟨hy1, hy2⟩ := h.ord y (by simp)
          rw [encP_more hT C J Q1 hh hy2]
          have e : P.getLast? = some y := by rw [h.eq, ← List.append_assoc]; simp
          unfold okB
          rw [hx, hh, e]
          simp only [hy1, hy2, Bool.false_or, Bool.true_and]
          rw [Bool.and_eq_true]
          constructor
          · rintro ⟨_, h2, h3⟩; exact ⟨h2, h3⟩
          · rintro ⟨h2, h3⟩; exact ⟨h.lst, h2, h3⟩
      refine ⟨Bool.eq_iff_iff.2 key, fun ho => ?_⟩
      have hc := (sc_can h hx).1 (key.2 ho)
      refine ⟨P', Q ++ [x], ⟨by rw [h.eq, List.append_assoc], ?_, h.fst, ?_, fun e => by simp at e⟩⟩
      · intro v hv
        rcases List.mem_append.1 hv with hv | hv
        · exact h.ord v hv
        · simp at hv; subst hv; exact ⟨hx, hh⟩
      · rw [catT_app, catT_one]; exact hc
def badV (T : List Ent) (cut : Nat → Nat → Bool) (xs : List (Int × List UInt8)) (ids : List Int) (i : Nat) : Bool := !((fndI xs (ids.getD i 0)).isSome || hasT T (ids.getD i 0)) || !canV T cut xs (ids.take (i + 1))
theorem take_last (ids : List Int) (i : Nat) (hi : i < ids.length) : (ids.take i).getLast? = if i = 0 then none else some (ids.getD (i - 1) 0) := by
  cases i with
  | zero => simp
  | succ i =>
    rw [take_snoc (show i < ids.length by omega), List.getLast?_append, if_neg (by omega)]
    simp [List.getD_eq_getElem?_getD, List.getElem?_eq_getElem (show i < ids.length by omega)]
theorem sc_all (hT : OkT T) (ids : List Int) : ∀ (i : Nat), i < ids.length → (∀ j, j < i → okB T C J xs (ids.take j).getLast? (ids.getD j 0) = true) → (∃ P' Q, SC T (cutB C J) xs (ids.take i) P' Q) ∧ badV T (cutB C J) xs ids i = !okB T C J xs (ids.take i).getLast? (ids.getD i 0) := by
  have step : ∀ (i : Nat), i < ids.length → (∃ P' Q, SC T (cutB C J) xs (ids.take i) P' Q) → badV T (cutB C J) xs ids i = !okB T C J xs (ids.take i).getLast? (ids.getD i 0) ∧ (okB T C J xs (ids.take i).getLast? (ids.getD i 0) = true → ∃ P' Q, SC T (cutB C J) xs (ids.take (i + 1)) P' Q) := by
    rintro i hi ⟨P', Q, h⟩
    have e : ids.take (i + 1) = ids.take i ++ [ids.getD i 0] := by
      rw [List.take_add_one, List.getElem?_eq_getElem hi, List.getD_eq_getElem?_getD, List.getElem?_eq_getElem hi]
      rfl
    obtain ⟨h1, h2⟩ := sc_step hT h (ids.getD i 0)
    rw [← e] at h1 h2
    refine ⟨?_, h2⟩
    unfold badV
    rw [← h1]
    cases ((fndI xs (ids.getD i 0)).isSome || hasT T (ids.getD i 0)) <;> simp
  intro i
  induction i with
  | zero => intro hi _; exact ⟨⟨[], [], by simpa using sc_nil⟩, (step 0 hi ⟨[], [], by simpa using sc_nil⟩).1⟩
  | succ i ih =>
    intro hi hok
    obtain ⟨h1, h2⟩ := ih (by omega) (fun j hj => hok j (by omega))
    have h3 := (step i (by omega) h1).2 (hok i (by omega))
    exact ⟨h3, (step (i + 1) hi h3).1⟩
end
open Go.RowKit Go.Maps Go.WideMaps
def markI (xs : List (Int × List UInt8)) (id : Int) : Int := match fndI xs id with | some k => -1 - (k : Int) | none => 0
theorem fndI_at {xs : List (Int × List UInt8)} {id : Int} {k : Nat} (hk : k < xs.length) (h : ∀ j (hj : j < xs.length), j < k → xs[j].1 ≠ id) (he : xs[k].1 = id) : fndI xs id = some k := by
  unfold fndI
  rw [List.findIdx?_eq_some_iff_getElem]
  exact ⟨hk, by simp [he], fun j hj => by simp [h j (by omega) hj]⟩
theorem fndI_no {xs : List (Int × List UInt8)} {id : Int} (h : ∀ j (hj : j < xs.length), xs[j].1 ≠ id) : fndI xs id = none := by
  unfold fndI
  rw [List.findIdx?_eq_none_iff]
  intro x hx
  obtain ⟨j, hj, rfl⟩ := List.getElem_of_mem hx
  simp [h j hj]
def CaseP.X (c : CaseP) : List Spl := someX c.xs (min c.xs.length 6)
theorem CaseP.X_len (c : CaseP) : c.X.length ≤ 6 := by have := someX_len c.xs (min c.xs.length 6); unfold CaseP.X; omega
structure RBox (w W : World) (base : Nat) (c : CaseP) (r : RVoc) (b : Nat) : Prop where
  box : W.heap[b]? = some (.cells #[.slice r.A1 c.T.length r.c1, .slice r.A2 (mrgsT c.T).length r.c2, .slice r.A3 (someC c.cs).length r.c3, .slice r.A4 (someJ c.js).length r.c4, .slice r.A5 c.X.length r.c5] 38)
  voc : RVocIs W base c r
  blw : Below w.heap.size w W
section
variable {w W W' : World} {base b : Nat} {c : CaseP} {r : RVoc}
theorem RBox.below (h : RBox w W base c r b) (hb : Below W.heap.size W W') : RBox w W' base c r b := ⟨blk_below hb (blk_lt h.box) h.box, h.voc.below hb (Nat.le_refl _), h.blw.trans (hb.mono h.blw.size)⟩
theorem RBox.drewN (h : RBox w W base c r b) (m : Nat) : RBox w (W.drewN m) base c r b := h.below (below_drewN (Below.refl _ _) m)
theorem RBox.drew (h : RBox w W base c r b) : RBox w W.drew base c r b := h.below ⟨rfl, rfl, rfl, Nat.le_refl _, fun _ _ => rfl⟩
theorem RBox.new (h : RVocIs w base c r) : RBox w (w.alloc (.cells #[.slice r.A1 c.T.length r.c1, .slice r.A2 (mrgsT c.T).length r.c2, .slice r.A3 (someC c.cs).length r.c3, .slice r.A4 (someJ c.js).length r.c4, .slice r.A5 c.X.length r.c5] 38)) base c r w.heap.size := by
  have hb0 := (Below.refl w.heap.size w).alloc (Nat.le_refl _) (.cells #[.slice r.A1 c.T.length r.c1, .slice r.A2 (mrgsT c.T).length r.c2, .slice r.A3 (someC c.cs).length r.c3, .slice r.A4 (someJ c.js).length r.c4, .slice r.A5 c.X.length r.c5] 38)
  exact ⟨blk_new _ _, h.below hb0 (Nat.le_refl _), hb0⟩
theorem RBox.n0 (h : RBox w W base c r b) : W.cell? ⟨b, 0, none⟩ = some (.slice r.A1 c.T.length r.c1) := by have := blk_cell h.box 0; simpa using this
theorem RBox.n1 (h : RBox w W base c r b) : W.cell? ⟨b, 1, none⟩ = some (.slice r.A2 (mrgsT c.T).length r.c2) := by have := blk_cell h.box 1; simpa using this
theorem RBox.n2 (h : RBox w W base c r b) : W.cell? ⟨b, 2, none⟩ = some (.slice r.A3 (someC c.cs).length r.c3) := by have := blk_cell h.box 2; simpa using this
theorem RBox.n3 (h : RBox w W base c r b) : W.cell? ⟨b, 3, none⟩ = some (.slice r.A4 (someJ c.js).length r.c4) := by have := blk_cell h.box 3; simpa using this
theorem RBox.n4 (h : RBox w W base c r b) : W.cell? ⟨b, 4, none⟩ = some (.slice r.A5 c.X.length r.c5) := by have := blk_cell h.box 4; simpa using this
def RVoc.val' (r : RVoc) (c : CaseP) : Value := .agg #[.slice r.A1 c.T.length r.c1, .slice r.A2 (mrgsT c.T).length r.c2, .slice r.A3 (someC c.cs).length r.c3, .slice r.A4 (someJ c.js).length r.c4, .slice r.A5 c.X.length r.c5]
theorem rmark10_any (h : RVocIs w base c r) (id : Int) :
    Calls Tryz.prog 49 #[r.val' c, .int .i64 id] w fun e w' => e = .returned (.int .i64 (markI c.X id)) ∧ Below w.heap.size w w' := by
  have HB := Lib.hid (RBox.new h)
  have HXL := Lib.hid c.X_len
  clear h
  unfold RVoc.val'
  go_enter Tryz.func49, Tryz.ntmps49
  go_wp2_with fail
  obtain ⟨bx, hbx⟩ : ∃ b, w.heap.size = b := ⟨_, rfl⟩
  rw [hbx] at HB ⊢
  have HBX := Lib.hid hbx
  clear hbx
  generalize w.alloc (.cells #[.slice r.A1 c.T.length r.c1, .slice r.A2 (mrgsT c.T).length r.c2, .slice r.A3 (someC c.cs).length r.c3, .slice r.A4 (someJ c.js).length r.c4, .slice r.A5 c.X.length r.c5] 38) = w1 at *
  obtain ⟨N, hN⟩ : ∃ N, c.X.length = N := ⟨_, rfl⟩
  have HN := Lib.hid hN
  clear hN
  go_loopg [5] N (fun n i W => ∃ k : Nat, k + n = N ∧ i = .int .i64 (k : Int) ∧ (∀ j (hj : j < c.X.length), j < k → c.X[j].1 ≠ id) ∧ W = w1)
  case atStart => exact ⟨0, by omega, rfl, fun j hj h => by omega, rfl⟩
  case round =>
    obtain ⟨k, hk, rfl, hno, hW⟩ := hrel
    subst hW
    rename World => w1
    have HNO := Lib.hid hno
    clear hno
    have s4 := HB.out.n4
    rw [HN.out] at s4
    by_cases hlt : k < N
    · have hlt' : (k : Int) < (N : Int) := by omega
      have q0 : (0 : Int) ≤ (k : Int) := by omega
      have ws : IntKind.i64.wrap ((k : Int) + 1) = (k : Int) + 1 := IntWalk.i64_in _ (by have := HXL.out; have := HN.out; omega)
      have ws2 : IntKind.i64.wrap (-1 - (k : Int)) = -1 - (k : Int) := IntWalk.i64_in _ (by have := HXL.out; have := HN.out; omega)
      have hk3 : k < c.X.length := by rw [HN.out]; exact hlt
      obtain ⟨bb, o, hA, hc⟩ := HB.out.voc.xs.at k hk3
      obtain ⟨x, hx⟩ : ∃ x, c.X[k] = x := ⟨_, rfl⟩
      have HX := Lib.hid hx
      have e0 : w1.cell? ⟨bb, o + k * 2, none⟩ = some (.int .i64 x.1) := by rw [← hx]; exact hc 0 _ rfl
      rw [hA] at s4
      clear hc hx hA
      by_cases he : x.1 = id
      · have HE := Lib.hid he
        rw [he] at e0
        clear he
        go_wp2_with fail
        go_ret
        refine ⟨?_, HB.out.blw⟩
        unfold markI
        rw [fndI_at (k := k) (by rw [HN.out]; exact hlt) HNO.out (by rw [HX.out]; exact HE.out)]
        rfl
      · go_wp2_with fail
        go_roundg (gk - 1)
        case measure => omega
        case rel => exact ⟨k + 1, by omega, by simp, fun j hj hjk => by
          by_cases e : j = k
          · subst e; rw [HX.out]; exact he
          · exact HNO.out j hj (by omega), rfl⟩
    · have hke : k = N := by omega
      have hlt' : ¬ ((k : Nat) : Int) < (N : Int) := by omega
      have HKE := Lib.hid hke
      clear hke
      go_wp2_with fail
      go_ret
      refine ⟨?_, HB.out.blw⟩
      unfold markI
      rw [fndI_no (fun j hj => HNO.out j hj (by rw [HKE.out, ← HN.out]; exact hj))]
      rfl
theorem markI_neg (xs : List (Int × List UInt8)) (id : Int) : decide (markI xs id < 0) = (fndI xs id).isSome := by
  unfold markI
  cases fndI xs id with
  | none => rfl
  | some k => simp; omega
theorem rhas10_any (h : RVocIs w base c r) (id : Int) :
    Calls Tryz.prog 17 #[r.val' c, .int .i64 id] w fun e w' => e = .returned (.bool ((fndI c.X id).isSome || hasT c.T id)) ∧ Below w.heap.size w w' := by
  have HB := Lib.hid (RBox.new h)
  clear h
  have HMK : Hid (∀ V, RVocIs V base c r → Calls Tryz.prog 49 #[r.val' c, .int .i64 id] V fun e w' => e = .returned (.int .i64 (markI c.X id)) ∧ Below V.heap.size V w') := Lib.hid (fun V hV => rmark10_any hV id)
  have HNG := Lib.hid (markI_neg c.X id)
  unfold RVoc.val' at HMK ⊢
  obtain ⟨q1, h1⟩ : ∃ q, hasT c.T id = q := ⟨_, rfl⟩
  have HH : Hid (∀ V, RVocIs V base c r → Calls Tryz.prog 35 #[.agg #[.slice r.A1 c.T.length r.c1, .slice r.A2 (mrgsT c.T).length r.c2], .int .i64 id] V fun e w' => e = .returned (.bool q1) ∧ Below V.heap.size V w') := Lib.hid (fun V hV => by have := rhas_any id hV.ref; rw [h1] at this; exact this)
  rw [h1]
  clear h1
  generalize (fndI c.X id).isSome = q2 at *
  generalize markI c.X id = m at *
  go_enter Tryz.func17, Tryz.ntmps17
  go_upto_region 1 with fail
  obtain ⟨bx, hbx⟩ : ∃ b, w.heap.size = b := ⟨_, rfl⟩
  rw [hbx] at HB ⊢
  have HBX := Lib.hid hbx
  clear hbx
  generalize w.alloc (.cells #[.slice r.A1 c.T.length r.c1, .slice r.A2 (mrgsT c.T).length r.c2, .slice r.A3 (someC c.cs).length r.c3, .slice r.A4 (someJ c.js).length r.c4, .slice r.A5 c.X.length r.c5] 38) = w1 at *
  have s0 := HB.out.n0
  have s1 := HB.out.n1
  cases q1 with
  | true =>
    go_wp2_with (go_at_call 35; refine (HH.out _ HB.out.voc).mono ?_; rintro e W1 ⟨rfl, hb⟩; (have HB1 := Lib.hid (HB.out.below hb)); clear hb)
    go_ret
    exact ⟨by simp, HB1.out.blw⟩
  | false =>
    have HQ : Hid (decide (m < 0) = q2) := HNG
    by_cases hm : m < 0
    · have e : q2 = true := by rw [← HQ.out]; simpa using hm
      subst e
      clear HNG HQ
      go_wp2_with (first | (go_at_call 35; refine (HH.out _ HB.out.voc).mono ?_; rintro e W1 ⟨rfl, hb⟩; (have HB1 := Lib.hid (HB.out.below hb)); (have s0 := HB1.out.n0); (have s1 := HB1.out.n1); (have s2 := HB1.out.n2); (have s3 := HB1.out.n3); (have s4 := HB1.out.n4); clear hb) | (go_at_call 49; refine (HMK.out _ HB1.out.voc).mono ?_; rintro e W2 ⟨rfl, hb⟩; (have HB2 := Lib.hid (HB1.out.below hb)); clear hb))
      go_ret
      exact ⟨by simp, HB2.out.blw⟩
    · have e : q2 = false := by rw [← HQ.out]; simpa using hm
      subst e
      clear HNG HQ
      go_wp2_with (first | (go_at_call 35; refine (HH.out _ HB.out.voc).mono ?_; rintro e W1 ⟨rfl, hb⟩; (have HB1 := Lib.hid (HB.out.below hb)); (have s0 := HB1.out.n0); (have s1 := HB1.out.n1); (have s2 := HB1.out.n2); (have s3 := HB1.out.n3); (have s4 := HB1.out.n4); clear hb) | (go_at_call 49; refine (HMK.out _ HB1.out.voc).mono ?_; rintro e W2 ⟨rfl, hb⟩; (have HB2 := Lib.hid (HB1.out.below hb)); clear hb))
      go_ret
      exact ⟨by simp; omega, HB2.out.blw⟩
end
theorem itmV_mark {T : List Ent} {xs : List (Int × List UInt8)} {x : Int} (h : (fndI xs x).isSome = true) : itmV T xs x = [markI xs x] ∧ markI xs x < 0 := by
  unfold itmV markI
  obtain ⟨k, hk⟩ := Option.isSome_iff_exists.1 h
  rw [hk]
  exact ⟨rfl, by simp only; omega⟩
theorem itmV_ord {T : List Ent} {xs : List (Int × List UInt8)} {x : Int} (h : (fndI xs x).isSome = false) : itmV T xs x = bysI (bytesT T x) ∧ markI xs x = 0 := by
  unfold itmV markI
  have : fndI xs x = none := by simpa using h
  rw [this]
  exact ⟨rfl, rfl⟩
theorem itmsV_succ (T : List Ent) (xs : List (Int × List UInt8)) (ids : List Int) (k : Nat) (h : k < ids.length) : itmsV T xs (ids.take (k + 1)) = itmsV T xs (ids.take k) ++ itmV T xs ids[k] := by
  rw [take_snoc h, itmsV_app]
  simp [itmsV]
theorem itmV_len {T : List Ent} (hT : OkT T) (xs : List (Int × List UInt8)) (x : Int) : (itmV T xs x).length ≤ 64 := by
  unfold itmV
  split
  · simp
  · rw [bysI_len]; exact bytesT_le hT x
theorem itmsV_len {T : List Ent} (hT : OkT T) (xs : List (Int × List UInt8)) (ids : List Int) : (itmsV T xs ids).length ≤ 64 * ids.length := by
  induction ids with
  | nil => simp [itmsV]
  | cons x l ih =>
    have e : itmsV T xs (x :: l) = itmV T xs x ++ itmsV T xs l := by simp [itmsV]
    have := itmV_len hT xs x
    rw [e, List.length_append, List.length_cons]
    omega
structure OutIs (w1 W : World) (L : List Int) (v : Value) : Prop where
  row : W.ownsRow w1.heap.size 3 1 v L.length (L.map (Value.int .i64))
  blw : Below w1.heap.size w1 W
theorem OutIs.below {w1 W W' : World} {L : List Int} {v : Value} (h : OutIs w1 W L v) (hb : Below W.heap.size W W') : OutIs w1 W' L v := ⟨own_below h.row hb (Nat.le_refl _), h.blw.trans (hb.mono h.blw.size)⟩
theorem OutIs.grown {w1 W W' : World} {L L' : List Int} {v v' : Value} (h : OutIs w1 W L v) (hown : W'.ownsRow w1.heap.size 3 1 v' (L.length + L'.length) (L.map (Value.int .i64) ++ L'.map (Value.int .i64))) (hg : W.grownBy W' v.ownBlock) : OutIs w1 W' (L ++ L') v' :=
  ⟨by rw [List.length_append, List.map_append]; exact hown, h.blw.trans (Keep.below (Keep.of_grown (F := fun g => v.ownBlock = some g) hg (fun g hg => hg)) h.blw.size (fun x hx => own_base h.row x hx))⟩
section
variable {w W W' : World} {base b : Nat} {c : CaseP} {r : RVoc}
set_option maxHeartbeats 4000000 in
theorem ritems_any (h : RVocIs w base c r) (ids : List Int) (A : Option Addr) (d : Nat) (hA : Sl1 w A (Value.int .i64) ids) (hlen : ids.length ≤ 1000000) (hall : ∀ x ∈ ids, ((fndI c.X x).isSome || hasT c.T x) = true) :
    Calls Tryz.prog 50 #[r.val' c, .slice A ids.length d] w fun e w' => (∃ v, e = .returned v ∧ IntsIs w' w.heap.size v (itmsV c.T c.X ids)) ∧ Below w.heap.size w w' := by
  have HB := Lib.hid (RBox.new h)
  have HALL := Lib.hid hall
  have HLEN := Lib.hid hlen
  have HT := Lib.hid c.ok
  have HIL : Hid (∀ k, (itmsV c.T c.X (ids.take k)).length ≤ 64000000) := Lib.hid (fun k => by
    have h1 := itmsV_len c.ok c.X (ids.take k)
    have h2 : (ids.take k).length ≤ ids.length := by rw [List.length_take]; omega
    omega)
  have HMK : Hid (∀ V x, RVocIs V base c r → Calls Tryz.prog 49 #[r.val' c, .int .i64 x] V fun e w' => e = .returned (.int .i64 (markI c.X x)) ∧ Below V.heap.size V w') := Lib.hid (fun V x hV => rmark10_any hV x)
  have HSL : Hid (∀ V, Below w.heap.size w V → Sl1 V A (Value.int .i64) ids) := Lib.hid (fun V hV => hA.below hV (Nat.le_refl _))
  clear h hall hlen hA
  unfold RVoc.val' at HMK ⊢
  go_enter Tryz.func50, Tryz.ntmps50
  go_wp2_with fail
  obtain ⟨bx, hbx⟩ : ∃ b, w.heap.size = b := ⟨_, rfl⟩
  have HBX : Hid (w.heap.size = bx) := Lib.hid hbx
  rw [hbx] at HB ⊢
  clear hbx
  generalize w.alloc (.cells #[.slice r.A1 c.T.length r.c1, .slice r.A2 (mrgsT c.T).length r.c2, .slice r.A3 (someC c.cs).length r.c3, .slice r.A4 (someJ c.js).length r.c4, .slice r.A5 c.X.length r.c5] 38) = w1 at *
  obtain ⟨N, hN⟩ : ∃ N, ids.length = N := ⟨_, rfl⟩
  have HN := Lib.hid hN
  rw [hN] at HLEN ⊢
  clear hN
  have HIN : Hid (∀ W, Below w1.heap.size w1 W → RBox w W base c r bx) := Lib.hid (fun W hW => HB.out.below hW)
  go_loopg [5, 6] N (fun n u i W => ∃ (k : Nat), k + n = N ∧ i = .int .i64 (k : Int) ∧ OutIs w1 W (itmsV c.T c.X (ids.take k)) u)
  case atStart => exact ⟨0, by omega, rfl, own_nil _ _ _ _, Below.refl _ _⟩
  case round =>
    obtain ⟨k, hk, rfl, hout⟩ := hrel
    obtain ⟨G0, hG0⟩ : ∃ G, G = gk := ⟨_, rfl⟩
    subst hG0
    rename World => W
    rename Value => v
    obtain ⟨A3, c3, rfl⟩ := own_slice hout.row
    have HK := Lib.hid hk
    have HO := Lib.hid hout
    clear hk hout
    by_cases hlt : k < N
    · have p0 : (0 : Int) ≤ (k : Int) := by omega
      have p1 : (k : Int) < (N : Int) := by omega
      have w2 : IntKind.i64.wrap ((k : Int) + 1) = (k : Int) + 1 := IntWalk.i64_in _ (by have := HLEN.out; omega)
      have hlt2 : k < ids.length := by rw [HN.out]; exact hlt
      obtain ⟨b1, o1, hA, e0⟩ := (HSL.out W (HIN.out _ HO.out.blw).blw).at k hlt2
      have HTK := Lib.hid (itmsV_succ c.T c.X ids k hlt2)
      have HLL := Lib.hid (HIL.out k)
      have HX := Lib.hid (HALL.out ids[k] (List.getElem_mem hlt2))
      generalize ids[k] = x at *
      obtain ⟨L1, hL1⟩ : ∃ L1, itmsV c.T c.X (ids.take (k + 1)) = L1 := ⟨_, rfl⟩
      have HL1 := Lib.hid hL1
      rw [hL1] at HTK
      clear hL1
      generalize itmsV c.T c.X (ids.take k) = L at *
      have HSC : Hid (∀ V, Below w1.heap.size w1 V → Below W.heap.size W V → V.cell? ⟨bx, 0, none⟩ = some (.slice r.A1 c.T.length r.c1) ∧ V.cell? ⟨bx, 1, none⟩ = some (.slice r.A2 (mrgsT c.T).length r.c2) ∧ V.cell? ⟨bx, 2, none⟩ = some (.slice r.A3 (someC c.cs).length r.c3) ∧ V.cell? ⟨bx, 3, none⟩ = some (.slice r.A4 (someJ c.js).length r.c4) ∧ V.cell? ⟨bx, 4, none⟩ = some (.slice r.A5 c.X.length r.c5) ∧ V.cell? ⟨b1, o1 + k, none⟩ = some (.int .i64 x)) := Lib.hid (fun V hV hV2 => ⟨(HIN.out V hV).n0, (HIN.out V hV).n1, (HIN.out V hV).n2, (HIN.out V hV).n3, (HIN.out V hV).n4, below_cell hV2 (Nat.le_refl _) e0⟩)
      subst hA
      have HBB : Hid (Below W.heap.size W W) := Lib.hid (Below.refl _ _)
      clear e0 hlt2
      obtain ⟨m, hm⟩ : ∃ m, markI c.X x = m := ⟨_, rfl⟩
      have HM := Lib.hid hm
      have HMX : Hid (∀ V, RVocIs V base c r → Calls Tryz.prog 49 #[.agg #[.slice r.A1 c.T.length r.c1, .slice r.A2 (mrgsT c.T).length r.c2, .slice r.A3 (someC c.cs).length r.c3, .slice r.A4 (someJ c.js).length r.c4, .slice r.A5 c.X.length r.c5], .int .i64 x] V fun e w' => e = .returned (.int .i64 m) ∧ Below V.heap.size V w') := Lib.hid (fun V hV => by have := HMK.out V x hV; rw [hm] at this; exact this)
      clear hm
      go_upto_region 5 with fail
      refine wp_region_D (Ds := []) (S := fun V => V.cell? ⟨bx, 0, none⟩ = some (.slice r.A1 c.T.length r.c1) ∧ V.cell? ⟨bx, 1, none⟩ = some (.slice r.A2 (mrgsT c.T).length r.c2) ∧ V.cell? ⟨bx, 2, none⟩ = some (.slice r.A3 (someC c.cs).length r.c3) ∧ V.cell? ⟨bx, 3, none⟩ = some (.slice r.A4 (someJ c.js).length r.c4) ∧ V.cell? ⟨bx, 4, none⟩ = some (.slice r.A5 c.X.length r.c5) ∧ V.cell? ⟨b1, o1 + k, none⟩ = some (.int .i64 x)) (by kernel_rfl) (by exact HSC.out _ HO.out.blw.drew HBB.out.drew) (fun hHeld => ?_)
      (replace HO := Lib.hid (HO.out.below (Below.refl _ _).drew)); (replace HBB := Lib.hid HBB.out.drew); generalize W.drew = W5 at *
      refine tkP 1 17 ?_ rfl (.inl ⟨by rfl, ?_⟩) ?_; rotate_left; focus (intro w' _; go_simp; (try with_reducible rfl))
      try simp only [sIB, sC0, sCS]
      refine tkP 2 18 ?_ rfl (.inl ⟨by rfl, ?_⟩) ?_; rotate_left; focus (intro w' _; go_simp; (try with_reducible rfl))
      try simp only [sIB, sC0, sCS]
      refine tkP 3 19 ?_ rfl (.inl ⟨by rfl, ?_⟩) ?_; rotate_left; focus (intro w' _; go_simp; (try with_reducible rfl))
      try simp only [sIB, sC0, sCS]
      refine tkD 0 16 ?_ rfl hHeld (.inl ⟨by rfl, ?_⟩) ?_; rotate_left; focus (intro w' hSw; (try dsimp only at hSw); go_simp; (try with_reducible rfl))
      try simp only [sIB, sC0, sCS]
      refine tkD 4 20 ?_ rfl hHeld (.inl ⟨by rfl, ?_⟩) ?_; rotate_left; focus (intro w' hSw; (try dsimp only at hSw); go_simp; (try with_reducible rfl))
      try simp only [sIB, sC0, sCS]
      refine wpAnyD_one (i := 5) (by kernel_rfl) rfl (by rfl) (fun K hK => ?_)
      go_simp; refine (HMX.out _ (HIN.out _ HO.out.blw).voc).mono ?_; rintro e W6 ⟨rfl, hb'⟩; (replace HBB := Lib.hid (HBB.out.trans (hb'.mono HBB.out.size))); (replace HO := Lib.hid (HO.out.below hb')); have h := HSC.out _ HO.out.blw HBB.out; clear hb'; go_simp
      refine hK.out _ _ h (fun hHeld => ?_)
      clear hK K
      try simp only [Act.put, sIB, sC0, sCS]
      refine tkP 6 7 ?_ rfl (.inl ⟨by rfl, ?_⟩) ?_; rotate_left; focus (intro w' _; go_simp; (try with_reducible rfl))
      try simp only [sIB, sC0, sCS]
      refine wpAnyD_done (by kernel_rfl) ?_ _
      clear hHeld h HMX
      cases hsp : (fndI c.X x).isSome with
      | true =>
        obtain ⟨hi1, hi2⟩ := itmV_mark (T := c.T) hsp
        rw [HM.out] at hi1 hi2
        have HI := Lib.hid hi1
        clear hi1 hsp
        have hsz : L.length ≤ 64000000 := HLL.out
        go_upto_region 7 with fail
        go_wp2_with (at_builtin; refine app_new w1.heap.size 57 3 (.int .i64 0) 1 8 [_] 1 _ _ rfl rfl Tryz.underlying57 info_int5 rfl (by decide) _ _ _ rfl rfl rfl (by intro u hu; simp at hu; subst hu; rfl) HO.out.row (by omega) (by omega) HO.out.blw.size ?_)
        intro v' w6 hown hg6 hnew
        have HR6 : Hid (OutIs w1 w6 L1 v') := Lib.hid (by rw [HTK.out, HI.out]; exact HO.out.grown (L' := [m]) hown hg6)
        obtain ⟨A4, c4, rfl⟩ := own_slice hown
        clear hown hg6 hnew hsz
        go_wp2_with fail
        go_roundg (G0 - 1)
        case measure => have := HK.out; omega
        case rel => exact ⟨k + 1, by have := HK.out; omega, by simp, by rw [HL1.out]; exact HR6.out⟩
      | false =>
        obtain ⟨hi1, hi2⟩ := itmV_ord (T := c.T) hsp
        rw [HM.out] at hi2
        subst hi2
        have HI := Lib.hid hi1
        have hx : hasT c.T x = true := by have := HX.out; rw [hsp] at this; simpa using this
        obtain ⟨j, hj, hjl, hje⟩ := hasT_at hx
        have HXX := Lib.hid hx
        clear hi1 hsp hx
        subst hj
        have q2 : (0 : Int) ≤ (j : Int) := by omega
        have q3 : (j : Int) < (c.T.length : Int) := by omega
        have hj2 : j < (bytsT c.T).length := by unfold bytsT; rw [List.length_map]; exact hjl
        obtain ⟨bb, ob, hAA, cb⟩ := (own_sl1 (enc := strV) (by simpa [bytsT] using (HIN.out _ HO.out.blw).voc.ref.row)).at j hj2
        have HBY : Hid ((bytsT c.T)[j] = bytesT c.T (j : Int)) := Lib.hid (by unfold bytesT; rw [if_pos HXX.out, hje]; simp [bytsT])
        rw [HBY.out] at cb
        unfold strV at cb
        have HBZ : Hid ((bysI (bytesT c.T (j : Int))).length ≤ 64) := Lib.hid (by rw [bysI_len]; exact bytesT_le HT.out _)
        have HDL : Hid ((bs (bytesT c.T (j : Int))).data.toList = bytesT c.T (j : Int)) := Lib.hid rfl
        obtain ⟨Z, hZ⟩ : ∃ Z, bs (bytesT c.T (j : Int)) = Z := ⟨_, rfl⟩
        rw [hZ] at cb HDL
        clear hje hj2 HBY hZ
        obtain ⟨e0, _, _, _, _, e5⟩ := HSC.out _ HO.out.blw HBB.out
        rw [hAA] at e0
        clear hAA
        go_upto_region 8 with fail
        refine wp_region_D (Ds := []) (S := fun V => V.cell? ⟨bx, 0, none⟩ = some (.slice (some ⟨bb, ob, none⟩) c.T.length r.c1) ∧ V.cell? ⟨b1, o1 + k, none⟩ = some (.int .i64 (j : Int)) ∧ V.cell? ⟨bb, ob + j, none⟩ = some (.string Z)) (by kernel_rfl) (by exact ⟨e0, e5, cb⟩) (fun hHeld => ?_)
        (replace HO := Lib.hid (HO.out.below (Below.refl _ _).drew)); clear e0 e5 cb; generalize W6.drew = W7 at *
        refine tkP 0 28 ?_ rfl (.inl ⟨by rfl, ?_⟩) ?_; rotate_left; focus (intro w' _; go_simp; (try with_reducible rfl))
        try simp only [sIB, sC0, sCS]
        refine tkP 1 29 ?_ rfl (.inl ⟨by rfl, ?_⟩) ?_; rotate_left; focus (intro w' _; go_simp; (try with_reducible rfl))
        try simp only [sIB, sC0, sCS]
        refine tkP 3 31 ?_ rfl (.inl ⟨by rfl, ?_⟩) ?_; rotate_left; focus (intro w' _; go_simp; (try with_reducible rfl))
        try simp only [sIB, sC0, sCS]
        refine tkP 4 32 ?_ rfl (.inl ⟨by rfl, ?_⟩) ?_; rotate_left; focus (intro w' _; go_simp; (try with_reducible rfl))
        try simp only [sIB, sC0, sCS]
        refine tkP 5 33 ?_ rfl (.inl ⟨by rfl, ?_⟩) ?_; rotate_left; focus (intro w' _; go_simp; (try with_reducible rfl))
        try simp only [sIB, sC0, sCS]
        refine tkD 2 30 ?_ rfl hHeld (.inl ⟨by rfl, ?_⟩) ?_; rotate_left; focus (intro w' hSw; (try dsimp only at hSw); go_simp; (try with_reducible rfl))
        try simp only [sIB, sC0, sCS]
        refine tkD 6 34 ?_ rfl hHeld (.inl ⟨by rfl, ?_⟩) ?_; rotate_left; focus (intro w' hSw; (try dsimp only at hSw); go_simp; (try with_reducible rfl))
        try simp only [sIB, sC0, sCS]
        refine tkP 7 35 ?_ rfl (.inl ⟨by rfl, ?_⟩) ?_; rotate_left; focus (intro w' _; go_simp; (try with_reducible rfl))
        try simp only [sIB, sC0, sCS]
        refine tkD 8 36 ?_ rfl hHeld (.inl ⟨by rfl, ?_⟩) ?_; rotate_left; focus (intro w' hSw; (try dsimp only at hSw); go_simp; (try with_reducible rfl))
        try simp only [sIB, sC0, sCS]
        refine tkP 9 8 ?_ rfl (.inl ⟨by rfl, ?_⟩) ?_; rotate_left; focus (intro w' _; go_simp; (try with_reducible rfl))
        try simp only [sIB, sC0, sCS]
        refine wpAnyD_done (by kernel_rfl) ?_ _
        clear hHeld
        rw [← HDL.out] at HI HBZ
        have HZS : Hid (Z.size ≤ 64) := Lib.hid (by have := HBZ.out; rw [bysI_len, dataLen] at this; exact this)
        go_wp2_with fail
        go_loopg [5, 9] Z.size (fun n2 u i2 W => ∃ (j2 : Nat), j2 + n2 = Z.size ∧ i2 = .int .i64 (j2 : Int) ∧ OutIs w1 W (L ++ (bysI Z.data.toList).take j2) u)
        case atStart => exact ⟨0, by omega, rfl, by simpa using HO.out⟩
        case round =>
          obtain ⟨j2, hj2, rfl, hout⟩ := hrel
          clear HO
          rename World => W
          rename Value => v
          obtain ⟨A6, c6, rfl⟩ := own_slice hout.row
          have HJ2 := Lib.hid hj2
          have HO := Lib.hid hout
          clear hj2 hout
          by_cases hlt3 : j2 < Z.size
          · have r0 : (0 : Int) ≤ (j2 : Int) := by omega
            have r1 : (j2 : Int) < (Z.size : Int) := by omega
            have w3 : IntKind.i64.wrap ((j2 : Int) + 1) = (j2 : Int) + 1 := IntWalk.i64_in _ (by have := HZS.out; omega)
            have h8 : IntKind.i64.wrap ((Z[j2]'hlt3).toNat : Int) = ((Z[j2]'hlt3).toNat : Int) := by have := (Z[j2]'hlt3).toNat_lt; exact IntWalk.i64_in _ (by omega)
            have HBI := Lib.hid (byI_at Z j2 hlt3)
            have HTK2 := Lib.hid (bysI_take (l := Z.data.toList) (k := j2) (by rw [dataLen]; exact hlt3))
            have hsz : (L ++ (bysI Z.data.toList).take j2).length ≤ 65000000 := by have h1 := HLL.out; have h2 := HBZ.out; rw [List.length_append, List.length_take]; omega
            have hown0 := HO.out.row
            generalize hLL : L ++ (bysI Z.data.toList).take j2 = L2 at *
            have HL2 := Lib.hid hLL
            clear hLL hown0
            go_wp2_with (at_builtin; refine app_one w1.heap.size 57 3 (.int .i64 0) 1 8 [_] 1 _ _ rfl rfl Tryz.underlying57 info_int5 rfl (by decide) _ _ _ rfl rfl rfl (by intro u hu; simp at hu; subst hu; rfl) HO.out.row (by omega) (by omega) HO.out.blw.size ?_)
            intro v' w6 hown hg6
            have HR6 : Hid (OutIs w1 w6 (L ++ (bysI Z.data.toList).take (j2 + 1)) v') := Lib.hid (by rw [HTK2.out, HBI.out, ← List.append_assoc, HL2.out]; exact HO.out.grown (L' := [_]) hown hg6)
            obtain ⟨A7, c7, rfl⟩ := own_slice hown
            clear hown hg6 hsz
            go_wp2_with fail
            go_roundg (gk - 1)
            case measure => have := HJ2.out; omega
            case rel => exact ⟨j2 + 1, by have := HJ2.out; omega, by simp, by exact HR6.out⟩
          · have hje : j2 = Z.size := by have := HJ2.out; omega
            have hlt4 : ¬ (j2 : Int) < (Z.size : Int) := by omega
            have HTA : Hid (L ++ (bysI Z.data.toList).take j2 = L1) := Lib.hid (by rw [hje, HTK.out, HI.out, List.take_of_length_le (by rw [bysI_len, dataLen]; omega)])
            have HO2 : Hid (OutIs w1 W L1 (.slice A6 (L ++ (bysI Z.data.toList).take j2).length c6)) := Lib.hid (by rw [← HTA.out]; exact HO.out)
            generalize (L ++ (bysI Z.data.toList).take j2).length = n6 at *
            clear hje HO
            go_wp2_with fail
            go_roundg (G0 - 1)
            case measure => have := HK.out; omega
            case rel => exact ⟨k + 1, by have := HK.out; omega, by simp, by rw [HL1.out]; exact HO2.out⟩
    · have hke : k = ids.length := by have := HK.out; have := HN.out; omega
      have hlt2 : ¬ (k : Int) < (N : Int) := by have := HK.out; omega
      have htk : ids.take k = ids := by rw [hke, List.take_length]
      rw [htk] at HO ⊢
      have HO2 := HO
      clear htk
      clear hke
      go_wp2_with fail
      go_ret
      have hz := HB.out.blw.size
      exact ⟨⟨_, rfl, _, _, rfl, own_less HO2.out.row hz⟩, HB.out.blw.trans (HO2.out.blw.mono hz)⟩
end
open Go.RowKit
def RPiecesPost (cut : Nat → Nat → Bool) (s : ByteArray) (w : World) (e : Ending) (w' : World) : Prop :=
  ∃ v, e = .returned v ∧ Below w.heap.size w w' ∧ w'.ownsRow w.heap.size 9 1 v (pcs cut s.data.toList).length ((pcs cut s.data.toList).map strV)
theorem newAt_succ (cut : Nat → Nat → Bool) (s : ByteArray) (k : Nat) (h : k + 1 < s.size) : newAt cut s.data.toList (k + 1) = cut (s[k]'(by omega)).toNat (s[k + 1]'h).toNat := by
  show cut (s.data.toList.getD k 0).toNat (s.data.toList.getD (k + 1) 0).toNat = _
  rw [List.getD_eq_getElem?_getD, List.getD_eq_getElem?_getD, List.getElem?_eq_getElem (by rw [data_len]; omega), List.getElem?_eq_getElem (by rw [data_len]; omega)]
  rfl
theorem mid_le (cut : Nat → Nat → Bool) (s : ByteArray) (k : Nat) (h : k < s.size) : (midP (newAt cut s.data.toList k) (pcs cut (s.data.toList.take k))).length ≤ k + 1 := by
  have := length_pcs_le cut (s.data.toList.take k)
  rw [List.length_take, data_len] at this
  unfold midP
  split
  · simp; omega
  · omega
theorem mem_len {l : List UInt8} {ps : List (List UInt8)} (h : ps.flatten = l) (i : Nat) : (ps.getD i []).length ≤ l.length := by
  subst h
  induction ps generalizing i with
  | nil => simp
  | cons p ps ih =>
    cases i with
    | zero => simp
    | succ i =>
      have := ih i
      simp only [List.getD_cons_succ, List.flatten_cons, List.length_append]
      omega
theorem mid_small (cut : Nat → Nat → Bool) (s : ByteArray) (k i : Nat) (h : k < s.size) : ((midP (newAt cut s.data.toList k) (pcs cut (s.data.toList.take k))).getD i []).length ≤ k := by
  have e : (midP (newAt cut s.data.toList k) (pcs cut (s.data.toList.take k))).flatten = s.data.toList.take k := by
    unfold midP
    split
    · simp [pcs_flatten]
    · exact pcs_flatten _ _
  have := mem_len e i
  rw [List.length_take, data_len] at this
  omega
theorem setLast_map (mid : List (List UInt8)) (c : UInt8) (s : ByteArray) (k : Nat) (h : k < s.size) (hc : s[k] = c) (P : List UInt8) (L : Nat) (hL : mid.length = L + 1) (hP : mid.getD L [] = P) :
    (mid.map strV).set L (.string (bs P ++ s.extract k (k + 1))) = (setLast mid c).map strV := by
  unfold setLast
  rw [List.map_set, hL, Nat.add_sub_cancel, hP]
  congr 1
  unfold strV
  congr 1
  rw [extract_bs, show k + 1 - k = 0 + 1 by omega, List.take_succ_eq_append_getElem (by rw [List.length_drop, data_len]; omega)]
  simp only [List.take_zero, List.nil_append, List.getElem_drop]
  have e : s.data.toList[k + 0]'(by rw [data_len]; omega) = c := by rw [← hc]; rfl
  rw [e]
  simp [bs]
  rfl
structure RpRel (cs : List Cls) (js : List Jn) (A B : Option Addr) (cA cB : Nat) (w : World) (v : Value) (ps : List (List UInt8)) (W : World) : Prop where
  tab : BRTab w cs js A B W
  blk : W.heap[w.heap.size]? = some (.cells #[.slice A cs.length cA, .slice B js.length cB] 36 (0, 0))
  own : W.ownsRow (w.heap.size + 1) 9 1 v ps.length (ps.map strV)
theorem RpRel.below {cs : List Cls} {js : List Jn} {A B : Option Addr} {cA cB : Nat} {w : World} {v : Value} {ps : List (List UInt8)} {W W' : World} (h : RpRel cs js A B cA cB w v ps W) (hb : Below W.heap.size W W') : RpRel cs js A B cA cB w v ps W' :=
  ⟨h.tab.step hb, blk_below hb (blk_lt h.blk) h.blk, own_below h.own hb (Nat.le_refl _)⟩
set_option maxHeartbeats 2000000 in
theorem rpieces_any (cs : List Cls) (js : List Jn) (A B : Option Addr) (cA cB : Nat) (s : ByteArray) (w : World) (hA : Sl w A encCls 3 cs) (hB : Sl w B encJn 2 js) (hcs : cs.length < 9000000000000000000) (hjs : js.length < 9000000000000000000) (hr : cs.all spanB = true) (hs : s.size ≤ 1000000000) :
    Calls Tryz.prog 70 #[.agg #[.slice A cs.length cA, .slice B js.length cB], .string s] w (RPiecesPost (cutB (Cof cs) (Jof js)) s w) := by
  have H0 : BRTab w cs js A B (w.alloc (.cells #[.slice A cs.length cA, .slice B js.length cB] 36)) := BRTab.step ⟨Below.refl _ _, hA, hB⟩ ((Below.refl w.heap.size w).alloc (Nat.le_refl _) _)
  have HBK := Lib.hid (blk_new w (.cells #[.slice A cs.length cA, .slice B js.length cB] 36))
  have HH := Lib.hid H0
  have HR := Lib.hid hr
  clear H0 hA hB hr
  generalize hcut : cutB (Cof cs) (Jof js) = cut at *
  have HCUT := Lib.hid hcut
  clear hcut
  go_enter Tryz.func70, Tryz.ntmps70
  go_wp2_with fail
  go_loopg [5, 6] s.size (fun n v i W => ∃ k : Nat, k + n = s.size ∧ i = .int .i64 (k : Int) ∧ RpRel cs js A B cA cB w v (pcs cut (s.data.toList.take k)) W)
  case atStart => exact ⟨0, by omega, rfl, HH.out, HBK.out, own_nil _ _ _ _⟩
  case round =>
    obtain ⟨k, hk, rfl, hR⟩ := hrel
    rename World => W
    have d0 := blk_cell hR.blk 0
    have d1 := blk_cell hR.blk 1
    simp only [List.getElem?_toArray, List.getElem?_cons_zero, List.getElem?_cons_succ] at d0 d1
    have HRR := Lib.hid hR
    have hsz := hR.tab.below.size
    have hsz2 := blk_lt hR.blk
    clear hR HH HBK
    by_cases hlt : k < s.size
    · go_upto_region 5 with fail
      go_cut [25] (fun v25 U => v25 = .bool (newAt cut s.data.toList k) ∧ Below W.heap.size W U)
      case first =>
        cases k with
        | zero =>
          go_quiet (fail)
          go_wp2_with fail
          go_meet
          case rel => exact ⟨rfl, below_drewN (Below.refl _ _) _⟩
        | succ k =>
          have f1 : (k : Int) + 1 < (s.size : Int) := by omega
          have f2 : (k : Int) < (s.size : Int) := by omega
          have q0 : 0 ≤ (k : Int) := by omega
          have q2 : 0 ≤ (k : Int) + 1 := by omega
          have q3 : ((k : Int) + 1).toNat = k + 1 := by omega
          have he1 : ((k : Int) + 1 == 0) = false := by rw [beq_eq_false_iff_ne]; omega
          have q1 : IntKind.i64.wrap (k : Int) = k := IntWalk.i64_in _ (by omega)
          have HNW := Lib.hid (newAt_succ cut s k hlt)
          obtain ⟨x, hx⟩ : ∃ x, s[k]'(by omega) = x := ⟨_, rfl⟩
          obtain ⟨y, hy⟩ : ∃ y, s[k + 1]'hlt = y := ⟨_, rfl⟩
          have HX := Lib.hid hx
          have HY := Lib.hid hy
          clear hx hy
          have HC : ∀ W' : World, W'.cell? ⟨w.heap.size, 0, none⟩ = some (.slice A cs.length cA) ∧ W'.cell? ⟨w.heap.size, 1, none⟩ = some (.slice B js.length cB) ∧ Below W.heap.size W W' →
              Calls Tryz.prog 108 #[.agg #[.slice A cs.length cA, .slice B js.length cB], .int .u8 (x.toNat : Int), .int .u8 (y.toNat : Int)] W' fun e W2 => e = .returned (.bool (cut x.toNat y.toNat)) ∧ W2.cell? ⟨w.heap.size, 0, none⟩ = some (.slice A cs.length cA) ∧ W2.cell? ⟨w.heap.size, 1, none⟩ = some (.slice B js.length cB) ∧ Below W.heap.size W W2 := by
            intro W' ⟨h1, h2, h3⟩
            have hT' := HRR.out.tab.step h3
            refine (rcuts_any cs js A B cA cB (x.toNat : Int) (y.toNat : Int) W' hT'.cl hT'.jn hcs hjs (by omega) (by have := x.toNat_lt; omega) (by omega) (by have := y.toNat_lt; omega) HR.out).mono ?_
            rintro e W2 ⟨rfl, hb2⟩
            refine ⟨?_, below_cell hb2 (Nat.le_refl _) h1, below_cell hb2 (Nat.le_refl _) h2, below_then h3 h3.size hb2⟩
            rw [HCUT.out]
            simp only [Int.toNat_natCast]
          have HCC := Lib.hid HC
          clear HC
          go_region_held3 (fun w' => w'.cell? ⟨w.heap.size, 0, none⟩ = some (.slice A cs.length cA) ∧ w'.cell? ⟨w.heap.size, 1, none⟩ = some (.slice B js.length cB) ∧ Below W.heap.size W w') (first | exact ⟨d0, d1, (Below.refl _ _).drew⟩ | assumption)
            (first | (go_at_call 108; simp only [HX.out, HY.out]; refine (HCC.out _ (by assumption)).mono ?_; rintro e w' ⟨rfl, h⟩))
          all_goals
            go_wp2_with fail
            go_meet
            case rel => exact ⟨by rw [HNW.out, HX.out, HY.out], h.2.2⟩
      case rest =>
        obtain ⟨rfl, hbU⟩ := hcut
        have HRU := Lib.hid (HRR.out.below hbU)
        have hszU := hbU.size
        clear HRR hbU d0 d1
        go_upto_if 25 with fail
        go_cut [5] (fun v U => RpRel cs js A B cA cB w v (midP (newAt cut s.data.toList k) (pcs cut (s.data.toList.take k))) U)
        case first =>
          have hml := mid_le cut s k hlt
          cases hn : newAt cut s.data.toList k with
          | false =>
            have HN := Lib.hid hn
            clear hn
            go_wp2_with fail
            go_meet
            case rel => rw [HN.out]; exact HRU.out
          | true =>
            rw [hn] at hml
            simp only [midP, if_true, List.length_append, List.length_singleton] at hml
            have HN := Lib.hid hn
            clear hn
            go_wp2_with (at_builtin; refine app_one (w.heap.size + 1) 31 9 (.string ⟨#[]⟩) 1 16 [_] 1 _ _ rfl rfl Tryz.underlying31 info_str rfl (by decide) _ _ _ rfl rfl rfl (by intro u hu; simp at hu; subst hu; rfl) HRU.out.own (by omega) (by omega) (by omega) ?_)
            intro v' w1 hown1 hg1
            have HO1 := Lib.hid hown1
            have HG1 := Lib.hid hg1
            clear hown1 hg1
            go_wp2_with fail
            go_meet
            case rel =>
              have hnb : some w.heap.size ≠ u5.ownBlock := by
                intro h
                have := own_base HRU.out.own w.heap.size h.symm
                omega
              rw [HN.out]
              refine ⟨HRU.out.tab.keep (grown_below (v := u5) (Below.refl _ _) (by omega) HG1.out (own_less HRU.out.own (Nat.le_succ _))), (HG1.out.block _ (blk_lt HRU.out.blk) hnb).trans HRU.out.blk, ?_⟩
              simp only [midP, if_true, List.length_append, List.length_singleton, List.map_append, List.map_singleton]
              exact HO1.out
        case rest =>
          have HRV := Lib.hid hcut
          clear hcut HRU
          rename World => V
          have hml := mid_le cut s k hlt
          have hmp := mid_pos cut s.data.toList k (by rw [data_len]; exact hlt)
          have hms := mid_small cut s k
          obtain ⟨L, hL⟩ : ∃ L, (midP (newAt cut s.data.toList k) (pcs cut (s.data.toList.take k))).length = L + 1 := ⟨_, (Nat.sub_add_cancel hmp).symm⟩
          have hms := mid_small cut s k L hlt
          obtain ⟨P, hP⟩ : ∃ P, (midP (newAt cut s.data.toList k) (pcs cut (s.data.toList.take k))).getD L [] = P := ⟨_, rfl⟩
          rw [hP] at hms
          have ho := HRV.out.own
          rw [hL] at ho hml
          obtain ⟨g, cap, hv, hgb, hgl, hcell⟩ := own_open ho (by omega)
          have ec := hcell L (strV P) (by rw [List.getElem?_map, ← hP, List.getD_eq_getElem?_getD, List.getElem?_eq_getElem (i := L) (by rw [hL]; omega)]; rfl)
          obtain ⟨ec1, ec2⟩ := ec
          subst hv
          have HO := Lib.hid ho
          have HL := Lib.hid hL
          have HP := Lib.hid hP
          clear ho hL hP hcell hmp
          obtain ⟨c, hc⟩ : ∃ c, s[k] = c := ⟨_, rfl⟩
          have HC := Lib.hid hc
          simp only [strV] at ec1
          have r0 : (k : Int) < (s.size : Int) := by omega
          have r1 : 0 ≤ (L : Int) := by omega
          have r2 : IntKind.i64.wrap (L : Int) = L := IntWalk.i64_in _ (by omega)
          have r3 : IntKind.i64.wrap ((k : Int) + 1) = (k : Int) + 1 := IntWalk.i64_in _ (by omega)
          have r4 : ((k : Int) + 1).toNat = k + 1 := by omega
          have r5 : (k : Int) + 1 ≤ (s.size : Int) := by omega
          have r6 : (9223372036854775807 < (bs P).size + (min (k + 1) s.size - k)) = False := by
            have : (bs P).size = P.length := by simp [bs, ByteArray.size]
            rw [this, eq_iff_iff, iff_false]; omega
          have r7 : 0 ≤ (k : Int) + 1 := by omega
          have r8 : (k : Int) ≤ (k : Int) + 1 := by omega
          have r9 : L < L + 1 := by omega
          have r10 : (L : Int) < (L : Int) + 1 := by omega
          clear hc hml hms
          go_wp2_with fail
          go_still_tail 16, (by kernel_rfl)
          change wpList _ _ _ _ _ V.drew
          have e1 : V.drew.cell? ⟨g, L, none⟩ = _ := ec1
          have e2 : V.drew.frozen? ⟨g, L, none⟩ = false := ec2
          generalize hVd : V.drew = V2 at *
          have HVD := Lib.hid hVd
          clear hVd ec1 ec2
          go_wp2_with fail
          go_roundg (gk - 1)
          case measure => omega
          case rel =>
            refine ⟨k + 1, by omega, by go_num, ?_⟩
            rw [pcs_step cut _ k (by rw [data_len]; exact hlt)]
            have hset := own_set (own_drew HO.out) L (.string (bs P ++ s.extract k (k + 1)))
            rw [setLast_map _ c s k hlt HC.out P L HL.out HP.out, HVD.out] at hset
            have hl2 : (setLast (midP (newAt cut s.data.toList k) (pcs cut (s.data.toList.take k))) c).length = L + 1 := by rw [setLast, List.length_set, HL.out]
            rw [data_get s k hlt, HC.out]
            refine ⟨?_, ?_, ?_⟩
            · rw [← HVD.out]
              exact HRV.out.tab.keep (((Below.refl _ _).drew).setCell (p := ⟨g, L, none⟩) (by simp; omega) _)
            · rw [← HVD.out]
              exact blk_far (w := V.drew) HRV.out.blk (by simp; omega) _
            · rw [hl2]; exact hset
    · have hkk : k = s.size := by omega
      clear d0 d1
      go_wp2_with fail
      go_ret
      refine ⟨_, rfl, HRR.out.tab.below, ?_⟩
      have := own_less HRR.out.own (Nat.le_succ _)
      rw [hkk, ← data_len s, List.take_length] at this
      exact this
theorem encT_le (T : List Ent) (s : List UInt8) : (encT T T.length s).length ≤ s.length := by
  have := encT_len T T.length (bs s)
  rw [bs_size] at this
  exact this
theorem encP_le (T : List Ent) (cut : Nat → Nat → Bool) (s : List UInt8) : (encP T cut s).length ≤ s.length := by
  have key : ∀ l : List (List UInt8), (l.flatMap (encT T T.length)).length ≤ l.flatten.length := by
    intro l
    induction l with
    | nil => simp
    | cons a l ih =>
      have := encT_le T a
      rw [List.flatMap_cons, List.length_append, List.flatten_cons, List.length_append]
      omega
  have := key (pcs cut s)
  rw [pcs_flatten] at this
  exact this
theorem encI_le (T : List Ent) (cut : Nat → Nat → Bool) (xs : List (Int × List UInt8)) : ∀ (is : List Int) (run : List UInt8), (encI T cut xs is run).length ≤ is.length + run.length
  | [], run => by rw [encI]; have := encP_le T cut run; simp; omega
  | i :: is, run => by
    rw [encI]
    split
    · have := encI_le T cut xs is (run ++ [UInt8.ofNat i.toNat])
      simp at this ⊢
      omega
    · have h1 := encI_le T cut xs is []
      have h2 := encP_le T cut run
      simp at h1 ⊢
      omega
theorem drop_cons {α : Type} {l : List α} {k : Nat} (h : k < l.length) : l.drop k = l[k] :: l.drop (k + 1) := List.drop_eq_getElem_cons h
def EncPr (T : List Ent) (cut : Nat → Nat → Bool) (xs : List (Int × List UInt8)) (is : List Int) (k : Nat) (O : List Int) (R : List UInt8) : Prop :=
  (k ≤ is.length → encI T cut xs is [] = O ++ encI T cut xs (is.drop k) R) ∧ (k = is.length + 1 → O = encI T cut xs is [])
theorem encPr_zero (T : List Ent) (cut : Nat → Nat → Bool) (xs : List (Int × List UInt8)) (is : List Int) : EncPr T cut xs is 0 [] [] := ⟨fun _ => by simp, fun h => by omega⟩
theorem EncPr.byte {T : List Ent} {cut : Nat → Nat → Bool} {xs : List (Int × List UInt8)} {is : List Int} {k : Nat} {O : List Int} {R : List UInt8} (h : EncPr T cut xs is k O R) (hk : k < is.length) (h0 : 0 ≤ is[k]) : EncPr T cut xs is (k + 1) O (R ++ [UInt8.ofNat is[k].toNat]) :=
  ⟨fun _ => by rw [h.1 (by omega), drop_cons hk, encI, if_pos h0], fun e => by omega⟩
theorem EncPr.mark {T : List Ent} {cut : Nat → Nat → Bool} {xs : List (Int × List UInt8)} {is : List Int} {k : Nat} {O : List Int} {R : List UInt8} {x : Int} (h : EncPr T cut xs is k O R) (hk : k < is.length) (hx : is[k] = x) (h0 : x < 0) : EncPr T cut xs is (k + 1) (O ++ encP T cut R ++ [(xs.getD (-1 - x).toNat (0, [])).1]) [] :=
  ⟨fun _ => by rw [h.1 (by omega), drop_cons hk, encI, hx, if_neg (by omega)]; simp, fun e => by omega⟩
theorem EncPr.last {T : List Ent} {cut : Nat → Nat → Bool} {xs : List (Int × List UInt8)} {is : List Int} {k : Nat} {O : List Int} {R : List UInt8} (h : EncPr T cut xs is k O R) (hk : k = is.length) : EncPr T cut xs is (k + 1) (O ++ encP T cut R) [] :=
  ⟨fun e => by omega, fun _ => by rw [h.1 (by omega), hk, List.drop_length]; rfl⟩
theorem EncPr.le {T : List Ent} {cut : Nat → Nat → Bool} {xs : List (Int × List UInt8)} {is : List Int} {k : Nat} {O : List Int} {R : List UInt8} (h : EncPr T cut xs is k O R) (hk : k ≤ is.length + 1) : O.length ≤ is.length := by
  have h1 := encI_le T cut xs is []
  by_cases e : k ≤ is.length
  · have h2 := congrArg List.length (h.1 e)
    rw [List.length_append] at h2
    simp at h1
    omega
  · have h2 := h.2 (by omega)
    rw [h2]
    simpa using h1
theorem wp_app_row2 {P : Program} {w : World} {o : Oper} {a : Act} {K : Act → World → Prop} {Q : Exit → Act → World → Prop} (base base0 : Nat) (t e : TypeId) (z : Value) (size bytes : Nat) (s x : Operand)
    (ho : o.op = .call { callee := .builtin .append, args := #[s, x], argTypes := #[t, t] })
    (ht : P.underlying t = some (.slice e)) (hinfo : (P.info? e).map (fun i => (i.zero, i.size, i.bytes)) = some (some z, size, bytes)) (hzs : z.cells.size = size) (hsz : 0 < size)
    (v : Value) (n : Nat) (xs : List Value) (hs : a.eval s = v) (u : Value) (m : Nat) (ys : List Value) (hx : a.eval x = u) (h1 : ∀ z ∈ ys, z.oneCell' = true)
    (hown : w.ownsRow base e size v n xs) (hrow : w.ownsRow base0 e size u m ys) (hbytes : (n + m) * bytes ≤ 140737488355328) (h63 : n + m ≤ 9000000000000000000) (hbase : base ≤ w.heap.size)
    (h : ∀ v' w', w'.ownsRow base e size v' (n + m) (xs ++ ys) → w.grownBy w' v.ownBlock → (v'.ownBlock = v.ownBlock ∨ ∃ g, v'.ownBlock = some g ∧ w.heap.size ≤ g) → K (a.put o.dst v') w') : Oper.wp P o a w K Q := by
  rcases hrow.2 with ⟨h2, h3⟩ | ⟨g, cap, cur, h2, hb, hg, hc1, hc2, hc3, htk⟩
  · subst h3
    have hy : ys = [] := List.eq_nil_of_length_eq_zero (by simpa using hrow.1)
    subst hy
    obtain ⟨i, hi, hz0, hz1, hz2⟩ := info_parts hinfo
    have hrun := run_append_owned_none (P := P) (w := w) base t o.type e i size ht hi v n xs hown
    unfold Oper.wp
    simp [execOp, ho, resolve, invoke, builtin, hs, hx, h2, hrun, Result.andThen]
    exact h v w (by simpa using hown) ⟨rfl, rfl, rfl, Nat.le_refl _, fun _ _ _ => rfl⟩ (.inl rfl)
  · refine wp_app_list base t e z size bytes ys cap m ⟨g, 0, none⟩ s x ho ht hinfo hzs hsz v n xs hs (by rw [hx, h2]) hrow.1 ?_ h1 hown hbytes h63 hbase h
    intro j u' hu
    rw [add_plain, Nat.zero_add, blk_cell hg j]
    rw [← htk] at hu
    rw [List.getElem?_take] at hu
    split at hu
    · simpa using hu
    · simp at hu
structure Two (w1 W : World) (L : List Int) (v : Value) (e2 : TypeId) (n2 : Nat) (ys : List Value) (r : Value) : Prop where
  out : OutIs w1 W L v
  row : W.ownsRow w1.heap.size e2 1 r n2 ys
  dj : ∀ b, v.ownBlock = some b → r.ownBlock ≠ some b
theorem Two.below {w1 W W' : World} {L : List Int} {v r : Value} {e2 : TypeId} {n2 : Nat} {ys : List Value} (h : Two w1 W L v e2 n2 ys r) (hb : Below W.heap.size W W') : Two w1 W' L v e2 n2 ys r :=
  ⟨h.out.below hb, own_below h.row hb (Nat.le_refl _), h.dj⟩
theorem Two.drew {w1 W : World} {L : List Int} {v r : Value} {e2 : TypeId} {n2 : Nat} {ys : List Value} (h : Two w1 W L v e2 n2 ys r) : Two w1 W.drew L v e2 n2 ys r := h.below (Below.refl _ _).drew
theorem Two.growO {w1 W W' : World} {L L' : List Int} {v v' r : Value} {e2 : TypeId} {n2 : Nat} {ys : List Value} (h : Two w1 W L v e2 n2 ys r) (hown : W'.ownsRow w1.heap.size 3 1 v' (L.length + L'.length) (L.map (Value.int .i64) ++ L'.map (Value.int .i64))) (hg : W.grownBy W' v.ownBlock)
    (hn : v'.ownBlock = v.ownBlock ∨ ∃ g, v'.ownBlock = some g ∧ W.heap.size ≤ g) : Two w1 W' (L ++ L') v' e2 n2 ys r := by
  refine ⟨h.out.grown hown hg, own_keep h.row (Keep.of_grown (F := fun g => v.ownBlock = some g) hg (fun g hg => hg)) (fun x hx hf => h.dj x hf hx), ?_⟩
  intro b hb e
  rcases hn with h1 | ⟨b2, h1, h2⟩
  · exact h.dj b (h1 ▸ hb) e
  · rw [h1] at hb
    injection hb with hb
    subst hb
    have := (h.row.lt _ e).2
    omega
theorem Two.growR {w1 W W' : World} {L : List Int} {v r r' : Value} {e2 : TypeId} {n2 n3 : Nat} {ys zs : List Value} (h : Two w1 W L v e2 n2 ys r) (hown : W'.ownsRow w1.heap.size e2 1 r' n3 zs) (hg : W.grownBy W' r.ownBlock)
    (hn : r'.ownBlock = r.ownBlock ∨ ∃ g, r'.ownBlock = some g ∧ W.heap.size ≤ g) : Two w1 W' L v e2 n3 zs r' := by
  have hk : Keep (fun g => r.ownBlock = some g) W W' := Keep.of_grown hg (fun g hg => hg)
  refine ⟨⟨own_keep h.out.row hk (fun x hx hf => h.dj x hx hf), h.out.blw.trans (hk.below h.out.blw.size (fun x hx => own_base h.row x hx))⟩, hown, ?_⟩
  intro b hb e
  rcases hn with h1 | ⟨b2, h1, h2⟩
  · exact h.dj b hb (h1 ▸ e)
  · rw [h1] at e
    injection e with e
    subst e
    have := (h.out.row.lt _ hb).2
    omega
theorem OutIs.two {w1 W W' : World} {L : List Int} {v r : Value} {e2 : TypeId} {n2 : Nat} {ys : List Value} (h : OutIs w1 W L v) (hb : Below W.heap.size W W') (hr : W'.ownsRow W.heap.size e2 1 r n2 ys) : Two w1 W' L v e2 n2 ys r :=
  ⟨h.below hb, own_less hr h.blw.size, fun b hb2 e => by have := (h.row.lt _ hb2).2; have := own_base hr _ e; omega⟩
theorem OutIs.new0 {w1 W : World} {L : List Int} {v : Value} {e2 : TypeId} (h : OutIs w1 W L v) : Two w1 (W.alloc (.cells #[] e2)) L v e2 0 [] (.slice (some ⟨W.heap.size, 0, none⟩) 0 0) :=
  h.two ((Below.refl W.heap.size W).alloc (Nat.le_refl _) _) (own_empty (blk_new _ _) (Nat.le_refl _))
theorem bytesV_snoc (R : List UInt8) (x : Int) (h0 : 0 ≤ x) (h1 : x < 256) : bytesV (R ++ [UInt8.ofNat x.toNat]) = bytesV R ++ [.int .u8 x] := by
  unfold bytesV
  rw [List.map_append]
  congr 1
  simp
  omega
theorem flat_take (ps : List (List UInt8)) (k : Nat) : (ps.take k).flatten.length ≤ ps.flatten.length := by
  have h : ps.flatten = (ps.take k).flatten ++ (ps.drop k).flatten := by rw [← List.flatten_append, List.take_append_drop]
  rw [h, List.length_append]
  omega
theorem pc_le (ps : List (List UInt8)) (k : Nat) (h : k < ps.length) : (ps[k]).length ≤ ps.flatten.length := by
  have h1 := flat_take ps (k + 1)
  rw [take_snoc h, List.flatten_append, List.flatten_singleton, List.length_append] at h1
  omega
theorem flat_le (T : List Ent) (P : List (List UInt8)) (j : Nat) : ((P.take j).flatMap (encT T T.length)).length ≤ P.flatten.length := by
  have key : ∀ l : List (List UInt8), (l.flatMap (encT T T.length)).length ≤ l.flatten.length := by
    intro l
    induction l with
    | nil => simp
    | cons a l ih =>
      have := encT_le T a
      rw [List.flatMap_cons, List.length_append, List.flatten_cons, List.length_append]
      omega
  have h1 := key (P.take j)
  have h2 := flat_take P j
  omega
def CaseP.cut (c : CaseP) : Nat → Nat → Bool := cutB (Cof (someC c.cs)) (Jof (someJ c.js))
section
variable {w W W' : World} {base b : Nat} {c : CaseP} {r : RVoc}
set_option maxHeartbeats 4000000 in
theorem rencode_any (h : RVocIs w base c r) (items : List Int) (A : Option Addr) (d : Nat) (hA : Sl1 w A (Value.int .i64) items) (hlen : items.length ≤ 64000000) (hall : ∀ x ∈ items, x < 256 ∧ (¬ 0 ≤ x → (-1 - x).toNat < c.X.length)) :
    Calls Tryz.prog 39 #[r.val' c, .slice A items.length d] w fun e w' => (∃ v, e = .returned v ∧ IntsIs w' w.heap.size v (encI c.T c.cut c.X items [])) ∧ Below w.heap.size w w' := by
  have HB := Lib.hid (RBox.new h)
  have HALL := Lib.hid hall
  have HLEN := Lib.hid hlen
  have HT := Lib.hid c.ok
  have HXL := Lib.hid c.X_len
  have HSL : Hid (∀ V, Below w.heap.size w V → Sl1 V A (Value.int .i64) items) := Lib.hid (fun V hV => hA.below hV (Nat.le_refl _))
  have HP : Hid (∀ V (R : List UInt8), RVocIs V base c r → R.length ≤ 64000000 → Calls Tryz.prog 70 #[.agg #[.slice r.A3 (someC c.cs).length r.c3, .slice r.A4 (someJ c.js).length r.c4], .string (bs R)] V fun e w' => ∃ v, e = .returned v ∧ Below V.heap.size V w' ∧ w'.ownsRow V.heap.size 9 1 v (pcs c.cut R).length ((pcs c.cut R).map strV)) := Lib.hid (fun V R hV hR => by
    have l2 := someC_len c.cs
    have l3 := someJ_len c.js
    exact rpieces_any (someC c.cs) (someJ c.js) r.A3 r.A4 r.c3 r.c4 (bs R) V hV.cs hV.js (by omega) (by omega) (someC_ok _) (by rw [bs_size]; omega))
  have HE : Hid (∀ V (q : List UInt8), RVocIs V base c r → q.length ≤ 64000000 → Calls Tryz.prog 59 #[.agg #[.slice r.A1 c.T.length r.c1, .slice r.A2 (mrgsT c.T).length r.c2], .string (bs q)] V fun e w' => (∃ v, e = .returned v ∧ IntsIs w' V.heap.size v (encT c.T c.T.length q)) ∧ Below V.heap.size V w') := Lib.hid (fun V q hV hq => rall_any hV.ref c.ok (bs q) (by rw [bs_size]; omega))
  clear h hall hlen hA
  unfold RVoc.val'
  go_enter Tryz.func39, Tryz.ntmps39
  go_upto_region 2 with fail
  obtain ⟨bx, hbx⟩ : ∃ b, w.heap.size = b := ⟨_, rfl⟩
  have HBX : Hid (w.heap.size = bx) := Lib.hid hbx
  rw [hbx] at HB ⊢
  clear hbx
  generalize w.alloc (.cells #[.slice r.A1 c.T.length r.c1, .slice r.A2 (mrgsT c.T).length r.c2, .slice r.A3 (someC c.cs).length r.c3, .slice r.A4 (someJ c.js).length r.c4, .slice r.A5 c.X.length r.c5] 38) = w1 at *
  have HIN : Hid (∀ W, Below w1.heap.size w1 W → RBox w W base c r bx) := Lib.hid (fun W hW => HB.out.below hW)
  have HTW : Hid (Two w1 (w1.alloc (.cells #[] 5)) [] (.slice none 0 0) 5 ([] : List UInt8).length (bytesV []) (.slice (some ⟨w1.heap.size, 0, none⟩) 0 0)) := Lib.hid (OutIs.new0 ⟨own_nil _ _ _ _, Below.refl _ _⟩)
  go_wp2_with fail
  generalize w1.alloc (.cells #[] 5) = w2 at *
  obtain ⟨N, hN⟩ : ∃ N, items.length = N := ⟨_, rfl⟩
  have HN := Lib.hid hN
  rw [hN] at HLEN ⊢
  clear hN
  go_loopg [5, 6, 7] (N + 1) (fun n u s i W => ∃ (k : Nat) (O : List Int) (R : List UInt8), k + n = N + 1 ∧ i = .int .i64 (k : Int) ∧ EncPr c.T c.cut c.X items k O R ∧ R.length ≤ k ∧ Two w1 W O u 5 R.length (bytesV R) s)
  case atStart => exact ⟨0, [], [], by omega, rfl, encPr_zero _ _ _ _, Nat.le_refl _, HTW.out⟩
  case round =>
    obtain ⟨k, O, R, hk, rfl, hpr, hRk, htw⟩ := hrel
    obtain ⟨G0, hG0⟩ : ∃ G, G = gk := ⟨_, rfl⟩
    subst hG0
    clear HTW
    rename World => W
    obtain ⟨A3, c3, rfl⟩ := own_slice htw.out.row
    obtain ⟨A4, c4, rfl⟩ := own_slice htw.row
    have HK := Lib.hid hk
    have HPR := Lib.hid hpr
    have HRK := Lib.hid hRk
    have HTW := Lib.hid htw
    have HOL : Hid (O.length ≤ 64000000) := Lib.hid (by have := hpr.le (by have := HN.out; omega); have := HN.out; have := HLEN.out; omega)
    clear hk hpr hRk htw
    have w2 : IntKind.i64.wrap ((k : Int) + 1) = (k : Int) + 1 := IntWalk.i64_in _ (by have := HLEN.out; have := HK.out; omega)
    have p0 : (0 : Int) ≤ (k : Int) := by omega
    by_cases hle : k ≤ N
    · have p1 : (k : Int) ≤ (N : Int) := by omega
      by_cases hby : ∃ (h : k < items.length), 0 ≤ items[k]
      · -- a byte
        obtain ⟨hlt2, h0⟩ := hby
        have p2 : (k : Int) < (N : Int) := by have := HN.out; omega
        obtain ⟨b1, o1, hA, e0⟩ := (HSL.out W (HIN.out _ HTW.out.out.blw).blw).at k hlt2
        have HPB := Lib.hid (HPR.out.byte hlt2 h0)
        have h256 := (HALL.out items[k] (List.getElem_mem hlt2)).1
        generalize items[k] = x at *
        subst hA
        have HBV := Lib.hid (bytesV_snoc R x h0 h256)
        have h8 : IntKind.u8.wrap x = x := IntWalk.u8_in _ (by omega)
        have hRl : R.length ≤ 64000000 := by have := HRK.out; have := HN.out; have := HLEN.out; omega
        have hn1 : (R ++ [UInt8.ofNat x.toNat]).length = R.length + 1 := by simp
        have HN1 := Lib.hid hn1
        have hx0 : x ≥ 0 := h0
        clear hlt2 h256 hn1
        go_upto_region 7 with fail
        go_wp2_with (at_builtin; refine app_new w1.heap.size 126 5 (.int .u8 0) 1 1 [_] 1 _ _ rfl rfl Tryz.underlying126 info_u8 rfl (by decide) _ _ _ rfl rfl rfl (by intro u hu; simp at hu; subst hu; rfl) HTW.out.row (by omega) (by omega) HTW.out.out.blw.size ?_)
        intro v' w6 hown hg6 hnew
        have HT6 : Hid (Two w1 w6 O (.slice A3 O.length c3) 5 (R ++ [UInt8.ofNat x.toNat]).length (bytesV (R ++ [UInt8.ofNat x.toNat])) v') := Lib.hid (by rw [HBV.out, HN1.out]; exact HTW.out.growR hown hg6 hnew)
        obtain ⟨A7, c7, rfl⟩ := own_slice hown
        clear hown hg6 hnew hRl e0
        go_wp2_with fail
        go_roundg (G0 - 1)
        case measure => have := HK.out; omega
        case rel => exact ⟨k + 1, O, _, by have := HK.out; omega, by simp, HPB.out, by rw [HN1.out]; have := HRK.out; omega, by have := HT6.out; rw [HN1.out] at this ⊢; exact this⟩
      · have HRL : Hid (R.length ≤ 64000000) := Lib.hid (by have := HRK.out; have := HN.out; have := HLEN.out; omega)
        by_cases hlt : k < N
        · have hlt2 : k < items.length := by have := HN.out; omega
          have hx0 : ¬ 0 ≤ items[k] := fun h => hby ⟨hlt2, h⟩
          have hx0' : items[k]'hlt2 < 0 := by omega
          have HKL := Lib.hid hlt2
          have hmx := (HALL.out items[k] (List.getElem_mem hlt2)).2 (by omega)
          obtain ⟨b1, o1, hA, e0⟩ := (HSL.out W (HIN.out _ HTW.out.out.blw).blw).at k hlt2
          obtain ⟨x, hx⟩ : ∃ x, items[k] = x := ⟨_, rfl⟩
          have HXE : Hid (items[k]'hlt2 = x) := Lib.hid hx
          replace e0 : W.cell? ⟨b1, o1 + k, none⟩ = some (.int .i64 x) := by rw [← hx]; exact e0
          obtain ⟨m, hm⟩ : ∃ m : Nat, (-1 - items[k]).toNat = m := ⟨_, rfl⟩
          rw [hm] at hmx
          have HMX := Lib.hid hmx
          obtain ⟨sid, hsid⟩ : ∃ s, (c.X[m]'hmx).1 = s := ⟨_, rfl⟩
          have HSID : Hid ((c.X[m]'HMX.out).1 = sid) := Lib.hid hsid
          have hmx2 : (-1 - x).toNat = m := by rw [← hx]; exact hm
          have HXS : Hid ((c.X.getD (-1 - x).toNat (0, [])).1 = sid) := Lib.hid (by rw [hmx2, List.getD_eq_getElem?_getD, List.getElem?_eq_getElem hmx, ← hsid]; rfl)
          have p2 : (k : Int) < (N : Int) := by omega
          have hxn : ¬ x ≥ 0 := by rw [← hx]; exact hx0
          have wj : IntKind.i64.wrap (-1 - x) = (m : Int) := by
            have : -1 - x = (m : Int) := by rw [← hx, ← hm]; omega
            rw [this]
            exact IntWalk.i64_in _ (by have := HXL.out; omega)
          have m0 : (0 : Int) ≤ (m : Int) := by omega
          have m1 : (m : Int) < (c.X.length : Int) := by omega
          have hA9 : A = some ⟨b1, o1, none⟩ := hA
          subst hA9
          have HX0 : Hid (x < 0) := Lib.hid (by rw [← hx]; exact hx0')
          clear hx hx0 hx0' hmx hmx2 hm hsid hA hby
          go_upto_region 8 with fail
          have s2 := (HIN.out W HTW.out.out.blw).n2
          have s3 := (HIN.out W HTW.out.out.blw).n3
          have HCV := Lib.hid (conv_own HTW.out.row)
          have HPP := Lib.hid (HP.out W R (HIN.out _ HTW.out.out.blw).voc HRL.out)
          have HPD : Hid ((pcs c.cut R).flatMap (encT c.T c.T.length) = encP c.T c.cut R) := Lib.hid rfl
          have HPF := Lib.hid (pcs_flatten c.cut R)
          have HPL : Hid ((pcs c.cut R).length ≤ 64000000) := Lib.hid (by have := length_pcs_le c.cut R; have := HRL.out; omega)
          generalize pcs c.cut R = P at *
          have HO := Lib.hid HTW.out.out
          clear HTW
          go_wp2_with (first | (rw [HCV.out]) | (go_at_call 70; refine HPP.out.mono ?_; rintro e W8 ⟨v8, rfl, hb, hrow⟩; (have HT8 := Lib.hid (HO.out.two hb hrow)); obtain ⟨A8, c8, rfl⟩ := own_slice hrow; clear hb hrow s2 s3))
          clear HPP HCV HO
          go_loopg [5, 9] P.length (fun n2 u i2 W => ∃ (j : Nat), j + n2 = P.length ∧ i2 = .int .i64 (j : Int) ∧ Two w1 W (O ++ (P.take j).flatMap (encT c.T c.T.length)) u 9 P.length (P.map strV) (.slice A8 P.length c8))
          case atStart => exact ⟨0, by omega, rfl, by simpa using HT8.out⟩
          case round =>
            obtain ⟨j, hj, rfl, htw⟩ := hrel
            clear HT8
            rename World => W
            rename Value => v
            obtain ⟨A6, c6, rfl⟩ := own_slice htw.out.row
            have HJ := Lib.hid hj
            have HT := Lib.hid htw
            clear hj htw
            have HFL : Hid (((P.take j).flatMap (encT c.T c.T.length)).length ≤ 64000000) := Lib.hid (by have h1 := flat_le c.T P j; rw [HPF.out] at h1; have := HRL.out; omega)
            have s0 := (HIN.out W HT.out.out.blw).n0
            have s1 := (HIN.out W HT.out.out.blw).n1
            by_cases hlt3 : j < P.length
            · have r0 : (0 : Int) ≤ (j : Int) := by omega
              have r1 : (j : Int) < (P.length : Int) := by omega
              have w3 : IntKind.i64.wrap ((j : Int) + 1) = (j : Int) + 1 := IntWalk.i64_in _ (by have := HPL.out; omega)
              obtain ⟨bb, ob, hAA, cb⟩ := (own_sl1 (enc := strV) HT.out.row).at j hlt3
              have HTK : Hid ((P.take (j + 1)).flatMap (encT c.T c.T.length) = (P.take j).flatMap (encT c.T c.T.length) ++ encT c.T c.T.length P[j]) := Lib.hid (by rw [take_snoc hlt3, List.flatMap_append]; simp)
              have hql : P[j].length ≤ 64000000 := by have h1 := pc_le P j hlt3; rw [HPF.out] at h1; have := HRL.out; omega
              have HQL := Lib.hid hql
              have HQE := Lib.hid (encT_le c.T P[j])
              generalize P[j] = q at *
              subst hAA
              unfold strV at cb
              generalize hOO : O ++ (P.take j).flatMap (encT c.T c.T.length) = O2 at *
              have HOO := Lib.hid hOO
              have HO2 : Hid (O2.length ≤ 128000000) := Lib.hid (by rw [← hOO, List.length_append]; have := HOL.out; have := HFL.out; omega)
              clear hOO hql
              go_upto_region 12 with fail
              refine wp_region_D (Ds := [8]) (S := fun V => V.cell? ⟨bx, 0, none⟩ = some (.slice r.A1 c.T.length r.c1) ∧ V.cell? ⟨bx, 1, none⟩ = some (.slice r.A2 (mrgsT c.T).length r.c2) ∧ V.cell? ⟨bb, ob + j, none⟩ = some (.string (bs q))) (by kernel_rfl) (by exact ⟨s0, s1, cb⟩) (fun hHeld => ?_)
              (replace HT := Lib.hid HT.out.drew); clear s0 s1 cb; generalize W.drew = W5 at *
              refine tkP 0 47 ?_ rfl (.inl ⟨by rfl, ?_⟩) ?_; rotate_left; focus (intro w' _; go_simp; (try with_reducible rfl))
              try simp only [sIB, sC0, sCS]
              refine tkP 1 48 ?_ rfl (.inl ⟨by rfl, ?_⟩) ?_; rotate_left; focus (intro w' _; go_simp; (try with_reducible rfl))
              try simp only [sIB, sC0, sCS]
              refine tkP 3 50 ?_ rfl (.inl ⟨by rfl, ?_⟩) ?_; rotate_left; focus (intro w' _; go_simp; (try with_reducible rfl))
              try simp only [sIB, sC0, sCS]
              refine tkP 4 51 ?_ rfl (.inl ⟨by rfl, ?_⟩) ?_; rotate_left; focus (intro w' _; go_simp; (try with_reducible rfl))
              try simp only [sIB, sC0, sCS]
              refine tkP 5 52 ?_ rfl (.inl ⟨by rfl, ?_⟩) ?_; rotate_left; focus (intro w' _; go_simp; (try with_reducible rfl))
              try simp only [sIB, sC0, sCS]
              refine wpAnyD_two (i := 2) (j := 6) (by kernel_rfl) rfl rfl (by rfl) (by rfl) (fun K hK => ?_) (fun K hK => ?_)
              ·
                go_simp
                refine hK.out _ _ hHeld (fun hHeld => ?_)
                clear hK K
                try simp only [Act.put, sIB, sC0, sCS]
                refine wpAnyD_one (i := 6) (by kernel_rfl) rfl (by rfl) (fun K hK => ?_)
                go_simp
                refine hK.out _ _ hHeld (fun hHeld => ?_)
                clear hK K
                try simp only [Act.put, sIB, sC0, sCS]
                refine wpAnyD_one (i := 7) (by kernel_rfl) rfl (by rfl) (fun K hK => ?_)
                go_simp; refine (HE.out _ q (HIN.out _ HT.out.out.blw).voc HQL.out).mono ?_; rintro e W6 ⟨⟨v6, rfl, A9, c9, rfl, hv⟩, hb'⟩; have HT6 := Lib.hid (HT.out.below hb'); have HV := Lib.hid hv; have h := And.intro (below_cell hb' (Nat.le_refl _) hHeld.1) (And.intro (below_cell hb' (Nat.le_refl _) hHeld.2.1) (below_cell hb' (Nat.le_refl _) hHeld.2.2)); clear hb' hv; go_simp
                refine hK.out _ _ h (fun hHeld => ?_)
                clear hK K
                try simp only [Act.put, sIB, sC0, sCS]
                refine wpAnyD_last (D := 8) (by decide) (by kernel_rfl) rfl (by rfl) (fun K hK => ?_)
                refine wp_app_row2 w1.heap.size W5.heap.size 57 3 (.int .i64 0) 1 8 _ _ rfl Tryz.underlying57 info_int5 rfl (by decide) _ _ _ rfl _ _ _ rfl (by intro u hu; obtain ⟨y, _, hy⟩ := List.mem_map.1 hu; subst hy; rfl) HT6.out.out.row HV.out (by have := HQE.out; have := HQL.out; have := HO2.out; omega) (by have := HQE.out; have := HQL.out; have := HO2.out; omega) HT6.out.out.blw.size ?_; intro v' W7 hown hg hnew; have HT7 : Hid (Two w1 W7 (O ++ (P.take (j + 1)).flatMap (encT c.T c.T.length)) v' 9 P.length (P.map strV) _) := Lib.hid (by rw [HTK.out, ← List.append_assoc, HOO.out]; exact HT6.out.growO hown hg hnew); obtain ⟨A10, c10, rfl⟩ := own_slice hown; clear hown hg hnew
                refine hK.out _ _ ?_
                clear hK K
                try simp only [Act.put, sIB, sC0, sCS]
                refine tkP 9 5 ?_ rfl (.inl ⟨by rfl, ?_⟩) ?_; rotate_left; focus (intro w' _; go_simp; (try with_reducible rfl))
                try simp only [sIB, sC0, sCS]
                refine wpAnyD_done (by kernel_rfl) ?_ _
                clear hHeld h
                have HLN : Hid (O2.length + (encT c.T c.T.length q).length = (O ++ (P.take (j + 1)).flatMap (encT c.T c.T.length)).length) := Lib.hid (by rw [HTK.out, ← List.append_assoc, HOO.out, List.length_append])
                go_wp2_with fail
                go_roundg (gk - 1)
                case measure => have := HJ.out; omega
                case rel => exact ⟨j + 1, by have := HJ.out; omega, by simp, by exact HT7.out⟩
              ·
                go_simp
                refine hK.out _ _ hHeld (fun hHeld => ?_)
                clear hK K
                try simp only [Act.put, sIB, sC0, sCS]
                refine wpAnyD_one (i := 2) (by kernel_rfl) rfl (by rfl) (fun K hK => ?_)
                go_simp
                refine hK.out _ _ hHeld (fun hHeld => ?_)
                clear hK K
                try simp only [Act.put, sIB, sC0, sCS]
                refine wpAnyD_one (i := 7) (by kernel_rfl) rfl (by rfl) (fun K hK => ?_)
                go_simp; refine (HE.out _ q (HIN.out _ HT.out.out.blw).voc HQL.out).mono ?_; rintro e W6 ⟨⟨v6, rfl, A9, c9, rfl, hv⟩, hb'⟩; have HT6 := Lib.hid (HT.out.below hb'); have HV := Lib.hid hv; have h := And.intro (below_cell hb' (Nat.le_refl _) hHeld.1) (And.intro (below_cell hb' (Nat.le_refl _) hHeld.2.1) (below_cell hb' (Nat.le_refl _) hHeld.2.2)); clear hb' hv; go_simp
                refine hK.out _ _ h (fun hHeld => ?_)
                clear hK K
                try simp only [Act.put, sIB, sC0, sCS]
                refine wpAnyD_last (D := 8) (by decide) (by kernel_rfl) rfl (by rfl) (fun K hK => ?_)
                refine wp_app_row2 w1.heap.size W5.heap.size 57 3 (.int .i64 0) 1 8 _ _ rfl Tryz.underlying57 info_int5 rfl (by decide) _ _ _ rfl _ _ _ rfl (by intro u hu; obtain ⟨y, _, hy⟩ := List.mem_map.1 hu; subst hy; rfl) HT6.out.out.row HV.out (by have := HQE.out; have := HQL.out; have := HO2.out; omega) (by have := HQE.out; have := HQL.out; have := HO2.out; omega) HT6.out.out.blw.size ?_; intro v' W7 hown hg hnew; have HT7 : Hid (Two w1 W7 (O ++ (P.take (j + 1)).flatMap (encT c.T c.T.length)) v' 9 P.length (P.map strV) _) := Lib.hid (by rw [HTK.out, ← List.append_assoc, HOO.out]; exact HT6.out.growO hown hg hnew); obtain ⟨A10, c10, rfl⟩ := own_slice hown; clear hown hg hnew
                refine hK.out _ _ ?_
                clear hK K
                try simp only [Act.put, sIB, sC0, sCS]
                refine tkP 9 5 ?_ rfl (.inl ⟨by rfl, ?_⟩) ?_; rotate_left; focus (intro w' _; go_simp; (try with_reducible rfl))
                try simp only [sIB, sC0, sCS]
                refine wpAnyD_done (by kernel_rfl) ?_ _
                clear hHeld h
                have HLN : Hid (O2.length + (encT c.T c.T.length q).length = (O ++ (P.take (j + 1)).flatMap (encT c.T c.T.length)).length) := Lib.hid (by rw [HTK.out, ← List.append_assoc, HOO.out, List.length_append])
                go_wp2_with fail
                go_roundg (gk - 1)
                case measure => have := HJ.out; omega
                case rel => exact ⟨j + 1, by have := HJ.out; omega, by simp, by exact HT7.out⟩
            · have hje : j = P.length := by have := HJ.out; omega
              have hlt4 : ¬ (j : Int) < (P.length : Int) := by omega
              rw [hje, List.take_length, HPD.out] at HT
              rw [hje, List.take_length, HPD.out]
              obtain ⟨O3, hO3⟩ : ∃ O3, O ++ encP c.T c.cut R = O3 := ⟨_, rfl⟩
              rw [hO3] at HT ⊢
              have HO3 := Lib.hid hO3
              have HO3L : Hid (O3.length ≤ 128000000) := Lib.hid (by rw [← hO3, List.length_append]; have := HOL.out; have := HRL.out; have := encP_le c.T c.cut R; omega)
              have HN0 := Lib.hid (OutIs.new0 (e2 := 5) HT.out.out)
              clear hje hO3 HFL s0 s1
              have hlt5 : ¬ ((P.length : Nat) : Int) < (P.length : Int) := by omega
              have HT9 := HN0
              clear HN0 HT
              have HBW : Hid (Below W.heap.size W (W.alloc (.cells #[] 5))) := Lib.hid ((Below.refl W.heap.size W).alloc (Nat.le_refl _) _)
              go_upto_region 15 with fail
              generalize W.alloc (.cells #[] 5) = W9 at *
              have s4 := (HIN.out W9 HT9.out.out.blw).n4
              obtain ⟨b6, o6, hA6, hc6⟩ := (HIN.out W9 HT9.out.out.blw).voc.xs.at m HMX.out
              have e6 : W9.cell? ⟨b6, o6 + m * 2, none⟩ = some (.int .i64 sid) := by rw [← HSID.out]; exact hc6 0 _ rfl
              rw [hA6] at s4
              obtain ⟨b1', o1', hA', e0⟩ := (HSL.out W9 (HIN.out _ HT9.out.out.blw).blw).at k hlt2
              replace e0 : W9.cell? ⟨b1', o1' + k, none⟩ = some (.int .i64 x) := by rw [← HXE.out]; exact e0
              injection hA' with hA'
              injection hA' with hA' hA2'
              subst hA'
              subst hA2'
              clear hA6 hc6
              generalize W.heap.size = g9 at *
              refine wp_region_D (Ds := [12]) (S := fun V => V.cell? ⟨bx, 4, none⟩ = some (.slice (some ⟨b6, o6, none⟩) c.X.length r.c5) ∧ V.cell? ⟨b1, o1 + k, none⟩ = some (.int .i64 x) ∧ V.cell? ⟨b6, o6 + m * 2, none⟩ = some (.int .i64 sid)) (by kernel_rfl) (by exact ⟨s4, e0, e6⟩) (fun hHeld => ?_)
              (replace HT9 := Lib.hid HT9.out.drew); clear s4 e0 e6; generalize W9.drew = W10 at *
              refine tkP 0 61 ?_ rfl (.inl ⟨by rfl, ?_⟩) ?_; rotate_left; focus (intro w' _; go_simp; (try with_reducible rfl))
              try simp only [sIB, sC0, sCS]
              refine tkP 1 62 ?_ rfl (.inl ⟨by rfl, ?_⟩) ?_; rotate_left; focus (intro w' _; go_simp; (try with_reducible rfl))
              try simp only [sIB, sC0, sCS]
              refine tkP 3 64 ?_ rfl (.inl ⟨by rfl, ?_⟩) ?_; rotate_left; focus (intro w' _; go_simp; (try with_reducible rfl))
              try simp only [sIB, sC0, sCS]
              refine tkP 4 65 ?_ rfl (.inl ⟨by rfl, ?_⟩) ?_; rotate_left; focus (intro w' _; go_simp; (try with_reducible rfl))
              try simp only [sIB, sC0, sCS]
              refine tkP 5 66 ?_ rfl (.inl ⟨by rfl, ?_⟩) ?_; rotate_left; focus (intro w' _; go_simp; (try with_reducible rfl))
              try simp only [sIB, sC0, sCS]
              refine wpAnyD_two (i := 2) (j := 6) (by kernel_rfl) rfl rfl (by rfl) (by rfl) (fun K hK => ?_) (fun K hK => ?_)
              ·
                go_simp
                refine hK.out _ _ hHeld (fun hHeld => ?_)
                clear hK K
                try simp only [Act.put, sIB, sC0, sCS]
                refine wpAnyD_one (i := 6) (by kernel_rfl) rfl (by rfl) (fun K hK => ?_)
                go_simp
                refine hK.out _ _ hHeld (fun hHeld => ?_)
                clear hK K
                try simp only [Act.put, sIB, sC0, sCS]
                refine tkP 7 68 ?_ rfl (.inl ⟨by rfl, ?_⟩) ?_; rotate_left; focus (intro w' _; go_simp; (try with_reducible rfl))
                try simp only [sIB, sC0, sCS]
                refine tkP 8 69 ?_ rfl (.inl ⟨by rfl, ?_⟩) ?_; rotate_left; focus (intro w' _; go_simp; (try with_reducible rfl))
                try simp only [sIB, sC0, sCS]
                refine tkP 9 70 ?_ rfl (.inl ⟨by rfl, ?_⟩) ?_; rotate_left; focus (intro w' _; go_simp; (try with_reducible rfl))
                try simp only [sIB, sC0, sCS]
                refine wpAnyD_one (i := 10) (by kernel_rfl) rfl (by rfl) (fun K hK => ?_)
                go_simp
                refine hK.out _ _ hHeld (fun hHeld => ?_)
                clear hK K
                try simp only [Act.put, sIB, sC0, sCS]
                refine wpAnyD_one (i := 11) (by kernel_rfl) rfl (by rfl) (fun K hK => ?_)
                go_simp; have hbl := (Below.refl W10.heap.size W10).alloc (Nat.le_refl _) (.cells #[.int .i64 sid] 3); have h := And.intro (below_cell hbl (Nat.le_refl _) hHeld.1) (And.intro (below_cell hbl (Nat.le_refl _) hHeld.2.1) (below_cell hbl (Nat.le_refl _) hHeld.2.2)); clear hbl
                refine hK.out _ _ h (fun hHeld => ?_)
                clear hK K
                try simp only [Act.put, sIB, sC0, sCS]
                refine wpAnyD_last (D := 12) (by decide) (by kernel_rfl) rfl (by rfl) (fun K hK => ?_)
                refine wp_app_one w1.heap.size 57 3 (.int .i64 0) 1 8 [_] 1 _ _ rfl Tryz.underlying57 info_int5 rfl (by decide) _ _ _ rfl _ rfl rfl rfl (by intro u hu; simp at hu; subst hu; rfl) HT9.out.out.row (by have := HO3L.out; omega) (by have := HO3L.out; omega) HT9.out.out.blw.size ?_; intro v' W11 hown hg hnew; have HT11 := Lib.hid (HT9.out.growO (L' := [sid]) hown hg hnew); obtain ⟨A12, c12, rfl⟩ := own_slice hown; clear hown hg hnew
                refine hK.out _ _ ?_
                clear hK K
                try simp only [Act.put, sIB, sC0, sCS]
                refine tkP 13 5 ?_ rfl (.inl ⟨by rfl, ?_⟩) ?_; rotate_left; focus (intro w' _; go_simp; (try with_reducible rfl))
                try simp only [sIB, sC0, sCS]
                refine wpAnyD_done (by kernel_rfl) ?_ _
                clear hHeld h
                go_wp2_with fail
                go_roundg (G0 - 1)
                case measure => have := HK.out; omega
                case rel => exact ⟨k + 1, O3 ++ [sid], [], by have := HK.out; omega, by simp, by have h9 := HPR.out.mark hlt2 HXE.out HX0.out; rw [HO3.out, HXS.out] at h9; exact h9, by simp, by exact HT11.out⟩
              ·
                go_simp
                refine hK.out _ _ hHeld (fun hHeld => ?_)
                clear hK K
                try simp only [Act.put, sIB, sC0, sCS]
                refine tkP 7 68 ?_ rfl (.inl ⟨by rfl, ?_⟩) ?_; rotate_left; focus (intro w' _; go_simp; (try with_reducible rfl))
                try simp only [sIB, sC0, sCS]
                refine wpAnyD_one (i := 2) (by kernel_rfl) rfl (by rfl) (fun K hK => ?_)
                go_simp
                refine hK.out _ _ hHeld (fun hHeld => ?_)
                clear hK K
                try simp only [Act.put, sIB, sC0, sCS]
                refine tkP 8 69 ?_ rfl (.inl ⟨by rfl, ?_⟩) ?_; rotate_left; focus (intro w' _; go_simp; (try with_reducible rfl))
                try simp only [sIB, sC0, sCS]
                refine tkP 9 70 ?_ rfl (.inl ⟨by rfl, ?_⟩) ?_; rotate_left; focus (intro w' _; go_simp; (try with_reducible rfl))
                try simp only [sIB, sC0, sCS]
                refine wpAnyD_one (i := 10) (by kernel_rfl) rfl (by rfl) (fun K hK => ?_)
                go_simp
                refine hK.out _ _ hHeld (fun hHeld => ?_)
                clear hK K
                try simp only [Act.put, sIB, sC0, sCS]
                refine wpAnyD_one (i := 11) (by kernel_rfl) rfl (by rfl) (fun K hK => ?_)
                go_simp; have hbl := (Below.refl W10.heap.size W10).alloc (Nat.le_refl _) (.cells #[.int .i64 sid] 3); have h := And.intro (below_cell hbl (Nat.le_refl _) hHeld.1) (And.intro (below_cell hbl (Nat.le_refl _) hHeld.2.1) (below_cell hbl (Nat.le_refl _) hHeld.2.2)); clear hbl
                refine hK.out _ _ h (fun hHeld => ?_)
                clear hK K
                try simp only [Act.put, sIB, sC0, sCS]
                refine wpAnyD_last (D := 12) (by decide) (by kernel_rfl) rfl (by rfl) (fun K hK => ?_)
                refine wp_app_one w1.heap.size 57 3 (.int .i64 0) 1 8 [_] 1 _ _ rfl Tryz.underlying57 info_int5 rfl (by decide) _ _ _ rfl _ rfl rfl rfl (by intro u hu; simp at hu; subst hu; rfl) HT9.out.out.row (by have := HO3L.out; omega) (by have := HO3L.out; omega) HT9.out.out.blw.size ?_; intro v' W11 hown hg hnew; have HT11 := Lib.hid (HT9.out.growO (L' := [sid]) hown hg hnew); obtain ⟨A12, c12, rfl⟩ := own_slice hown; clear hown hg hnew
                refine hK.out _ _ ?_
                clear hK K
                try simp only [Act.put, sIB, sC0, sCS]
                refine tkP 13 5 ?_ rfl (.inl ⟨by rfl, ?_⟩) ?_; rotate_left; focus (intro w' _; go_simp; (try with_reducible rfl))
                try simp only [sIB, sC0, sCS]
                refine wpAnyD_done (by kernel_rfl) ?_ _
                clear hHeld h
                go_wp2_with fail
                go_roundg (G0 - 1)
                case measure => have := HK.out; omega
                case rel => exact ⟨k + 1, O3 ++ [sid], [], by have := HK.out; omega, by simp, by have h9 := HPR.out.mark hlt2 HXE.out HX0.out; rw [HO3.out, HXS.out] at h9; exact h9, by simp, by exact HT11.out⟩
        · have hke : k = items.length := by have := HN.out; omega
          have HKE := Lib.hid hke
          have p2 : ¬ (k : Int) < (N : Int) := by omega
          clear hke hby
          go_upto_region 8 with fail
          have s2 := (HIN.out W HTW.out.out.blw).n2
          have s3 := (HIN.out W HTW.out.out.blw).n3
          have HCV := Lib.hid (conv_own HTW.out.row)
          have HPP := Lib.hid (HP.out W R (HIN.out _ HTW.out.out.blw).voc HRL.out)
          have HPD : Hid ((pcs c.cut R).flatMap (encT c.T c.T.length) = encP c.T c.cut R) := Lib.hid rfl
          have HPF := Lib.hid (pcs_flatten c.cut R)
          have HPL : Hid ((pcs c.cut R).length ≤ 64000000) := Lib.hid (by have := length_pcs_le c.cut R; have := HRL.out; omega)
          generalize pcs c.cut R = P at *
          have HO := Lib.hid HTW.out.out
          clear HTW
          go_wp2_with (first | (rw [HCV.out]) | (go_at_call 70; refine HPP.out.mono ?_; rintro e W8 ⟨v8, rfl, hb, hrow⟩; (have HT8 := Lib.hid (HO.out.two hb hrow)); obtain ⟨A8, c8, rfl⟩ := own_slice hrow; clear hb hrow s2 s3))
          clear HPP HCV HO
          go_loopg [5, 9] P.length (fun n2 u i2 W => ∃ (j : Nat), j + n2 = P.length ∧ i2 = .int .i64 (j : Int) ∧ Two w1 W (O ++ (P.take j).flatMap (encT c.T c.T.length)) u 9 P.length (P.map strV) (.slice A8 P.length c8))
          case atStart => exact ⟨0, by omega, rfl, by simpa using HT8.out⟩
          case round =>
            obtain ⟨j, hj, rfl, htw⟩ := hrel
            clear HT8
            rename World => W
            rename Value => v
            obtain ⟨A6, c6, rfl⟩ := own_slice htw.out.row
            have HJ := Lib.hid hj
            have HT := Lib.hid htw
            clear hj htw
            have HFL : Hid (((P.take j).flatMap (encT c.T c.T.length)).length ≤ 64000000) := Lib.hid (by have h1 := flat_le c.T P j; rw [HPF.out] at h1; have := HRL.out; omega)
            have s0 := (HIN.out W HT.out.out.blw).n0
            have s1 := (HIN.out W HT.out.out.blw).n1
            by_cases hlt3 : j < P.length
            · have r0 : (0 : Int) ≤ (j : Int) := by omega
              have r1 : (j : Int) < (P.length : Int) := by omega
              have w3 : IntKind.i64.wrap ((j : Int) + 1) = (j : Int) + 1 := IntWalk.i64_in _ (by have := HPL.out; omega)
              obtain ⟨bb, ob, hAA, cb⟩ := (own_sl1 (enc := strV) HT.out.row).at j hlt3
              have HTK : Hid ((P.take (j + 1)).flatMap (encT c.T c.T.length) = (P.take j).flatMap (encT c.T c.T.length) ++ encT c.T c.T.length P[j]) := Lib.hid (by rw [take_snoc hlt3, List.flatMap_append]; simp)
              have hql : P[j].length ≤ 64000000 := by have h1 := pc_le P j hlt3; rw [HPF.out] at h1; have := HRL.out; omega
              have HQL := Lib.hid hql
              have HQE := Lib.hid (encT_le c.T P[j])
              generalize P[j] = q at *
              subst hAA
              unfold strV at cb
              generalize hOO : O ++ (P.take j).flatMap (encT c.T c.T.length) = O2 at *
              have HOO := Lib.hid hOO
              have HO2 : Hid (O2.length ≤ 128000000) := Lib.hid (by rw [← hOO, List.length_append]; have := HOL.out; have := HFL.out; omega)
              clear hOO hql
              go_upto_region 12 with fail
              refine wp_region_D (Ds := [8]) (S := fun V => V.cell? ⟨bx, 0, none⟩ = some (.slice r.A1 c.T.length r.c1) ∧ V.cell? ⟨bx, 1, none⟩ = some (.slice r.A2 (mrgsT c.T).length r.c2) ∧ V.cell? ⟨bb, ob + j, none⟩ = some (.string (bs q))) (by kernel_rfl) (by exact ⟨s0, s1, cb⟩) (fun hHeld => ?_)
              (replace HT := Lib.hid HT.out.drew); clear s0 s1 cb; generalize W.drew = W5 at *
              refine tkP 0 47 ?_ rfl (.inl ⟨by rfl, ?_⟩) ?_; rotate_left; focus (intro w' _; go_simp; (try with_reducible rfl))
              try simp only [sIB, sC0, sCS]
              refine tkP 1 48 ?_ rfl (.inl ⟨by rfl, ?_⟩) ?_; rotate_left; focus (intro w' _; go_simp; (try with_reducible rfl))
              try simp only [sIB, sC0, sCS]
              refine tkP 3 50 ?_ rfl (.inl ⟨by rfl, ?_⟩) ?_; rotate_left; focus (intro w' _; go_simp; (try with_reducible rfl))
              try simp only [sIB, sC0, sCS]
              refine tkP 4 51 ?_ rfl (.inl ⟨by rfl, ?_⟩) ?_; rotate_left; focus (intro w' _; go_simp; (try with_reducible rfl))
              try simp only [sIB, sC0, sCS]
              refine tkP 5 52 ?_ rfl (.inl ⟨by rfl, ?_⟩) ?_; rotate_left; focus (intro w' _; go_simp; (try with_reducible rfl))
              try simp only [sIB, sC0, sCS]
              refine wpAnyD_two (i := 2) (j := 6) (by kernel_rfl) rfl rfl (by rfl) (by rfl) (fun K hK => ?_) (fun K hK => ?_)
              ·
                go_simp
                refine hK.out _ _ hHeld (fun hHeld => ?_)
                clear hK K
                try simp only [Act.put, sIB, sC0, sCS]
                refine wpAnyD_one (i := 6) (by kernel_rfl) rfl (by rfl) (fun K hK => ?_)
                go_simp
                refine hK.out _ _ hHeld (fun hHeld => ?_)
                clear hK K
                try simp only [Act.put, sIB, sC0, sCS]
                refine wpAnyD_one (i := 7) (by kernel_rfl) rfl (by rfl) (fun K hK => ?_)
                go_simp; refine (HE.out _ q (HIN.out _ HT.out.out.blw).voc HQL.out).mono ?_; rintro e W6 ⟨⟨v6, rfl, A9, c9, rfl, hv⟩, hb'⟩; have HT6 := Lib.hid (HT.out.below hb'); have HV := Lib.hid hv; have h := And.intro (below_cell hb' (Nat.le_refl _) hHeld.1) (And.intro (below_cell hb' (Nat.le_refl _) hHeld.2.1) (below_cell hb' (Nat.le_refl _) hHeld.2.2)); clear hb' hv; go_simp
                refine hK.out _ _ h (fun hHeld => ?_)
                clear hK K
                try simp only [Act.put, sIB, sC0, sCS]
                refine wpAnyD_last (D := 8) (by decide) (by kernel_rfl) rfl (by rfl) (fun K hK => ?_)
                refine wp_app_row2 w1.heap.size W5.heap.size 57 3 (.int .i64 0) 1 8 _ _ rfl Tryz.underlying57 info_int5 rfl (by decide) _ _ _ rfl _ _ _ rfl (by intro u hu; obtain ⟨y, _, hy⟩ := List.mem_map.1 hu; subst hy; rfl) HT6.out.out.row HV.out (by have := HQE.out; have := HQL.out; have := HO2.out; omega) (by have := HQE.out; have := HQL.out; have := HO2.out; omega) HT6.out.out.blw.size ?_; intro v' W7 hown hg hnew; have HT7 : Hid (Two w1 W7 (O ++ (P.take (j + 1)).flatMap (encT c.T c.T.length)) v' 9 P.length (P.map strV) _) := Lib.hid (by rw [HTK.out, ← List.append_assoc, HOO.out]; exact HT6.out.growO hown hg hnew); obtain ⟨A10, c10, rfl⟩ := own_slice hown; clear hown hg hnew
                refine hK.out _ _ ?_
                clear hK K
                try simp only [Act.put, sIB, sC0, sCS]
                refine tkP 9 5 ?_ rfl (.inl ⟨by rfl, ?_⟩) ?_; rotate_left; focus (intro w' _; go_simp; (try with_reducible rfl))
                try simp only [sIB, sC0, sCS]
                refine wpAnyD_done (by kernel_rfl) ?_ _
                clear hHeld h
                have HLN : Hid (O2.length + (encT c.T c.T.length q).length = (O ++ (P.take (j + 1)).flatMap (encT c.T c.T.length)).length) := Lib.hid (by rw [HTK.out, ← List.append_assoc, HOO.out, List.length_append])
                go_wp2_with fail
                go_roundg (gk - 1)
                case measure => have := HJ.out; omega
                case rel => exact ⟨j + 1, by have := HJ.out; omega, by simp, by exact HT7.out⟩
              ·
                go_simp
                refine hK.out _ _ hHeld (fun hHeld => ?_)
                clear hK K
                try simp only [Act.put, sIB, sC0, sCS]
                refine wpAnyD_one (i := 2) (by kernel_rfl) rfl (by rfl) (fun K hK => ?_)
                go_simp
                refine hK.out _ _ hHeld (fun hHeld => ?_)
                clear hK K
                try simp only [Act.put, sIB, sC0, sCS]
                refine wpAnyD_one (i := 7) (by kernel_rfl) rfl (by rfl) (fun K hK => ?_)
                go_simp; refine (HE.out _ q (HIN.out _ HT.out.out.blw).voc HQL.out).mono ?_; rintro e W6 ⟨⟨v6, rfl, A9, c9, rfl, hv⟩, hb'⟩; have HT6 := Lib.hid (HT.out.below hb'); have HV := Lib.hid hv; have h := And.intro (below_cell hb' (Nat.le_refl _) hHeld.1) (And.intro (below_cell hb' (Nat.le_refl _) hHeld.2.1) (below_cell hb' (Nat.le_refl _) hHeld.2.2)); clear hb' hv; go_simp
                refine hK.out _ _ h (fun hHeld => ?_)
                clear hK K
                try simp only [Act.put, sIB, sC0, sCS]
                refine wpAnyD_last (D := 8) (by decide) (by kernel_rfl) rfl (by rfl) (fun K hK => ?_)
                refine wp_app_row2 w1.heap.size W5.heap.size 57 3 (.int .i64 0) 1 8 _ _ rfl Tryz.underlying57 info_int5 rfl (by decide) _ _ _ rfl _ _ _ rfl (by intro u hu; obtain ⟨y, _, hy⟩ := List.mem_map.1 hu; subst hy; rfl) HT6.out.out.row HV.out (by have := HQE.out; have := HQL.out; have := HO2.out; omega) (by have := HQE.out; have := HQL.out; have := HO2.out; omega) HT6.out.out.blw.size ?_; intro v' W7 hown hg hnew; have HT7 : Hid (Two w1 W7 (O ++ (P.take (j + 1)).flatMap (encT c.T c.T.length)) v' 9 P.length (P.map strV) _) := Lib.hid (by rw [HTK.out, ← List.append_assoc, HOO.out]; exact HT6.out.growO hown hg hnew); obtain ⟨A10, c10, rfl⟩ := own_slice hown; clear hown hg hnew
                refine hK.out _ _ ?_
                clear hK K
                try simp only [Act.put, sIB, sC0, sCS]
                refine tkP 9 5 ?_ rfl (.inl ⟨by rfl, ?_⟩) ?_; rotate_left; focus (intro w' _; go_simp; (try with_reducible rfl))
                try simp only [sIB, sC0, sCS]
                refine wpAnyD_done (by kernel_rfl) ?_ _
                clear hHeld h
                have HLN : Hid (O2.length + (encT c.T c.T.length q).length = (O ++ (P.take (j + 1)).flatMap (encT c.T c.T.length)).length) := Lib.hid (by rw [HTK.out, ← List.append_assoc, HOO.out, List.length_append])
                go_wp2_with fail
                go_roundg (gk - 1)
                case measure => have := HJ.out; omega
                case rel => exact ⟨j + 1, by have := HJ.out; omega, by simp, by exact HT7.out⟩
            · have hje : j = P.length := by have := HJ.out; omega
              have hlt4 : ¬ (j : Int) < (P.length : Int) := by omega
              rw [hje, List.take_length, HPD.out] at HT
              rw [hje, List.take_length, HPD.out]
              obtain ⟨O3, hO3⟩ : ∃ O3, O ++ encP c.T c.cut R = O3 := ⟨_, rfl⟩
              rw [hO3] at HT ⊢
              have HO3 := Lib.hid hO3
              have HO3L : Hid (O3.length ≤ 128000000) := Lib.hid (by rw [← hO3, List.length_append]; have := HOL.out; have := HRL.out; have := encP_le c.T c.cut R; omega)
              have HN0 := Lib.hid (OutIs.new0 (e2 := 5) HT.out.out)
              clear hje hO3 HFL s0 s1
              have hlt5 : ¬ ((P.length : Nat) : Int) < (P.length : Int) := by omega
              go_wp2_with fail
              go_roundg (G0 - 1)
              case measure => have := HK.out; omega
              case rel => exact ⟨k + 1, O3, [], by have := HK.out; omega, by simp, by have h9 := HPR.out.last HKE.out; rw [HO3.out] at h9; exact h9, by simp, by exact HN0.out⟩
    · have hke : k = items.length + 1 := by have := HK.out; have := HN.out; omega
      have p1 : ¬ (k : Int) ≤ (N : Int) := by omega
      have HE := Lib.hid (HPR.out.2 hke)
      have HO := Lib.hid HTW.out.out
      rw [HE.out] at HO
      rw [HE.out]
      clear hke HTW HOL
      go_wp2_with fail
      go_ret
      have hz := HB.out.blw.size
      exact ⟨⟨_, rfl, _, _, rfl, own_less HO.out.row hz⟩, HB.out.blw.trans (HO.out.blw.mono hz)⟩
end
theorem itmsV_ok (T : List Ent) (xs : List (Int × List UInt8)) (ids : List Int) : ∀ x ∈ itmsV T xs ids, x < 256 ∧ (¬ 0 ≤ x → (-1 - x).toNat < xs.length) := by
  intro x hx
  unfold itmsV at hx
  obtain ⟨y, _, hy⟩ := List.mem_flatMap.1 hx
  unfold itmV at hy
  split at hy
  · rename_i k hk
    simp at hy
    subst hy
    unfold fndI at hk
    rw [List.findIdx?_eq_some_iff_getElem] at hk
    obtain ⟨h1, _⟩ := hk
    exact ⟨by omega, fun _ => by omega⟩
  · have := bysI_lt _ x hy
    exact ⟨by omega, fun h => by omega⟩
theorem ints_cmp {L M : List Int} (hl : L.length = M.length) (h : ∀ j (h1 : j < L.length) (h2 : j < M.length), L[j] = M[j]) : L = M := List.ext_getElem hl h
section
variable {w W W' : World} {base b : Nat} {c : CaseP} {r : RVoc}
set_option maxHeartbeats 4000000 in
theorem rcanon_any (h : RVocIs w base c r) (ids : List Int) (A : Option Addr) (d : Nat) (hA : Sl1 w A (Value.int .i64) ids) (hlen : ids.length ≤ 1000000) (hall : ∀ x ∈ ids, ((fndI c.X x).isSome || hasT c.T x) = true) :
    Calls Tryz.prog 18 #[r.val' c, .slice A ids.length d] w fun e w' => e = .returned (.bool (canV c.T c.cut c.X ids)) ∧ Below w.heap.size w w' := by
  have HB := Lib.hid (RBox.new h)
  have HLEN := Lib.hid hlen
  have HSL : Hid (∀ V, Below w.heap.size w V → Sl1 V A (Value.int .i64) ids) := Lib.hid (fun V hV => hA.below hV (Nat.le_refl _))
  have HI : Hid (∀ V, RBox w V base c r w.heap.size → Calls Tryz.prog 50 #[.agg #[.slice r.A1 c.T.length r.c1, .slice r.A2 (mrgsT c.T).length r.c2, .slice r.A3 (someC c.cs).length r.c3, .slice r.A4 (someJ c.js).length r.c4, .slice r.A5 c.X.length r.c5], .slice A ids.length d] V fun e w' => (∃ v, e = .returned v ∧ IntsIs w' V.heap.size v (itmsV c.T c.X ids)) ∧ Below V.heap.size V w') := Lib.hid (fun V hV => ritems_any hV.voc ids A d (hA.below hV.blw (Nat.le_refl _)) hlen hall)
  have HIL : Hid ((itmsV c.T c.X ids).length ≤ 64000000) := Lib.hid (by have h1 := itmsV_len c.ok c.X ids; omega)
  have HE : Hid (∀ V B dd, RVocIs V base c r → Sl1 V B (Value.int .i64) (itmsV c.T c.X ids) → Calls Tryz.prog 39 #[.agg #[.slice r.A1 c.T.length r.c1, .slice r.A2 (mrgsT c.T).length r.c2, .slice r.A3 (someC c.cs).length r.c3, .slice r.A4 (someJ c.js).length r.c4, .slice r.A5 c.X.length r.c5], .slice B (itmsV c.T c.X ids).length dd] V fun e w' => (∃ v, e = .returned v ∧ IntsIs w' V.heap.size v (encI c.T c.cut c.X (itmsV c.T c.X ids) [])) ∧ Below V.heap.size V w') := Lib.hid (fun V B dd hV hB => rencode_any hV _ B dd hB HIL.out (itmsV_ok _ _ _))
  have HEL : Hid ((encI c.T c.cut c.X (itmsV c.T c.X ids) []).length ≤ 64000000) := Lib.hid (by have h1 := encI_le c.T c.cut c.X (itmsV c.T c.X ids) []; have := HIL.out; simp at h1; omega)
  clear h hall hlen hA
  unfold RVoc.val' canV
  generalize itmsV c.T c.X ids = M at *
  generalize encI c.T c.cut c.X M [] = L at *
  go_enter Tryz.func18, Tryz.ntmps18
  go_upto_region 1 with fail
  obtain ⟨bx, hbx⟩ : ∃ b, w.heap.size = b := ⟨_, rfl⟩
  have HBX : Hid (w.heap.size = bx) := Lib.hid hbx
  rw [hbx] at HB HI ⊢
  clear hbx
  generalize w.alloc (.cells #[.slice r.A1 c.T.length r.c1, .slice r.A2 (mrgsT c.T).length r.c2, .slice r.A3 (someC c.cs).length r.c3, .slice r.A4 (someJ c.js).length r.c4, .slice r.A5 c.X.length r.c5] 38) = W at *
  have s0 := HB.out.n0
  have s1 := HB.out.n1
  have s2 := HB.out.n2
  have s3 := HB.out.n3
  have s4 := HB.out.n4
  obtain ⟨N, hN⟩ : ∃ N, ids.length = N := ⟨_, rfl⟩
  have HN := Lib.hid hN
  rw [hN] at HLEN HI ⊢
  clear hN
  refine wp_region_D (Ds := []) (S := fun V => V.cell? ⟨bx, 0, none⟩ = some (.slice r.A1 c.T.length r.c1) ∧ V.cell? ⟨bx, 1, none⟩ = some (.slice r.A2 (mrgsT c.T).length r.c2) ∧ V.cell? ⟨bx, 2, none⟩ = some (.slice r.A3 (someC c.cs).length r.c3) ∧ V.cell? ⟨bx, 3, none⟩ = some (.slice r.A4 (someJ c.js).length r.c4) ∧ V.cell? ⟨bx, 4, none⟩ = some (.slice r.A5 c.X.length r.c5)) (by kernel_rfl) (by exact ⟨s0, s1, s2, s3, s4⟩) (fun hHeld => ?_)
  (replace HB := Lib.hid HB.out.drew); clear s0 s1 s2 s3 s4; generalize W.drew = W1 at *
  refine tkP 2 9 ?_ rfl (.inl ⟨by rfl, ?_⟩) ?_; rotate_left; focus (intro w' _; go_simp; (try with_reducible rfl))
  try simp only [sIB, sC0, sCS]
  refine tkD 0 7 ?_ rfl hHeld (.inl ⟨by rfl, ?_⟩) ?_; rotate_left; focus (intro w' hSw; (try dsimp only at hSw); go_simp; (try with_reducible rfl))
  try simp only [sIB, sC0, sCS]
  refine tkD 1 8 ?_ rfl hHeld (.inl ⟨by rfl, ?_⟩) ?_; rotate_left; focus (intro w' hSw; (try dsimp only at hSw); go_simp; (try with_reducible rfl))
  try simp only [sIB, sC0, sCS]
  refine wpAnyD_one (i := 3) (by kernel_rfl) rfl (by rfl) (fun K hK => ?_)
  go_simp; refine (HI.out _ HB.out).mono ?_; rintro e W2 ⟨⟨v, rfl, B, dd, rfl, hv⟩, hb'⟩; have HB2 := Lib.hid (HB.out.below hb'); have HV := Lib.hid (own_sl1 hv); have h := (⟨HB2.out.n0, HB2.out.n1, HB2.out.n2, HB2.out.n3, HB2.out.n4⟩ : _ ∧ _ ∧ _ ∧ _ ∧ _); clear hb' hv; go_simp
  refine hK.out _ _ h (fun hHeld => ?_)
  clear hK K
  try simp only [Act.put, sIB, sC0, sCS]
  refine wpAnyD_one (i := 4) (by kernel_rfl) rfl (by rfl) (fun K hK => ?_)
  go_simp; (try refine (HE.out _ B dd HB2.out.voc HV.out).mono ?_); rintro e W3 ⟨⟨v, rfl, B3, d3, rfl, hv⟩, hb'⟩; have HB3 := Lib.hid (HB2.out.below hb'); have HV3 := Lib.hid (own_sl1 hv); have h := (⟨HB3.out.n0, HB3.out.n1, HB3.out.n2, HB3.out.n3, HB3.out.n4⟩ : _ ∧ _ ∧ _ ∧ _ ∧ _); clear hb' hv; go_simp
  refine hK.out _ _ h (fun hHeld => ?_)
  clear hK K
  try simp only [Act.put, sIB, sC0, sCS]
  refine tkP 5 5 ?_ rfl (.inl ⟨by rfl, ?_⟩) ?_; rotate_left; focus (intro w' _; go_simp; (try with_reducible rfl))
  try simp only [sIB, sC0, sCS]
  refine wpAnyD_done (by kernel_rfl) ?_ _
  clear h hHeld
  have HSI := Lib.hid (HSL.out _ HB3.out.blw)
  clear HI HE HIL HSL HB HB2 HV
  by_cases hne : L.length = N
  · have HNE := Lib.hid hne
    rw [hne] at HEL ⊢
    clear hne
    go_wp2_with fail
    go_loopg [6] N (fun n i W => ∃ (k : Nat), k + n = N ∧ i = .int .i64 (k : Int) ∧ (∀ j (h1 : j < L.length) (h2 : j < ids.length), j < k → L[j] = ids[j]) ∧ ∃ m, W = W3.drewN m)
    case atStart => exact ⟨0, by omega, rfl, fun j _ _ h => by omega, 0, rfl⟩
    case round =>
      obtain ⟨k, hk, rfl, heq, m, hW⟩ := hrel
      have HEQ := Lib.hid heq
      clear heq
      by_cases hlt : k < N
      · have p0 : (0 : Int) ≤ (k : Int) := by omega
        have p1 : (k : Int) < (N : Int) := by omega
        have w2 : IntKind.i64.wrap ((k : Int) + 1) = (k : Int) + 1 := IntWalk.i64_in _ (by have := HEL.out; omega)
        have hk1 : k < L.length := by rw [HNE.out]; exact hlt
        have hk2 : k < ids.length := by rw [HN.out]; exact hlt
        obtain ⟨b1, o1, hA1, e1⟩ := HV3.out.at k hk1
        obtain ⟨b2, o2, hA2, e2⟩ := HSI.out.at k hk2
        obtain ⟨x, hx⟩ : ∃ x, L[k] = x := ⟨_, rfl⟩
        obtain ⟨y, hy⟩ : ∃ y, ids[k] = y := ⟨_, rfl⟩
        have HX := Lib.hid hx
        have HY := Lib.hid hy
        subst hW
        replace e1 : (W3.drewN m).cell? ⟨b1, o1 + k, none⟩ = some (.int .i64 x) := by rw [← hx]; exact e1
        replace e2 : (W3.drewN m).cell? ⟨b2, o2 + k, none⟩ = some (.int .i64 y) := by rw [← hy]; exact e2
        subst hA1
        subst hA2
        clear hx hy
        by_cases hxy : x = y
        · rw [← hxy] at e2 HY
          clear hxy
          go_upto_region 7 with fail
          refine wp_region_held_drew (S := fun V => V.cell? ⟨b1, o1 + k, none⟩ = some (.int .i64 x) ∧ V.cell? ⟨b2, o2 + k, none⟩ = some (.int .i64 x)) (by kernel_rfl) (by exact And.intro e1 e2) (fun hHeld => ?_)
          refine tkH 0 23 ?_ rfl hHeld (.inl ⟨by rfl, ?_⟩) ?_; rotate_left; focus (intro w' hSw; (try dsimp only at hSw); go_simp; (try with_reducible rfl))
          try simp only [sIB, sC0, sCS]
          refine tkH 1 24 ?_ rfl hHeld (.inl ⟨by rfl, ?_⟩) ?_; rotate_left; focus (intro w' hSw; (try dsimp only at hSw); go_simp; (try with_reducible rfl))
          try simp only [sIB, sC0, sCS]
          refine tkH 2 25 ?_ rfl hHeld (.inl ⟨by rfl, ?_⟩) ?_; rotate_left; focus (intro w' hSw; (try dsimp only at hSw); go_simp; (try with_reducible rfl))
          try simp only [sIB, sC0, sCS]
          refine tkH 3 26 ?_ rfl hHeld (.inl ⟨by rfl, ?_⟩) ?_; rotate_left; focus (intro w' hSw; (try dsimp only at hSw); go_simp; (try with_reducible rfl))
          try simp only [sIB, sC0, sCS]
          refine tkH 4 27 ?_ rfl hHeld (.inl ⟨by rfl, ?_⟩) ?_; rotate_left; focus (intro w' hSw; (try dsimp only at hSw); go_simp; (try with_reducible rfl))
          try simp only [sIB, sC0, sCS]
          refine tkH 5 28 ?_ rfl hHeld (.inl ⟨by rfl, ?_⟩) ?_; rotate_left; focus (intro w' hSw; (try dsimp only at hSw); go_simp; (try with_reducible rfl))
          try simp only [sIB, sC0, sCS]
          refine tkH 6 29 ?_ rfl hHeld (.inl ⟨by rfl, ?_⟩) ?_; rotate_left; focus (intro w' hSw; (try dsimp only at hSw); go_simp; (try with_reducible rfl))
          try simp only [sIB, sC0, sCS]
          refine tkH 7 30 ?_ rfl hHeld (.inl ⟨by rfl, ?_⟩) ?_; rotate_left; focus (intro w' hSw; (try dsimp only at hSw); go_simp; (try with_reducible rfl))
          try simp only [sIB, sC0, sCS]
          refine tkH 8 31 ?_ rfl hHeld (.inl ⟨by rfl, ?_⟩) ?_; rotate_left; focus (intro w' hSw; (try dsimp only at hSw); go_simp; (try with_reducible rfl))
          try simp only [sIB, sC0, sCS]
          refine wpAnyH_done (by kernel_rfl) ?_ _
          clear hHeld e1 e2
          go_wp2_with fail
          go_roundg (gk - 1)
          case measure => omega
          case rel => exact ⟨k + 1, by omega, by simp, fun j h1 h2 hj => by
            by_cases e : j = k
            · subst e; rw [HX.out, HY.out]
            · exact HEQ.out j h1 h2 (by omega), m + 1, rfl⟩
        · go_upto_region 7 with fail
          refine wp_region_held_drew (S := fun V => V.cell? ⟨b1, o1 + k, none⟩ = some (.int .i64 x) ∧ V.cell? ⟨b2, o2 + k, none⟩ = some (.int .i64 y)) (by kernel_rfl) (by exact And.intro e1 e2) (fun hHeld => ?_)
          refine tkH 0 23 ?_ rfl hHeld (.inl ⟨by rfl, ?_⟩) ?_; rotate_left; focus (intro w' hSw; (try dsimp only at hSw); go_simp; (try with_reducible rfl))
          try simp only [sIB, sC0, sCS]
          refine tkH 1 24 ?_ rfl hHeld (.inl ⟨by rfl, ?_⟩) ?_; rotate_left; focus (intro w' hSw; (try dsimp only at hSw); go_simp; (try with_reducible rfl))
          try simp only [sIB, sC0, sCS]
          refine tkH 2 25 ?_ rfl hHeld (.inl ⟨by rfl, ?_⟩) ?_; rotate_left; focus (intro w' hSw; (try dsimp only at hSw); go_simp; (try with_reducible rfl))
          try simp only [sIB, sC0, sCS]
          refine tkH 3 26 ?_ rfl hHeld (.inl ⟨by rfl, ?_⟩) ?_; rotate_left; focus (intro w' hSw; (try dsimp only at hSw); go_simp; (try with_reducible rfl))
          try simp only [sIB, sC0, sCS]
          refine tkH 4 27 ?_ rfl hHeld (.inl ⟨by rfl, ?_⟩) ?_; rotate_left; focus (intro w' hSw; (try dsimp only at hSw); go_simp; (try with_reducible rfl))
          try simp only [sIB, sC0, sCS]
          refine tkH 5 28 ?_ rfl hHeld (.inl ⟨by rfl, ?_⟩) ?_; rotate_left; focus (intro w' hSw; (try dsimp only at hSw); go_simp; (try with_reducible rfl))
          try simp only [sIB, sC0, sCS]
          refine tkH 6 29 ?_ rfl hHeld (.inl ⟨by rfl, ?_⟩) ?_; rotate_left; focus (intro w' hSw; (try dsimp only at hSw); go_simp; (try with_reducible rfl))
          try simp only [sIB, sC0, sCS]
          refine tkH 7 30 ?_ rfl hHeld (.inl ⟨by rfl, ?_⟩) ?_; rotate_left; focus (intro w' hSw; (try dsimp only at hSw); go_simp; (try with_reducible rfl))
          try simp only [sIB, sC0, sCS]
          refine tkH 8 31 ?_ rfl hHeld (.inl ⟨by rfl, ?_⟩) ?_; rotate_left; focus (intro w' hSw; (try dsimp only at hSw); go_simp; (try with_reducible rfl))
          try simp only [sIB, sC0, sCS]
          refine wpAnyH_done (by kernel_rfl) ?_ _
          clear hHeld e1 e2
          go_wp2_with fail
          go_ret
          refine ⟨?_, HB3.out.blw.trans ((below_drewN (Below.refl _ _) (m + 1)).mono HB3.out.blw.size)⟩
          have : ¬ L = ids := fun e => hxy (by
            have h1 := HX.out
            subst e
            exact h1.symm.trans HY.out)
          simp [this]
      · have hke : k = N := by omega
        have hlt' : ¬ ((k : Nat) : Int) < (N : Int) := by omega
        have HKE := Lib.hid hke
        subst hW
        clear hke
        go_wp2_with fail
        go_ret
        refine ⟨?_, HB3.out.blw.trans ((below_drewN (Below.refl _ _) m).mono HB3.out.blw.size)⟩
        have : L = ids := ints_cmp (by rw [HNE.out, HN.out]) (fun j h1 h2 => HEQ.out j h1 h2 (by rw [HKE.out]; rw [HN.out] at h2; exact h2))
        simp [this]
  · have hne' : ¬ (L.length : Int) = (N : Int) := by omega
    have HNE := Lib.hid hne
    clear hne
    go_wp2_with fail
    go_ret
    refine ⟨?_, HB3.out.blw⟩
    have : ¬ L = ids := fun e => HNE.out (by rw [e, HN.out])
    simp [this]
end
def fstV (T : List Ent) (cut : Nat → Nat → Bool) (xs : List (Int × List UInt8)) (ids : List Int) : Option Nat := (List.range ids.length).find? (fun i => badV T cut xs ids i)
def fstI (o : Option Nat) : Int := match o with | none => -1 | some k => (k : Int)
theorem fstV_none {T : List Ent} {cut : Nat → Nat → Bool} {xs : List (Int × List UInt8)} {ids : List Int} (h : ∀ j, j < ids.length → badV T cut xs ids j = false) : fstI (fstV T cut xs ids) = -1 := by
  unfold fstV
  rw [List.find?_eq_none.2]
  · rfl
  · intro x hx
    rw [List.mem_range] at hx
    simp [h x hx]
theorem fstV_some {T : List Ent} {cut : Nat → Nat → Bool} {xs : List (Int × List UInt8)} {ids : List Int} {k : Nat} (hk : k < ids.length) (h : ∀ j, j < k → badV T cut xs ids j = false) (h2 : badV T cut xs ids k = true) : fstI (fstV T cut xs ids) = (k : Int) := by
  unfold fstV
  rw [(List.find?_range_eq_some (i := k)).2 ⟨h2, by simpa using hk, fun j hj => by simp [h j hj]⟩]
  rfl
section
variable {w W W' : World} {base b : Nat} {c : CaseP} {r : RVoc}
theorem Sl1.take' {α : Type} {w : World} {A : Option Addr} {enc : α → Value} {xs : List α} (h : Sl1 w A enc xs) (k : Nat) : Sl1 w A enc (xs.take k) := by
  intro i x hx
  rw [List.getElem?_take] at hx
  split at hx
  · exact h i x hx
  · simp at hx
set_option maxHeartbeats 4000000 in
theorem rfirst_any (h : RVocIs w base c r) (ids : List Int) (A : Option Addr) (d : Nat) (hA : Sl1 w A (Value.int .i64) ids) (hlen : ids.length ≤ 1000000) (hcap : ids.length ≤ d) :
    Calls Tryz.prog 25 #[r.val' c, .slice A ids.length d] w fun e w' => e = .returned (.int .i64 (fstI (fstV c.T c.cut c.X ids))) ∧ Below w.heap.size w w' := by
  have HB := Lib.hid (RBox.new h)
  have HLEN := Lib.hid hlen
  have HCAP := Lib.hid hcap
  have HSL : Hid (∀ V, Below w.heap.size w V → Sl1 V A (Value.int .i64) ids) := Lib.hid (fun V hV => hA.below hV (Nat.le_refl _))
  have HH : Hid (∀ V x, RVocIs V base c r → Calls Tryz.prog 17 #[.agg #[.slice r.A1 c.T.length r.c1, .slice r.A2 (mrgsT c.T).length r.c2, .slice r.A3 (someC c.cs).length r.c3, .slice r.A4 (someJ c.js).length r.c4, .slice r.A5 c.X.length r.c5], .int .i64 x] V fun e w' => e = .returned (.bool ((fndI c.X x).isSome || hasT c.T x)) ∧ Below V.heap.size V w') := Lib.hid (fun V x hV => rhas10_any hV x)
  have HC : Hid (∀ V k, RBox w V base c r w.heap.size → k ≤ ids.length → (∀ x ∈ ids.take k, ((fndI c.X x).isSome || hasT c.T x) = true) → Calls Tryz.prog 18 #[.agg #[.slice r.A1 c.T.length r.c1, .slice r.A2 (mrgsT c.T).length r.c2, .slice r.A3 (someC c.cs).length r.c3, .slice r.A4 (someJ c.js).length r.c4, .slice r.A5 c.X.length r.c5], .slice A k d] V fun e w' => e = .returned (.bool (canV c.T c.cut c.X (ids.take k))) ∧ Below V.heap.size V w') := Lib.hid (fun V k hV hk hall => by
    have e : (ids.take k).length = k := by rw [List.length_take]; omega
    have := rcanon_any hV.voc (ids.take k) A d ((hA.below hV.blw (Nat.le_refl _)).take' k) (by omega) hall
    rw [e] at this
    exact this)
  clear h hlen hA hcap
  unfold RVoc.val'
  go_enter Tryz.func25, Tryz.ntmps25
  go_wp2_with fail
  obtain ⟨bx, hbx⟩ : ∃ b, w.heap.size = b := ⟨_, rfl⟩
  have HBX : Hid (w.heap.size = bx) := Lib.hid hbx
  rw [hbx] at HB HC ⊢
  clear hbx
  generalize w.alloc (.cells #[.slice r.A1 c.T.length r.c1, .slice r.A2 (mrgsT c.T).length r.c2, .slice r.A3 (someC c.cs).length r.c3, .slice r.A4 (someJ c.js).length r.c4, .slice r.A5 c.X.length r.c5] 38) = W1 at *
  obtain ⟨N, hN⟩ : ∃ N, ids.length = N := ⟨_, rfl⟩
  have HN := Lib.hid hN
  rw [hN] at HLEN HC HCAP ⊢
  clear hN
  go_loopg [5] N (fun n i W => ∃ (k : Nat), k + n = N ∧ i = .int .i64 (k : Int) ∧ (∀ j, j < k → badV c.T c.cut c.X ids j = false) ∧ RBox w W base c r bx)
  case atStart => exact ⟨0, by omega, rfl, fun j h => by omega, HB.out⟩
  case round =>
    obtain ⟨k, hk, rfl, hno, hbox⟩ := hrel
    rename World => W
    have HNO := Lib.hid hno
    clear HB
    have HB := Lib.hid hbox
    have s0 := HB.out.n0
    have s1 := HB.out.n1
    have s2 := HB.out.n2
    have s3 := HB.out.n3
    have s4 := HB.out.n4
    clear hno hbox
    by_cases hlt : k < N
    · have p0 : (0 : Int) ≤ (k : Int) := by omega
      have p1 : (k : Int) < (N : Int) := by omega
      have w2 : IntKind.i64.wrap ((k : Int) + 1) = (k : Int) + 1 := IntWalk.i64_in _ (by have := HLEN.out; omega)
      have p2 : (0 : Int) ≤ (k : Int) + 1 := by omega
      have p3 : ((k : Int) + 1).toNat = k + 1 := by omega
      have p4 : (k : Int) + 1 ≤ (d : Int) := by have := HCAP.out; omega
      have hk2 : k < ids.length := by rw [HN.out]; exact hlt
      obtain ⟨b2, o2, hA2, e2⟩ := (HSL.out W HB.out.blw).at k hk2
      obtain ⟨x, hx⟩ : ∃ x, ids[k] = x := ⟨_, rfl⟩
      have HX : Hid (ids.getD k 0 = x) := Lib.hid (by rw [← hx, List.getD_eq_getElem?_getD, List.getElem?_eq_getElem hk2]; rfl)
      have HTK : Hid (ids.take (k + 1) = ids.take k ++ [x]) := Lib.hid (by rw [take_snoc hk2, hx])
      replace e2 : W.cell? ⟨b2, o2 + k, none⟩ = some (.int .i64 x) := by rw [← hx]; exact e2
      obtain ⟨q1, hq1⟩ : ∃ q, ((fndI c.X x).isSome || hasT c.T x) = q := ⟨_, rfl⟩
      have HQ1 := Lib.hid hq1
      have HSC : Hid (∀ V, Below W.heap.size W V → RBox w V base c r bx → V.cell? ⟨bx, 0, none⟩ = some (.slice r.A1 c.T.length r.c1) ∧ V.cell? ⟨bx, 1, none⟩ = some (.slice r.A2 (mrgsT c.T).length r.c2) ∧ V.cell? ⟨bx, 2, none⟩ = some (.slice r.A3 (someC c.cs).length r.c3) ∧ V.cell? ⟨bx, 3, none⟩ = some (.slice r.A4 (someJ c.js).length r.c4) ∧ V.cell? ⟨bx, 4, none⟩ = some (.slice r.A5 c.X.length r.c5) ∧ V.cell? ⟨b2, o2 + k, none⟩ = some (.int .i64 x)) := Lib.hid (fun V hV hb => ⟨hb.n0, hb.n1, hb.n2, hb.n3, hb.n4, below_cell hV (Nat.le_refl _) e2⟩)
      have HBB : Hid (Below W.heap.size W W) := Lib.hid (Below.refl _ _)
      have HHX := Lib.hid (fun V (hV : RVocIs V base c r) => HH.out V x hV)
      rw [hq1] at HHX
      subst hA2
      clear hx hk2 hq1 s0 s1 s2 s3 s4 e2
      cases q1 with
      | false =>
        have HBD : Hid (badV c.T c.cut c.X ids k = true) := Lib.hid (by unfold badV; rw [HX.out, HQ1.out]; rfl)
        clear HC
        go_upto_region 4 with fail
        refine wp_region_D (Ds := []) (S := fun V => V.cell? ⟨bx, 0, none⟩ = some (.slice r.A1 c.T.length r.c1) ∧ V.cell? ⟨bx, 1, none⟩ = some (.slice r.A2 (mrgsT c.T).length r.c2) ∧ V.cell? ⟨bx, 2, none⟩ = some (.slice r.A3 (someC c.cs).length r.c3) ∧ V.cell? ⟨bx, 3, none⟩ = some (.slice r.A4 (someJ c.js).length r.c4) ∧ V.cell? ⟨bx, 4, none⟩ = some (.slice r.A5 c.X.length r.c5) ∧ V.cell? ⟨b2, o2 + k, none⟩ = some (.int .i64 x)) (by kernel_rfl) (by exact HSC.out _ HBB.out.drew HB.out.drew) (fun hHeld => ?_)
        (replace HBB := Lib.hid HBB.out.drew); (replace HB := Lib.hid HB.out.drew); generalize W.drew = W5 at *
        refine tkP 1 13 ?_ rfl (.inl ⟨by rfl, ?_⟩) ?_; rotate_left; focus (intro w' _; go_simp; (try with_reducible rfl))
        try simp only [sIB, sC0, sCS]
        refine tkP 2 14 ?_ rfl (.inl ⟨by rfl, ?_⟩) ?_; rotate_left; focus (intro w' _; go_simp; (try with_reducible rfl))
        try simp only [sIB, sC0, sCS]
        refine tkP 3 15 ?_ rfl (.inl ⟨by rfl, ?_⟩) ?_; rotate_left; focus (intro w' _; go_simp; (try with_reducible rfl))
        try simp only [sIB, sC0, sCS]
        refine tkD 0 12 ?_ rfl hHeld (.inl ⟨by rfl, ?_⟩) ?_; rotate_left; focus (intro w' hSw; (try dsimp only at hSw); go_simp; (try with_reducible rfl))
        try simp only [sIB, sC0, sCS]
        refine tkD 4 16 ?_ rfl hHeld (.inl ⟨by rfl, ?_⟩) ?_; rotate_left; focus (intro w' hSw; (try dsimp only at hSw); go_simp; (try with_reducible rfl))
        try simp only [sIB, sC0, sCS]
        refine wpAnyD_one (i := 5) (by kernel_rfl) rfl (by rfl) (fun K hK => ?_)
        go_simp; refine (HHX.out _ HB.out.voc).mono ?_; rintro e W6 ⟨rfl, hb'⟩; (replace HBB := Lib.hid (HBB.out.trans (hb'.mono HBB.out.size))); (replace HB := Lib.hid (HB.out.below hb')); have h := HSC.out _ HBB.out HB.out; clear hb'; go_simp
        refine hK.out _ _ h (fun hHeld => ?_)
        clear hK K
        try simp only [Act.put, sIB, sC0, sCS]
        refine tkP 6 18 ?_ rfl (.inl ⟨by rfl, ?_⟩) ?_; rotate_left; focus (intro w' _; go_simp; (try with_reducible rfl))
        try simp only [sIB, sC0, sCS]
        refine tkP 7 19 ?_ rfl (.inl ⟨by rfl, ?_⟩) ?_; rotate_left; focus (intro w' _; go_simp; (try with_reducible rfl))
        try simp only [sIB, sC0, sCS]
        refine tkD 8 20 undef rfl hHeld (.inr ⟨by rfl, rfl⟩) ?_; try simp only [sIB, sC0, sCS]
        refine tkD 9 21 undef rfl hHeld (.inr ⟨by rfl, rfl⟩) ?_; try simp only [sIB, sC0, sCS]
        refine tkD 10 22 undef rfl hHeld (.inr ⟨by rfl, rfl⟩) ?_; try simp only [sIB, sC0, sCS]
        refine tkD 11 23 undef rfl hHeld (.inr ⟨by rfl, rfl⟩) ?_; try simp only [sIB, sC0, sCS]
        refine tkD 12 24 undef rfl hHeld (.inr ⟨by rfl, rfl⟩) ?_; try simp only [sIB, sC0, sCS]
        refine tkD 13 25 undef rfl hHeld (.inr ⟨by rfl, rfl⟩) ?_; try simp only [sIB, sC0, sCS]
        refine tkD 14 26 undef rfl hHeld (.inr ⟨by rfl, rfl⟩) ?_; try simp only [sIB, sC0, sCS]
        refine tkP 15 27 ?_ rfl (.inl ⟨by rfl, ?_⟩) ?_; rotate_left; focus (intro w' _; go_simp; (try with_reducible rfl))
        try simp only [sIB, sC0, sCS]
        refine wpAnyD_done (by kernel_rfl) ?_ _
        clear h hHeld
        go_wp2_with fail
        go_ret
        exact ⟨by rw [fstV_some (by rw [HN.out]; exact hlt) HNO.out HBD.out]; rfl, HB.out.blw⟩
      | true =>
        have HAL : Hid (∀ x ∈ ids.take (k + 1), ((fndI c.X x).isSome || hasT c.T x) = true) := Lib.hid (by
          intro y hy
          rw [HTK.out] at hy
          rcases List.mem_append.1 hy with hy | hy
          · obtain ⟨j, hj, rfl⟩ := List.getElem_of_mem hy
            rw [List.length_take] at hj
            have h1 := HNO.out j (by omega)
            unfold badV at h1
            rw [List.getElem_take]
            rw [List.getD_eq_getElem?_getD, List.getElem?_eq_getElem (show j < ids.length by omega)] at h1
            simp only [Option.getD_some, Bool.or_eq_false_iff, Bool.not_eq_false'] at h1
            exact h1.1
          · simp at hy; subst hy; exact HQ1.out)
        obtain ⟨q2, hq2⟩ : ∃ q, canV c.T c.cut c.X (ids.take (k + 1)) = q := ⟨_, rfl⟩
        have HCX := Lib.hid (fun V (hV : RBox w V base c r bx) => HC.out V (k + 1) hV (by omega) HAL.out)
        have HBD : Hid (badV c.T c.cut c.X ids k = !q2) := Lib.hid (by unfold badV; rw [HX.out, HQ1.out, hq2]; rfl)
        rw [hq2] at HCX
        clear hq2 HC
        cases q2 <;> (
          go_upto_region 4 with fail
          refine wp_region_D (Ds := []) (S := fun V => V.cell? ⟨bx, 0, none⟩ = some (.slice r.A1 c.T.length r.c1) ∧ V.cell? ⟨bx, 1, none⟩ = some (.slice r.A2 (mrgsT c.T).length r.c2) ∧ V.cell? ⟨bx, 2, none⟩ = some (.slice r.A3 (someC c.cs).length r.c3) ∧ V.cell? ⟨bx, 3, none⟩ = some (.slice r.A4 (someJ c.js).length r.c4) ∧ V.cell? ⟨bx, 4, none⟩ = some (.slice r.A5 c.X.length r.c5) ∧ V.cell? ⟨b2, o2 + k, none⟩ = some (.int .i64 x)) (by kernel_rfl) (by exact HSC.out _ HBB.out.drew HB.out.drew) (fun hHeld => ?_)
          (replace HBB := Lib.hid HBB.out.drew); (replace HB := Lib.hid HB.out.drew); generalize W.drew = W5 at *
          refine tkP 1 13 ?_ rfl (.inl ⟨by rfl, ?_⟩) ?_; rotate_left; focus (intro w' _; go_simp; (try with_reducible rfl))
          try simp only [sIB, sC0, sCS]
          refine tkP 2 14 ?_ rfl (.inl ⟨by rfl, ?_⟩) ?_; rotate_left; focus (intro w' _; go_simp; (try with_reducible rfl))
          try simp only [sIB, sC0, sCS]
          refine tkP 3 15 ?_ rfl (.inl ⟨by rfl, ?_⟩) ?_; rotate_left; focus (intro w' _; go_simp; (try with_reducible rfl))
          try simp only [sIB, sC0, sCS]
          refine tkD 0 12 ?_ rfl hHeld (.inl ⟨by rfl, ?_⟩) ?_; rotate_left; focus (intro w' hSw; (try dsimp only at hSw); go_simp; (try with_reducible rfl))
          try simp only [sIB, sC0, sCS]
          refine tkD 4 16 ?_ rfl hHeld (.inl ⟨by rfl, ?_⟩) ?_; rotate_left; focus (intro w' hSw; (try dsimp only at hSw); go_simp; (try with_reducible rfl))
          try simp only [sIB, sC0, sCS]
          refine wpAnyD_one (i := 5) (by kernel_rfl) rfl (by rfl) (fun K hK => ?_)
          go_simp; refine (HHX.out _ HB.out.voc).mono ?_; rintro e W6 ⟨rfl, hb'⟩; (replace HBB := Lib.hid (HBB.out.trans (hb'.mono HBB.out.size))); (replace HB := Lib.hid (HB.out.below hb')); have h := HSC.out _ HBB.out HB.out; clear hb'; go_simp
          refine hK.out _ _ h (fun hHeld => ?_)
          clear hK K
          try simp only [Act.put, sIB, sC0, sCS]
          refine tkP 6 18 ?_ rfl (.inl ⟨by rfl, ?_⟩) ?_; rotate_left; focus (intro w' _; go_simp; (try with_reducible rfl))
          try simp only [sIB, sC0, sCS]
          refine tkP 7 19 ?_ rfl (.inl ⟨by rfl, ?_⟩) ?_; rotate_left; focus (intro w' _; go_simp; (try with_reducible rfl))
          try simp only [sIB, sC0, sCS]
          refine tkP 9 21 ?_ rfl (.inl ⟨by rfl, ?_⟩) ?_; rotate_left; focus (intro w' _; go_simp; (try with_reducible rfl))
          try simp only [sIB, sC0, sCS]
          refine tkP 10 22 ?_ rfl (.inl ⟨by rfl, ?_⟩) ?_; rotate_left; focus (intro w' _; go_simp; (try with_reducible rfl))
          try simp only [sIB, sC0, sCS]
          refine tkP 11 23 ?_ rfl (.inl ⟨by rfl, ?_⟩) ?_; rotate_left; focus (intro w' _; go_simp; (try with_reducible rfl))
          try simp only [sIB, sC0, sCS]
          refine tkD 8 20 ?_ rfl hHeld (.inl ⟨by rfl, ?_⟩) ?_; rotate_left; focus (intro w' hSw; (try dsimp only at hSw); go_simp; (try with_reducible rfl))
          try simp only [sIB, sC0, sCS]
          refine tkD 12 24 ?_ rfl hHeld (.inl ⟨by rfl, ?_⟩) ?_; rotate_left; focus (intro w' hSw; (try dsimp only at hSw); go_simp; (try with_reducible rfl))
          try simp only [sIB, sC0, sCS]
          refine wpAnyD_one (i := 13) (by kernel_rfl) rfl (by rfl) (fun K hK => ?_)
          go_simp; refine (HCX.out _ HB.out).mono ?_; rintro e W7 ⟨rfl, hb'⟩; (replace HBB := Lib.hid (HBB.out.trans (hb'.mono HBB.out.size))); (replace HB := Lib.hid (HB.out.below hb')); have h := HSC.out _ HBB.out HB.out; clear hb'; go_simp
          refine hK.out _ _ h (fun hHeld => ?_)
          clear hK K
          try simp only [Act.put, sIB, sC0, sCS]
          refine tkP 14 26 ?_ rfl (.inl ⟨by rfl, ?_⟩) ?_; rotate_left; focus (intro w' _; go_simp; (try with_reducible rfl))
          try simp only [sIB, sC0, sCS]
          refine tkP 15 27 ?_ rfl (.inl ⟨by rfl, ?_⟩) ?_; rotate_left; focus (intro w' _; go_simp; (try with_reducible rfl))
          try simp only [sIB, sC0, sCS]
          refine wpAnyD_done (by kernel_rfl) ?_ _
          clear h hHeld
          go_wp2_with fail
          first
            | (go_ret; exact ⟨by rw [fstV_some (by rw [HN.out]; exact hlt) HNO.out HBD.out]; rfl, HB.out.blw⟩)
            | (go_roundg (gk - 1)
               case measure => omega
               case rel => exact ⟨k + 1, by omega, by simp, fun j hj => by
                 by_cases e : j = k
                 · subst e; exact HBD.out
                 · exact HNO.out j (by omega), HB.out⟩)
          )
    · have hke : k = N := by omega
      have hlt' : ¬ ((k : Nat) : Int) < (N : Int) := by omega
      have HKE := Lib.hid hke
      clear hke s0 s1 s2 s3 s4
      go_wp2_with fail
      go_ret
      exact ⟨by rw [fstV_none (fun j hj => HNO.out j (by rw [HKE.out, ← HN.out]; exact hj))]; rfl, HB.out.blw⟩
end
structure FindIs (w W : World) (base : Nat) (p : VocP) (r : Nat) (dn st se us : Int) (k : Nat) : Prop where
  voc : VocQ W base p (.slice (some ⟨r, 0, none⟩) p.T.length p.T.length) dn st se us
  row : W.ownsRow r 4 1 (.slice (some ⟨r, 0, none⟩) p.T.length p.T.length) p.T.length ((p.al k).map Value.bool)
  keep : Keep (fun x => x = p.vb) w W
  lt : w.heap.size ≤ r
  vlt : p.vb < w.heap.size
section
variable {w W W' : World} {base r k : Nat} {p : VocP} {dn st se us : Int} {l : Value}
theorem FindIs.below (h : FindIs w W base p r dn st se us k) (hb : Below W.heap.size W W') : FindIs w W' base p r dn st se us k :=
  ⟨h.voc.below hb (Nat.le_refl _), own_below h.row hb (Nat.le_refl _), h.keep.trans (G := fun _ => False) ⟨hb.os, hb.tape, hb.output, hb.size, fun x hx _ => hb.block x hx⟩ (fun x hx => hx.elim), h.lt, h.vlt⟩
theorem FindIs.put (h : FindIs w W base p r dn st se us k) (x : Bool) (hx : aloneB p.T (Cof p.s.cs) (Jof p.s.js) (k : Int) = x) : FindIs w (W.setCell ⟨r, k, none⟩ (.bool x)) base p r dn st se us (k + 1) := by
  have hne : ¬ r ≤ p.vb := by have := h.lt; have := h.vlt; omega
  have hkp : Keep (fun x => x = r) W (W.setCell ⟨r, k, none⟩ (.bool x)) := (Keep.refl (fun x => x = r) W).setCell (p := ⟨r, k, none⟩) (.inl rfl) _
  refine ⟨h.voc.keep hkp (fun y hy e => hne (e ▸ hy)), ?_, h.keep.trans hkp (fun y hy => .inr (by rw [hy]; exact h.lt)), h.lt, h.vlt⟩
  have := own_set h.row k (.bool x)
  unfold VocP.al at this ⊢
  rw [aloneL_succ, hx, List.map_set]
  exact this
theorem FindIs.drew (h : FindIs w W base p r dn st se us k) : FindIs w W.drew base p r dn st se us k := h.below ⟨rfl, rfl, rfl, Nat.le_refl _, fun _ _ => rfl⟩
theorem FindIs.cellAt (h : FindIs w W base p r dn st se us k) (j : Nat) (hj : j < p.T.length) : (∃ u, W.cell? ⟨r, j, none⟩ = some (.bool u)) ∧ W.frozen? ⟨r, j, none⟩ = false := by
  obtain ⟨g, cap, e, _, _, hc⟩ := own_open h.row (by omega)
  injection e with e _ _
  injection e with e
  injection e with e _
  subst e
  have hl : j < (p.al k).length := by unfold VocP.al; rw [aloneL_len]; exact hj
  obtain ⟨h1, h2⟩ := hc j (.bool (p.al k)[j]) (by simp [hl])
  exact ⟨⟨_, h1⟩, h2⟩
set_option maxHeartbeats 1000000 in
theorem find_any (h : VocQ w base p l dn st se us) (hT : OkT p.T) :
    Calls Tryz.prog 95 #[.pointer (some ⟨p.vb, 0, none⟩)] w fun e w' => e = .returned (.tuple #[]) ∧ ∃ r, FindIs w w' base p r dn st se us p.T.length := by
  have HZ := Lib.hid (vsize_any h)
  have hsm := hT.small
  have c12 := h.cellL
  obtain ⟨W1, hmk, hrow, hbl⟩ := make_bools p.T.length w (by omega)
  have d12 := below_cell hbl (Nat.le_refl _) c12
  have z12 := (h.below hbl (Nat.le_refl _)).froz 12
  rw [← aloneL_zero p.T (Cof p.s.cs) (Jof p.s.js)] at hrow
  have HF : Hid (FindIs w (W1.setCell ⟨p.vb, 12, none⟩ (.slice (some ⟨w.heap.size, 0, none⟩) p.T.length p.T.length)) base p w.heap.size dn st se us 0) := Lib.hid (by
    have hv := h.below hbl (Nat.le_refl _)
    refine ⟨hv.putL _, ?_, ?_, Nat.le_refl _, h.lt_size⟩
    · exact own_keep hrow ((Keep.refl (fun x => x = p.vb) W1).setCell (.inl rfl) _) (fun x hx => by
        simp only [Value.ownBlock, Option.some.injEq] at hx
        have := h.lt_size; omega)
    · exact (Keep.of_below hbl : Keep (fun x => x = p.vb) w W1).setCell (.inl rfl) _)
  have HT := Lib.hid hT
  have HSM := Lib.hid hsm
  clear hbl hrow h hT hsm
  go_enter Tryz.func95, Tryz.ntmps95
  go_upto_region 1 with (go_at_call 36; refine HZ.out.mono ?_; rintro e V1 ⟨rfl, rfl⟩)
  generalize V1.heap.size = r at *
  clear hmk c12 d12 z12
  generalize W1.setCell ⟨p.vb, 12, none⟩ (.slice (some ⟨r, 0, none⟩) p.T.length p.T.length) = W2 at *
  have c1 := HF.out.voc.cellL
  go_wp2_with fail
  clear c1
  obtain ⟨N, hN⟩ : ∃ N, p.T.length = N := ⟨_, rfl⟩
  have HN := Lib.hid hN
  rw [hN] at HSM HZ ⊢
  clear hN
  go_loopg [19] N (fun n i W => ∃ k : Nat, k + n = N ∧ i = .int .i64 (k : Int) ∧ FindIs V1 W base p r dn st se us k)
  case atStart => exact ⟨0, by omega, rfl, HF.out⟩
  case round =>
    obtain ⟨k, hk, rfl, hf⟩ := hrel
    clear HF
    rename World => W
    have HF := Lib.hid hf
    clear hf
    by_cases hlt : k < N
    · have hlt' : (k : Int) < (N : Int) := by omega
      have HB := Lib.hid (bytes_tab (k : Int) HF.out.voc.tab)
      have HE := Lib.hid (encode_any HF.out.voc.tab HT.out (bs (bytesT p.T (k : Int))) (by rw [bs_size]; have := bytesT_le HT.out (k : Int); omega))
      have c6 := HF.out.voc.cellT
      unfold strV at HB
      obtain ⟨z, hz⟩ : ∃ z, bs (bytesT p.T (k : Int)) = z := ⟨_, rfl⟩
      have HZS := Lib.hid (show z.data.toList = bytesT p.T (k : Int) by rw [← hz]; rfl)
      rw [hz] at HB HE
      clear hz
      go_upto_region 6 with (first | (go_at_call 97; refine HB.out.mono ?_; rintro e W1 ⟨rfl, rfl⟩) | (go_at_call 135; refine HE.out.mono ?_; rintro e W3 ⟨⟨v, rfl, hi⟩, hb⟩; (have HI := Lib.hid hi); (have HF3 := Lib.hid (HF.out.below hb)); clear hi hb))
      obtain ⟨E, hE⟩ : ∃ E, encT p.T p.T.length z.data.toList = E := ⟨_, rfl⟩
      have HEE := Lib.hid hE
      rw [hE] at HI
      clear hE HB HE
      have d12 := HF3.out.voc.cellL
      have d7 := HF3.out.voc.cellB
      rw [HN.out] at d12
      have q0 : (0 : Int) ≤ (k : Int) := by omega
      obtain ⟨A, c, rfl, hrow⟩ := HI.out
      have HROW := Lib.hid hrow
      clear hrow HI
      by_cases hE1 : E.length = 1
      · obtain ⟨e0, rfl⟩ := List.length_eq_one_iff.1 hE1
        obtain ⟨b, o, hA, hc⟩ := (own_sl1 HROW.out).at 0 (by simp)
        subst hA
        simp only [List.getElem_cons_zero, Nat.add_zero] at hc
        simp only [List.length_singleton, Int.cast_ofNat_Int] at *
        clear hE1
        by_cases he : e0 = (k : Int)
        · subst he
          obtain ⟨x, hx⟩ : ∃ x, decide ((pcs p.cut z.data.toList).length ≤ 1) = x := ⟨_, rfl⟩
          have HXW := Lib.hid hx
          have HX : Hid (aloneB p.T (Cof p.s.cs) (Jof p.s.js) (k : Int) = x) := Lib.hid (by
            unfold aloneB
            rw [← HZS.out, HEE.out, ← hx]
            simp [VocP.cut]
            rfl)
          clear hx
          have HC4 : Hid (W3.drew.cell? ⟨b, o, none⟩ = some (.int .i64 (k : Int))) := Lib.hid hc
          refine wp_region_G (D := 26) (S := fun V => V.cell? ⟨p.vb, 12, none⟩ = some (.slice (some ⟨r, 0, none⟩) N N) ∧ V.cell? ⟨p.vb, 7, none⟩ = some (.pointer (some ⟨p.bk, 0, none⟩)) ∧ V.cell? ⟨b, o, none⟩ = some (.int .i64 (k : Int))) (by kernel_rfl) (by exact And.intro d12 (And.intro d7 hc)) (fun hHeld => ?_)
          (replace HF3 := Lib.hid (HF3.out.drew)); (replace HX := HX); generalize W3.drew = W4 at *
          refine tkG 0 39 ?_ rfl hHeld (.inl ⟨by rfl, ?_⟩) ?_; rotate_left; focus (intro w' hSw; (try dsimp only at hSw); go_simp; (try with_reducible rfl))
          try simp only [sIB, sC0, sCS]
          refine tkG 1 40 ?_ rfl hHeld (.inl ⟨by rfl, ?_⟩) ?_; rotate_left; focus (intro w' hSw; (try dsimp only at hSw); go_simp; (try with_reducible rfl))
          try simp only [sIB, sC0, sCS]
          refine tkG 2 41 ?_ rfl hHeld (.inl ⟨by rfl, ?_⟩) ?_; rotate_left; focus (intro w' hSw; (try dsimp only at hSw); go_simp; (try with_reducible rfl))
          try simp only [sIB, sC0, sCS]
          refine tkG 3 42 ?_ rfl hHeld (.inl ⟨by rfl, ?_⟩) ?_; rotate_left; focus (intro w' hSw; (try dsimp only at hSw); go_simp; (try with_reducible rfl))
          try simp only [sIB, sC0, sCS]
          refine tkG 4 43 ?_ rfl hHeld (.inl ⟨by rfl, ?_⟩) ?_; rotate_left; focus (intro w' hSw; (try dsimp only at hSw); go_simp; (try with_reducible rfl))
          try simp only [sIB, sC0, sCS]
          refine tkG 5 44 ?_ rfl hHeld (.inl ⟨by rfl, ?_⟩) ?_; rotate_left; focus (intro w' hSw; (try dsimp only at hSw); go_simp; (try with_reducible rfl))
          try simp only [sIB, sC0, sCS]
          refine tkG 6 45 ?_ rfl hHeld (.inl ⟨by rfl, ?_⟩) ?_; rotate_left; focus (intro w' hSw; (try dsimp only at hSw); go_simp; (try with_reducible rfl))
          try simp only [sIB, sC0, sCS]
          refine tkG 7 46 ?_ rfl hHeld (.inl ⟨by rfl, ?_⟩) ?_; rotate_left; focus (intro w' hSw; (try dsimp only at hSw); go_simp; (try with_reducible rfl))
          try simp only [sIB, sC0, sCS]
          refine tkG 8 47 ?_ rfl hHeld (.inl ⟨by rfl, ?_⟩) ?_; rotate_left; focus (intro w' hSw; (try dsimp only at hSw); go_simp; (try with_reducible rfl))
          try simp only [sIB, sC0, sCS]
          refine tkG 9 48 ?_ rfl hHeld (.inl ⟨by rfl, ?_⟩) ?_; rotate_left; focus (intro w' hSw; (try dsimp only at hSw); go_simp; (try with_reducible rfl))
          try simp only [sIB, sC0, sCS]
          refine tkG 10 49 ?_ rfl hHeld (.inl ⟨by rfl, ?_⟩) ?_; rotate_left; focus (intro w' hSw; (try dsimp only at hSw); go_simp; (try with_reducible rfl))
          try simp only [sIB, sC0, sCS]
          refine tkG 11 50 ?_ rfl hHeld (.inl ⟨by rfl, ?_⟩) ?_; rotate_left; focus (intro w' hSw; (try dsimp only at hSw); go_simp; (try with_reducible rfl))
          try simp only [sIB, sC0, sCS]
          refine tkG 12 51 ?_ rfl hHeld (.inl ⟨by rfl, ?_⟩) ?_; rotate_left; focus (intro w' hSw; (try dsimp only at hSw); go_simp; (try with_reducible rfl))
          try simp only [sIB, sC0, sCS]
          refine tkG 13 52 ?_ rfl hHeld (.inl ⟨by rfl, ?_⟩) ?_; rotate_left; focus (intro w' hSw; (try dsimp only at hSw); go_simp; (try with_reducible rfl))
          try simp only [sIB, sC0, sCS]
          refine tkG 14 53 ?_ rfl hHeld (.inl ⟨by rfl, ?_⟩) ?_; rotate_left; focus (intro w' hSw; (try dsimp only at hSw); go_simp; (try with_reducible rfl))
          try simp only [sIB, sC0, sCS]
          refine tkG 15 54 ?_ rfl hHeld (.inl ⟨by rfl, ?_⟩) ?_; rotate_left; focus (intro w' hSw; (try dsimp only at hSw); go_simp; (try with_reducible rfl))
          try simp only [sIB, sC0, sCS]
          refine tkG 16 55 ?_ rfl hHeld (.inl ⟨by rfl, ?_⟩) ?_; rotate_left; focus (intro w' hSw; (try dsimp only at hSw); go_simp; (try with_reducible rfl))
          try simp only [sIB, sC0, sCS]
          refine tkG 17 56 ?_ rfl hHeld (.inl ⟨by rfl, ?_⟩) ?_; rotate_left; focus (intro w' hSw; (try dsimp only at hSw); go_simp; (try with_reducible rfl))
          try simp only [sIB, sC0, sCS]
          refine tkG 18 57 ?_ rfl hHeld (.inl ⟨by rfl, ?_⟩) ?_; rotate_left; focus (intro w' hSw; (try dsimp only at hSw); go_simp; (try with_reducible rfl))
          try simp only [sIB, sC0, sCS]
          refine tkG 19 58 ?_ rfl hHeld (.inl ⟨by rfl, ?_⟩) ?_; rotate_left; focus (intro w' hSw; (try dsimp only at hSw); go_simp; (try with_reducible rfl))
          try simp only [sIB, sC0, sCS]
          refine tkG 20 59 ?_ rfl hHeld (.inl ⟨by rfl, ?_⟩) ?_; rotate_left; focus (intro w' hSw; (try dsimp only at hSw); go_simp; (try with_reducible rfl))
          try simp only [sIB, sC0, sCS]
          refine tkG 21 60 ?_ rfl hHeld (.inl ⟨by rfl, ?_⟩) ?_; rotate_left; focus (intro w' hSw; (try dsimp only at hSw); go_simp; (try with_reducible rfl))
          try simp only [sIB, sC0, sCS]
          refine tkG 22 61 ?_ rfl hHeld (.inl ⟨by rfl, ?_⟩) ?_; rotate_left; focus (intro w' hSw; (try dsimp only at hSw); go_simp; (try with_reducible rfl))
          try simp only [sIB, sC0, sCS]
          refine wpAnyG_one (i := 23) (by kernel_rfl) rfl (by rfl) (fun K hK => ?_)
          go_simp; refine (whole_any (some ⟨p.bk, 0, none⟩) p.cut z W4 (.inr ⟨p.bk, Cof p.s.cs, Jof p.s.js, rfl, HF3.out.voc.bnd, rfl⟩) (by rw [← data_len, HZS.out]; have := bytesT_le HT.out (k : Int); omega)).mono ?_; rintro e W5 ⟨rfl, hb⟩; rw [HXW.out]; have HF5 := Lib.hid (HF3.out.below hb); have h := And.intro HF5.out.voc.cellL (And.intro HF5.out.voc.cellB (below_cell hb (Nat.le_refl _) HC4.out)); rw [HN.out] at h; go_simp
          refine hK.out _ _ h (fun hHeld => ?_)
          clear hK K
          try simp only [Act.put, sIB, sC0, sCS]
          refine tkG 24 63 ?_ rfl hHeld (.inl ⟨by rfl, ?_⟩) ?_; rotate_left; focus (intro w' hSw; (try dsimp only at hSw); go_simp; (try with_reducible rfl))
          try simp only [sIB, sC0, sCS]
          refine tkG 25 64 ?_ rfl hHeld (.inl ⟨by rfl, ?_⟩) ?_; rotate_left; focus (intro w' hSw; (try dsimp only at hSw); go_simp; (try with_reducible rfl))
          try simp only [sIB, sC0, sCS]
          refine wpAnyG_last (by kernel_rfl) rfl (by rfl) (fun K hK => ?_)
          obtain ⟨⟨u0, cc⟩, zz⟩ := HF5.out.cellAt k (by rw [HN.out]; exact hlt); go_simp; have HF6 := Lib.hid (HF5.out.put x HX.out); clear cc zz; generalize W5.setCell ⟨r, k, none⟩ (.bool x) = W6 at *
          refine hK.out _ _ ?_
          clear hK K
          try simp only [Act.put, sIB, sC0, sCS]
          refine wpAnyG_done (by kernel_rfl) ?_ _
          have ws : IntKind.i64.wrap ((k : Int) + 1) = (k : Int) + 1 := IntWalk.i64_in _ (by have := HSM.out; omega)
          go_wp2_with fail
          go_roundg (gk - 1)
          case measure => omega
          case rel => exact ⟨k + 1, by omega, by simp, HF6.out⟩
        · have HX : Hid (aloneB p.T (Cof p.s.cs) (Jof p.s.js) (k : Int) = false) := Lib.hid (by
            unfold aloneB
            rw [← HZS.out, HEE.out]
            simp [he])
          refine wp_region_G (D := 26) (S := fun V => V.cell? ⟨p.vb, 12, none⟩ = some (.slice (some ⟨r, 0, none⟩) N N) ∧ V.cell? ⟨b, o, none⟩ = some (.int .i64 e0)) (by kernel_rfl) (by exact And.intro d12 hc) (fun hHeld => ?_)
          (replace HF3 := Lib.hid (HF3.out.drew)); (replace HX := HX); generalize W3.drew = W4 at *
          refine tkG 0 39 ?_ rfl hHeld (.inl ⟨by rfl, ?_⟩) ?_; rotate_left; focus (intro w' hSw; (try dsimp only at hSw); go_simp; (try with_reducible rfl))
          try simp only [sIB, sC0, sCS]
          refine tkG 1 40 ?_ rfl hHeld (.inl ⟨by rfl, ?_⟩) ?_; rotate_left; focus (intro w' hSw; (try dsimp only at hSw); go_simp; (try with_reducible rfl))
          try simp only [sIB, sC0, sCS]
          refine tkG 2 41 ?_ rfl hHeld (.inl ⟨by rfl, ?_⟩) ?_; rotate_left; focus (intro w' hSw; (try dsimp only at hSw); go_simp; (try with_reducible rfl))
          try simp only [sIB, sC0, sCS]
          refine tkG 3 42 ?_ rfl hHeld (.inl ⟨by rfl, ?_⟩) ?_; rotate_left; focus (intro w' hSw; (try dsimp only at hSw); go_simp; (try with_reducible rfl))
          try simp only [sIB, sC0, sCS]
          refine tkG 4 43 ?_ rfl hHeld (.inl ⟨by rfl, ?_⟩) ?_; rotate_left; focus (intro w' hSw; (try dsimp only at hSw); go_simp; (try with_reducible rfl))
          try simp only [sIB, sC0, sCS]
          refine tkG 5 44 ?_ rfl hHeld (.inl ⟨by rfl, ?_⟩) ?_; rotate_left; focus (intro w' hSw; (try dsimp only at hSw); go_simp; (try with_reducible rfl))
          try simp only [sIB, sC0, sCS]
          refine tkG 6 45 ?_ rfl hHeld (.inl ⟨by rfl, ?_⟩) ?_; rotate_left; focus (intro w' hSw; (try dsimp only at hSw); go_simp; (try with_reducible rfl))
          try simp only [sIB, sC0, sCS]
          refine tkG 7 46 ?_ rfl hHeld (.inl ⟨by rfl, ?_⟩) ?_; rotate_left; focus (intro w' hSw; (try dsimp only at hSw); go_simp; (try with_reducible rfl))
          try simp only [sIB, sC0, sCS]
          refine tkG 8 47 ?_ rfl hHeld (.inl ⟨by rfl, ?_⟩) ?_; rotate_left; focus (intro w' hSw; (try dsimp only at hSw); go_simp; (try with_reducible rfl))
          try simp only [sIB, sC0, sCS]
          refine tkG 9 48 ?_ rfl hHeld (.inl ⟨by rfl, ?_⟩) ?_; rotate_left; focus (intro w' hSw; (try dsimp only at hSw); go_simp; (try with_reducible rfl))
          try simp only [sIB, sC0, sCS]
          refine tkG 10 49 ?_ rfl hHeld (.inl ⟨by rfl, ?_⟩) ?_; rotate_left; focus (intro w' hSw; (try dsimp only at hSw); go_simp; (try with_reducible rfl))
          try simp only [sIB, sC0, sCS]
          refine tkG 11 50 ?_ rfl hHeld (.inl ⟨by rfl, ?_⟩) ?_; rotate_left; focus (intro w' hSw; (try dsimp only at hSw); go_simp; (try with_reducible rfl))
          try simp only [sIB, sC0, sCS]
          refine tkG 12 51 ?_ rfl hHeld (.inl ⟨by rfl, ?_⟩) ?_; rotate_left; focus (intro w' hSw; (try dsimp only at hSw); go_simp; (try with_reducible rfl))
          try simp only [sIB, sC0, sCS]
          refine tkG 13 52 ?_ rfl hHeld (.inl ⟨by rfl, ?_⟩) ?_; rotate_left; focus (intro w' hSw; (try dsimp only at hSw); go_simp; (try with_reducible rfl))
          try simp only [sIB, sC0, sCS]
          refine tkG 14 53 ?_ rfl hHeld (.inl ⟨by rfl, ?_⟩) ?_; rotate_left; focus (intro w' hSw; (try dsimp only at hSw); go_simp; (rw [show (e0 == (k : Int)) = false from by simp [he]]); (try with_reducible rfl))
          try simp only [sIB, sC0, sCS]
          refine tkG 15 54 ?_ rfl hHeld (.inl ⟨by rfl, ?_⟩) ?_; rotate_left; focus (intro w' hSw; (try dsimp only at hSw); go_simp; (try with_reducible rfl))
          try simp only [sIB, sC0, sCS]
          refine tkG 16 55 ?_ rfl hHeld (.inl ⟨by rfl, ?_⟩) ?_; rotate_left; focus (intro w' hSw; (try dsimp only at hSw); go_simp; (try with_reducible rfl))
          try simp only [sIB, sC0, sCS]
          refine tkG 17 56 undef rfl hHeld (.inr ⟨by rfl, rfl⟩) ?_; try simp only [sIB, sC0, sCS]
          refine tkG 18 57 undef rfl hHeld (.inr ⟨by rfl, rfl⟩) ?_; try simp only [sIB, sC0, sCS]
          refine tkG 19 58 undef rfl hHeld (.inr ⟨by rfl, rfl⟩) ?_; try simp only [sIB, sC0, sCS]
          refine tkG 20 59 undef rfl hHeld (.inr ⟨by rfl, rfl⟩) ?_; try simp only [sIB, sC0, sCS]
          refine tkG 21 60 undef rfl hHeld (.inr ⟨by rfl, rfl⟩) ?_; try simp only [sIB, sC0, sCS]
          refine tkG 22 61 undef rfl hHeld (.inr ⟨by rfl, rfl⟩) ?_; try simp only [sIB, sC0, sCS]
          refine tkG 23 62 undef rfl hHeld (.inr ⟨by rfl, rfl⟩) ?_; try simp only [sIB, sC0, sCS]
          refine tkG 24 63 ?_ rfl hHeld (.inl ⟨by rfl, ?_⟩) ?_; rotate_left; focus (intro w' hSw; (try dsimp only at hSw); go_simp; (try with_reducible rfl))
          try simp only [sIB, sC0, sCS]
          refine tkG 25 64 ?_ rfl hHeld (.inl ⟨by rfl, ?_⟩) ?_; rotate_left; focus (intro w' hSw; (try dsimp only at hSw); go_simp; (try with_reducible rfl))
          try simp only [sIB, sC0, sCS]
          refine wpAnyG_last (by kernel_rfl) rfl (by rfl) (fun K hK => ?_)
          obtain ⟨⟨u0, cc⟩, zz⟩ := HF3.out.cellAt k (by rw [HN.out]; exact hlt); go_simp; have HF6 := Lib.hid (HF3.out.put false HX.out); clear cc zz; generalize W4.setCell ⟨r, k, none⟩ (.bool false) = W6 at *
          refine hK.out _ _ ?_
          clear hK K
          try simp only [Act.put, sIB, sC0, sCS]
          refine wpAnyG_done (by kernel_rfl) ?_ _
          have ws : IntKind.i64.wrap ((k : Int) + 1) = (k : Int) + 1 := IntWalk.i64_in _ (by have := HSM.out; omega)
          go_wp2_with fail
          go_roundg (gk - 1)
          case measure => omega
          case rel => exact ⟨k + 1, by omega, by simp, HF6.out⟩
      · have hE2 : (((E.length : Nat) : Int) == 1) = false := by simp; omega
        have HX : Hid (aloneB p.T (Cof p.s.cs) (Jof p.s.js) (k : Int) = false) := Lib.hid (by
            unfold aloneB
            rw [← HZS.out, HEE.out]
            have : E ≠ [(k : Int)] := fun e => hE1 (by rw [e]; rfl)
            simp [this])
        have hE3 : ¬ ((E.length : Nat) : Int) = 1 := by omega
        clear hE1
        generalize E.length = m at *
        refine wp_region_G (D := 26) (S := fun V => V.cell? ⟨p.vb, 12, none⟩ = some (.slice (some ⟨r, 0, none⟩) N N)) (by kernel_rfl) (by exact d12) (fun hHeld => ?_)
        (replace HF3 := Lib.hid (HF3.out.drew)); (replace HX := HX); generalize W3.drew = W4 at *
        refine tkG 0 39 ?_ rfl hHeld (.inl ⟨by rfl, ?_⟩) ?_; rotate_left; focus (intro w' hSw; (try dsimp only at hSw); go_simp; (try with_reducible rfl))
        try simp only [sIB, sC0, sCS]
        refine tkG 1 40 ?_ rfl hHeld (.inl ⟨by rfl, ?_⟩) ?_; rotate_left; focus (intro w' hSw; (try dsimp only at hSw); go_simp; (try with_reducible rfl))
        try simp only [sIB, sC0, sCS]
        refine tkG 2 41 ?_ rfl hHeld (.inl ⟨by rfl, ?_⟩) ?_; rotate_left; focus (intro w' hSw; (try dsimp only at hSw); go_simp; (try with_reducible rfl))
        try simp only [sIB, sC0, sCS]
        refine tkG 3 42 ?_ rfl hHeld (.inl ⟨by rfl, ?_⟩) ?_; rotate_left; focus (intro w' hSw; (try dsimp only at hSw); go_simp; (try with_reducible rfl))
        try simp only [sIB, sC0, sCS]
        refine tkG 4 43 ?_ rfl hHeld (.inl ⟨by rfl, ?_⟩) ?_; rotate_left; focus (intro w' hSw; (try dsimp only at hSw); go_simp; (try with_reducible rfl))
        try simp only [sIB, sC0, sCS]
        refine tkG 5 44 ?_ rfl hHeld (.inl ⟨by rfl, ?_⟩) ?_; rotate_left; focus (intro w' hSw; (try dsimp only at hSw); go_simp; (try with_reducible rfl))
        try simp only [sIB, sC0, sCS]
        refine tkG 6 45 ?_ rfl hHeld (.inl ⟨by rfl, ?_⟩) ?_; rotate_left; focus (intro w' hSw; (try dsimp only at hSw); go_simp; (try with_reducible rfl))
        try simp only [sIB, sC0, sCS]
        refine tkG 7 46 ?_ rfl hHeld (.inl ⟨by rfl, ?_⟩) ?_; rotate_left; focus (intro w' hSw; (try dsimp only at hSw); go_simp; (try with_reducible rfl))
        try simp only [sIB, sC0, sCS]
        refine tkG 8 47 ?_ rfl hHeld (.inl ⟨by rfl, ?_⟩) ?_; rotate_left; focus (intro w' hSw; (try dsimp only at hSw); go_simp; ((try rw [hE2])); (try with_reducible rfl))
        try simp only [sIB, sC0, sCS]
        refine tkG 9 48 ?_ rfl hHeld (.inl ⟨by rfl, ?_⟩) ?_; rotate_left; focus (intro w' hSw; (try dsimp only at hSw); go_simp; (try with_reducible rfl))
        try simp only [sIB, sC0, sCS]
        refine tkG 10 49 undef rfl hHeld (.inr ⟨by rfl, rfl⟩) ?_; try simp only [sIB, sC0, sCS]
        refine tkG 11 50 undef rfl hHeld (.inr ⟨by rfl, rfl⟩) ?_; try simp only [sIB, sC0, sCS]
        refine tkG 12 51 undef rfl hHeld (.inr ⟨by rfl, rfl⟩) ?_; try simp only [sIB, sC0, sCS]
        refine tkG 13 52 undef rfl hHeld (.inr ⟨by rfl, rfl⟩) ?_; try simp only [sIB, sC0, sCS]
        refine tkG 14 53 undef rfl hHeld (.inr ⟨by rfl, rfl⟩) ?_; try simp only [sIB, sC0, sCS]
        refine tkG 15 54 ?_ rfl hHeld (.inl ⟨by rfl, ?_⟩) ?_; rotate_left; focus (intro w' hSw; (try dsimp only at hSw); go_simp; (try with_reducible rfl))
        try simp only [sIB, sC0, sCS]
        refine tkG 16 55 ?_ rfl hHeld (.inl ⟨by rfl, ?_⟩) ?_; rotate_left; focus (intro w' hSw; (try dsimp only at hSw); go_simp; (try with_reducible rfl))
        try simp only [sIB, sC0, sCS]
        refine tkG 17 56 undef rfl hHeld (.inr ⟨by rfl, rfl⟩) ?_; try simp only [sIB, sC0, sCS]
        refine tkG 18 57 undef rfl hHeld (.inr ⟨by rfl, rfl⟩) ?_; try simp only [sIB, sC0, sCS]
        refine tkG 19 58 undef rfl hHeld (.inr ⟨by rfl, rfl⟩) ?_; try simp only [sIB, sC0, sCS]
        refine tkG 20 59 undef rfl hHeld (.inr ⟨by rfl, rfl⟩) ?_; try simp only [sIB, sC0, sCS]
        refine tkG 21 60 undef rfl hHeld (.inr ⟨by rfl, rfl⟩) ?_; try simp only [sIB, sC0, sCS]
        refine tkG 22 61 undef rfl hHeld (.inr ⟨by rfl, rfl⟩) ?_; try simp only [sIB, sC0, sCS]
        refine tkG 23 62 undef rfl hHeld (.inr ⟨by rfl, rfl⟩) ?_; try simp only [sIB, sC0, sCS]
        refine tkG 24 63 ?_ rfl hHeld (.inl ⟨by rfl, ?_⟩) ?_; rotate_left; focus (intro w' hSw; (try dsimp only at hSw); go_simp; (try with_reducible rfl))
        try simp only [sIB, sC0, sCS]
        refine tkG 25 64 ?_ rfl hHeld (.inl ⟨by rfl, ?_⟩) ?_; rotate_left; focus (intro w' hSw; (try dsimp only at hSw); go_simp; (try with_reducible rfl))
        try simp only [sIB, sC0, sCS]
        refine wpAnyG_last (by kernel_rfl) rfl (by rfl) (fun K hK => ?_)
        obtain ⟨⟨u0, cc⟩, zz⟩ := HF3.out.cellAt k (by rw [HN.out]; exact hlt); go_simp; have HF6 := Lib.hid (HF3.out.put false HX.out); clear cc zz; generalize W4.setCell ⟨r, k, none⟩ (.bool false) = W6 at *
        refine hK.out _ _ ?_
        clear hK K
        try simp only [Act.put, sIB, sC0, sCS]
        refine wpAnyG_done (by kernel_rfl) ?_ _
        have ws : IntKind.i64.wrap ((k : Int) + 1) = (k : Int) + 1 := IntWalk.i64_in _ (by have := HSM.out; omega)
        go_wp2_with fail
        go_roundg (gk - 1)
        case measure => omega
        case rel => exact ⟨k + 1, by omega, by simp, HF6.out⟩
    · have hke : k = N := by omega
      subst hke
      have hlt' : ¬ ((k : Nat) : Int) < (k : Int) := by omega
      go_wp2_with fail
      go_end0
      rw [HN.out]
      exact ⟨rfl, r, HF.out⟩
end
def VocP.aln (p : VocP) (id : Int) : Bool := (fndI p.s.xs id).isSome || (hasT p.T id && aloneB p.T (Cof p.s.cs) (Jof p.s.js) id)
theorem add64_w (w : World) (b o : Nat) (n d : Int) (h : w.cell? ⟨b, o, none⟩ = some (.int .i64 n)) (hz : w.frozen? ⟨b, o, none⟩ = false) :
    Calls Tryz.prog 92 #[.pointer (some ⟨b, o, none⟩), .int .i64 d] w fun e w' => ∃ x, e = .returned (.int .i64 x) ∧ w' = w.setCell ⟨b, o, none⟩ (.int .i64 x) := by
  obtain ⟨x, hx⟩ : ∃ x, IntKind.i64.wrap (n + d) = x := ⟨_, rfl⟩
  have hadd := run_call_add (P := Tryz.prog) Tryz.func131 (by kernel_rfl) (by kernel_rfl) (by kernel_rfl) .i64 (by kernel_rfl) (y := d) (s := x) h hz (by rw [← hx]; simp [go_sem])
  clear h hz hx
  go_enter Tryz.func92, Tryz.ntmps92
  go_wp2_with fail
  go_ret
  exact ⟨x, rfl, rfl⟩
def AskV (w w' : World) (base : Nat) (p : VocP) (g : Option Nat) : Prop :=
  ∃ g', VocAt w' base p g' ∧ Keep (fun x => x = p.vb) w w' ∧ (g' = g ∨ ∃ x, g' = some x ∧ w.heap.size ≤ x)
section
variable {w w' : World} {base : Nat} {p : VocP} {g : Option Nat}
theorem al_at (p : VocP) (k : Nat) (hk : k < p.T.length) : (p.al p.T.length)[k]? = some (aloneB p.T (Cof p.s.cs) (Jof p.s.js) (k : Int)) := by
  unfold VocP.al aloneL
  simp [hk]
def RowV (w : World) (p : VocP) (r : Nat) : Prop := w.ownsRow r 4 1 (.slice (some ⟨r, 0, none⟩) p.T.length p.T.length) p.T.length ((p.al p.T.length).map Value.bool)
theorem RowV.keep {w w' : World} {p : VocP} {r : Nat} (h : RowV w p r) (hr : p.vb < r) (k : Keep (fun x => x = p.vb) w w') : RowV w' p r := own_keep h k (fun y hy => by simp only [Value.ownBlock, Option.some.injEq] at hy; omega)
theorem RowV.at {w : World} {p : VocP} {r : Nat} (h : RowV w p r) (k : Nat) (hk : k < p.T.length) : w.cell? ⟨r, k, none⟩ = some (.bool (aloneB p.T (Cof p.s.cs) (Jof p.s.js) (k : Int))) := by
  obtain ⟨g, cap, e, _, _, hc⟩ := own_open h (by omega)
  injection e with e _ _
  injection e with e
  injection e with e _
  subst e
  exact (hc k _ (by rw [List.getElem?_map, al_at p k hk]; rfl)).1
theorem vdo_any {V : World} {l : Value} {dn st se us : Int} (h : VocQ V base p l dn st se us) (hT : OkT p.T) (h2 : (l = .slice none 0 0 ∧ dn = 0 ∧ st = 0) ∨ ∃ r, p.vb < r ∧ l = .slice (some ⟨r, 0, none⟩) p.T.length p.T.length ∧ dn = 1 ∧ RowV V p r) :
    Calls Tryz.prog 94 #[.pointer (some ⟨p.vb, 9, none⟩), .func (.func 95) #[.pointer (some ⟨p.vb, 0, none⟩)] #[]] V fun e w' => e = .returned (.tuple #[]) ∧
      ∃ r st', VocQ w' base p (.slice (some ⟨r, 0, none⟩) p.T.length p.T.length) 1 st' se us ∧ p.vb < r ∧ RowV w' p r ∧ Keep (fun x => x = p.vb) V w' ∧ (l = .slice (some ⟨r, 0, none⟩) p.T.length p.T.length ∧ dn = 1 ∨ V.heap.size ≤ r) := by
  rcases h2 with ⟨rfl, rfl, rfl⟩ | ⟨r, hr, rfl, rfl, hrow⟩
  · have hS : VocQ (V.setCell ⟨p.vb, 10, none⟩ (.int .i32 1)) base p (.slice none 0 0) 0 1 se us := h.putS 1
    have hF := find_any hS hT
    have hk1 : Keep (fun x => x = p.vb) V (V.setCell ⟨p.vb, 10, none⟩ (.int .i32 1)) := (Keep.refl (fun x => x = p.vb) V).setCell (p := ⟨p.vb, 10, none⟩) (.inl rfl) _
    refine (do_first (R := fun w1 => ∃ r, FindIs (V.setCell ⟨p.vb, 10, none⟩ (.int .i32 1)) w1 base p r 0 1 se us p.T.length) p.vb 9 p.vb V h.cellD h.cellS (h.froz 10) (hF.mono ?_)).mono ?_
    · rintro e w1 ⟨rfl, r, hf⟩
      exact ⟨rfl, ⟨r, hf⟩, hf.voc.cellD, hf.voc.cellS, hf.voc.froz 9, hf.voc.froz 10⟩
    · rintro e w' ⟨rfl, w1, ⟨r, hf⟩, rfl⟩
      have hvr : p.vb < r := Nat.lt_of_lt_of_le hf.vlt hf.lt
      have hk2 : Keep (fun x => x = p.vb) w1 ((w1.drew.setCell ⟨p.vb, 9, none⟩ (.int .u32 1)).setCell ⟨p.vb, 10, none⟩ (.int .i32 0)) :=
        (((Keep.refl (fun x => x = p.vb) w1).drew).setCell (p := ⟨p.vb, 9, none⟩) (.inl rfl) _).setCell (p := ⟨p.vb, 10, none⟩) (.inl rfl) _
      have hrow : RowV w1 p r := hf.row
      refine ⟨rfl, r, 0, (hf.voc.drew.putD 1).putS 0, hvr, hrow.keep hvr hk2, (hk1.trans hf.keep (fun x hx => .inl hx)).trans hk2 (fun x hx => .inl hx), .inr (Nat.le_trans hk1.size hf.lt)⟩
  · refine (do_done p.vb 9 _ V h.cellD).mono ?_
    rintro e w' ⟨rfl, rfl⟩
    exact ⟨rfl, r, st, h, hr, hrow, Keep.refl _ _, .inl ⟨rfl, rfl⟩⟩
set_option maxHeartbeats 2000000 in
theorem valone_any (h : VocAt w base p g) (hT : OkT p.T) (id : Int) (hw : (Lit.int .i64 id).wf = true) (hM : p.s.xs.length ≤ 1000) :
    Calls Tryz.prog 51 #[.pointer (some ⟨p.vb, 0, none⟩), .int .i64 id] w fun e w' => e = .returned (.bool (p.aln id)) ∧ AskV w w' base p g := by
  obtain ⟨l, dn, st, se, us, h1, h2⟩ := h
  have HU := Lib.hid (add64_w w p.vb 13 us 1 h1.cellU (h1.froz 13))
  have HV : Hid (∀ x, VocQ (w.setCell ⟨p.vb, 13, none⟩ (.int .i64 x)) base p l dn st se x) := Lib.hid (fun x => h1.putU x)
  have HK : Hid (∀ x, Keep (fun x => x = p.vb) w (w.setCell ⟨p.vb, 13, none⟩ (.int .i64 x))) := Lib.hid (fun x => (Keep.refl (fun x => x = p.vb) w).setCell (p := ⟨p.vb, 13, none⟩) (.inl rfl) (.int .i64 x))
  have HW := Lib.hid hw
  have HM := Lib.hid hM
  have H2 := Lib.hid h2
  have HT := Lib.hid hT
  have HVL := Lib.hid h1.lt_size
  clear h1 h2 hw hM hT
  unfold VocP.aln
  go_enter Tryz.func51, Tryz.ntmps51
  go_upto_region 4 with (go_at_call 92; refine HU.out.mono ?_; rintro e V1 ⟨x, rfl, rfl⟩)
  clear HU
  have HV := Lib.hid (HV.out x)
  have HK := Lib.hid (HK.out x)
  generalize w.setCell ⟨p.vb, 13, none⟩ (.int .i64 x) = V at *
  have HMA := Lib.hid (mark_any HV.out.mrk id HW.out HM.out)
  have cM := HV.out.cellM
  cases hf : fndI p.s.xs id with
  | some i =>
    rw [hf] at HMA
    simp only [Option.isSome_some] at HMA
    have HFN := Lib.hid hf
    clear hf
    go_wp2_with (go_at_call 93; refine HMA.out.mono ?_; rintro e V1 ⟨rfl, rfl⟩)
    go_ret
    refine ⟨by rw [HFN.out]; simp, g, ⟨l, dn, st, se, x, HV.out, ?_⟩, HK.out, .inl rfl⟩
    rcases H2.out with h | ⟨r, h3, h4, h5, h6, h7⟩
    · exact .inl h
    · exact .inr ⟨r, h3, h4, h5, h6, own_keep h7 HK.out (fun y hy => by simp only [Value.ownBlock, Option.some.injEq] at hy; omega)⟩
  | none =>
    rw [hf] at HMA
    simp only [Option.isSome_none] at HMA
    have HFN := Lib.hid hf
    clear hf
    go_upto_region 7 with (go_at_call 93; refine HMA.out.mono ?_; rintro e V1 ⟨rfl, rfl⟩)
    clear HMA cM
    have HD := Lib.hid (vdo_any HV.out HT.out (by
      rcases H2.out with ⟨_, h3, h4, h5⟩ | ⟨r, h3, h4, h5, h6, h7⟩
      · exact .inl ⟨h3, h4, h5⟩
      · exact .inr ⟨r, h4, h5, h6, RowV.keep h7 h4 HK.out⟩))
    go_upto_region 8 with (go_at_call 94; refine HD.out.mono ?_; rintro e W ⟨rfl, r, st', hv, hr, hrow, hk, hl⟩)
    have HA : Hid (AskV w W base p g) := Lib.hid (by
      refine ⟨some r, ⟨_, 1, st', se, x, hv, .inr ⟨r, rfl, hr, rfl, rfl, hrow⟩⟩, HK.out.trans hk (fun y hy => .inl hy), ?_⟩
      rcases hl with ⟨h8, h9⟩ | h8
      · rcases H2.out with ⟨_, _, h4, _⟩ | ⟨r', h3, _, h5, _⟩
        · omega
        · left
          rw [h5] at h8
          injection h8 with h8
          injection h8 with h8
          injection h8 with h8
          rw [h3, h8]
      · exact .inr ⟨r, rfl, Nat.le_trans HK.out.size h8⟩)
    have HR := Lib.hid hrow
    have cL := hv.cellL
    clear HD HV HK hv hr hrow hk hl H2
    by_cases h0 : (0 : Int) ≤ id
    · by_cases h1 : id < (p.T.length : Int)
      · obtain ⟨k, rfl⟩ := Int.eq_ofNat_of_zero_le h0
        have hh : hasT p.T ((k : Nat) : Int) = true := hasT_iff.2 ⟨h0, h1⟩
        have cK := HR.out.at k (by omega)
        have HH := Lib.hid hh
        clear hh
        go_upto_region 9 with fail
        go_wp2_with fail
        go_ret
        exact ⟨by rw [HFN.out, HH.out]; simp, HA.out⟩
      · have hh : hasT p.T id = false := by rw [Bool.eq_false_iff]; intro h; exact h1 (hasT_iff.1 h).2
        have HH := Lib.hid hh
        clear hh
        go_wp2_with fail
        go_ret
        exact ⟨by rw [HFN.out, HH.out]; simp, HA.out⟩
    · have hh : hasT p.T id = false := by rw [Bool.eq_false_iff]; intro h; exact h0 (hasT_iff.1 h).1
      have HH := Lib.hid hh
      clear hh
      go_wp2_with fail
      go_ret
      exact ⟨by rw [HFN.out, HH.out]; simp, HA.out⟩
end
structure WalkIs (w : World) (base wb tbase tb : Nat) (T : List Ent) (sv : Value) (mb mp : Nat) (A B lim st : Int) : Prop where
  blk : w.heap[wb]? = some (.cells #[.int .i64 A, .int .i64 B, .pointer (some ⟨tb, 0, none⟩), .int .i64 lim, .int .i64 st] 121)
  tab : TabIs w tbase tb T sv mb mp
  tlt : ∀ x, tabF tb sv mb mp x → x < base
  le : base ≤ wb
theorem WalkIs.below {w w' : World} {C base wb tbase tb : Nat} {T : List Ent} {sv : Value} {mb mp : Nat} {A B lim st : Int} (h : WalkIs w base wb tbase tb T sv mb mp A B lim st) (hb : Below C w w') (hC : w.heap.size ≤ C) : WalkIs w' base wb tbase tb T sv mb mp A B lim st :=
  ⟨blk_below hb (Nat.lt_of_lt_of_le (blk_lt h.blk) hC) h.blk, h.tab.below hb hC, h.tlt, h.le⟩
theorem name_blk {W : World} {X : Nat} {o : Obj} (h : W.heap[X]? = some o) : ∃ nb, X = nb ∧ W.heap[nb]? = some o := ⟨X, rfl, h⟩
section
variable {w w' : World} {base wb tbase tb : Nat} {T : List Ent} {sv : Value} {mb mp : Nat} {A B lim st : Int}
set_option maxHeartbeats 4000000 in
theorem left_no (h : WalkIs w base wb tbase tb T sv mb mp A B lim st) (hn : bornT T A = false) :
    Calls Tryz.prog 139 #[.pointer (some ⟨wb, 0, none⟩)] w fun e w' => e = .returned (.bool false) ∧ Below w.heap.size w w' := by
  have h0 := blk_cell h.blk 0
  have h2 := blk_cell h.blk 2
  simp only [List.getElem?_toArray, List.getElem?_cons_zero, List.getElem?_cons_succ] at h0 h2
  have HH := Lib.hid h
  have HNB := Lib.hid hn
  clear h hn
  go_enter Tryz.func139, Tryz.ntmps139
  go_upto_region 1 with fail
  have HBB : Hid (Below w.heap.size w w.drew) := Lib.hid ⟨rfl, rfl, rfl, Nat.le_refl _, fun _ _ => rfl⟩
  have HSC : Hid (∀ V, Below w.heap.size w V → V.cell? ⟨wb, 0, none⟩ = some (.int .i64 A) ∧ V.cell? ⟨wb, 2, none⟩ = some (.pointer (some ⟨tb, 0, none⟩))) := Lib.hid (fun V hV => ⟨below_cell hV (Nat.le_refl _) h0, below_cell hV (Nat.le_refl _) h2⟩)
  obtain ⟨q1, q2, hq⟩ : ∃ q1 q2, parT T A = (q1, q2) := ⟨_, _, rfl⟩
  have HQ := Lib.hid hq
  clear h0 h2 hq
  refine wp_region_D (Ds := [15]) (S := fun V => V.cell? ⟨wb, 0, none⟩ = some (.int .i64 A) ∧ V.cell? ⟨wb, 2, none⟩ = some (.pointer (some ⟨tb, 0, none⟩))) (by kernel_rfl) (by exact HSC.out _ HBB.out) (fun hHeld => ?_)
  generalize w.drew = W0 at *
  refine tkP 0 6 ?_ rfl (.inl ⟨by rfl, ?_⟩) ?_; rotate_left; focus (intro w' _; go_simp; (try with_reducible rfl))
  try simp only [sIB, sC0, sCS]
  refine tkP 1 7 ?_ rfl (.inl ⟨by rfl, ?_⟩) ?_; rotate_left; focus (intro w' _; go_simp; (try with_reducible rfl))
  try simp only [sIB, sC0, sCS]
  refine tkP 2 8 ?_ rfl (.inl ⟨by rfl, ?_⟩) ?_; rotate_left; focus (intro w' _; go_simp; (try with_reducible rfl))
  try simp only [sIB, sC0, sCS]
  refine tkP 4 10 ?_ rfl (.inl ⟨by rfl, ?_⟩) ?_; rotate_left; focus (intro w' _; go_simp; (try with_reducible rfl))
  try simp only [sIB, sC0, sCS]
  refine tkP 5 11 ?_ rfl (.inl ⟨by rfl, ?_⟩) ?_; rotate_left; focus (intro w' _; go_simp; (try with_reducible rfl))
  try simp only [sIB, sC0, sCS]
  refine tkP 6 12 ?_ rfl (.inl ⟨by rfl, ?_⟩) ?_; rotate_left; focus (intro w' _; go_simp; (try with_reducible rfl))
  try simp only [sIB, sC0, sCS]
  refine tkP 7 13 ?_ rfl (.inl ⟨by rfl, ?_⟩) ?_; rotate_left; focus (intro w' _; go_simp; (try with_reducible rfl))
  try simp only [sIB, sC0, sCS]
  refine tkP 8 14 ?_ rfl (.inl ⟨by rfl, ?_⟩) ?_; rotate_left; focus (intro w' _; go_simp; (try with_reducible rfl))
  try simp only [sIB, sC0, sCS]
  refine tkD 3 9 ?_ rfl hHeld (.inl ⟨by rfl, ?_⟩) ?_; rotate_left; focus (intro w' hSw; (try dsimp only at hSw); go_simp; (try with_reducible rfl))
  try simp only [sIB, sC0, sCS]
  refine tkD 9 15 ?_ rfl hHeld (.inl ⟨by rfl, ?_⟩) ?_; rotate_left; focus (intro w' hSw; (try dsimp only at hSw); go_simp; (try with_reducible rfl))
  try simp only [sIB, sC0, sCS]
  refine wpAnyD_two (i := 10) (j := 14) (by kernel_rfl) rfl rfl (by rfl) (by rfl) (fun K hK => ?_) (fun K hK => ?_)
  ·
    go_simp; refine (par_tab A (HH.out.tab.below HBB.out (Nat.le_refl _))).mono ?_; rintro e V1 ⟨rfl, hb⟩; rw [HNB.out, HQ.out]; unfold pairV; (try (replace HNW := Lib.hid (And.intro (blk_below hb (blk_lt HNW.out.1) HNW.out.1) HNW.out.2))); replace HBB := Lib.hid (HBB.out.trans (hb.mono HBB.out.size)); have h := HSC.out _ HBB.out; clear hb; go_simp
    refine hK.out _ _ h (fun hHeld => ?_)
    clear hK K
    try simp only [Act.put, sIB, sC0, sCS]
    refine tkP 11 5 ?_ rfl (.inl ⟨by rfl, ?_⟩) ?_; rotate_left; focus (intro w' _; go_simp; (try with_reducible rfl))
    try simp only [sIB, sC0, sCS]
    refine tkP 12 17 ?_ rfl (.inl ⟨by rfl, ?_⟩) ?_; rotate_left; focus (intro w' _; go_simp; (try with_reducible rfl))
    try simp only [sIB, sC0, sCS]
    refine tkP 13 18 ?_ rfl (.inl ⟨by rfl, ?_⟩) ?_; rotate_left; focus (intro w' _; go_simp; (try with_reducible rfl))
    try simp only [sIB, sC0, sCS]
    refine wpAnyD_one (i := 14) (by kernel_rfl) rfl (by rfl) (fun K hK => ?_)
    go_simp; have HNW := Lib.hid (And.intro (bel_new HBB.out (.cells #[.int .i64 0, .int .i64 0] 55)) HBB.out.size); have HBB := Lib.hid (bel_alloc HBB.out (.cells #[.int .i64 0, .int .i64 0] 55)); refine gen_below HBB.out rfl (fun W' hW' => ?_); rw [← hW'] at HBB HNW; clear hW'; have h := HSC.out _ HBB.out
    refine hK.out _ _ h (fun hHeld => ?_)
    clear hK K
    try simp only [Act.put, sIB, sC0, sCS]
    refine wpAnyD_last (D := 15) (by decide) (by kernel_rfl) rfl (by rfl) (fun K hK => ?_)
    have d0 := blk_cell HNW.out.1 0; have d1 := blk_cell HNW.out.1 1; have z0 := blk_froz HNW.out.1 0; have z1 := blk_froz HNW.out.1 1; simp only [List.getElem?_toArray, List.getElem?_cons_zero, List.getElem?_cons_succ] at d0 d1; go_simp; have HBB := Lib.hid (bel_put HBB.out HNW.out.2 (.int .i64 q1) (.int .i64 q2)); refine gen_below HBB.out rfl (fun W' hW' => ?_); rw [← hW'] at HBB; clear hW' d0 d1 z0 z1
    refine hK.out _ _ ?_
    clear hK K
    try simp only [Act.put, sIB, sC0, sCS]
    refine tkP 16 4 ?_ rfl (.inl ⟨by rfl, ?_⟩) ?_; rotate_left; focus (intro w' _; go_simp; (try with_reducible rfl))
    try simp only [sIB, sC0, sCS]
    refine wpAnyD_done (by kernel_rfl) ?_ _
    go_wp2_with fail
    go_ret
    exact ⟨rfl, HBB.out⟩
  ·
    go_simp; have HNW := Lib.hid (And.intro (bel_new HBB.out (.cells #[.int .i64 0, .int .i64 0] 55)) HBB.out.size); have HBB := Lib.hid (bel_alloc HBB.out (.cells #[.int .i64 0, .int .i64 0] 55)); refine gen_below HBB.out rfl (fun W' hW' => ?_); rw [← hW'] at HBB HNW; clear hW'; have h := HSC.out _ HBB.out
    refine hK.out _ _ h (fun hHeld => ?_)
    clear hK K
    try simp only [Act.put, sIB, sC0, sCS]
    refine wpAnyD_one (i := 10) (by kernel_rfl) rfl (by rfl) (fun K hK => ?_)
    go_simp; refine (par_tab A (HH.out.tab.below HBB.out (Nat.le_refl _))).mono ?_; rintro e V1 ⟨rfl, hb⟩; rw [HNB.out, HQ.out]; unfold pairV; (try (replace HNW := Lib.hid (And.intro (blk_below hb (blk_lt HNW.out.1) HNW.out.1) HNW.out.2))); replace HBB := Lib.hid (HBB.out.trans (hb.mono HBB.out.size)); have h := HSC.out _ HBB.out; clear hb; go_simp
    refine hK.out _ _ h (fun hHeld => ?_)
    clear hK K
    try simp only [Act.put, sIB, sC0, sCS]
    refine tkP 11 5 ?_ rfl (.inl ⟨by rfl, ?_⟩) ?_; rotate_left; focus (intro w' _; go_simp; (try with_reducible rfl))
    try simp only [sIB, sC0, sCS]
    refine tkP 12 17 ?_ rfl (.inl ⟨by rfl, ?_⟩) ?_; rotate_left; focus (intro w' _; go_simp; (try with_reducible rfl))
    try simp only [sIB, sC0, sCS]
    refine tkP 13 18 ?_ rfl (.inl ⟨by rfl, ?_⟩) ?_; rotate_left; focus (intro w' _; go_simp; (try with_reducible rfl))
    try simp only [sIB, sC0, sCS]
    refine wpAnyD_last (D := 15) (by decide) (by kernel_rfl) rfl (by rfl) (fun K hK => ?_)
    have d0 := blk_cell HNW.out.1 0; have d1 := blk_cell HNW.out.1 1; have z0 := blk_froz HNW.out.1 0; have z1 := blk_froz HNW.out.1 1; simp only [List.getElem?_toArray, List.getElem?_cons_zero, List.getElem?_cons_succ] at d0 d1; go_simp; have HBB := Lib.hid (bel_put HBB.out HNW.out.2 (.int .i64 q1) (.int .i64 q2)); refine gen_below HBB.out rfl (fun W' hW' => ?_); rw [← hW'] at HBB; clear hW' d0 d1 z0 z1
    refine hK.out _ _ ?_
    clear hK K
    try simp only [Act.put, sIB, sC0, sCS]
    refine tkP 16 4 ?_ rfl (.inl ⟨by rfl, ?_⟩) ?_; rotate_left; focus (intro w' _; go_simp; (try with_reducible rfl))
    try simp only [sIB, sC0, sCS]
    refine wpAnyD_done (by kernel_rfl) ?_ _
    go_wp2_with fail
    go_ret
    exact ⟨rfl, HBB.out⟩
set_option maxHeartbeats 8000000 in
theorem left_yes (h : WalkIs w base wb tbase tb T sv mb mp A B lim st) (hn : bornT T A = true) (hx : 0 ≤ A ∧ A < 100000) (hst : 0 ≤ st ∧ st < 1000000000) :
    Calls Tryz.prog 139 #[.pointer (some ⟨wb, 0, none⟩)] w fun e w' => e = .returned (.bool true) ∧ WalkIs w' base wb tbase tb T sv mb mp (parT T A).2 B A (st + 1) ∧ Below base w w' := by
  obtain ⟨q1, q2, hq⟩ : ∃ q1 q2, parT T A = (q1, q2) := ⟨_, _, rfl⟩
  rw [hq]
  have HQ := Lib.hid hq
  clear hq
  have h0 := blk_cell h.blk 0
  have h2 := blk_cell h.blk 2
  simp only [List.getElem?_toArray, List.getElem?_cons_zero, List.getElem?_cons_succ] at h0 h2
  have HH := Lib.hid h
  have HNB := Lib.hid hn
  have hq9 := hx
  clear h hn hx
  go_enter Tryz.func139, Tryz.ntmps139
  go_upto_region 1 with fail
  have HBB : Hid (Below w.heap.size w w.drew) := Lib.hid ⟨rfl, rfl, rfl, Nat.le_refl _, fun _ _ => rfl⟩
  have HSC : Hid (∀ V, Below w.heap.size w V → V.cell? ⟨wb, 0, none⟩ = some (.int .i64 A) ∧ V.cell? ⟨wb, 2, none⟩ = some (.pointer (some ⟨tb, 0, none⟩))) := Lib.hid (fun V hV => ⟨below_cell hV (Nat.le_refl _) h0, below_cell hV (Nat.le_refl _) h2⟩)
  clear h0 h2
  refine wp_region_D (Ds := [15]) (S := fun V => V.cell? ⟨wb, 0, none⟩ = some (.int .i64 A) ∧ V.cell? ⟨wb, 2, none⟩ = some (.pointer (some ⟨tb, 0, none⟩))) (by kernel_rfl) (by exact HSC.out _ HBB.out) (fun hHeld => ?_)
  generalize w.drew = W0 at *
  refine tkP 0 6 ?_ rfl (.inl ⟨by rfl, ?_⟩) ?_; rotate_left; focus (intro w' _; go_simp; (try with_reducible rfl))
  try simp only [sIB, sC0, sCS]
  refine tkP 1 7 ?_ rfl (.inl ⟨by rfl, ?_⟩) ?_; rotate_left; focus (intro w' _; go_simp; (try with_reducible rfl))
  try simp only [sIB, sC0, sCS]
  refine tkP 2 8 ?_ rfl (.inl ⟨by rfl, ?_⟩) ?_; rotate_left; focus (intro w' _; go_simp; (try with_reducible rfl))
  try simp only [sIB, sC0, sCS]
  refine tkP 4 10 ?_ rfl (.inl ⟨by rfl, ?_⟩) ?_; rotate_left; focus (intro w' _; go_simp; (try with_reducible rfl))
  try simp only [sIB, sC0, sCS]
  refine tkP 5 11 ?_ rfl (.inl ⟨by rfl, ?_⟩) ?_; rotate_left; focus (intro w' _; go_simp; (try with_reducible rfl))
  try simp only [sIB, sC0, sCS]
  refine tkP 6 12 ?_ rfl (.inl ⟨by rfl, ?_⟩) ?_; rotate_left; focus (intro w' _; go_simp; (try with_reducible rfl))
  try simp only [sIB, sC0, sCS]
  refine tkP 7 13 ?_ rfl (.inl ⟨by rfl, ?_⟩) ?_; rotate_left; focus (intro w' _; go_simp; (try with_reducible rfl))
  try simp only [sIB, sC0, sCS]
  refine tkP 8 14 ?_ rfl (.inl ⟨by rfl, ?_⟩) ?_; rotate_left; focus (intro w' _; go_simp; (try with_reducible rfl))
  try simp only [sIB, sC0, sCS]
  refine tkD 3 9 ?_ rfl hHeld (.inl ⟨by rfl, ?_⟩) ?_; rotate_left; focus (intro w' hSw; (try dsimp only at hSw); go_simp; (try with_reducible rfl))
  try simp only [sIB, sC0, sCS]
  refine tkD 9 15 ?_ rfl hHeld (.inl ⟨by rfl, ?_⟩) ?_; rotate_left; focus (intro w' hSw; (try dsimp only at hSw); go_simp; (try with_reducible rfl))
  try simp only [sIB, sC0, sCS]
  refine wpAnyD_two (i := 10) (j := 14) (by kernel_rfl) rfl rfl (by rfl) (by rfl) (fun K hK => ?_) (fun K hK => ?_)
  ·
    go_simp; refine (par_tab A (HH.out.tab.below HBB.out (Nat.le_refl _))).mono ?_; rintro e V1 ⟨rfl, hb⟩; rw [HNB.out, HQ.out]; unfold pairV; (try (replace HNW := Lib.hid (And.intro (blk_below hb (blk_lt HNW.out.1) HNW.out.1) HNW.out.2))); replace HBB := Lib.hid (HBB.out.trans (hb.mono HBB.out.size)); have h := HSC.out _ HBB.out; clear hb; go_simp
    refine hK.out _ _ h (fun hHeld => ?_)
    clear hK K
    try simp only [Act.put, sIB, sC0, sCS]
    refine tkP 11 5 ?_ rfl (.inl ⟨by rfl, ?_⟩) ?_; rotate_left; focus (intro w' _; go_simp; (try with_reducible rfl))
    try simp only [sIB, sC0, sCS]
    refine tkP 12 17 ?_ rfl (.inl ⟨by rfl, ?_⟩) ?_; rotate_left; focus (intro w' _; go_simp; (try with_reducible rfl))
    try simp only [sIB, sC0, sCS]
    refine tkP 13 18 ?_ rfl (.inl ⟨by rfl, ?_⟩) ?_; rotate_left; focus (intro w' _; go_simp; (try with_reducible rfl))
    try simp only [sIB, sC0, sCS]
    refine wpAnyD_one (i := 14) (by kernel_rfl) rfl (by rfl) (fun K hK => ?_)
    go_simp; have HNW := Lib.hid (And.intro (bel_new HBB.out (.cells #[.int .i64 0, .int .i64 0] 55)) HBB.out.size); have HBB := Lib.hid (bel_alloc HBB.out (.cells #[.int .i64 0, .int .i64 0] 55)); refine gen_below HBB.out rfl (fun W' hW' => ?_); rw [← hW'] at HBB HNW; clear hW'; have h := HSC.out _ HBB.out
    refine hK.out _ _ h (fun hHeld => ?_)
    clear hK K
    try simp only [Act.put, sIB, sC0, sCS]
    refine wpAnyD_last (D := 15) (by decide) (by kernel_rfl) rfl (by rfl) (fun K hK => ?_)
    have d0 := blk_cell HNW.out.1 0; have d1 := blk_cell HNW.out.1 1; have z0 := blk_froz HNW.out.1 0; have z1 := blk_froz HNW.out.1 1; simp only [List.getElem?_toArray, List.getElem?_cons_zero, List.getElem?_cons_succ] at d0 d1; go_simp; have hn6 := blk_set (blk_set HNW.out.1 0 (.int .i64 q1)) 1 (.int .i64 q2); simp only [List.setIfInBounds_toArray, List.set_cons_zero, List.set_cons_succ] at hn6; have HN6 := Lib.hid hn6; have HBB := Lib.hid (bel_put HBB.out HNW.out.2 (.int .i64 q1) (.int .i64 q2)); refine gen_below HBB.out rfl (fun W9 hW9 => ?_); rw [← hW9] at HBB HN6; clear hW9 d0 d1 z0 z1 hn6
    refine hK.out _ _ ?_
    clear hK K
    try simp only [Act.put, sIB, sC0, sCS]
    refine tkP 16 4 ?_ rfl (.inl ⟨by rfl, ?_⟩) ?_; rotate_left; focus (intro w' _; go_simp; (try with_reducible rfl))
    try simp only [sIB, sC0, sCS]
    refine wpAnyD_done (by kernel_rfl) ?_ _
    obtain ⟨nb, hnb, hn6⟩ := name_blk HN6.out
    (first | rw [hnb] | rw [show w.heap.size = nb from hnb])
    have hw := HH.out.below HBB.out (Nat.le_refl _)
    have HW := Lib.hid hw
    have HB1 := Lib.hid (HBB.out.mono (Nat.le_trans HH.out.le (Nat.le_of_lt (blk_lt HH.out.blk))))
    have c0 := blk_cell hw.blk 0
    have n0 := blk_cell hn6 1
    simp only [List.getElem?_toArray, List.getElem?_cons_zero, List.getElem?_cons_succ] at c0 n0
    have HN9 := Lib.hid hn6
    have HNE : Hid (¬ nb = wb) := Lib.hid (by have := HNW.out.2; have := blk_lt HH.out.blk; omega)
    clear hnb hn6 hw HSC HBB HN6 HNW h hHeld
    go_upto_region 3 with fail
    refine wp_region_D (Ds := [17]) (S := fun V => V.cell? ⟨wb, 0, none⟩ = some (.int .i64 A) ∧ V.cell? ⟨nb, 1, none⟩ = some (.int .i64 q2)) (by kernel_rfl) (by exact ⟨c0, n0⟩) (fun hHeld => ?_)
    (have HN3 : Hid (W9.drew.heap[nb]? = some (.cells #[.int .i64 q1, .int .i64 q2] 55)) := Lib.hid HN9.out); clear HN9; (replace HB1 := Lib.hid HB1.out.drew); (have HT := Lib.hid HW.out.tab.drew); (have HBK : Hid (W9.drew.heap[wb]? = some (.cells #[.int .i64 A, .int .i64 B, .pointer (some ⟨tb, 0, none⟩), .int .i64 lim, .int .i64 st] 121)) := Lib.hid HW.out.blk); (have HK0 : Hid (Keep (fun g => g = wb) W9.drew W9.drew) := Lib.hid (Keep.refl _ _)); clear c0 n0 HW; generalize W9.drew = W3 at *
    refine tkP 0 20 ?_ rfl (.inl ⟨by rfl, ?_⟩) ?_; rotate_left; focus (intro w' _; go_simp; (try with_reducible rfl))
    try simp only [sIB, sC0, sCS]
    refine tkP 1 21 ?_ rfl (.inl ⟨by rfl, ?_⟩) ?_; rotate_left; focus (intro w' _; go_simp; (try with_reducible rfl))
    try simp only [sIB, sC0, sCS]
    refine tkP 2 22 ?_ rfl (.inl ⟨by rfl, ?_⟩) ?_; rotate_left; focus (intro w' _; go_simp; (try with_reducible rfl))
    try simp only [sIB, sC0, sCS]
    refine tkP 3 23 ?_ rfl (.inl ⟨by rfl, ?_⟩) ?_; rotate_left; focus (intro w' _; go_simp; (try with_reducible rfl))
    try simp only [sIB, sC0, sCS]
    refine tkP 4 24 ?_ rfl (.inl ⟨by rfl, ?_⟩) ?_; rotate_left; focus (intro w' _; go_simp; (try with_reducible rfl))
    try simp only [sIB, sC0, sCS]
    refine tkP 5 25 ?_ rfl (.inl ⟨by rfl, ?_⟩) ?_; rotate_left; focus (intro w' _; go_simp; (try with_reducible rfl))
    try simp only [sIB, sC0, sCS]
    refine tkP 6 26 ?_ rfl (.inl ⟨by rfl, ?_⟩) ?_; rotate_left; focus (intro w' _; go_simp; (try with_reducible rfl))
    try simp only [sIB, sC0, sCS]
    refine tkP 8 28 ?_ rfl (.inl ⟨by rfl, ?_⟩) ?_; rotate_left; focus (intro w' _; go_simp; (try with_reducible rfl))
    try simp only [sIB, sC0, sCS]
    refine tkD 7 27 ?_ rfl hHeld (.inl ⟨by rfl, ?_⟩) ?_; rotate_left; focus (intro w' hSw; (try dsimp only at hSw); go_simp; (try with_reducible rfl))
    try simp only [sIB, sC0, sCS]
    refine tkP 10 30 ?_ rfl (.inl ⟨by rfl, ?_⟩) ?_; rotate_left; focus (intro w' _; go_simp; (try with_reducible rfl))
    try simp only [sIB, sC0, sCS]
    refine tkP 11 31 ?_ rfl (.inl ⟨by rfl, ?_⟩) ?_; rotate_left; focus (intro w' _; go_simp; (try with_reducible rfl))
    try simp only [sIB, sC0, sCS]
    refine tkD 9 29 ?_ rfl hHeld (.inl ⟨by rfl, ?_⟩) ?_; rotate_left; focus (intro w' hSw; (try dsimp only at hSw); go_simp; (try with_reducible rfl))
    try simp only [sIB, sC0, sCS]
    refine wpAnyD_one (i := 12) (by kernel_rfl) rfl (by rfl) (fun K hK => ?_)
    have z0 := blk_froz HBK.out 3; have d0 := blk_cell HBK.out 3; simp only [List.getElem?_toArray, List.getElem?_cons_zero, List.getElem?_cons_succ] at d0; go_simp; have hb4 := blk_set HBK.out 3 (.int .i64 A); simp only [List.setIfInBounds_toArray, List.set_cons_zero, List.set_cons_succ] at hb4; have HBK4 := Lib.hid hb4; have HK4 := Lib.hid (HK0.out.setCell (p := ⟨wb, 3, none⟩) (.inl rfl) (.int .i64 A)); have hs0 := blk_cell HBK4.out 0; have hs1 := blk_cell (HK4.out.blk HN3.out HNE.out) 1; simp only [List.getElem?_toArray, List.getElem?_cons_zero, List.getElem?_cons_succ] at hs0 hs1; have h := And.intro hs0 hs1; clear z0 d0 hb4 hs0 hs1; generalize W3.setCell ⟨wb, 3, none⟩ (.int .i64 A) = W4 at *
    refine hK.out _ _ h (fun hHeld => ?_)
    clear hK K
    try simp only [Act.put, sIB, sC0, sCS]
    refine tkP 13 32 ?_ rfl (.inl ⟨by rfl, ?_⟩) ?_; rotate_left; focus (intro w' _; go_simp; (try with_reducible rfl))
    try simp only [sIB, sC0, sCS]
    refine tkP 14 33 ?_ rfl (.inl ⟨by rfl, ?_⟩) ?_; rotate_left; focus (intro w' _; go_simp; (try with_reducible rfl))
    try simp only [sIB, sC0, sCS]
    refine tkP 15 34 ?_ rfl (.inl ⟨by rfl, ?_⟩) ?_; rotate_left; focus (intro w' _; go_simp; (try with_reducible rfl))
    try simp only [sIB, sC0, sCS]
    refine tkP 16 35 ?_ rfl (.inl ⟨by rfl, ?_⟩) ?_; rotate_left; focus (intro w' _; go_simp; (try with_reducible rfl))
    try simp only [sIB, sC0, sCS]
    refine wpAnyD_last (D := 17) (by decide) (by kernel_rfl) rfl (by rfl) (fun K hK => ?_)
    have z0 := blk_froz HBK4.out 0; have d0 := blk_cell HBK4.out 0; simp only [List.getElem?_toArray, List.getElem?_cons_zero, List.getElem?_cons_succ] at d0; go_simp; have hb5 := blk_set HBK4.out 0 (.int .i64 q2); simp only [List.setIfInBounds_toArray, List.set_cons_zero, List.set_cons_succ] at hb5; have HBK5 := Lib.hid hb5; have HK5 := Lib.hid (HK4.out.setCell (p := ⟨wb, 0, none⟩) (.inl rfl) (.int .i64 q2)); clear z0 d0 hb5; generalize W4.setCell ⟨wb, 0, none⟩ (.int .i64 q2) = W5 at *
    refine hK.out _ _ ?_
    clear hK K
    try simp only [Act.put, sIB, sC0, sCS]
    refine wpAnyD_done (by kernel_rfl) ?_ _
    have z4 := blk_froz HBK5.out 4
    have d4 := blk_cell HBK5.out 4
    simp only [List.getElem?_toArray, List.getElem?_cons_zero, List.getElem?_cons_succ] at d4
    have ws : IntKind.i64.wrap (st + 1) = st + 1 := IntWalk.i64_in _ (by omega)
    go_upto_region 5 with fail
    clear ws z4 d4
    have hb6 := blk_set HBK5.out 4 (.int .i64 (st + 1))
    simp only [List.setIfInBounds_toArray, List.set_cons_zero, List.set_cons_succ] at hb6
    have hk6 := HK5.out.setCell (p := ⟨wb, 4, none⟩) (.inl rfl) (.int .i64 (st + 1))
    have HF : Hid (WalkIs (W5.setCell ⟨wb, 4, none⟩ (.int .i64 (st + 1))) base wb tbase tb T sv mb mp q2 B A (st + 1) ∧ Below base w (W5.setCell ⟨wb, 4, none⟩ (.int .i64 (st + 1)))) := Lib.hid (by
      have hle := HH.out.le
      refine ⟨⟨hb6, HT.out.keep hk6 (fun x hx e => ?_), HH.out.tlt, hle⟩, HB1.out.trans (hk6.below ?_ (fun x hx => ?_))⟩
      · have := HH.out.tlt x hx; omega
      · exact Nat.le_trans (Nat.le_trans hle (Nat.le_of_lt (blk_lt HH.out.blk))) HB1.out.size
      · omega)
    clear hb6 hk6
    go_wp2_with fail
    go_ret
    exact ⟨rfl, HF.out.1, HF.out.2⟩
  ·
    go_simp; have HNW := Lib.hid (And.intro (bel_new HBB.out (.cells #[.int .i64 0, .int .i64 0] 55)) HBB.out.size); have HBB := Lib.hid (bel_alloc HBB.out (.cells #[.int .i64 0, .int .i64 0] 55)); refine gen_below HBB.out rfl (fun W' hW' => ?_); rw [← hW'] at HBB HNW; clear hW'; have h := HSC.out _ HBB.out
    refine hK.out _ _ h (fun hHeld => ?_)
    clear hK K
    try simp only [Act.put, sIB, sC0, sCS]
    refine wpAnyD_one (i := 10) (by kernel_rfl) rfl (by rfl) (fun K hK => ?_)
    go_simp; refine (par_tab A (HH.out.tab.below HBB.out (Nat.le_refl _))).mono ?_; rintro e V1 ⟨rfl, hb⟩; rw [HNB.out, HQ.out]; unfold pairV; (try (replace HNW := Lib.hid (And.intro (blk_below hb (blk_lt HNW.out.1) HNW.out.1) HNW.out.2))); replace HBB := Lib.hid (HBB.out.trans (hb.mono HBB.out.size)); have h := HSC.out _ HBB.out; clear hb; go_simp
    refine hK.out _ _ h (fun hHeld => ?_)
    clear hK K
    try simp only [Act.put, sIB, sC0, sCS]
    refine tkP 11 5 ?_ rfl (.inl ⟨by rfl, ?_⟩) ?_; rotate_left; focus (intro w' _; go_simp; (try with_reducible rfl))
    try simp only [sIB, sC0, sCS]
    refine tkP 12 17 ?_ rfl (.inl ⟨by rfl, ?_⟩) ?_; rotate_left; focus (intro w' _; go_simp; (try with_reducible rfl))
    try simp only [sIB, sC0, sCS]
    refine tkP 13 18 ?_ rfl (.inl ⟨by rfl, ?_⟩) ?_; rotate_left; focus (intro w' _; go_simp; (try with_reducible rfl))
    try simp only [sIB, sC0, sCS]
    refine wpAnyD_last (D := 15) (by decide) (by kernel_rfl) rfl (by rfl) (fun K hK => ?_)
    have d0 := blk_cell HNW.out.1 0; have d1 := blk_cell HNW.out.1 1; have z0 := blk_froz HNW.out.1 0; have z1 := blk_froz HNW.out.1 1; simp only [List.getElem?_toArray, List.getElem?_cons_zero, List.getElem?_cons_succ] at d0 d1; go_simp; have hn6 := blk_set (blk_set HNW.out.1 0 (.int .i64 q1)) 1 (.int .i64 q2); simp only [List.setIfInBounds_toArray, List.set_cons_zero, List.set_cons_succ] at hn6; have HN6 := Lib.hid hn6; have HBB := Lib.hid (bel_put HBB.out HNW.out.2 (.int .i64 q1) (.int .i64 q2)); refine gen_below HBB.out rfl (fun W9 hW9 => ?_); rw [← hW9] at HBB HN6; clear hW9 d0 d1 z0 z1 hn6
    refine hK.out _ _ ?_
    clear hK K
    try simp only [Act.put, sIB, sC0, sCS]
    refine tkP 16 4 ?_ rfl (.inl ⟨by rfl, ?_⟩) ?_; rotate_left; focus (intro w' _; go_simp; (try with_reducible rfl))
    try simp only [sIB, sC0, sCS]
    refine wpAnyD_done (by kernel_rfl) ?_ _
    obtain ⟨nb, hnb, hn6⟩ := name_blk HN6.out
    (first | rw [hnb] | rw [show w.heap.size = nb from hnb])
    have hw := HH.out.below HBB.out (Nat.le_refl _)
    have HW := Lib.hid hw
    have HB1 := Lib.hid (HBB.out.mono (Nat.le_trans HH.out.le (Nat.le_of_lt (blk_lt HH.out.blk))))
    have c0 := blk_cell hw.blk 0
    have n0 := blk_cell hn6 1
    simp only [List.getElem?_toArray, List.getElem?_cons_zero, List.getElem?_cons_succ] at c0 n0
    have HN9 := Lib.hid hn6
    have HNE : Hid (¬ nb = wb) := Lib.hid (by have := HNW.out.2; have := blk_lt HH.out.blk; omega)
    clear hnb hn6 hw HSC HBB HN6 HNW h hHeld
    go_upto_region 3 with fail
    refine wp_region_D (Ds := [17]) (S := fun V => V.cell? ⟨wb, 0, none⟩ = some (.int .i64 A) ∧ V.cell? ⟨nb, 1, none⟩ = some (.int .i64 q2)) (by kernel_rfl) (by exact ⟨c0, n0⟩) (fun hHeld => ?_)
    (have HN3 : Hid (W9.drew.heap[nb]? = some (.cells #[.int .i64 q1, .int .i64 q2] 55)) := Lib.hid HN9.out); clear HN9; (replace HB1 := Lib.hid HB1.out.drew); (have HT := Lib.hid HW.out.tab.drew); (have HBK : Hid (W9.drew.heap[wb]? = some (.cells #[.int .i64 A, .int .i64 B, .pointer (some ⟨tb, 0, none⟩), .int .i64 lim, .int .i64 st] 121)) := Lib.hid HW.out.blk); (have HK0 : Hid (Keep (fun g => g = wb) W9.drew W9.drew) := Lib.hid (Keep.refl _ _)); clear c0 n0 HW; generalize W9.drew = W3 at *
    refine tkP 0 20 ?_ rfl (.inl ⟨by rfl, ?_⟩) ?_; rotate_left; focus (intro w' _; go_simp; (try with_reducible rfl))
    try simp only [sIB, sC0, sCS]
    refine tkP 1 21 ?_ rfl (.inl ⟨by rfl, ?_⟩) ?_; rotate_left; focus (intro w' _; go_simp; (try with_reducible rfl))
    try simp only [sIB, sC0, sCS]
    refine tkP 2 22 ?_ rfl (.inl ⟨by rfl, ?_⟩) ?_; rotate_left; focus (intro w' _; go_simp; (try with_reducible rfl))
    try simp only [sIB, sC0, sCS]
    refine tkP 3 23 ?_ rfl (.inl ⟨by rfl, ?_⟩) ?_; rotate_left; focus (intro w' _; go_simp; (try with_reducible rfl))
    try simp only [sIB, sC0, sCS]
    refine tkP 4 24 ?_ rfl (.inl ⟨by rfl, ?_⟩) ?_; rotate_left; focus (intro w' _; go_simp; (try with_reducible rfl))
    try simp only [sIB, sC0, sCS]
    refine tkP 5 25 ?_ rfl (.inl ⟨by rfl, ?_⟩) ?_; rotate_left; focus (intro w' _; go_simp; (try with_reducible rfl))
    try simp only [sIB, sC0, sCS]
    refine tkP 6 26 ?_ rfl (.inl ⟨by rfl, ?_⟩) ?_; rotate_left; focus (intro w' _; go_simp; (try with_reducible rfl))
    try simp only [sIB, sC0, sCS]
    refine tkP 8 28 ?_ rfl (.inl ⟨by rfl, ?_⟩) ?_; rotate_left; focus (intro w' _; go_simp; (try with_reducible rfl))
    try simp only [sIB, sC0, sCS]
    refine tkD 7 27 ?_ rfl hHeld (.inl ⟨by rfl, ?_⟩) ?_; rotate_left; focus (intro w' hSw; (try dsimp only at hSw); go_simp; (try with_reducible rfl))
    try simp only [sIB, sC0, sCS]
    refine tkP 10 30 ?_ rfl (.inl ⟨by rfl, ?_⟩) ?_; rotate_left; focus (intro w' _; go_simp; (try with_reducible rfl))
    try simp only [sIB, sC0, sCS]
    refine tkP 11 31 ?_ rfl (.inl ⟨by rfl, ?_⟩) ?_; rotate_left; focus (intro w' _; go_simp; (try with_reducible rfl))
    try simp only [sIB, sC0, sCS]
    refine tkD 9 29 ?_ rfl hHeld (.inl ⟨by rfl, ?_⟩) ?_; rotate_left; focus (intro w' hSw; (try dsimp only at hSw); go_simp; (try with_reducible rfl))
    try simp only [sIB, sC0, sCS]
    refine wpAnyD_one (i := 12) (by kernel_rfl) rfl (by rfl) (fun K hK => ?_)
    have z0 := blk_froz HBK.out 3; have d0 := blk_cell HBK.out 3; simp only [List.getElem?_toArray, List.getElem?_cons_zero, List.getElem?_cons_succ] at d0; go_simp; have hb4 := blk_set HBK.out 3 (.int .i64 A); simp only [List.setIfInBounds_toArray, List.set_cons_zero, List.set_cons_succ] at hb4; have HBK4 := Lib.hid hb4; have HK4 := Lib.hid (HK0.out.setCell (p := ⟨wb, 3, none⟩) (.inl rfl) (.int .i64 A)); have hs0 := blk_cell HBK4.out 0; have hs1 := blk_cell (HK4.out.blk HN3.out HNE.out) 1; simp only [List.getElem?_toArray, List.getElem?_cons_zero, List.getElem?_cons_succ] at hs0 hs1; have h := And.intro hs0 hs1; clear z0 d0 hb4 hs0 hs1; generalize W3.setCell ⟨wb, 3, none⟩ (.int .i64 A) = W4 at *
    refine hK.out _ _ h (fun hHeld => ?_)
    clear hK K
    try simp only [Act.put, sIB, sC0, sCS]
    refine tkP 13 32 ?_ rfl (.inl ⟨by rfl, ?_⟩) ?_; rotate_left; focus (intro w' _; go_simp; (try with_reducible rfl))
    try simp only [sIB, sC0, sCS]
    refine tkP 14 33 ?_ rfl (.inl ⟨by rfl, ?_⟩) ?_; rotate_left; focus (intro w' _; go_simp; (try with_reducible rfl))
    try simp only [sIB, sC0, sCS]
    refine tkP 15 34 ?_ rfl (.inl ⟨by rfl, ?_⟩) ?_; rotate_left; focus (intro w' _; go_simp; (try with_reducible rfl))
    try simp only [sIB, sC0, sCS]
    refine tkP 16 35 ?_ rfl (.inl ⟨by rfl, ?_⟩) ?_; rotate_left; focus (intro w' _; go_simp; (try with_reducible rfl))
    try simp only [sIB, sC0, sCS]
    refine wpAnyD_last (D := 17) (by decide) (by kernel_rfl) rfl (by rfl) (fun K hK => ?_)
    have z0 := blk_froz HBK4.out 0; have d0 := blk_cell HBK4.out 0; simp only [List.getElem?_toArray, List.getElem?_cons_zero, List.getElem?_cons_succ] at d0; go_simp; have hb5 := blk_set HBK4.out 0 (.int .i64 q2); simp only [List.setIfInBounds_toArray, List.set_cons_zero, List.set_cons_succ] at hb5; have HBK5 := Lib.hid hb5; have HK5 := Lib.hid (HK4.out.setCell (p := ⟨wb, 0, none⟩) (.inl rfl) (.int .i64 q2)); clear z0 d0 hb5; generalize W4.setCell ⟨wb, 0, none⟩ (.int .i64 q2) = W5 at *
    refine hK.out _ _ ?_
    clear hK K
    try simp only [Act.put, sIB, sC0, sCS]
    refine wpAnyD_done (by kernel_rfl) ?_ _
    have z4 := blk_froz HBK5.out 4
    have d4 := blk_cell HBK5.out 4
    simp only [List.getElem?_toArray, List.getElem?_cons_zero, List.getElem?_cons_succ] at d4
    have ws : IntKind.i64.wrap (st + 1) = st + 1 := IntWalk.i64_in _ (by omega)
    go_upto_region 5 with fail
    clear ws z4 d4
    have hb6 := blk_set HBK5.out 4 (.int .i64 (st + 1))
    simp only [List.setIfInBounds_toArray, List.set_cons_zero, List.set_cons_succ] at hb6
    have hk6 := HK5.out.setCell (p := ⟨wb, 4, none⟩) (.inl rfl) (.int .i64 (st + 1))
    have HF : Hid (WalkIs (W5.setCell ⟨wb, 4, none⟩ (.int .i64 (st + 1))) base wb tbase tb T sv mb mp q2 B A (st + 1) ∧ Below base w (W5.setCell ⟨wb, 4, none⟩ (.int .i64 (st + 1)))) := Lib.hid (by
      have hle := HH.out.le
      refine ⟨⟨hb6, HT.out.keep hk6 (fun x hx e => ?_), HH.out.tlt, hle⟩, HB1.out.trans (hk6.below ?_ (fun x hx => ?_))⟩
      · have := HH.out.tlt x hx; omega
      · exact Nat.le_trans (Nat.le_trans hle (Nat.le_of_lt (blk_lt HH.out.blk))) HB1.out.size
      · omega)
    clear hb6 hk6
    go_wp2_with fail
    go_ret
    exact ⟨rfl, HF.out.1, HF.out.2⟩
set_option maxHeartbeats 4000000 in
theorem right_no (h : WalkIs w base wb tbase tb T sv mb mp A B lim st) (hn : bornT T B = false) :
    Calls Tryz.prog 140 #[.pointer (some ⟨wb, 0, none⟩)] w fun e w' => e = .returned (.bool false) ∧ Below w.heap.size w w' := by
  have h0 := blk_cell h.blk 1
  have h2 := blk_cell h.blk 2
  simp only [List.getElem?_toArray, List.getElem?_cons_zero, List.getElem?_cons_succ] at h0 h2
  have HH := Lib.hid h
  have HNB := Lib.hid hn
  clear h hn
  go_enter Tryz.func140, Tryz.ntmps140
  go_upto_region 1 with fail
  have HBB : Hid (Below w.heap.size w w.drew) := Lib.hid ⟨rfl, rfl, rfl, Nat.le_refl _, fun _ _ => rfl⟩
  have HSC : Hid (∀ V, Below w.heap.size w V → V.cell? ⟨wb, 1, none⟩ = some (.int .i64 B) ∧ V.cell? ⟨wb, 2, none⟩ = some (.pointer (some ⟨tb, 0, none⟩))) := Lib.hid (fun V hV => ⟨below_cell hV (Nat.le_refl _) h0, below_cell hV (Nat.le_refl _) h2⟩)
  obtain ⟨q1, q2, hq⟩ : ∃ q1 q2, parT T B = (q1, q2) := ⟨_, _, rfl⟩
  have HQ := Lib.hid hq
  clear h0 h2 hq
  refine wp_region_D (Ds := [15]) (S := fun V => V.cell? ⟨wb, 1, none⟩ = some (.int .i64 B) ∧ V.cell? ⟨wb, 2, none⟩ = some (.pointer (some ⟨tb, 0, none⟩))) (by kernel_rfl) (by exact HSC.out _ HBB.out) (fun hHeld => ?_)
  generalize w.drew = W0 at *
  refine tkP 0 6 ?_ rfl (.inl ⟨by rfl, ?_⟩) ?_; rotate_left; focus (intro w' _; go_simp; (try with_reducible rfl))
  try simp only [sIB, sC0, sCS]
  refine tkP 1 7 ?_ rfl (.inl ⟨by rfl, ?_⟩) ?_; rotate_left; focus (intro w' _; go_simp; (try with_reducible rfl))
  try simp only [sIB, sC0, sCS]
  refine tkP 2 8 ?_ rfl (.inl ⟨by rfl, ?_⟩) ?_; rotate_left; focus (intro w' _; go_simp; (try with_reducible rfl))
  try simp only [sIB, sC0, sCS]
  refine tkP 4 10 ?_ rfl (.inl ⟨by rfl, ?_⟩) ?_; rotate_left; focus (intro w' _; go_simp; (try with_reducible rfl))
  try simp only [sIB, sC0, sCS]
  refine tkP 5 11 ?_ rfl (.inl ⟨by rfl, ?_⟩) ?_; rotate_left; focus (intro w' _; go_simp; (try with_reducible rfl))
  try simp only [sIB, sC0, sCS]
  refine tkP 6 12 ?_ rfl (.inl ⟨by rfl, ?_⟩) ?_; rotate_left; focus (intro w' _; go_simp; (try with_reducible rfl))
  try simp only [sIB, sC0, sCS]
  refine tkP 7 13 ?_ rfl (.inl ⟨by rfl, ?_⟩) ?_; rotate_left; focus (intro w' _; go_simp; (try with_reducible rfl))
  try simp only [sIB, sC0, sCS]
  refine tkP 8 14 ?_ rfl (.inl ⟨by rfl, ?_⟩) ?_; rotate_left; focus (intro w' _; go_simp; (try with_reducible rfl))
  try simp only [sIB, sC0, sCS]
  refine tkD 3 9 ?_ rfl hHeld (.inl ⟨by rfl, ?_⟩) ?_; rotate_left; focus (intro w' hSw; (try dsimp only at hSw); go_simp; (try with_reducible rfl))
  try simp only [sIB, sC0, sCS]
  refine tkD 9 15 ?_ rfl hHeld (.inl ⟨by rfl, ?_⟩) ?_; rotate_left; focus (intro w' hSw; (try dsimp only at hSw); go_simp; (try with_reducible rfl))
  try simp only [sIB, sC0, sCS]
  refine wpAnyD_two (i := 10) (j := 14) (by kernel_rfl) rfl rfl (by rfl) (by rfl) (fun K hK => ?_) (fun K hK => ?_)
  ·
    go_simp; refine (par_tab B (HH.out.tab.below HBB.out (Nat.le_refl _))).mono ?_; rintro e V1 ⟨rfl, hb⟩; rw [HNB.out, HQ.out]; unfold pairV; (try (replace HNW := Lib.hid (And.intro (blk_below hb (blk_lt HNW.out.1) HNW.out.1) HNW.out.2))); replace HBB := Lib.hid (HBB.out.trans (hb.mono HBB.out.size)); have h := HSC.out _ HBB.out; clear hb; go_simp
    refine hK.out _ _ h (fun hHeld => ?_)
    clear hK K
    try simp only [Act.put, sIB, sC0, sCS]
    refine tkP 11 5 ?_ rfl (.inl ⟨by rfl, ?_⟩) ?_; rotate_left; focus (intro w' _; go_simp; (try with_reducible rfl))
    try simp only [sIB, sC0, sCS]
    refine tkP 12 17 ?_ rfl (.inl ⟨by rfl, ?_⟩) ?_; rotate_left; focus (intro w' _; go_simp; (try with_reducible rfl))
    try simp only [sIB, sC0, sCS]
    refine tkP 13 18 ?_ rfl (.inl ⟨by rfl, ?_⟩) ?_; rotate_left; focus (intro w' _; go_simp; (try with_reducible rfl))
    try simp only [sIB, sC0, sCS]
    refine wpAnyD_one (i := 14) (by kernel_rfl) rfl (by rfl) (fun K hK => ?_)
    go_simp; have HNW := Lib.hid (And.intro (bel_new HBB.out (.cells #[.int .i64 0, .int .i64 0] 55)) HBB.out.size); have HBB := Lib.hid (bel_alloc HBB.out (.cells #[.int .i64 0, .int .i64 0] 55)); refine gen_below HBB.out rfl (fun W' hW' => ?_); rw [← hW'] at HBB HNW; clear hW'; have h := HSC.out _ HBB.out
    refine hK.out _ _ h (fun hHeld => ?_)
    clear hK K
    try simp only [Act.put, sIB, sC0, sCS]
    refine wpAnyD_last (D := 15) (by decide) (by kernel_rfl) rfl (by rfl) (fun K hK => ?_)
    have d0 := blk_cell HNW.out.1 0; have d1 := blk_cell HNW.out.1 1; have z0 := blk_froz HNW.out.1 0; have z1 := blk_froz HNW.out.1 1; simp only [List.getElem?_toArray, List.getElem?_cons_zero, List.getElem?_cons_succ] at d0 d1; go_simp; have HBB := Lib.hid (bel_put HBB.out HNW.out.2 (.int .i64 q1) (.int .i64 q2)); refine gen_below HBB.out rfl (fun W' hW' => ?_); rw [← hW'] at HBB; clear hW' d0 d1 z0 z1
    refine hK.out _ _ ?_
    clear hK K
    try simp only [Act.put, sIB, sC0, sCS]
    refine tkP 16 4 ?_ rfl (.inl ⟨by rfl, ?_⟩) ?_; rotate_left; focus (intro w' _; go_simp; (try with_reducible rfl))
    try simp only [sIB, sC0, sCS]
    refine wpAnyD_done (by kernel_rfl) ?_ _
    go_wp2_with fail
    go_ret
    exact ⟨rfl, HBB.out⟩
  ·
    go_simp; have HNW := Lib.hid (And.intro (bel_new HBB.out (.cells #[.int .i64 0, .int .i64 0] 55)) HBB.out.size); have HBB := Lib.hid (bel_alloc HBB.out (.cells #[.int .i64 0, .int .i64 0] 55)); refine gen_below HBB.out rfl (fun W' hW' => ?_); rw [← hW'] at HBB HNW; clear hW'; have h := HSC.out _ HBB.out
    refine hK.out _ _ h (fun hHeld => ?_)
    clear hK K
    try simp only [Act.put, sIB, sC0, sCS]
    refine wpAnyD_one (i := 10) (by kernel_rfl) rfl (by rfl) (fun K hK => ?_)
    go_simp; refine (par_tab B (HH.out.tab.below HBB.out (Nat.le_refl _))).mono ?_; rintro e V1 ⟨rfl, hb⟩; rw [HNB.out, HQ.out]; unfold pairV; (try (replace HNW := Lib.hid (And.intro (blk_below hb (blk_lt HNW.out.1) HNW.out.1) HNW.out.2))); replace HBB := Lib.hid (HBB.out.trans (hb.mono HBB.out.size)); have h := HSC.out _ HBB.out; clear hb; go_simp
    refine hK.out _ _ h (fun hHeld => ?_)
    clear hK K
    try simp only [Act.put, sIB, sC0, sCS]
    refine tkP 11 5 ?_ rfl (.inl ⟨by rfl, ?_⟩) ?_; rotate_left; focus (intro w' _; go_simp; (try with_reducible rfl))
    try simp only [sIB, sC0, sCS]
    refine tkP 12 17 ?_ rfl (.inl ⟨by rfl, ?_⟩) ?_; rotate_left; focus (intro w' _; go_simp; (try with_reducible rfl))
    try simp only [sIB, sC0, sCS]
    refine tkP 13 18 ?_ rfl (.inl ⟨by rfl, ?_⟩) ?_; rotate_left; focus (intro w' _; go_simp; (try with_reducible rfl))
    try simp only [sIB, sC0, sCS]
    refine wpAnyD_last (D := 15) (by decide) (by kernel_rfl) rfl (by rfl) (fun K hK => ?_)
    have d0 := blk_cell HNW.out.1 0; have d1 := blk_cell HNW.out.1 1; have z0 := blk_froz HNW.out.1 0; have z1 := blk_froz HNW.out.1 1; simp only [List.getElem?_toArray, List.getElem?_cons_zero, List.getElem?_cons_succ] at d0 d1; go_simp; have HBB := Lib.hid (bel_put HBB.out HNW.out.2 (.int .i64 q1) (.int .i64 q2)); refine gen_below HBB.out rfl (fun W' hW' => ?_); rw [← hW'] at HBB; clear hW' d0 d1 z0 z1
    refine hK.out _ _ ?_
    clear hK K
    try simp only [Act.put, sIB, sC0, sCS]
    refine tkP 16 4 ?_ rfl (.inl ⟨by rfl, ?_⟩) ?_; rotate_left; focus (intro w' _; go_simp; (try with_reducible rfl))
    try simp only [sIB, sC0, sCS]
    refine wpAnyD_done (by kernel_rfl) ?_ _
    go_wp2_with fail
    go_ret
    exact ⟨rfl, HBB.out⟩
set_option maxHeartbeats 8000000 in
theorem right_yes (h : WalkIs w base wb tbase tb T sv mb mp A B lim st) (hn : bornT T B = true) (hx : 0 ≤ B ∧ B < 100000) (hst : 0 ≤ st ∧ st < 1000000000) :
    Calls Tryz.prog 140 #[.pointer (some ⟨wb, 0, none⟩)] w fun e w' => e = .returned (.bool true) ∧ WalkIs w' base wb tbase tb T sv mb mp A (parT T B).1 (B + 1) (st + 1) ∧ Below base w w' := by
  obtain ⟨q1, q2, hq⟩ : ∃ q1 q2, parT T B = (q1, q2) := ⟨_, _, rfl⟩
  rw [hq]
  have HQ := Lib.hid hq
  clear hq
  have h0 := blk_cell h.blk 1
  have h2 := blk_cell h.blk 2
  simp only [List.getElem?_toArray, List.getElem?_cons_zero, List.getElem?_cons_succ] at h0 h2
  have HH := Lib.hid h
  have HNB := Lib.hid hn
  have hq9 := hx
  clear h hn hx
  go_enter Tryz.func140, Tryz.ntmps140
  go_upto_region 1 with fail
  have HBB : Hid (Below w.heap.size w w.drew) := Lib.hid ⟨rfl, rfl, rfl, Nat.le_refl _, fun _ _ => rfl⟩
  have HSC : Hid (∀ V, Below w.heap.size w V → V.cell? ⟨wb, 1, none⟩ = some (.int .i64 B) ∧ V.cell? ⟨wb, 2, none⟩ = some (.pointer (some ⟨tb, 0, none⟩))) := Lib.hid (fun V hV => ⟨below_cell hV (Nat.le_refl _) h0, below_cell hV (Nat.le_refl _) h2⟩)
  clear h0 h2
  refine wp_region_D (Ds := [15]) (S := fun V => V.cell? ⟨wb, 1, none⟩ = some (.int .i64 B) ∧ V.cell? ⟨wb, 2, none⟩ = some (.pointer (some ⟨tb, 0, none⟩))) (by kernel_rfl) (by exact HSC.out _ HBB.out) (fun hHeld => ?_)
  generalize w.drew = W0 at *
  refine tkP 0 6 ?_ rfl (.inl ⟨by rfl, ?_⟩) ?_; rotate_left; focus (intro w' _; go_simp; (try with_reducible rfl))
  try simp only [sIB, sC0, sCS]
  refine tkP 1 7 ?_ rfl (.inl ⟨by rfl, ?_⟩) ?_; rotate_left; focus (intro w' _; go_simp; (try with_reducible rfl))
  try simp only [sIB, sC0, sCS]
  refine tkP 2 8 ?_ rfl (.inl ⟨by rfl, ?_⟩) ?_; rotate_left; focus (intro w' _; go_simp; (try with_reducible rfl))
  try simp only [sIB, sC0, sCS]
  refine tkP 4 10 ?_ rfl (.inl ⟨by rfl, ?_⟩) ?_; rotate_left; focus (intro w' _; go_simp; (try with_reducible rfl))
  try simp only [sIB, sC0, sCS]
  refine tkP 5 11 ?_ rfl (.inl ⟨by rfl, ?_⟩) ?_; rotate_left; focus (intro w' _; go_simp; (try with_reducible rfl))
  try simp only [sIB, sC0, sCS]
  refine tkP 6 12 ?_ rfl (.inl ⟨by rfl, ?_⟩) ?_; rotate_left; focus (intro w' _; go_simp; (try with_reducible rfl))
  try simp only [sIB, sC0, sCS]
  refine tkP 7 13 ?_ rfl (.inl ⟨by rfl, ?_⟩) ?_; rotate_left; focus (intro w' _; go_simp; (try with_reducible rfl))
  try simp only [sIB, sC0, sCS]
  refine tkP 8 14 ?_ rfl (.inl ⟨by rfl, ?_⟩) ?_; rotate_left; focus (intro w' _; go_simp; (try with_reducible rfl))
  try simp only [sIB, sC0, sCS]
  refine tkD 3 9 ?_ rfl hHeld (.inl ⟨by rfl, ?_⟩) ?_; rotate_left; focus (intro w' hSw; (try dsimp only at hSw); go_simp; (try with_reducible rfl))
  try simp only [sIB, sC0, sCS]
  refine tkD 9 15 ?_ rfl hHeld (.inl ⟨by rfl, ?_⟩) ?_; rotate_left; focus (intro w' hSw; (try dsimp only at hSw); go_simp; (try with_reducible rfl))
  try simp only [sIB, sC0, sCS]
  refine wpAnyD_two (i := 10) (j := 14) (by kernel_rfl) rfl rfl (by rfl) (by rfl) (fun K hK => ?_) (fun K hK => ?_)
  ·
    go_simp; refine (par_tab B (HH.out.tab.below HBB.out (Nat.le_refl _))).mono ?_; rintro e V1 ⟨rfl, hb⟩; rw [HNB.out, HQ.out]; unfold pairV; (try (replace HNW := Lib.hid (And.intro (blk_below hb (blk_lt HNW.out.1) HNW.out.1) HNW.out.2))); replace HBB := Lib.hid (HBB.out.trans (hb.mono HBB.out.size)); have h := HSC.out _ HBB.out; clear hb; go_simp
    refine hK.out _ _ h (fun hHeld => ?_)
    clear hK K
    try simp only [Act.put, sIB, sC0, sCS]
    refine tkP 11 5 ?_ rfl (.inl ⟨by rfl, ?_⟩) ?_; rotate_left; focus (intro w' _; go_simp; (try with_reducible rfl))
    try simp only [sIB, sC0, sCS]
    refine tkP 12 17 ?_ rfl (.inl ⟨by rfl, ?_⟩) ?_; rotate_left; focus (intro w' _; go_simp; (try with_reducible rfl))
    try simp only [sIB, sC0, sCS]
    refine tkP 13 18 ?_ rfl (.inl ⟨by rfl, ?_⟩) ?_; rotate_left; focus (intro w' _; go_simp; (try with_reducible rfl))
    try simp only [sIB, sC0, sCS]
    refine wpAnyD_one (i := 14) (by kernel_rfl) rfl (by rfl) (fun K hK => ?_)
    go_simp; have HNW := Lib.hid (And.intro (bel_new HBB.out (.cells #[.int .i64 0, .int .i64 0] 55)) HBB.out.size); have HBB := Lib.hid (bel_alloc HBB.out (.cells #[.int .i64 0, .int .i64 0] 55)); refine gen_below HBB.out rfl (fun W' hW' => ?_); rw [← hW'] at HBB HNW; clear hW'; have h := HSC.out _ HBB.out
    refine hK.out _ _ h (fun hHeld => ?_)
    clear hK K
    try simp only [Act.put, sIB, sC0, sCS]
    refine wpAnyD_last (D := 15) (by decide) (by kernel_rfl) rfl (by rfl) (fun K hK => ?_)
    have d0 := blk_cell HNW.out.1 0; have d1 := blk_cell HNW.out.1 1; have z0 := blk_froz HNW.out.1 0; have z1 := blk_froz HNW.out.1 1; simp only [List.getElem?_toArray, List.getElem?_cons_zero, List.getElem?_cons_succ] at d0 d1; go_simp; have hn6 := blk_set (blk_set HNW.out.1 0 (.int .i64 q1)) 1 (.int .i64 q2); simp only [List.setIfInBounds_toArray, List.set_cons_zero, List.set_cons_succ] at hn6; have HN6 := Lib.hid hn6; have HBB := Lib.hid (bel_put HBB.out HNW.out.2 (.int .i64 q1) (.int .i64 q2)); refine gen_below HBB.out rfl (fun W9 hW9 => ?_); rw [← hW9] at HBB HN6; clear hW9 d0 d1 z0 z1 hn6
    refine hK.out _ _ ?_
    clear hK K
    try simp only [Act.put, sIB, sC0, sCS]
    refine tkP 16 4 ?_ rfl (.inl ⟨by rfl, ?_⟩) ?_; rotate_left; focus (intro w' _; go_simp; (try with_reducible rfl))
    try simp only [sIB, sC0, sCS]
    refine wpAnyD_done (by kernel_rfl) ?_ _
    obtain ⟨nb, hnb, hn6⟩ := name_blk HN6.out
    (first | rw [hnb] | rw [show w.heap.size = nb from hnb])
    have hw := HH.out.below HBB.out (Nat.le_refl _)
    have HW := Lib.hid hw
    have HB1 := Lib.hid (HBB.out.mono (Nat.le_trans HH.out.le (Nat.le_of_lt (blk_lt HH.out.blk))))
    have c0 := blk_cell hw.blk 1
    have n0 := blk_cell hn6 0
    simp only [List.getElem?_toArray, List.getElem?_cons_zero, List.getElem?_cons_succ] at c0 n0
    have wl : IntKind.i64.wrap (B + 1) = B + 1 := IntWalk.i64_in _ (by have := hq9; omega)
    have HN9 := Lib.hid hn6
    have HNE : Hid (¬ nb = wb) := Lib.hid (by have := HNW.out.2; have := blk_lt HH.out.blk; omega)
    clear hnb hn6 hw HSC HBB HN6 HNW h hHeld
    go_upto_region 3 with fail
    refine wp_region_D (Ds := [18]) (S := fun V => V.cell? ⟨wb, 1, none⟩ = some (.int .i64 B) ∧ V.cell? ⟨nb, 0, none⟩ = some (.int .i64 q1)) (by kernel_rfl) (by exact ⟨c0, n0⟩) (fun hHeld => ?_)
    (have HN3 : Hid (W9.drew.heap[nb]? = some (.cells #[.int .i64 q1, .int .i64 q2] 55)) := Lib.hid HN9.out); clear HN9; (replace HB1 := Lib.hid HB1.out.drew); (have HT := Lib.hid HW.out.tab.drew); (have HBK : Hid (W9.drew.heap[wb]? = some (.cells #[.int .i64 A, .int .i64 B, .pointer (some ⟨tb, 0, none⟩), .int .i64 lim, .int .i64 st] 121)) := Lib.hid HW.out.blk); (have HK0 : Hid (Keep (fun g => g = wb) W9.drew W9.drew) := Lib.hid (Keep.refl _ _)); clear c0 n0 HW; generalize W9.drew = W3 at *
    refine tkP 0 20 ?_ rfl (.inl ⟨by rfl, ?_⟩) ?_; rotate_left; focus (intro w' _; go_simp; (try with_reducible rfl))
    try simp only [sIB, sC0, sCS]
    refine tkP 1 21 ?_ rfl (.inl ⟨by rfl, ?_⟩) ?_; rotate_left; focus (intro w' _; go_simp; (try with_reducible rfl))
    try simp only [sIB, sC0, sCS]
    refine tkP 2 22 ?_ rfl (.inl ⟨by rfl, ?_⟩) ?_; rotate_left; focus (intro w' _; go_simp; (try with_reducible rfl))
    try simp only [sIB, sC0, sCS]
    refine tkP 3 23 ?_ rfl (.inl ⟨by rfl, ?_⟩) ?_; rotate_left; focus (intro w' _; go_simp; (try with_reducible rfl))
    try simp only [sIB, sC0, sCS]
    refine tkP 4 24 ?_ rfl (.inl ⟨by rfl, ?_⟩) ?_; rotate_left; focus (intro w' _; go_simp; (try with_reducible rfl))
    try simp only [sIB, sC0, sCS]
    refine tkP 5 25 ?_ rfl (.inl ⟨by rfl, ?_⟩) ?_; rotate_left; focus (intro w' _; go_simp; (try with_reducible rfl))
    try simp only [sIB, sC0, sCS]
    refine tkP 6 26 ?_ rfl (.inl ⟨by rfl, ?_⟩) ?_; rotate_left; focus (intro w' _; go_simp; (try with_reducible rfl))
    try simp only [sIB, sC0, sCS]
    refine tkP 9 29 ?_ rfl (.inl ⟨by rfl, ?_⟩) ?_; rotate_left; focus (intro w' _; go_simp; (try with_reducible rfl))
    try simp only [sIB, sC0, sCS]
    refine tkD 7 27 ?_ rfl hHeld (.inl ⟨by rfl, ?_⟩) ?_; rotate_left; focus (intro w' hSw; (try dsimp only at hSw); go_simp; (try with_reducible rfl))
    try simp only [sIB, sC0, sCS]
    refine tkP 8 28 ?_ rfl (.inl ⟨by rfl, ?_⟩) ?_; rotate_left; focus (intro w' _; go_simp; (try with_reducible rfl))
    try simp only [sIB, sC0, sCS]
    refine tkP 11 31 ?_ rfl (.inl ⟨by rfl, ?_⟩) ?_; rotate_left; focus (intro w' _; go_simp; (try with_reducible rfl))
    try simp only [sIB, sC0, sCS]
    refine tkP 12 32 ?_ rfl (.inl ⟨by rfl, ?_⟩) ?_; rotate_left; focus (intro w' _; go_simp; (try with_reducible rfl))
    try simp only [sIB, sC0, sCS]
    refine tkD 10 30 ?_ rfl hHeld (.inl ⟨by rfl, ?_⟩) ?_; rotate_left; focus (intro w' hSw; (try dsimp only at hSw); go_simp; (try with_reducible rfl))
    try simp only [sIB, sC0, sCS]
    refine wpAnyD_one (i := 13) (by kernel_rfl) rfl (by rfl) (fun K hK => ?_)
    have z0 := blk_froz HBK.out 3; have d0 := blk_cell HBK.out 3; simp only [List.getElem?_toArray, List.getElem?_cons_zero, List.getElem?_cons_succ] at d0; go_simp; have hb4 := blk_set HBK.out 3 (.int .i64 (B + 1)); simp only [List.setIfInBounds_toArray, List.set_cons_zero, List.set_cons_succ] at hb4; have HBK4 := Lib.hid hb4; have HK4 := Lib.hid (HK0.out.setCell (p := ⟨wb, 3, none⟩) (.inl rfl) (.int .i64 (B + 1))); have hs0 := blk_cell HBK4.out 1; have hs1 := blk_cell (HK4.out.blk HN3.out HNE.out) 0; simp only [List.getElem?_toArray, List.getElem?_cons_zero, List.getElem?_cons_succ] at hs0 hs1; have h := And.intro hs0 hs1; clear z0 d0 hb4 hs0 hs1; generalize W3.setCell ⟨wb, 3, none⟩ (.int .i64 (B + 1)) = W4 at *
    refine hK.out _ _ h (fun hHeld => ?_)
    clear hK K
    try simp only [Act.put, sIB, sC0, sCS]
    refine tkP 14 33 ?_ rfl (.inl ⟨by rfl, ?_⟩) ?_; rotate_left; focus (intro w' _; go_simp; (try with_reducible rfl))
    try simp only [sIB, sC0, sCS]
    refine tkP 15 34 ?_ rfl (.inl ⟨by rfl, ?_⟩) ?_; rotate_left; focus (intro w' _; go_simp; (try with_reducible rfl))
    try simp only [sIB, sC0, sCS]
    refine tkP 16 35 ?_ rfl (.inl ⟨by rfl, ?_⟩) ?_; rotate_left; focus (intro w' _; go_simp; (try with_reducible rfl))
    try simp only [sIB, sC0, sCS]
    refine tkP 17 36 ?_ rfl (.inl ⟨by rfl, ?_⟩) ?_; rotate_left; focus (intro w' _; go_simp; (try with_reducible rfl))
    try simp only [sIB, sC0, sCS]
    refine wpAnyD_last (D := 18) (by decide) (by kernel_rfl) rfl (by rfl) (fun K hK => ?_)
    have z0 := blk_froz HBK4.out 1; have d0 := blk_cell HBK4.out 1; simp only [List.getElem?_toArray, List.getElem?_cons_zero, List.getElem?_cons_succ] at d0; go_simp; have hb5 := blk_set HBK4.out 1 (.int .i64 q1); simp only [List.setIfInBounds_toArray, List.set_cons_zero, List.set_cons_succ] at hb5; have HBK5 := Lib.hid hb5; have HK5 := Lib.hid (HK4.out.setCell (p := ⟨wb, 1, none⟩) (.inl rfl) (.int .i64 q1)); clear z0 d0 hb5; generalize W4.setCell ⟨wb, 1, none⟩ (.int .i64 q1) = W5 at *
    refine hK.out _ _ ?_
    clear hK K
    try simp only [Act.put, sIB, sC0, sCS]
    refine wpAnyD_done (by kernel_rfl) ?_ _
    have z4 := blk_froz HBK5.out 4
    have d4 := blk_cell HBK5.out 4
    simp only [List.getElem?_toArray, List.getElem?_cons_zero, List.getElem?_cons_succ] at d4
    have ws : IntKind.i64.wrap (st + 1) = st + 1 := IntWalk.i64_in _ (by omega)
    go_upto_region 5 with fail
    clear ws z4 d4
    have hb6 := blk_set HBK5.out 4 (.int .i64 (st + 1))
    simp only [List.setIfInBounds_toArray, List.set_cons_zero, List.set_cons_succ] at hb6
    have hk6 := HK5.out.setCell (p := ⟨wb, 4, none⟩) (.inl rfl) (.int .i64 (st + 1))
    have HF : Hid (WalkIs (W5.setCell ⟨wb, 4, none⟩ (.int .i64 (st + 1))) base wb tbase tb T sv mb mp A q1 (B + 1) (st + 1) ∧ Below base w (W5.setCell ⟨wb, 4, none⟩ (.int .i64 (st + 1)))) := Lib.hid (by
      have hle := HH.out.le
      refine ⟨⟨hb6, HT.out.keep hk6 (fun x hx e => ?_), HH.out.tlt, hle⟩, HB1.out.trans (hk6.below ?_ (fun x hx => ?_))⟩
      · have := HH.out.tlt x hx; omega
      · exact Nat.le_trans (Nat.le_trans hle (Nat.le_of_lt (blk_lt HH.out.blk))) HB1.out.size
      · omega)
    clear hb6 hk6
    go_wp2_with fail
    go_ret
    exact ⟨rfl, HF.out.1, HF.out.2⟩
  ·
    go_simp; have HNW := Lib.hid (And.intro (bel_new HBB.out (.cells #[.int .i64 0, .int .i64 0] 55)) HBB.out.size); have HBB := Lib.hid (bel_alloc HBB.out (.cells #[.int .i64 0, .int .i64 0] 55)); refine gen_below HBB.out rfl (fun W' hW' => ?_); rw [← hW'] at HBB HNW; clear hW'; have h := HSC.out _ HBB.out
    refine hK.out _ _ h (fun hHeld => ?_)
    clear hK K
    try simp only [Act.put, sIB, sC0, sCS]
    refine wpAnyD_one (i := 10) (by kernel_rfl) rfl (by rfl) (fun K hK => ?_)
    go_simp; refine (par_tab B (HH.out.tab.below HBB.out (Nat.le_refl _))).mono ?_; rintro e V1 ⟨rfl, hb⟩; rw [HNB.out, HQ.out]; unfold pairV; (try (replace HNW := Lib.hid (And.intro (blk_below hb (blk_lt HNW.out.1) HNW.out.1) HNW.out.2))); replace HBB := Lib.hid (HBB.out.trans (hb.mono HBB.out.size)); have h := HSC.out _ HBB.out; clear hb; go_simp
    refine hK.out _ _ h (fun hHeld => ?_)
    clear hK K
    try simp only [Act.put, sIB, sC0, sCS]
    refine tkP 11 5 ?_ rfl (.inl ⟨by rfl, ?_⟩) ?_; rotate_left; focus (intro w' _; go_simp; (try with_reducible rfl))
    try simp only [sIB, sC0, sCS]
    refine tkP 12 17 ?_ rfl (.inl ⟨by rfl, ?_⟩) ?_; rotate_left; focus (intro w' _; go_simp; (try with_reducible rfl))
    try simp only [sIB, sC0, sCS]
    refine tkP 13 18 ?_ rfl (.inl ⟨by rfl, ?_⟩) ?_; rotate_left; focus (intro w' _; go_simp; (try with_reducible rfl))
    try simp only [sIB, sC0, sCS]
    refine wpAnyD_last (D := 15) (by decide) (by kernel_rfl) rfl (by rfl) (fun K hK => ?_)
    have d0 := blk_cell HNW.out.1 0; have d1 := blk_cell HNW.out.1 1; have z0 := blk_froz HNW.out.1 0; have z1 := blk_froz HNW.out.1 1; simp only [List.getElem?_toArray, List.getElem?_cons_zero, List.getElem?_cons_succ] at d0 d1; go_simp; have hn6 := blk_set (blk_set HNW.out.1 0 (.int .i64 q1)) 1 (.int .i64 q2); simp only [List.setIfInBounds_toArray, List.set_cons_zero, List.set_cons_succ] at hn6; have HN6 := Lib.hid hn6; have HBB := Lib.hid (bel_put HBB.out HNW.out.2 (.int .i64 q1) (.int .i64 q2)); refine gen_below HBB.out rfl (fun W9 hW9 => ?_); rw [← hW9] at HBB HN6; clear hW9 d0 d1 z0 z1 hn6
    refine hK.out _ _ ?_
    clear hK K
    try simp only [Act.put, sIB, sC0, sCS]
    refine tkP 16 4 ?_ rfl (.inl ⟨by rfl, ?_⟩) ?_; rotate_left; focus (intro w' _; go_simp; (try with_reducible rfl))
    try simp only [sIB, sC0, sCS]
    refine wpAnyD_done (by kernel_rfl) ?_ _
    obtain ⟨nb, hnb, hn6⟩ := name_blk HN6.out
    (first | rw [hnb] | rw [show w.heap.size = nb from hnb])
    have hw := HH.out.below HBB.out (Nat.le_refl _)
    have HW := Lib.hid hw
    have HB1 := Lib.hid (HBB.out.mono (Nat.le_trans HH.out.le (Nat.le_of_lt (blk_lt HH.out.blk))))
    have c0 := blk_cell hw.blk 1
    have n0 := blk_cell hn6 0
    simp only [List.getElem?_toArray, List.getElem?_cons_zero, List.getElem?_cons_succ] at c0 n0
    have wl : IntKind.i64.wrap (B + 1) = B + 1 := IntWalk.i64_in _ (by have := hq9; omega)
    have HN9 := Lib.hid hn6
    have HNE : Hid (¬ nb = wb) := Lib.hid (by have := HNW.out.2; have := blk_lt HH.out.blk; omega)
    clear hnb hn6 hw HSC HBB HN6 HNW h hHeld
    go_upto_region 3 with fail
    refine wp_region_D (Ds := [18]) (S := fun V => V.cell? ⟨wb, 1, none⟩ = some (.int .i64 B) ∧ V.cell? ⟨nb, 0, none⟩ = some (.int .i64 q1)) (by kernel_rfl) (by exact ⟨c0, n0⟩) (fun hHeld => ?_)
    (have HN3 : Hid (W9.drew.heap[nb]? = some (.cells #[.int .i64 q1, .int .i64 q2] 55)) := Lib.hid HN9.out); clear HN9; (replace HB1 := Lib.hid HB1.out.drew); (have HT := Lib.hid HW.out.tab.drew); (have HBK : Hid (W9.drew.heap[wb]? = some (.cells #[.int .i64 A, .int .i64 B, .pointer (some ⟨tb, 0, none⟩), .int .i64 lim, .int .i64 st] 121)) := Lib.hid HW.out.blk); (have HK0 : Hid (Keep (fun g => g = wb) W9.drew W9.drew) := Lib.hid (Keep.refl _ _)); clear c0 n0 HW; generalize W9.drew = W3 at *
    refine tkP 0 20 ?_ rfl (.inl ⟨by rfl, ?_⟩) ?_; rotate_left; focus (intro w' _; go_simp; (try with_reducible rfl))
    try simp only [sIB, sC0, sCS]
    refine tkP 1 21 ?_ rfl (.inl ⟨by rfl, ?_⟩) ?_; rotate_left; focus (intro w' _; go_simp; (try with_reducible rfl))
    try simp only [sIB, sC0, sCS]
    refine tkP 2 22 ?_ rfl (.inl ⟨by rfl, ?_⟩) ?_; rotate_left; focus (intro w' _; go_simp; (try with_reducible rfl))
    try simp only [sIB, sC0, sCS]
    refine tkP 3 23 ?_ rfl (.inl ⟨by rfl, ?_⟩) ?_; rotate_left; focus (intro w' _; go_simp; (try with_reducible rfl))
    try simp only [sIB, sC0, sCS]
    refine tkP 4 24 ?_ rfl (.inl ⟨by rfl, ?_⟩) ?_; rotate_left; focus (intro w' _; go_simp; (try with_reducible rfl))
    try simp only [sIB, sC0, sCS]
    refine tkP 5 25 ?_ rfl (.inl ⟨by rfl, ?_⟩) ?_; rotate_left; focus (intro w' _; go_simp; (try with_reducible rfl))
    try simp only [sIB, sC0, sCS]
    refine tkP 6 26 ?_ rfl (.inl ⟨by rfl, ?_⟩) ?_; rotate_left; focus (intro w' _; go_simp; (try with_reducible rfl))
    try simp only [sIB, sC0, sCS]
    refine tkP 9 29 ?_ rfl (.inl ⟨by rfl, ?_⟩) ?_; rotate_left; focus (intro w' _; go_simp; (try with_reducible rfl))
    try simp only [sIB, sC0, sCS]
    refine tkD 7 27 ?_ rfl hHeld (.inl ⟨by rfl, ?_⟩) ?_; rotate_left; focus (intro w' hSw; (try dsimp only at hSw); go_simp; (try with_reducible rfl))
    try simp only [sIB, sC0, sCS]
    refine tkP 8 28 ?_ rfl (.inl ⟨by rfl, ?_⟩) ?_; rotate_left; focus (intro w' _; go_simp; (try with_reducible rfl))
    try simp only [sIB, sC0, sCS]
    refine tkP 11 31 ?_ rfl (.inl ⟨by rfl, ?_⟩) ?_; rotate_left; focus (intro w' _; go_simp; (try with_reducible rfl))
    try simp only [sIB, sC0, sCS]
    refine tkP 12 32 ?_ rfl (.inl ⟨by rfl, ?_⟩) ?_; rotate_left; focus (intro w' _; go_simp; (try with_reducible rfl))
    try simp only [sIB, sC0, sCS]
    refine tkD 10 30 ?_ rfl hHeld (.inl ⟨by rfl, ?_⟩) ?_; rotate_left; focus (intro w' hSw; (try dsimp only at hSw); go_simp; (try with_reducible rfl))
    try simp only [sIB, sC0, sCS]
    refine wpAnyD_one (i := 13) (by kernel_rfl) rfl (by rfl) (fun K hK => ?_)
    have z0 := blk_froz HBK.out 3; have d0 := blk_cell HBK.out 3; simp only [List.getElem?_toArray, List.getElem?_cons_zero, List.getElem?_cons_succ] at d0; go_simp; have hb4 := blk_set HBK.out 3 (.int .i64 (B + 1)); simp only [List.setIfInBounds_toArray, List.set_cons_zero, List.set_cons_succ] at hb4; have HBK4 := Lib.hid hb4; have HK4 := Lib.hid (HK0.out.setCell (p := ⟨wb, 3, none⟩) (.inl rfl) (.int .i64 (B + 1))); have hs0 := blk_cell HBK4.out 1; have hs1 := blk_cell (HK4.out.blk HN3.out HNE.out) 0; simp only [List.getElem?_toArray, List.getElem?_cons_zero, List.getElem?_cons_succ] at hs0 hs1; have h := And.intro hs0 hs1; clear z0 d0 hb4 hs0 hs1; generalize W3.setCell ⟨wb, 3, none⟩ (.int .i64 (B + 1)) = W4 at *
    refine hK.out _ _ h (fun hHeld => ?_)
    clear hK K
    try simp only [Act.put, sIB, sC0, sCS]
    refine tkP 14 33 ?_ rfl (.inl ⟨by rfl, ?_⟩) ?_; rotate_left; focus (intro w' _; go_simp; (try with_reducible rfl))
    try simp only [sIB, sC0, sCS]
    refine tkP 15 34 ?_ rfl (.inl ⟨by rfl, ?_⟩) ?_; rotate_left; focus (intro w' _; go_simp; (try with_reducible rfl))
    try simp only [sIB, sC0, sCS]
    refine tkP 16 35 ?_ rfl (.inl ⟨by rfl, ?_⟩) ?_; rotate_left; focus (intro w' _; go_simp; (try with_reducible rfl))
    try simp only [sIB, sC0, sCS]
    refine tkP 17 36 ?_ rfl (.inl ⟨by rfl, ?_⟩) ?_; rotate_left; focus (intro w' _; go_simp; (try with_reducible rfl))
    try simp only [sIB, sC0, sCS]
    refine wpAnyD_last (D := 18) (by decide) (by kernel_rfl) rfl (by rfl) (fun K hK => ?_)
    have z0 := blk_froz HBK4.out 1; have d0 := blk_cell HBK4.out 1; simp only [List.getElem?_toArray, List.getElem?_cons_zero, List.getElem?_cons_succ] at d0; go_simp; have hb5 := blk_set HBK4.out 1 (.int .i64 q1); simp only [List.setIfInBounds_toArray, List.set_cons_zero, List.set_cons_succ] at hb5; have HBK5 := Lib.hid hb5; have HK5 := Lib.hid (HK4.out.setCell (p := ⟨wb, 1, none⟩) (.inl rfl) (.int .i64 q1)); clear z0 d0 hb5; generalize W4.setCell ⟨wb, 1, none⟩ (.int .i64 q1) = W5 at *
    refine hK.out _ _ ?_
    clear hK K
    try simp only [Act.put, sIB, sC0, sCS]
    refine wpAnyD_done (by kernel_rfl) ?_ _
    have z4 := blk_froz HBK5.out 4
    have d4 := blk_cell HBK5.out 4
    simp only [List.getElem?_toArray, List.getElem?_cons_zero, List.getElem?_cons_succ] at d4
    have ws : IntKind.i64.wrap (st + 1) = st + 1 := IntWalk.i64_in _ (by omega)
    go_upto_region 5 with fail
    clear ws z4 d4
    have hb6 := blk_set HBK5.out 4 (.int .i64 (st + 1))
    simp only [List.setIfInBounds_toArray, List.set_cons_zero, List.set_cons_succ] at hb6
    have hk6 := HK5.out.setCell (p := ⟨wb, 4, none⟩) (.inl rfl) (.int .i64 (st + 1))
    have HF : Hid (WalkIs (W5.setCell ⟨wb, 4, none⟩ (.int .i64 (st + 1))) base wb tbase tb T sv mb mp A q1 (B + 1) (st + 1) ∧ Below base w (W5.setCell ⟨wb, 4, none⟩ (.int .i64 (st + 1)))) := Lib.hid (by
      have hle := HH.out.le
      refine ⟨⟨hb6, HT.out.keep hk6 (fun x hx e => ?_), HH.out.tlt, hle⟩, HB1.out.trans (hk6.below ?_ (fun x hx => ?_))⟩
      · have := HH.out.tlt x hx; omega
      · exact Nat.le_trans (Nat.le_trans hle (Nat.le_of_lt (blk_lt HH.out.blk))) HB1.out.size
      · omega)
    clear hb6 hk6
    go_wp2_with fail
    go_ret
    exact ⟨rfl, HF.out.1, HF.out.2⟩
end
section
variable {w w' : World} {base wb tbase tb : Nat} {T : List Ent} {sv : Value} {mb mp : Nat} {A B lim st : Int}
set_option maxHeartbeats 4000000 in
theorem blocked_any (h : WalkIs w base wb tbase tb T sv mb mp A B lim st) (ha : 0 ≤ A ∧ A < 100000) (hb : 0 ≤ B ∧ B < 100000) :
    Calls Tryz.prog 103 #[.pointer (some ⟨wb, 0, none⟩)] w fun e w' => e = .returned (.bool (pairB T lim A B).isSome) ∧ Below w.heap.size w w' := by
  have h0 := blk_cell h.blk 0
  have h1 := blk_cell h.blk 1
  have h2 := blk_cell h.blk 2
  have h3 := blk_cell h.blk 3
  simp only [List.getElem?_toArray, List.getElem?_cons_zero, List.getElem?_cons_succ] at h0 h1 h2 h3
  obtain ⟨r, b, hrb, hres⟩ : ∃ (r : Nat) (b : Bool), ((pairT T (A, B)).getD 0 = r ∧ (pairT T (A, B)).isSome = b) ∧ (pairB T lim A B).isSome = (b && decide ((r : Int) < lim)) := by
    refine ⟨_, _, ⟨rfl, rfl⟩, ?_⟩
    unfold pairB
    cases hp : pairT T (A, B) with
    | none => simp
    | some i => simp only [Option.bind_some, Option.getD_some, Option.isSome_some, Bool.true_and]; split <;> simp [*]
  rw [hres]
  have HRB := Lib.hid hrb
  have HT := Lib.hid h.tab.drew
  have HB0 : Hid (Below w.heap.size w w.drew) := Lib.hid ⟨rfl, rfl, rfl, Nat.le_refl _, fun _ _ => rfl⟩
  have WA := Lib.hid (wf_i64 (c := A) (by omega) (by omega))
  have WB := Lib.hid (wf_i64 (c := B) (by omega) (by omega))
  clear h ha hb hrb hres
  go_enter Tryz.func103, Tryz.ntmps103
  go_upto_region 1 with fail
  refine wp_region_held_drew (S := fun V => V.cell? ⟨wb, 0, none⟩ = some (.int .i64 A) ∧ V.cell? ⟨wb, 1, none⟩ = some (.int .i64 B) ∧ V.cell? ⟨wb, 2, none⟩ = some (.pointer (some ⟨tb, 0, none⟩)) ∧ V.cell? ⟨wb, 3, none⟩ = some (.int .i64 lim)) (by kernel_rfl) (by exact ⟨h0, h1, h2, h3⟩) (fun hHeld => ?_)
  refine tkH 0 6 ?_ rfl hHeld (.inl ⟨by rfl, ?_⟩) ?_; rotate_left; focus (intro w' hSw; (try dsimp only at hSw); go_simp; (try with_reducible rfl))
  try simp only [sIB, sC0, sCS]
  refine tkH 1 7 ?_ rfl hHeld (.inl ⟨by rfl, ?_⟩) ?_; rotate_left; focus (intro w' hSw; (try dsimp only at hSw); go_simp; (try with_reducible rfl))
  try simp only [sIB, sC0, sCS]
  refine tkH 2 8 ?_ rfl hHeld (.inl ⟨by rfl, ?_⟩) ?_; rotate_left; focus (intro w' hSw; (try dsimp only at hSw); go_simp; (try with_reducible rfl))
  try simp only [sIB, sC0, sCS]
  refine tkH 3 9 ?_ rfl hHeld (.inl ⟨by rfl, ?_⟩) ?_; rotate_left; focus (intro w' hSw; (try dsimp only at hSw); go_simp; (try with_reducible rfl))
  try simp only [sIB, sC0, sCS]
  refine tkH 4 10 ?_ rfl hHeld (.inl ⟨by rfl, ?_⟩) ?_; rotate_left; focus (intro w' hSw; (try dsimp only at hSw); go_simp; (try with_reducible rfl))
  try simp only [sIB, sC0, sCS]
  refine tkH 5 11 ?_ rfl hHeld (.inl ⟨by rfl, ?_⟩) ?_; rotate_left; focus (intro w' hSw; (try dsimp only at hSw); go_simp; (try with_reducible rfl))
  try simp only [sIB, sC0, sCS]
  refine tkH 6 12 ?_ rfl hHeld (.inl ⟨by rfl, ?_⟩) ?_; rotate_left; focus (intro w' hSw; (try dsimp only at hSw); go_simp; (try with_reducible rfl))
  try simp only [sIB, sC0, sCS]
  refine tkH 7 13 ?_ rfl hHeld (.inl ⟨by rfl, ?_⟩) ?_; rotate_left; focus (intro w' hSw; (try dsimp only at hSw); go_simp; (try with_reducible rfl))
  try simp only [sIB, sC0, sCS]
  refine tkH 8 14 ?_ rfl hHeld (.inl ⟨by rfl, ?_⟩) ?_; rotate_left; focus (intro w' hSw; (try dsimp only at hSw); go_simp; (try with_reducible rfl))
  try simp only [sIB, sC0, sCS]
  refine tkH 9 15 ?_ rfl hHeld (.inl ⟨by rfl, ?_⟩) ?_; rotate_left; focus (intro w' hSw; (try dsimp only at hSw); go_simp; (try with_reducible rfl))
  try simp only [sIB, sC0, sCS]
  refine tkH 10 16 ?_ rfl hHeld (.inl ⟨by rfl, ?_⟩) ?_; rotate_left; focus (intro w' hSw; (try dsimp only at hSw); go_simp; (try with_reducible rfl))
  try simp only [sIB, sC0, sCS]
  refine tkH 11 17 ?_ rfl hHeld (.inl ⟨by rfl, ?_⟩) ?_; rotate_left; focus (intro w' hSw; (try dsimp only at hSw); go_simp; (try with_reducible rfl))
  try simp only [sIB, sC0, sCS]
  refine tkH 12 18 ?_ rfl hHeld (.inl ⟨by rfl, ?_⟩) ?_; rotate_left; focus (intro w' hSw; (try dsimp only at hSw); go_simp; (try with_reducible rfl))
  try simp only [sIB, sC0, sCS]
  refine tkH 13 19 ?_ rfl hHeld (.inl ⟨by rfl, ?_⟩) ?_; rotate_left; focus (intro w' hSw; (try dsimp only at hSw); go_simp; (try with_reducible rfl))
  try simp only [sIB, sC0, sCS]
  refine tkH 14 20 ?_ rfl hHeld (.inl ⟨by rfl, ?_⟩) ?_; rotate_left; focus (intro w' hSw; (try dsimp only at hSw); go_simp; (try with_reducible rfl))
  try simp only [sIB, sC0, sCS]
  refine tkH 15 21 ?_ rfl hHeld (.inl ⟨by rfl, ?_⟩) ?_; rotate_left; focus (intro w' hSw; (try dsimp only at hSw); go_simp; (try with_reducible rfl))
  try simp only [sIB, sC0, sCS]
  refine wpAnyH_ready (rs := [16]) (by kernel_rfl) (by simp) ?_
  refine AllReadyH.cons rfl (fun K hK => ?_) AllReadyH.nil
  (try go_simp)
  refine (pair_tab A B WA.out WB.out HT.out).mono ?_; rintro e V1 ⟨rfl, rfl⟩; rw [HRB.out.1, HRB.out.2]; have h := hHeld; go_simp
  go_wp2_with fail
  refine hK.out _ _ h (fun hHeld => ?_)
  clear hK K
  try simp only [Act.put, sIB, sC0, sCS]
  refine tkH 17 5 ?_ rfl hHeld (.inl ⟨by rfl, ?_⟩) ?_; rotate_left; focus (intro w' hSw; (try dsimp only at hSw); go_simp; (try with_reducible rfl))
  try simp only [sIB, sC0, sCS]
  refine tkH 18 23 ?_ rfl hHeld (.inl ⟨by rfl, ?_⟩) ?_; rotate_left; focus (intro w' hSw; (try dsimp only at hSw); go_simp; (try with_reducible rfl))
  try simp only [sIB, sC0, sCS]
  refine tkH 19 24 ?_ rfl hHeld (.inl ⟨by rfl, ?_⟩) ?_; rotate_left; focus (intro w' hSw; (try dsimp only at hSw); go_simp; (try with_reducible rfl))
  try simp only [sIB, sC0, sCS]
  refine tkH 20 3 ?_ rfl hHeld (.inl ⟨by rfl, ?_⟩) ?_; rotate_left; focus (intro w' hSw; (try dsimp only at hSw); go_simp; (try with_reducible rfl))
  try simp only [sIB, sC0, sCS]
  refine tkH 21 4 ?_ rfl hHeld (.inl ⟨by rfl, ?_⟩) ?_; rotate_left; focus (intro w' hSw; (try dsimp only at hSw); go_simp; (try with_reducible rfl))
  try simp only [sIB, sC0, sCS]
  refine wpAnyH_done (by kernel_rfl) ?_ _
  rcases b with _ | _
  · go_wp2_with fail
    go_ret
    exact ⟨rfl, HB0.out⟩
  · go_wp2_with fail
    go_ret
    exact ⟨rfl, HB0.out⟩
set_option maxHeartbeats 4000000 in
theorem apart_l (h : WalkIs w base wb tbase tb T sv mb mp A B lim st) (hc : B < A) (hA : bornT T A = true) (hx : 0 ≤ A ∧ A < 100000) (hst : 0 ≤ st ∧ st < 1000000000) :
    Calls Tryz.prog 104 #[.pointer (some ⟨wb, 0, none⟩)] w fun e w' => e = .returned (.bool true) ∧ WalkIs w' base wb tbase tb T sv mb mp (parT T A).2 B A (st + 1) ∧ Below base w w' := by
  have h0 := blk_cell h.blk 0
  have h1 := blk_cell h.blk 1
  simp only [List.getElem?_toArray, List.getElem?_cons_zero, List.getElem?_cons_succ] at h0 h1
  have HB0 : Hid (Below w.heap.size w w.drew) := Lib.hid ⟨rfl, rfl, rfl, Nat.le_refl _, fun _ _ => rfl⟩
  have HD := Lib.hid (h.below HB0.out (Nat.le_refl _))
  have HE := Lib.hid (Nat.le_trans h.le (Nat.le_of_lt (blk_lt h.blk)))
  have HNA := Lib.hid hA
  have hc' := hc
  clear h hA
  go_enter Tryz.func104, Tryz.ntmps104
  go_upto_region 1 with fail
  refine wp_region_held_drew (S := fun V => V.cell? ⟨wb, 0, none⟩ = some (.int .i64 A) ∧ V.cell? ⟨wb, 1, none⟩ = some (.int .i64 B)) (by kernel_rfl) (by exact ⟨h0, h1⟩) (fun hHeld => ?_)
  refine tkH 0 3 ?_ rfl hHeld (.inl ⟨by rfl, ?_⟩) ?_; rotate_left; focus (intro w' hSw; (try dsimp only at hSw); go_simp; (try with_reducible rfl))
  try simp only [sIB, sC0, sCS]
  refine tkH 1 4 ?_ rfl hHeld (.inl ⟨by rfl, ?_⟩) ?_; rotate_left; focus (intro w' hSw; (try dsimp only at hSw); go_simp; (try with_reducible rfl))
  try simp only [sIB, sC0, sCS]
  refine tkH 2 5 ?_ rfl hHeld (.inl ⟨by rfl, ?_⟩) ?_; rotate_left; focus (intro w' hSw; (try dsimp only at hSw); go_simp; (try with_reducible rfl))
  try simp only [sIB, sC0, sCS]
  refine tkH 3 6 ?_ rfl hHeld (.inl ⟨by rfl, ?_⟩) ?_; rotate_left; focus (intro w' hSw; (try dsimp only at hSw); go_simp; (try with_reducible rfl))
  try simp only [sIB, sC0, sCS]
  refine tkH 4 7 ?_ rfl hHeld (.inl ⟨by rfl, ?_⟩) ?_; rotate_left; focus (intro w' hSw; (try dsimp only at hSw); go_simp; (try with_reducible rfl))
  try simp only [sIB, sC0, sCS]
  refine tkH 5 8 ?_ rfl hHeld (.inl ⟨by rfl, ?_⟩) ?_; rotate_left; focus (intro w' hSw; (try dsimp only at hSw); go_simp; (try with_reducible rfl))
  try simp only [sIB, sC0, sCS]
  refine tkH 6 9 ?_ rfl hHeld (.inl ⟨by rfl, ?_⟩) ?_; rotate_left; focus (intro w' hSw; (try dsimp only at hSw); go_simp; (try with_reducible rfl))
  try simp only [sIB, sC0, sCS]
  refine tkH 7 10 ?_ rfl hHeld (.inl ⟨by rfl, ?_⟩) ?_; rotate_left; focus (intro w' hSw; (try dsimp only at hSw); go_simp; (try with_reducible rfl))
  try simp only [sIB, sC0, sCS]
  refine tkH 8 11 ?_ rfl hHeld (.inl ⟨by rfl, ?_⟩) ?_; rotate_left; focus (intro w' hSw; (try dsimp only at hSw); go_simp; (try with_reducible rfl))
  try simp only [sIB, sC0, sCS]
  refine tkH 9 12 ?_ rfl hHeld (.inl ⟨by rfl, ?_⟩) ?_; rotate_left; focus (intro w' hSw; (try dsimp only at hSw); go_simp; (try with_reducible rfl))
  try simp only [sIB, sC0, sCS]
  refine tkH 10 13 ?_ rfl hHeld (.inl ⟨by rfl, ?_⟩) ?_; rotate_left; focus (intro w' hSw; (try dsimp only at hSw); go_simp; (try with_reducible rfl))
  try simp only [sIB, sC0, sCS]
  refine tkH 11 14 ?_ rfl hHeld (.inl ⟨by rfl, ?_⟩) ?_; rotate_left; focus (intro w' hSw; (try dsimp only at hSw); go_simp; (try with_reducible rfl))
  try simp only [sIB, sC0, sCS]
  refine tkH 12 15 ?_ rfl hHeld (.inl ⟨by rfl, ?_⟩) ?_; rotate_left; focus (intro w' hSw; (try dsimp only at hSw); go_simp; (try with_reducible rfl))
  try simp only [sIB, sC0, sCS]
  refine wpAnyH_done (by kernel_rfl) ?_ _
  clear hHeld h0 h1
  generalize w.drew = W0 at *
  go_wp2_with ((refine (left_yes HD.out HNA.out hx hst).mono ?_); (rintro e V1 ⟨rfl, hw, hb⟩); (have HW := Lib.hid hw); (have HB1 := Lib.hid ((HB0.out.mono HE.out).trans hb)); (clear hw hb))
  go_ret
  exact ⟨rfl, HW.out, HB1.out⟩
set_option maxHeartbeats 4000000 in
theorem apart_r (h : WalkIs w base wb tbase tb T sv mb mp A B lim st) (hc : A ≤ B) (hB : bornT T B = true) (hx : 0 ≤ B ∧ B < 100000) (hst : 0 ≤ st ∧ st < 1000000000) :
    Calls Tryz.prog 104 #[.pointer (some ⟨wb, 0, none⟩)] w fun e w' => e = .returned (.bool true) ∧ WalkIs w' base wb tbase tb T sv mb mp A (parT T B).1 (B + 1) (st + 1) ∧ Below base w w' := by
  have h0 := blk_cell h.blk 0
  have h1 := blk_cell h.blk 1
  simp only [List.getElem?_toArray, List.getElem?_cons_zero, List.getElem?_cons_succ] at h0 h1
  have HB0 : Hid (Below w.heap.size w w.drew) := Lib.hid ⟨rfl, rfl, rfl, Nat.le_refl _, fun _ _ => rfl⟩
  have HD := Lib.hid (h.below HB0.out (Nat.le_refl _))
  have HE := Lib.hid (Nat.le_trans h.le (Nat.le_of_lt (blk_lt h.blk)))
  have HNB := Lib.hid hB
  have hc' := hc
  clear h  hB
  go_enter Tryz.func104, Tryz.ntmps104
  go_upto_region 1 with fail
  refine wp_region_held_drew (S := fun V => V.cell? ⟨wb, 0, none⟩ = some (.int .i64 A) ∧ V.cell? ⟨wb, 1, none⟩ = some (.int .i64 B)) (by kernel_rfl) (by exact ⟨h0, h1⟩) (fun hHeld => ?_)
  refine tkH 0 3 ?_ rfl hHeld (.inl ⟨by rfl, ?_⟩) ?_; rotate_left; focus (intro w' hSw; (try dsimp only at hSw); go_simp; (try with_reducible rfl))
  try simp only [sIB, sC0, sCS]
  refine tkH 1 4 ?_ rfl hHeld (.inl ⟨by rfl, ?_⟩) ?_; rotate_left; focus (intro w' hSw; (try dsimp only at hSw); go_simp; (try with_reducible rfl))
  try simp only [sIB, sC0, sCS]
  refine tkH 2 5 ?_ rfl hHeld (.inl ⟨by rfl, ?_⟩) ?_; rotate_left; focus (intro w' hSw; (try dsimp only at hSw); go_simp; (try with_reducible rfl))
  try simp only [sIB, sC0, sCS]
  refine tkH 3 6 ?_ rfl hHeld (.inl ⟨by rfl, ?_⟩) ?_; rotate_left; focus (intro w' hSw; (try dsimp only at hSw); go_simp; (try with_reducible rfl))
  try simp only [sIB, sC0, sCS]
  refine tkH 4 7 ?_ rfl hHeld (.inl ⟨by rfl, ?_⟩) ?_; rotate_left; focus (intro w' hSw; (try dsimp only at hSw); go_simp; (try with_reducible rfl))
  try simp only [sIB, sC0, sCS]
  refine tkH 5 8 ?_ rfl hHeld (.inl ⟨by rfl, ?_⟩) ?_; rotate_left; focus (intro w' hSw; (try dsimp only at hSw); go_simp; (try with_reducible rfl))
  try simp only [sIB, sC0, sCS]
  refine tkH 6 9 ?_ rfl hHeld (.inl ⟨by rfl, ?_⟩) ?_; rotate_left; focus (intro w' hSw; (try dsimp only at hSw); go_simp; (try with_reducible rfl))
  try simp only [sIB, sC0, sCS]
  refine tkH 7 10 ?_ rfl hHeld (.inl ⟨by rfl, ?_⟩) ?_; rotate_left; focus (intro w' hSw; (try dsimp only at hSw); go_simp; (try with_reducible rfl))
  try simp only [sIB, sC0, sCS]
  refine tkH 8 11 ?_ rfl hHeld (.inl ⟨by rfl, ?_⟩) ?_; rotate_left; focus (intro w' hSw; (try dsimp only at hSw); go_simp; (try with_reducible rfl))
  try simp only [sIB, sC0, sCS]
  refine tkH 9 12 ?_ rfl hHeld (.inl ⟨by rfl, ?_⟩) ?_; rotate_left; focus (intro w' hSw; (try dsimp only at hSw); go_simp; (try with_reducible rfl))
  try simp only [sIB, sC0, sCS]
  refine tkH 10 13 ?_ rfl hHeld (.inl ⟨by rfl, ?_⟩) ?_; rotate_left; focus (intro w' hSw; (try dsimp only at hSw); go_simp; (try with_reducible rfl))
  try simp only [sIB, sC0, sCS]
  refine tkH 11 14 ?_ rfl hHeld (.inl ⟨by rfl, ?_⟩) ?_; rotate_left; focus (intro w' hSw; (try dsimp only at hSw); go_simp; (try with_reducible rfl))
  try simp only [sIB, sC0, sCS]
  refine tkH 12 15 ?_ rfl hHeld (.inl ⟨by rfl, ?_⟩) ?_; rotate_left; focus (intro w' hSw; (try dsimp only at hSw); go_simp; (try with_reducible rfl))
  try simp only [sIB, sC0, sCS]
  refine wpAnyH_done (by kernel_rfl) ?_ _
  clear hHeld h0 h1
  generalize w.drew = W0 at *
  go_wp2_with ((refine (right_yes HD.out HNB.out hx hst).mono ?_); (rintro e V1 ⟨rfl, hw, hb⟩); (have HW := Lib.hid hw); (have HB1 := Lib.hid ((HB0.out.mono HE.out).trans hb)); (clear hw hb))
  go_ret
  exact ⟨rfl, HW.out, HB1.out⟩
set_option maxHeartbeats 4000000 in
theorem apart_n1 (h : WalkIs w base wb tbase tb T sv mb mp A B lim st) (hc : B < A) (hA : bornT T A = false) (hB : bornT T B = false) :
    Calls Tryz.prog 104 #[.pointer (some ⟨wb, 0, none⟩)] w fun e w' => e = .returned (.bool false) ∧ Below w.heap.size w w' := by
  have h0 := blk_cell h.blk 0
  have h1 := blk_cell h.blk 1
  simp only [List.getElem?_toArray, List.getElem?_cons_zero, List.getElem?_cons_succ] at h0 h1
  have HB0 : Hid (Below w.heap.size w w.drew) := Lib.hid ⟨rfl, rfl, rfl, Nat.le_refl _, fun _ _ => rfl⟩
  have HD := Lib.hid (h.below HB0.out (Nat.le_refl _))
  have HE := Lib.hid (Nat.le_trans h.le (Nat.le_of_lt (blk_lt h.blk)))
  have HNA := Lib.hid hA
  have HNB := Lib.hid hB
  have hc' := hc
  clear h hA hB
  go_enter Tryz.func104, Tryz.ntmps104
  go_upto_region 1 with fail
  refine wp_region_held_drew (S := fun V => V.cell? ⟨wb, 0, none⟩ = some (.int .i64 A) ∧ V.cell? ⟨wb, 1, none⟩ = some (.int .i64 B)) (by kernel_rfl) (by exact ⟨h0, h1⟩) (fun hHeld => ?_)
  refine tkH 0 3 ?_ rfl hHeld (.inl ⟨by rfl, ?_⟩) ?_; rotate_left; focus (intro w' hSw; (try dsimp only at hSw); go_simp; (try with_reducible rfl))
  try simp only [sIB, sC0, sCS]
  refine tkH 1 4 ?_ rfl hHeld (.inl ⟨by rfl, ?_⟩) ?_; rotate_left; focus (intro w' hSw; (try dsimp only at hSw); go_simp; (try with_reducible rfl))
  try simp only [sIB, sC0, sCS]
  refine tkH 2 5 ?_ rfl hHeld (.inl ⟨by rfl, ?_⟩) ?_; rotate_left; focus (intro w' hSw; (try dsimp only at hSw); go_simp; (try with_reducible rfl))
  try simp only [sIB, sC0, sCS]
  refine tkH 3 6 ?_ rfl hHeld (.inl ⟨by rfl, ?_⟩) ?_; rotate_left; focus (intro w' hSw; (try dsimp only at hSw); go_simp; (try with_reducible rfl))
  try simp only [sIB, sC0, sCS]
  refine tkH 4 7 ?_ rfl hHeld (.inl ⟨by rfl, ?_⟩) ?_; rotate_left; focus (intro w' hSw; (try dsimp only at hSw); go_simp; (try with_reducible rfl))
  try simp only [sIB, sC0, sCS]
  refine tkH 5 8 ?_ rfl hHeld (.inl ⟨by rfl, ?_⟩) ?_; rotate_left; focus (intro w' hSw; (try dsimp only at hSw); go_simp; (try with_reducible rfl))
  try simp only [sIB, sC0, sCS]
  refine tkH 6 9 ?_ rfl hHeld (.inl ⟨by rfl, ?_⟩) ?_; rotate_left; focus (intro w' hSw; (try dsimp only at hSw); go_simp; (try with_reducible rfl))
  try simp only [sIB, sC0, sCS]
  refine tkH 7 10 ?_ rfl hHeld (.inl ⟨by rfl, ?_⟩) ?_; rotate_left; focus (intro w' hSw; (try dsimp only at hSw); go_simp; (try with_reducible rfl))
  try simp only [sIB, sC0, sCS]
  refine tkH 8 11 ?_ rfl hHeld (.inl ⟨by rfl, ?_⟩) ?_; rotate_left; focus (intro w' hSw; (try dsimp only at hSw); go_simp; (try with_reducible rfl))
  try simp only [sIB, sC0, sCS]
  refine tkH 9 12 ?_ rfl hHeld (.inl ⟨by rfl, ?_⟩) ?_; rotate_left; focus (intro w' hSw; (try dsimp only at hSw); go_simp; (try with_reducible rfl))
  try simp only [sIB, sC0, sCS]
  refine tkH 10 13 ?_ rfl hHeld (.inl ⟨by rfl, ?_⟩) ?_; rotate_left; focus (intro w' hSw; (try dsimp only at hSw); go_simp; (try with_reducible rfl))
  try simp only [sIB, sC0, sCS]
  refine tkH 11 14 ?_ rfl hHeld (.inl ⟨by rfl, ?_⟩) ?_; rotate_left; focus (intro w' hSw; (try dsimp only at hSw); go_simp; (try with_reducible rfl))
  try simp only [sIB, sC0, sCS]
  refine tkH 12 15 ?_ rfl hHeld (.inl ⟨by rfl, ?_⟩) ?_; rotate_left; focus (intro w' hSw; (try dsimp only at hSw); go_simp; (try with_reducible rfl))
  try simp only [sIB, sC0, sCS]
  refine wpAnyH_done (by kernel_rfl) ?_ _
  clear hHeld h0 h1
  generalize w.drew = W0 at *
  go_wp2_with (first | ((refine (left_no HD.out HNA.out).mono ?_); (rintro e V1 ⟨rfl, hb⟩); (have HB1 := Lib.hid (HB0.out.trans (hb.mono HB0.out.size))); (have HD1 := Lib.hid (HD.out.below hb (Nat.le_refl _))); (clear hb)) | ((refine (right_no HD1.out HNB.out).mono ?_); (rintro e V2 ⟨rfl, hb⟩); (have HB2 := Lib.hid (HB1.out.trans (hb.mono HB1.out.size))); (clear hb)))
  go_ret
  exact ⟨rfl, HB2.out⟩
set_option maxHeartbeats 4000000 in
theorem apart_n2 (h : WalkIs w base wb tbase tb T sv mb mp A B lim st) (hc : A ≤ B) (hA : bornT T A = false) (hB : bornT T B = false) :
    Calls Tryz.prog 104 #[.pointer (some ⟨wb, 0, none⟩)] w fun e w' => e = .returned (.bool false) ∧ Below w.heap.size w w' := by
  have h0 := blk_cell h.blk 0
  have h1 := blk_cell h.blk 1
  simp only [List.getElem?_toArray, List.getElem?_cons_zero, List.getElem?_cons_succ] at h0 h1
  have HB0 : Hid (Below w.heap.size w w.drew) := Lib.hid ⟨rfl, rfl, rfl, Nat.le_refl _, fun _ _ => rfl⟩
  have HD := Lib.hid (h.below HB0.out (Nat.le_refl _))
  have HE := Lib.hid (Nat.le_trans h.le (Nat.le_of_lt (blk_lt h.blk)))
  have HNA := Lib.hid hA
  have HNB := Lib.hid hB
  have hc' := hc
  clear h hA hB
  go_enter Tryz.func104, Tryz.ntmps104
  go_upto_region 1 with fail
  refine wp_region_held_drew (S := fun V => V.cell? ⟨wb, 0, none⟩ = some (.int .i64 A) ∧ V.cell? ⟨wb, 1, none⟩ = some (.int .i64 B)) (by kernel_rfl) (by exact ⟨h0, h1⟩) (fun hHeld => ?_)
  refine tkH 0 3 ?_ rfl hHeld (.inl ⟨by rfl, ?_⟩) ?_; rotate_left; focus (intro w' hSw; (try dsimp only at hSw); go_simp; (try with_reducible rfl))
  try simp only [sIB, sC0, sCS]
  refine tkH 1 4 ?_ rfl hHeld (.inl ⟨by rfl, ?_⟩) ?_; rotate_left; focus (intro w' hSw; (try dsimp only at hSw); go_simp; (try with_reducible rfl))
  try simp only [sIB, sC0, sCS]
  refine tkH 2 5 ?_ rfl hHeld (.inl ⟨by rfl, ?_⟩) ?_; rotate_left; focus (intro w' hSw; (try dsimp only at hSw); go_simp; (try with_reducible rfl))
  try simp only [sIB, sC0, sCS]
  refine tkH 3 6 ?_ rfl hHeld (.inl ⟨by rfl, ?_⟩) ?_; rotate_left; focus (intro w' hSw; (try dsimp only at hSw); go_simp; (try with_reducible rfl))
  try simp only [sIB, sC0, sCS]
  refine tkH 4 7 ?_ rfl hHeld (.inl ⟨by rfl, ?_⟩) ?_; rotate_left; focus (intro w' hSw; (try dsimp only at hSw); go_simp; (try with_reducible rfl))
  try simp only [sIB, sC0, sCS]
  refine tkH 5 8 ?_ rfl hHeld (.inl ⟨by rfl, ?_⟩) ?_; rotate_left; focus (intro w' hSw; (try dsimp only at hSw); go_simp; (try with_reducible rfl))
  try simp only [sIB, sC0, sCS]
  refine tkH 6 9 ?_ rfl hHeld (.inl ⟨by rfl, ?_⟩) ?_; rotate_left; focus (intro w' hSw; (try dsimp only at hSw); go_simp; (try with_reducible rfl))
  try simp only [sIB, sC0, sCS]
  refine tkH 7 10 ?_ rfl hHeld (.inl ⟨by rfl, ?_⟩) ?_; rotate_left; focus (intro w' hSw; (try dsimp only at hSw); go_simp; (try with_reducible rfl))
  try simp only [sIB, sC0, sCS]
  refine tkH 8 11 ?_ rfl hHeld (.inl ⟨by rfl, ?_⟩) ?_; rotate_left; focus (intro w' hSw; (try dsimp only at hSw); go_simp; (try with_reducible rfl))
  try simp only [sIB, sC0, sCS]
  refine tkH 9 12 ?_ rfl hHeld (.inl ⟨by rfl, ?_⟩) ?_; rotate_left; focus (intro w' hSw; (try dsimp only at hSw); go_simp; (try with_reducible rfl))
  try simp only [sIB, sC0, sCS]
  refine tkH 10 13 ?_ rfl hHeld (.inl ⟨by rfl, ?_⟩) ?_; rotate_left; focus (intro w' hSw; (try dsimp only at hSw); go_simp; (try with_reducible rfl))
  try simp only [sIB, sC0, sCS]
  refine tkH 11 14 ?_ rfl hHeld (.inl ⟨by rfl, ?_⟩) ?_; rotate_left; focus (intro w' hSw; (try dsimp only at hSw); go_simp; (try with_reducible rfl))
  try simp only [sIB, sC0, sCS]
  refine tkH 12 15 ?_ rfl hHeld (.inl ⟨by rfl, ?_⟩) ?_; rotate_left; focus (intro w' hSw; (try dsimp only at hSw); go_simp; (try with_reducible rfl))
  try simp only [sIB, sC0, sCS]
  refine wpAnyH_done (by kernel_rfl) ?_ _
  clear hHeld h0 h1
  generalize w.drew = W0 at *
  go_wp2_with (first | ((refine (right_no HD.out HNB.out).mono ?_); (rintro e V1 ⟨rfl, hb⟩); (have HB1 := Lib.hid (HB0.out.trans (hb.mono HB0.out.size))); (have HD1 := Lib.hid (HD.out.below hb (Nat.le_refl _))); (clear hb)) | ((refine (left_no HD1.out HNA.out).mono ?_); (rintro e V2 ⟨rfl, hb⟩); (have HB2 := Lib.hid (HB1.out.trans (hb.mono HB1.out.size))); (clear hb)))
  go_ret
  exact ⟨rfl, HB2.out⟩
theorem apart_yes (h : WalkIs w base wb tbase tb T sv mb mp A B lim st) (hT : OkT T) (hl : T.length ≤ 100000) (ha : hasT T A = true) (hb : hasT T B = true) (hst : 0 ≤ st ∧ st < 1000000000) (hn : ¬ (A < 256 ∧ B < 256)) :
    Calls Tryz.prog 104 #[.pointer (some ⟨wb, 0, none⟩)] w fun e w' => e = .returned (.bool true) ∧ WalkIs w' base wb tbase tb T sv mb mp (nxtW T A B).1 (nxtW T A B).2.1 (nxtW T A B).2.2 (st + 1) ∧ Below base w w' := by
  have a1 := hasT_iff.1 ha
  have b1 := hasT_iff.1 hb
  unfold nxtW
  by_cases hc : B < A
  · rw [if_pos (Or.inr hc)]
    exact apart_l h hc (by rw [born_iff hT ha]; simp; omega) (by omega) hst
  · have h2 : 256 ≤ B := by omega
    rw [if_neg (by omega)]
    exact apart_r h (by omega) (by rw [born_iff hT hb]; simp; omega) (by omega) hst
theorem apart_no (h : WalkIs w base wb tbase tb T sv mb mp A B lim st) (hT : OkT T) (ha : hasT T A = true) (hb : hasT T B = true) (hn : A < 256 ∧ B < 256) :
    Calls Tryz.prog 104 #[.pointer (some ⟨wb, 0, none⟩)] w fun e w' => e = .returned (.bool false) ∧ Below w.heap.size w w' := by
  have e1 : bornT T A = false := by rw [born_iff hT ha]; simp; omega
  have e2 : bornT T B = false := by rw [born_iff hT hb]; simp; omega
  by_cases hc : B < A
  · exact apart_n1 h hc e1 e2
  · exact apart_n2 h (by omega) e1 e2
end
theorem TabIs.lt_size {w : World} {tbase tb : Nat} {T : List Ent} {sv : Value} {mb mp : Nat} (h : TabIs w tbase tb T sv mb mp) : ∀ x, tabF tb sv mb mp x → x < w.heap.size := by
  intro x hx
  rcases hx with rfl | e | rfl | rfl
  · exact blk_lt h.blk
  · exact hw.own_lt h.row x e
  · exact h.bys.lt
  · exact h.prs.lt
structure FreeIs (w W : World) (base wb tbase tb : Nat) (T : List Ent) (sv : Value) (mb mp : Nat) (A B lim st A' B' lim' st' : Int) : Prop where
  wk : WalkIs W base wb tbase tb T sv mb mp A' B' lim' st'
  ha : hasT T A' = true
  hb : hasT T B' = true
  ok : (wlkT T A B lim).1 = (wlkT T A' B' lim').1
  cnt : st + ((wlkT T A B lim).2 : Int) = st' + ((wlkT T A' B' lim').2 : Int)
  s0 : 0 ≤ st'
  s1 : st' + A' + B' < 1000000000
  bl : Below base w W
section
variable {w W V : World} {base wb tbase tb : Nat} {T : List Ent} {sv : Value} {mb mp : Nat} {A B lim st A' B' lim' st' : Int}
theorem FreeIs.below (h : FreeIs w W base wb tbase tb T sv mb mp A B lim st A' B' lim' st') (hb : Below W.heap.size W V) : FreeIs w V base wb tbase tb T sv mb mp A B lim st A' B' lim' st' :=
  ⟨h.wk.below hb (Nat.le_refl _), h.ha, h.hb, h.ok, h.cnt, h.s0, h.s1, h.bl.trans (hb.mono (Nat.le_trans h.wk.le (Nat.le_of_lt (blk_lt h.wk.blk))))⟩
theorem FreeIs.next (h : FreeIs w W base wb tbase tb T sv mb mp A B lim st A' B' lim' st') (hT : OkT T) (hp : (pairB T lim' A' B').isSome = false) (hn : ¬ (A' < 256 ∧ B' < 256))
    (hw : WalkIs V base wb tbase tb T sv mb mp (nxtW T A' B').1 (nxtW T A' B').2.1 (nxtW T A' B').2.2 (st' + 1)) (hb : Below base W V) :
    FreeIs w V base wb tbase tb T sv mb mp A B lim st (nxtW T A' B').1 (nxtW T A' B').2.1 (nxtW T A' B').2.2 (st' + 1) := by
  obtain ⟨q1, q2, q3⟩ := nxt_has hT h.ha h.hb hn
  have e := wlk_next hT h.ha h.hb hp hn
  have h0 := h.s0
  have h1 := h.s1
  have p1 := hasT_iff.1 q1
  have p2 := hasT_iff.1 q2
  have p3 := hasT_iff.1 h.ha
  have p4 := hasT_iff.1 h.hb
  refine ⟨hw, q1, q2, ?_, ?_, by omega, by omega, h.bl.trans hb⟩
  · rw [h.ok, e]
  · rw [h.cnt, e]; simp only; omega
set_option maxHeartbeats 4000000 in
theorem free_any (h : WalkIs w base wb tbase tb T sv mb mp A B lim st) (hT : OkT T) (hl : T.length ≤ 100000) (ha : hasT T A = true) (hb : hasT T B = true) (hst : 0 ≤ st ∧ st < 100000000) :
    Calls Tryz.prog 64 #[.pointer (some ⟨wb, 0, none⟩)] w fun e w' => e = .returned (.bool (wlkT T A B lim).1) ∧ (∃ A' B' lim', WalkIs w' base wb tbase tb T sv mb mp A' B' lim' (st + ((wlkT T A B lim).2 : Int))) ∧ Below base w w' := by
  have i1 := hasT_iff.1 ha
  have i2 := hasT_iff.1 hb
  have HF : Hid (FreeIs w w base wb tbase tb T sv mb mp A B lim st A B lim st) := Lib.hid ⟨h, ha, hb, rfl, rfl, hst.1, by omega, Below.refl _ _⟩
  have HT := Lib.hid hT
  have HL := Lib.hid hl
  clear h hT hl ha hb hst i1 i2
  go_enter Tryz.func64, Tryz.ntmps64
  go_wp2_with fail
  go_loopg [] (A.toNat + B.toNat) (fun n W => ∃ A' B' lim' st', A'.toNat + B'.toNat ≤ n ∧ FreeIs w W base wb tbase tb T sv mb mp A B lim st A' B' lim' st')
  case atStart => exact ⟨A, B, lim, st, Nat.le_refl _, HF.out⟩
  case round =>
    obtain ⟨A', B', lim', st', hle, hF⟩ := hrel
    clear HF
    rename World => W
    have i1 := hasT_iff.1 hF.ha
    have i2 := hasT_iff.1 hF.hb
    have hl := HL.out
    have HBK := Lib.hid (blocked_any hF.wk (by omega) (by omega))
    have HF := Lib.hid hF
    have HLE := Lib.hid hle
    obtain ⟨bb, hbb⟩ : ∃ bb, (pairB T lim' A' B').isSome = bb := ⟨_, rfl⟩
    rw [hbb] at HBK
    have HBB := Lib.hid hbb
    clear hF hle hbb hl
    by_cases h2 : A' < 256 ∧ B' < 256
    · have H2 := Lib.hid h2
      clear i1 i2 h2
      rcases bb with _ | _
      · go_wp2_with (first | ((refine HBK.out.mono ?_); (rintro e V1 ⟨rfl, hb⟩); (have HF1 := Lib.hid (HF.out.below hb)); (clear hb)) | ((refine (apart_no HF1.out.wk HT.out HF1.out.ha HF1.out.hb H2.out).mono ?_); (rintro e V2 ⟨rfl, hb⟩); (have HF2 := Lib.hid (HF1.out.below hb)); (clear hb)))
        go_ret
        have e := wlk_bytes HBB.out H2.out
        have c := HF.out.cnt
        rw [HF.out.ok, c, e]
        exact ⟨rfl, ⟨_, _, _, by simpa using HF2.out.wk⟩, HF2.out.bl⟩
      · go_wp2_with ((refine HBK.out.mono ?_); (rintro e V1 ⟨rfl, hb⟩); (have HF1 := Lib.hid (HF.out.below hb)); (clear hb))
        go_ret
        have e := wlk_blocked HBB.out
        have c := HF.out.cnt
        rw [HF.out.ok, c, e]
        exact ⟨rfl, ⟨_, _, _, by simpa using HF1.out.wk⟩, HF1.out.bl⟩
    · have H2 := Lib.hid h2
      have s0 := HF.out.s0
      have s1 := HF.out.s1
      have hst : 0 ≤ st' ∧ st' < 1000000000 := ⟨s0, by omega⟩
      clear i1 i2 h2 s0 s1
      rcases bb with _ | _
      · go_wp2_with (first | ((refine HBK.out.mono ?_); (rintro e V1 ⟨rfl, hb⟩); (have HF1 := Lib.hid (HF.out.below hb)); (clear hb)) | ((refine (apart_yes HF1.out.wk HT.out HL.out HF1.out.ha HF1.out.hb hst H2.out).mono ?_); (rintro e V2 ⟨rfl, hw, hb⟩); (have HF2 := Lib.hid (HF1.out.next HT.out HBB.out H2.out hw hb)); (clear hw hb)))
        have q := (nxt_has HT.out HF.out.ha HF.out.hb H2.out).2.2
        have hle := HLE.out
        go_roundg ((nxtW T A' B').1.toNat + (nxtW T A' B').2.1.toNat)
        · exact ⟨_, _, _, _, Nat.le_refl _, HF2.out⟩
        · omega
      · go_wp2_with ((refine HBK.out.mono ?_); (rintro e V1 ⟨rfl, hb⟩); (have HF1 := Lib.hid (HF.out.below hb)); (clear hb))
        go_ret
        have e := wlk_blocked HBB.out
        have c := HF.out.cnt
        rw [HF.out.ok, c, e]
        exact ⟨rfl, ⟨_, _, _, by simpa using HF1.out.wk⟩, HF1.out.bl⟩
variable {a b : Int}
theorem shas_any (h : TabIs w tbase tb T sv mb mp) (hl : T.length ≤ 100000) :
    Calls Tryz.prog 58 #[.pointer (some ⟨tb, 0, none⟩), .int .i64 a, .int .i64 b] w fun e w' => e = .returned (.bool (hasT T a && hasT T b)) ∧ w' = w := by
  have HT := Lib.hid h
  have hr : (hasT T a && hasT T b) = (decide (0 ≤ a) && decide (a < (T.length : Int)) && decide (0 ≤ b) && decide (b < (T.length : Int))) := by simp only [hasT, Bool.and_assoc]
  rw [hr]
  clear h hr hl
  by_cases p1 : 0 ≤ a
  · by_cases p2 : a < (T.length : Int)
    · by_cases p3 : 0 ≤ b
      · go_enter Tryz.func58, Tryz.ntmps58
        go_wp2_with ((refine (len_tab HT.out).mono ?_); (rintro e V1 ⟨rfl, rfl⟩))
        go_ret
        exact ⟨by simp [p1, p2, p3], rfl⟩
      · go_enter Tryz.func58, Tryz.ntmps58
        go_wp2_with ((refine (len_tab HT.out).mono ?_); (rintro e V1 ⟨rfl, rfl⟩))
        go_ret
        exact ⟨by rw [decide_eq_false (p := 0 ≤ b) (by omega)]; simp, rfl⟩
    · go_enter Tryz.func58, Tryz.ntmps58
      go_wp2_with ((refine (len_tab HT.out).mono ?_); (rintro e V1 ⟨rfl, rfl⟩))
      go_ret
      exact ⟨by rw [decide_eq_false (p := a < (T.length : Int)) (by omega)]; simp, rfl⟩
  · go_enter Tryz.func58, Tryz.ntmps58
    go_wp2_with fail
    go_ret
    exact ⟨by rw [decide_eq_false (p := 0 ≤ a) (by omega)]; simp, rfl⟩
theorem sbegin_any (h : TabIs w tbase tb T sv mb mp) :
    Calls Tryz.prog 63 #[.pointer (some ⟨tb, 0, none⟩), .int .i64 a, .int .i64 b, .int .i64 lim] w fun e w' => (∃ nb, e = .returned (.pointer (some ⟨nb, 0, none⟩)) ∧ WalkIs w' w.heap.size nb tbase tb T sv mb mp a b lim 0) ∧ Below w.heap.size w w' := by
  have HT := Lib.hid h
  clear h
  go_enter Tryz.func63, Tryz.ntmps63
  go_wp2_with fail
  go_ret
  have hb := (Below.refl w.heap.size w).alloc (Nat.le_refl _) (.cells #[.int .i64 a, .int .i64 b, .pointer (some ⟨tb, 0, none⟩), .int .i64 lim, .int .i64 0] 121)
  exact ⟨⟨_, rfl, ⟨blk_new _ _, HT.out.below hb (Nat.le_refl _), HT.out.lt_size, Nat.le_refl _⟩⟩, hb⟩
end
end Go.Proofs.YtbppaiejpgdbiaaGreat
