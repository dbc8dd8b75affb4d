/- Layer 4 (token): TokenMakes. -/
import Derived.Test.YtdppdjiigecjoaaGrow2
import Derived.Test.YtdppdjiigecjoaaOpen
namespace Go.Proofs.Ytdppdjiigecjoaa
open Go.RowKit Go.Maps Go.WideMaps
set_option maxRecDepth 100000
set_option linter.unusedVariables false
set_option linter.unusedSimpArgs false

theorem field_mrgs (u v : Value) (w : World) : (Instr.field 48 (.agg #[u, v]) 1).run Try.prog w = .ok v w := by kernel_rfl
structure TMIs (w W : World) (T : List Ent) (tb : Nat) (sv : Value) (mb mp : Nat) : Prop where
  tab : TabIs W w.heap.size tb T sv mb mp
  below : Below w.heap.size w W

theorem adds_take (l : List (Int × Int)) : ∀ (T T' : List Ent) (k : Nat) (hk : k < l.length) (Tk : List Ent), addsT T l = some T' → addsT T (l.take k) = some Tk → (addT Tk l[k].1 l[k].2).2.1 = 0 := by
  induction l with
  | nil => intro T T' k hk; exact absurd hk (by simp)
  | cons a l ih =>
    intro T T' k hk Tk h1 h2
    simp only [addsT] at h1
    split at h1
    · rename_i h0
      match k, hk, h2 with
      | 0, _, h2 => simp only [List.take_zero, addsT, Option.some.injEq] at h2; subst h2; exact h0
      | k + 1, hk, h2 =>
        simp only [List.take_succ_cons, addsT, if_pos h0] at h2
        exact ih _ _ k (by simpa using hk) _ h1 h2
    · cases h1

set_option maxHeartbeats 4000000 in
theorem tmakes_small (l : List Nat) (A : Option Addr) (c : Nat) (w : World) (hl : Sl1 w A (fun x : Nat => .int .u16 (x : Int)) l) (hsm : ∀ x ∈ l, x < 65536) (hlen : l.length ≤ 60) : Calls Try.prog 7 #[.slice A l.length c] w (RetTrue w) := by
  have HL := Lib.hid hl
  have h60 : ¬ (60 : Int) < (l.length : Int) := by omega
  clear hl
  go_enter Try.func7, Try.ntmps7
  go_wp2_with fail
  refine (awake4_any _).mono ?_
  rintro e w1 ⟨rfl, hb1⟩
  have HB1 := Lib.hid hb1
  have HL1 := Lib.hid (HL.out.below hb1 (Nat.le_refl _))
  clear hb1
  go_wp2_with fail
  refine (grow_any l A c w1 HL1.out hsm (by omega)).mono ?_
  rintro e w2 ⟨hb2, A1, n1, c1, A2, n2, c2, rfl, href⟩
  obtain ⟨T, hT⟩ : ∃ T, growT l (min (l.length / 2) 30) = T := ⟨_, rfl⟩
  have hadds := addsT_grow l (min (l.length / 2) 30)
  rw [hT] at href hadds
  have hn2 : n2 = (mrgsT T).length := by obtain ⟨_, _, e⟩ := own_slice href.mrg; injection e
  subst hn2
  have HM := Lib.hid (own_sl (enc := encM) (fun _ => rfl) href.mrg (by decide))
  have HADDS := Lib.hid hadds
  have HB2 := Lib.hid (HB1.out.trans (hb2.mono HB1.out.size))
  have hsm2 := hadds.1.small
  have hm3 : (mrgsT T).length < 9000000000000000000 := by rw [mrgs_len]; omega
  clear hT href hadds hb2
  have hfd := field_mrgs (.slice A1 n1 c1) (.slice A2 (mrgsT T).length c2) w2
  go_wp2_with fail
  refine (new_any (mrgsT T) A2 c2 w2 HM.out hm3).mono ?_
  rintro e w3 ⟨hb3, (⟨T', tb, sv, mb, mp, rfl, ha, hok, ht⟩ | ⟨k, hk, T', ha, hok, he, rfl⟩)⟩
  · rw [HADDS.out.2] at ha
    injection ha with ha
    subst ha
    have h256 := okT_256 hok
    have HOK := Lib.hid hok
    have HS := Lib.hid (show TMIs w w3 T tb sv mb mp from ⟨⟨ht.blk, own_less ht.row HB2.out.size, ht.bys, ht.prs, ht.ne, by have := HB2.out.size; have := ht.lt; omega⟩, HB2.out.trans (hb3.mono HB2.out.size)⟩)
    clear hok ht hb3
    have el : ((mrgsT T).length : Int) = (T.length : Int) - 256 := by rw [mrgs_len]; omega
    rw [el]
    go_wp2_with fail
    refine (len_tab HS.out.tab).mono ?_
    rintro e w' ⟨rfl, rfl⟩
    have wl : IntKind.i64.wrap ((T.length : Int) - 256) = (T.length : Int) - 256 := IntWalk.i64_in _ (by omega)
    go_wp2_with fail
    go_loopg [6] (T.length - 256) (fun n i W => ∃ k : Nat, 256 ≤ k ∧ k + n = T.length ∧ i = .int .i64 (k : Int) ∧ TMIs w W T tb sv mb mp)
    case atStart => exact ⟨256, by omega, by omega, rfl, HS.out⟩
    case round =>
      obtain ⟨k, hk1, hk, rfl, hW⟩ := hrel
      have HW := Lib.hid hW
      clear HS hW
      rename World => W
      go_wp2_with fail
      refine (len_tab HW.out.tab).mono ?_
      rintro e w' ⟨rfl, rfl⟩
      by_cases hlt : k < T.length
      · have hlt' : (k : Int) < (T.length : Int) := by omega
        have M := Lib.hid (made_all HOK.out hk1 hlt)
        go_wp2_with fail
        refine (par_tab k HW.out.tab).mono ?_
        rintro e w5 ⟨rfl, hb5⟩
        rw [M.out.1]
        obtain ⟨m1, m2, m3, m4, m5, m6, m7, m8, m9, m10⟩ := M.out
        obtain ⟨a, b, hab⟩ : ∃ a b, parT T (k : Int) = (a, b) := ⟨_, _, rfl⟩
        rw [hab] at m2 m3 m5 m6 m7 m8 m9 m10 ⊢
        unfold pairV
        have hb6 := hb5.alloc hb5.size (.cells #[.int .i64 a, .int .i64 b] 52)
        have hn6 := blk_new w5 (.cells #[.int .i64 a, .int .i64 b] 52)
        have HT6 := Lib.hid (HW.out.tab.below hb6 (Nat.le_refl _))
        have HB6 := Lib.hid (HW.out.below.trans (hb6.mono HW.out.below.size))
        have n0 := blk_cell hn6 0
        have n1 := blk_cell hn6 1
        simp only [List.getElem?_toArray, List.getElem?_cons_zero, List.getElem?_cons_succ] at n0 n1
        clear hb6 hn6 hb5
        go_upto_region 10 with fail
        generalize w5.alloc (.cells #[.int .i64 a, .int .i64 b] 52) = w6 at *
        go_wp2_with fail
        refine (bytes_tab a HT6.out).mono ?_
        rintro e w' ⟨rfl, rfl⟩
        rw [m2]
        go_wp2_with fail
        refine (bytes_tab b HT6.out).mono ?_
        rintro e w' ⟨rfl, rfl⟩
        rw [m3]
        go_wp2_with fail
        refine (bytes_tab k HT6.out).mono ?_
        rintro e w' ⟨rfl, rfl⟩
        rw [m4]
        go_wp2_with fail
        refine (pair_tab a b (wf_i64 (by omega) (by omega)) (wf_i64 (by omega) (by omega)) HT6.out).mono ?_
        rintro e w' ⟨rfl, rfl⟩
        rw [m6]
        have hsz : ∀ i : Int, (bytesT T i).length ≤ 64 := by
          intro i
          unfold bytesT
          split
          · rename_i hi
            obtain ⟨j, rfl, hj, e⟩ := hasT_at hi
            rw [e]
            exact (HOK.out.len _ (List.getElem_mem hj)).2
          · simp
        have hcat : bs (bytesT T a ++ bytesT T b) = bs (bytesT T a) ++ bs (bytesT T b) := by rw [bs_append]
        have hbig : (9223372036854775807 < (bs (bytesT T a)).size + (bs (bytesT T b)).size) = False := by
          rw [eq_iff_iff, iff_false, bs_size, bs_size]
          have := hsz a; have := hsz b; omega
        unfold strV
        rw [hcat]
        clear m2 m3 m4 m5 m6 hab
        generalize bs (bytesT T a) = X at *
        generalize bs (bytesT T b) = Y at *
        go_wp2_with fail
        go_roundg (gk - 1)
        case measure => omega
        case rel => exact ⟨k + 1, by omega, by omega, by simp, HT6.out, HB6.out⟩
      · have hke : k = T.length := by omega
        have hlt' : ¬ (k : Int) < (T.length : Int) := by omega
        go_wp2_with fail
        go_ret
        exact ⟨rfl, HW.out.below⟩
  · exfalso
    have := adds_take (mrgsT T) baseT T k hk T' HADDS.out.2 ha
    exact he this

theorem tmakes_law (xs : List Int) (A : Option Addr) (c : Nat) (w : World) (_ : xs.length ≤ c) (_ : c ≤ maxLen) (hw : ∀ y ∈ xs, (Lit.int .u16 y).wf = true) (hs : Sl1 w A (Value.int .u16) xs) :
    Calls Try.prog 7 #[.slice A xs.length c] w (RetTrue w) := by
  by_cases h : xs.length ≤ 60
  · obtain ⟨l, e, h1, h2⟩ := nats_of hw hs
    rw [← e]
    exact tmakes_small l A c w h2 h1 (by omega)
  · have h1 : (60 : Int) < (xs.length : Int) := by omega
    go_enter Try.func7, Try.ntmps7
    go_wp2_with fail
    refine (awake4_any _).mono ?_
    rintro e w1 ⟨rfl, hb1⟩
    go_wp2_with fail
    go_ret
    exact ⟨by simp, hb1⟩
end Go.Proofs.Ytdppdjiigecjoaa
