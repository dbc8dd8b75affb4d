/- Texts of several layers, one behind the other: AppU, Ask1, Place2, Place3, Place4, Place5, PlaceLawN. -/
import Derived.Test.YtkkcekgbnloegaaGreatZZC3
import Derived.WalkKit
import Derived.KernelRfl
import Derived.Lib.Hide
import Derived.Deep.QuietTactic
import Derived.BigQuiet
import Derived.OwnWalk
import Derived.Lib.Strings
import Derived.Deep.DeepCutAuto
import Derived.Deep.RegionHeld3
import Derived.StillTailTactics
import Derived.Maps.OwnSet
import Derived.Maps.OwnOps
import Derived.DeepKeys4
import Derived.WideKeyEntry
import Derived.Maps.AppendAt
import Derived.Test.YtkkcekgbnloegaaGreatProg
import Derived.Laws.ResultCell
import Derived.Laws.AppendOwnNone
import Derived.Laws.IdiomStrings
import Derived.Lib.AppendStr
import Derived.Deep.Slices
import Derived.Deep.Fields
import Derived.ChangeSame
import Derived.SliceStrings
import Derived.OpenShut
import Derived.Laws.LoneSync
import Derived.Laws.OwnMore
import Derived.Laws.MakeOwn
import Derived.Laws.Bits64b
import Derived.Laws.BitsAllLaws
import Derived.Tactics
import Derived.Tactics2
import Derived.Defers
import Derived.Laws.Pointers
import Derived.RegionTactic
import Derived.RegionCalls
import Derived.ChangeAlike
import Derived.Test.YtkkcekgbnloegaaGreatRows
import Derived.ProofKit
import Derived.ShutString
import Derived.ChangeOld
import Derived.Below
import Derived.Lib.SmallJoins
set_option maxRecDepth 100000
set_option linter.unusedVariables false
set_option linter.unusedSimpArgs false
namespace Go.Proofs.YtkkcekgbnloegaaGreat
open Go.RowKit Go.Maps
def NotU (v : Value) : Prop := ∀ x, v ≠ .int .u32 x
def NoU (W : World) (g : Nat) : Prop := ∀ j u, W.cell? ⟨g, j, none⟩ = some u → NotU u
theorem noU_of {W : World} {g : Nat} {cs : Array Value} {t : TypeId} {fz : Nat × Nat} (h : W.heap[g]? = some (.cells cs t fz)) (hc : ∀ u ∈ cs.toList, NotU u) : NoU W g := by
  intro j u hu
  rw [blk_cell h] at hu
  exact hc u (by
    have h2 : cs.toList[j]? = some u := by simpa using hu
    exact List.mem_of_getElem? h2)
theorem noU_cells {W : World} {g : Nat} {cs : Array Value} {t : TypeId} {fz : Nat × Nat} (h : W.heap[g]? = some (.cells cs t fz)) (hU : NoU W g) : ∀ u ∈ cs.toList, NotU u := by
  intro u hu
  obtain ⟨j, hj⟩ := List.mem_iff_getElem?.1 hu
  exact hU j u (by rw [blk_cell h]; simpa using hj)
theorem NoU.blk {W W' : World} {g : Nat} (h : NoU W g) (e : W'.heap[g]? = W.heap[g]?) : NoU W' g := fun j u hu => h j u (by rw [← hu]; simp [World.cell?, e])
theorem zero_cells_one (v : Value) (n : Nat) : ∀ u ∈ (Builtin.zeroCells #[v] n).toList, u = v := by
  intro u hu
  unfold Builtin.zeroCells at hu
  simp only [Array.toList_map, List.mem_map] at hu
  obtain ⟨i, _, hi⟩ := hu
  rw [← hi]
  simp [Nat.mod_one]
section
variable {P : Program} (w : World)
theorem run_append_ownU (base : Nat) (t ty e : TypeId) (i : TypeInfo) (z : Value) (bytes : Nat) (ht : P.underlying t = some (.slice e)) (hi : P.info? e = some i) (hz : i.zero = some z)
    (hsize : i.size = 1) (hby : i.bytes = bytes) (hzc : z.cells = #[z]) (hzu : NotU z)
    (v : Value) (n : Nat) (xs : List Value) (hown : w.ownsRow base e 1 v n xs) (hU : ∀ g, v.ownBlock = some g → NoU w g)
    (a : Addr) (m c : Nat) (news : List Value) (hl : news.length = m * 1) (hnews : ∀ j u, news[j]? = some u → w.cell? (a.add j) = some u) (h1 : ∀ u ∈ news, u.oneCell' = true) (hnu : ∀ u ∈ news, NotU u)
    (h63 : n + m ≤ maxLen) (hbytes : (n + m) * bytes ≤ 140737488355328) (hbase : base ≤ w.heap.size) :
    ∃ v' w', (Builtin.append_ #[t, t] ty #[v, .slice (some a) m c]).run P w = .ok v' w' ∧ w'.ownsRow base e 1 v' (n + m) (xs ++ news) ∧ w.grownBy w' v.ownBlock ∧ ∀ g, v'.ownBlock = some g → NoU w' g := by
  subst hby
  have hzs : z.cells.size = i.size := by rw [hzc, hsize]; rfl
  rw [← hsize] at hown hl ⊢
  have hsmall : n + m ≤ 9223372036854775807 := by simp only [maxLen] at h63; omega
  have hlen : (xs ++ news).length = (n + m) * i.size := by rw [List.length_append, hown.1, hl, Nat.add_mul]
  have hxu : ∀ u ∈ xs, NotU u := by
    intro u hu
    rcases hown.2 with ⟨rfl, rfl⟩ | ⟨g, cap, cur, rfl, hbg, hg, hnc, hcm, hcs, htake⟩
    · have : xs = [] := List.eq_nil_of_length_eq_zero (by simpa using hown.1)
      subst this
      simp at hu
    · rw [← htake] at hu
      exact noU_cells hg (hU g rfl) u (List.mem_of_mem_take hu)
  have grown : ∀ (old : Nat), old < n + m → ∀ (row : Option Nat),
      (w.drew.alloc (.cells (xs.toArray ++ news.toArray ++ Builtin.zeroCells z.cells (grownCap w (n + m) old e - (n + m))) e)).ownsRow base e i.size
        (.slice (some ⟨w.heap.size, 0, none⟩) (n + m) (grownCap w (n + m) old e)) (n + m) (xs ++ news) ∧
      w.grownBy (w.drew.alloc (.cells (xs.toArray ++ news.toArray ++ Builtin.zeroCells z.cells (grownCap w (n + m) old e - (n + m))) e)) row ∧
      NoU (w.drew.alloc (.cells (xs.toArray ++ news.toArray ++ Builtin.zeroCells z.cells (grownCap w (n + m) old e - (n + m))) e)) w.heap.size := by
    intro old ho row
    have hge := grownCap_ge w (n + m) old e
    have hcm : grownCap w (n + m) old e ≤ maxLen := grownCap_le_maxLen w (n + m) old e h63
    refine ⟨⟨hlen, .inr ⟨w.heap.size, _, _, rfl, hbase, heap_alloc_new w.drew _, hge, hcm, ?_, ?_⟩⟩, ⟨rfl, rfl, rfl, by simp, fun k hk _ => Below.heap_alloc w.drew _ k hk⟩, noU_of (heap_alloc_new w.drew _) ?_⟩
    · simp only [Array.size_append, List.size_toArray, size_zeroCells, hzs, hown.1, hl, ← Nat.add_mul]
      congr 1
      omega
    · simp only [Array.toList_append, List.append_assoc]
      rw [← List.append_assoc, ← hlen]
      exact List.take_left
    · intro u hu
      simp only [Array.toList_append, List.mem_append] at hu
      rcases hu with (hu | hu) | hu
      · exact hxu u hu
      · exact hnu u hu
      · rw [hzc] at hu
        rw [zero_cells_one z _ u hu]
        exact hzu
  rcases hown.2 with ⟨rfl, rfl⟩ | ⟨g, cap, cur, rfl, hbg, hg, hnc, hcm, hcs, htake⟩
  · have hx : xs = [] := List.eq_nil_of_length_eq_zero (by simpa using hown.1)
    subst hx
    by_cases hm : m = 0
    · subst hm
      have hn : news = [] := List.eq_nil_of_length_eq_zero (by simpa using hl)
      subst hn
      refine ⟨.slice none 0 0, w, ?_, World.ownsRow_nil w base e i.size, ⟨rfl, rfl, rfl, Nat.le_refl _, fun _ _ _ => rfl⟩, by simp [Value.ownBlock]⟩
      simp [Builtin.append_, run_underlying ht, sizeOf, typeInfo, hi, Builtin.lenOf, Builtin.firstCells, loadCells, loadCellsFrom]
    · have hr := run_append_nil (P := P) w t ty e i z ht hi hz a m c news hl hnews (by omega) (by omega) (by have hb := hbytes; simp only [Nat.zero_add] at hb; omega)
      have hgr := grown 0 (by omega) (Value.ownBlock (.slice none 0 0))
      simp only [Nat.zero_add, List.nil_append, Array.empty_append] at hgr ⊢
      exact ⟨_, _, hr, hgr.1, hgr.2.1, fun g' e' => by simp only [Value.ownBlock, Option.some.injEq] at e'; subst e'; exact hgr.2.2⟩
  · by_cases hroom : n + m ≤ cap
    · have hfit : n * i.size + news.length ≤ cur.size := by rw [hl, hcs, ← Nat.add_mul]; exact Nat.mul_le_mul_right _ hroom
      have hr := run_append_room (P := P) w t ty e i ht hi g n cap cur hg a m c news hl hnews h1 hroom hfit
      refine ⟨_, _, hr, ⟨hlen, .inr ⟨g, cap, _, rfl, hbg, setRow_heap w g cur _ e _ hg, hroom, hcm, ?_, ?_⟩⟩, ⟨rfl, rfl, rfl, by simp, fun k _ hk => setRow_other w g k _ (fun e => hk (by simp [Value.ownBlock, e]))⟩, fun g' e' => ?_⟩
      · simp only [List.size_toArray, List.length_append, List.length_take, List.length_drop, Array.length_toList]
        omega
      · rw [htake, ← hlen]
        exact List.take_left
      · simp only [Value.ownBlock, Option.some.injEq] at e'
        subst e'
        refine noU_of (setRow_heap w g cur _ e _ hg) (fun u hu => ?_)
        have hcu := noU_cells hg (hU g rfl)
        simp only [List.mem_append] at hu
        rcases hu with (hu | hu) | hu
        · exact hcu u (List.mem_of_mem_take hu)
        · exact hnu u hu
        · exact hcu u (List.mem_of_mem_drop hu)
    · have holds : ∀ j u, xs[j]? = some u → w.cell? ((⟨g, 0, none⟩ : Addr).add j) = some u := hown.cells (g := g) rfl
      have hr := run_append_grow (P := P) w t ty e i z ht hi hz ⟨g, 0, none⟩ n cap xs hown.1 holds a m c news hl hnews (by omega) (by omega) (growslice_fits (by omega) hbytes)
      have hgr := grown cap (by omega) (Value.ownBlock (.slice (some ⟨g, 0, none⟩) n cap))
      exact ⟨_, _, hr, hgr.1, hgr.2.1, fun g' e' => by simp only [Value.ownBlock, Option.some.injEq] at e'; subst e'; exact hgr.2.2⟩
end
open Go.RowKit Go.Maps Go.WideMaps
structure OutI (W : World) (B : Nat) (v : Value) (n : Nat) (L : List Int) : Prop where
  row : W.ownsRow B 3 1 v n (L.map (Value.int .i64))
  noU : ∀ g, v.ownBlock = some g → NoU W g
section
variable {w w' W W' : World} {base lb b B n m k c i wb g : Nat} {p : VocP} {s : List UInt8} {A : Option Addr} {v : Value} {L : List Int}
theorem OutI.nil (W : World) (B : Nat) : OutI W B (.slice none 0 0) 0 [] := ⟨own_nil _ _ _ _, fun g h => by simp [Value.ownBlock] at h⟩
theorem OutI.len (h : OutI W B v n L) : L.length = n := by have := h.row.1; simpa using this
theorem OutI.keep {F : Nat → Prop} (h : OutI W B v n L) (hk : Keep F W W') (hF : ∀ g, v.ownBlock = some g → ¬ F g) : OutI W' B v n L :=
  ⟨own_keep h.row hk hF, fun g hg => (h.noU g hg).blk (hk.block g (h.row.lt g hg).2 (hF g hg))⟩
theorem OutI.below (h : OutI W B v n L) (hb : Below W.heap.size W W') : OutI W' B v n L := h.keep (F := fun _ => False) (Keep.of_below hb) (fun g _ h => h)
theorem OutI.tag (h : OutI W B v n L) {g : Nat} (hg : v.ownBlock = some g) : ∃ cs fz, W.heap[g]? = some (.cells cs 3 fz) := row_tag h.row hg
theorem OutI.ask (h : OutI W B v n L) (hl : LatV W base lb p s) (ha : Ask W W' base lb p s) : OutI W' B v n L := by
  obtain ⟨cs, fz, hb⟩ := hl.tag
  exact h.keep ha.keep (fun g hg => row_off h.row hb (by decide) g hg)
theorem OutI.far (h : OutI W B v n L) {cs : Array Value} {t : TypeId} {fz : Nat × Nat} (hb : W.heap[b]? = some (.cells cs t fz)) (ht : 3 ≠ t) (i : Nat) (u : Value) : OutI (W.setCell ⟨b, i, none⟩ u) B v n L :=
  h.keep ((Keep.refl (fun x => x = b) W).setCell (p := ⟨b, i, none⟩) (.inl rfl) u) (fun g hg => row_off h.row hb ht g hg)
theorem OutI.ints (h : OutI W B v n L) : IntsIs W B v L := by
  obtain ⟨A, c, rfl⟩ := own_slice h.row
  have e := h.len
  subst e
  exact ⟨A, c, rfl, h.row⟩
theorem nat_noU (h : NatIs W v m) (hk : Keep (fun x => x = g) W W') (hU : NoU W g) : NatIs W' v m := by
  obtain ⟨A, c, rfl, h1, h2⟩ := h
  refine ⟨A, c, rfl, fun i x hx => ?_, h2⟩
  obtain ⟨b, o, rfl, hc⟩ := h1 i x hx
  refine ⟨b, o, rfl, hk.keepCell hc (fun e => ?_)⟩
  subst e
  exact hU _ _ hc _ rfl
theorem LatV.rows (h0 : LatV w base lb p s) (h : Ask w W base lb p s) : ∃ tr A c dn st se fv vals, LatIs W base lb tr p.vb p.T s s.length A c dn st se fv vals ∧ ((fv = .slice none 0 0 ∧ dn = 0 ∧ st = 0) ∨
    ∃ w0 g vs, dn = 1 ∧ fv = .slice (some ⟨g, 0, none⟩) (s.length + 1) (s.length + 1) ∧ lb < g ∧ FrIs w0 W g s.length (cntJ p.T s) vs) ∧
    (∀ g, (Value.slice A s.length c).ownBlock = some g → g < w.heap.size) ∧ ∀ i v, i < s.length → vals[i]? = some v → ∀ g, v.ownBlock = some g → g < w.heap.size := by
  obtain ⟨tr, A, c, dn, st, se, fv, vals, h5, h6⟩ := h.lat.lat
  obtain ⟨tr0, A0, c0, dn0, st0, se0, fv0, vals0, h1, h2⟩ := h0.lat
  have h3 := h.row.2
  rw [h5.c3, h1.c3] at h3
  injection h3 with h3
  injection h3 with h3 _ h4
  subst h3
  subst h4
  refine ⟨tr, A, c, dn, st, se, fv, vals, h5, h6, fun g hg => (h1.row.lt g hg).2, fun i v hi hv g hg => ?_⟩
  obtain ⟨ga, cap, e1, _, _, _⟩ := own_open h1.row (by omega)
  have hga : (Value.slice A s.length c).ownBlock = some ga := by rw [e1]; rfl
  have hne : ga ≠ lb := row_off h1.row h1.blk (by decide) ga hga
  obtain ⟨v0, q1, q2⟩ := h1.ids i hi
  have k0 := h1.row.cells hga i v0 q1
  have k1 := h5.row.cells hga i v hv
  have k2 : W.cell? ((⟨ga, 0, none⟩ : Addr).add i) = w.cell? ((⟨ga, 0, none⟩ : Addr).add i) := by
    rw [add_plain]
    exact World.cell?_of_block (h.keep.block ga (h1.row.lt ga hga).2 hne)
  rw [k1, k0] at k2
  injection k2 with k2
  subst k2
  exact (q2.lt g hg).2
theorem Ask.grow (h : Ask w W base lb p s) (h0 : LatV w base lb p s) (hk : Keep (fun x => x = g) W W') (hg : w.heap.size ≤ g) {cs : Array Value} {fz : Nat × Nat} (ht : W.heap[g]? = some (.cells cs 3 fz)) (hU : NoU W g) : Ask w W' base lb p s := by
  have hn : ∀ v m, NatIs W v m → NatIs W' v m := fun v m hv => nat_noU hv hk hU
  obtain ⟨tr, A, c, dn, st, se, fv, vals, h5, h6, h7, h8⟩ := h0.rows h
  have hlb := h0.lt_size
  have hc : ∀ j, W'.cell? ⟨lb, j, none⟩ = W.cell? ⟨lb, j, none⟩ := fun j => World.cell?_of_block (hk.block lb h5.lt (fun e => by omega))
  obtain ⟨b0, hvo⟩ := h.lat.voc
  refine ⟨⟨⟨tr, A, c, dn, st, se, fv, vals, ⟨hk.blk h5.blk (fun e => by omega), own_keep h5.row hk (fun x hx e => by have := h7 x hx; omega), fun i hi => ?_, h5.lo⟩, ?_⟩, ⟨b0, hvo.keep hk (fun x hx e => ?_)⟩, h.lat.lt⟩, h.keep.trans hk (fun x hx => .inr (by omega)), ⟨fun a d e he => h.row.1 a d e ((hc 7).symm.trans he), (hc 3).trans h.row.2⟩, fun v m hv => hn v m (h.nat v m hv)⟩
  · obtain ⟨v, q1, q2⟩ := h5.ids i hi
    exact ⟨v, q1, own_keep q2 hk (fun x hx e => by have := h8 i v hi q1 x hx; omega)⟩
  · rcases h6 with h2 | ⟨w0, g2, vs, h3, h7, h5, h6⟩
    · exact .inl h2
    · exact .inr ⟨w0, g2, vs, h3, h7, h5, h6.keepN ht (by decide) hk hn⟩
  · rcases hx with hx | hx
    · have := h0.lt; omega
    · cases hx
theorem Var.grow (h : Var W lb b A k c m) (hk : Keep (fun x => x = g) W W') {cs : Array Value} {fz : Nat × Nat} (ht : W.heap[g]? = some (.cells cs 3 fz)) (hU : NoU W g) (hlb : lb ≠ g) : Var W' lb b A k c m :=
  ⟨hk.blk h.blk (fun e => by
    have h1 := h.blk
    rw [e, ht] at h1
    injection h1 with h1
    injection h1 with _ h1 _
    exact absurd h1 (by decide)), nat_noU h.nat hk hU, fun x y z hx => h.off x y z (by
    rw [← hx]
    exact (World.cell?_of_block (hk.block lb (Nat.lt_trans h.lo h.lt) (fun e => hlb e))).symm), h.lo⟩
theorem Way.grow (h : Way W lb wb i) (hk : Keep (fun x => x = g) W W') {cs : Array Value} {fz : Nat × Nat} (ht : W.heap[g]? = some (.cells cs 3 fz)) : Way W' lb wb i :=
  ⟨hk.blk h.blk (fun e => by
    have h1 := h.blk
    rw [e, ht] at h1
    injection h1 with h1
    injection h1 with _ h1 _
    exact absurd h1 (by decide)), h.lo⟩
theorem keep_none {F : Nat → Prop} (hk : Keep F W W') (hF : ∀ g, ¬ F g) : Below W.heap.size W W' := ⟨hk.os, hk.tape, hk.output, hk.size, fun x hx => hk.block x hx (hF x)⟩
theorem Ask.app (h : Ask w W base lb p s) (h0 : LatV w base lb p s) (ho : OutI W B v n L) (hB : w.heap.size ≤ B) (hk : Keep (fun g => v.ownBlock = some g) W W') : Ask w W' base lb p s := by
  cases hv : v.ownBlock with
  | none => exact h.below (keep_none hk (fun g e => by rw [hv] at e; cases e))
  | some g =>
    obtain ⟨cs, fz, ht⟩ := ho.tag hv
    exact h.grow h0 (hk.mono (fun x hx => by rw [hv] at hx; injection hx with hx; exact hx.symm)) (Nat.le_trans hB (ho.row.lt g hv).1) ht (ho.noU g hv)
theorem Var.app (h : Var W lb b A k c m) (ho : OutI W B v n L) (hB : lb < B) (hk : Keep (fun g => v.ownBlock = some g) W W') : Var W' lb b A k c m := by
  cases hv : v.ownBlock with
  | none => exact h.below (keep_none hk (fun g e => by rw [hv] at e; cases e))
  | some g =>
    obtain ⟨cs, fz, ht⟩ := ho.tag hv
    exact h.grow (hk.mono (fun x hx => by rw [hv] at hx; injection hx with hx; exact hx.symm)) ht (ho.noU g hv) (by have := (ho.row.lt g hv).1; omega)
theorem Way.app (h : Way W lb wb i) (ho : OutI W B v n L) (hk : Keep (fun g => v.ownBlock = some g) W W') : Way W' lb wb i := by
  cases hv : v.ownBlock with
  | none => exact h.below (keep_none hk (fun g e => by rw [hv] at e; cases e))
  | some g =>
    obtain ⟨cs, fz, ht⟩ := ho.tag hv
    exact h.grow (hk.mono (fun x hx => by rw [hv] at hx; injection hx with hx; exact hx.symm)) ht
end
theorem app_intU {w : World} {ops : Array Oper} {rest : List Oper} {o : Oper} {a : Act} {Q : Exit → Act → World → Prop} (base c : Nat) (s x : Operand) (X : Int)
    (hgd : o.guard = none) (ho : o.op = .call { callee := .builtin .append, args := #[s, x], argTypes := #[48, 48] })
    (v : Value) (n : Nat) (L : List Int) (hs : a.eval s = v) (hx : a.eval x = .slice (some ⟨w.heap.size, 0, none⟩) 1 c) (hown : OutI w base v n L) (hn : n ≤ 1000000) (hbase : base ≤ w.heap.size)
    (h : ∀ v' w', OutI w' base v' (n + 1) (L ++ [X]) → Keep (fun g => v.ownBlock = some g) w w' → wpList Tryz.prog ops Q rest (a.put o.dst v') w') : wpList Tryz.prog ops Q (o :: rest) a (w.alloc (.cells #[.int .i64 X] 3)) := by
  obtain ⟨i, hi, hz0, hz1, hz2⟩ := info_parts info_int5
  have hb0 := (Below.refl w.heap.size w).alloc (Nat.le_refl _) (.cells #[.int .i64 X] 3)
  have h2 := hown.below hb0
  refine wpList_plain hgd fun K hK => ?_
  obtain ⟨v', w', hr, h3, h4, h5⟩ := run_append_ownU (P := Tryz.prog) (w.alloc (.cells #[.int .i64 X] 3)) base 48 o.type 3 i (.int .i64 0) 8 Tryz.underlying48 hi hz0 hz1 hz2 rfl (fun x => by simp) v n _ h2.row h2.noU ⟨w.heap.size, 0, none⟩ 1 c [.int .i64 X] rfl
    (fun j u hu => by
      rw [add_plain, blk_cell (blk_new w _)]
      simpa using hu) (fun u hu => by simp at hu; subst hu; rfl) (fun u hu => by simp at hu; subst hu; intro x; simp) (by unfold maxLen; omega) (by omega) (by simp; omega)
  unfold Oper.wp execOp
  simp only [ho, resolve, invoke, builtin, Sem.run_bind, Sem.run_pure, Result.andThen_ok, List.map_toArray, List.map_cons, List.map_nil, hs, hx, hr]
  refine hK _ _ (h v' w' ⟨by rw [List.map_append]; exact h3, h5⟩ ?_)
  exact ⟨h4.os, h4.tape, h4.output, Nat.le_trans hb0.size h4.size, fun k hk hf => (h4.block k (Nat.lt_of_lt_of_le hk hb0.size) (fun e => hf e.symm)).trans (hb0.block k hk)⟩
theorem unrank_nil (v : Value) (w : World) : Calls Tryz.prog 49 #[.pointer none, .agg #[v]] w fun e w' => e = .returned (.tuple #[.slice none 0 0, .int .i64 1]) ∧ Below w.heap.size w w' := by
  have HB0 := Lib.hid ((Below.refl w.heap.size w).alloc (Nat.le_refl _) (.cells #[v] 59))
  go_enter Tryz.func49, Tryz.ntmps49
  go_wp2_with fail
  go_ret2
  exact ⟨rfl, HB0.out⟩
theorem div_pick {T : List Ent} (hT : OkT T) {s : List UInt8} (hne : s ≠ []) {m : Nat} {D : List Int} (hD : (divA T s)[m]? = some D) {X : Int} {R : Nat} (hX : pickN T s m (atA T s) = (X, R)) :
    ∃ D', D = X :: D' ∧ (divA T (s.drop (lenT T X)))[R]? = some D' ∧ X ∈ atA T s := by
  have hlt : m < sumA T s (atA T s) := by
    rw [← cntA_rec hT hne]
    exact (List.getElem?_eq_some_iff.1 hD).1
  have h1 := blkA_get (T := T) (s := s) hlt
  rw [← divA_blk hT hne, hD, hX] at h1
  have h2 := (pick_ok (T := T) (s := s) hlt).1
  rw [hX] at h2
  cases h3 : (divA T (s.drop (lenT T X)))[R]? with
  | none => simp only [h3] at h1; cases h1
  | some D' =>
    simp only [h3, Option.map_some, Option.some.injEq] at h1
    exact ⟨D', h1, rfl, h2⟩
section
variable {w w' W W' : World} {base lb wb nb i m k c q : Nat} {p : VocP} {s : List UInt8} {A : Option Addr} {v : Value} {L F : List Int}
structure UnI (w W : World) (base lb wb nb i : Nat) (p : VocP) (s : List UInt8) (A : Option Addr) (k c m : Nat) (v : Value) (q : Nat) (L F : List Int) : Prop where
  ask : Ask w W base lb p s
  way : Way W lb wb i
  num : Var W lb nb A k c m
  out : OutI W w.heap.size v q L
  lo : w.heap.size ≤ nb
  lo2 : w.heap.size ≤ wb
  ilo : lb < w.heap.size
  le : i ≤ s.length
  div : ∃ D, (divA p.T (s.drop i))[m]? = some D ∧ L ++ D = F
  qi : q ≤ i
theorem UnI.asks (h : UnI w W base lb wb nb i p s A k c m v q L F) (ha : Ask W W' base lb p s) : UnI w W' base lb wb nb i p s A k c m v q L F :=
  ⟨h.ask.trans ha, h.way.ask ha, h.num.ask ha, h.out.ask h.ask.lat ha, h.lo, h.lo2, h.ilo, h.le, h.div, h.qi⟩
theorem UnI.below (h : UnI w W base lb wb nb i p s A k c m v q L F) (hb : Below W.heap.size W W') : UnI w W' base lb wb nb i p s A k c m v q L F := h.asks (Ask.of_below h.ask.lat hb)
theorem UnI.lt (h : UnI w W base lb wb nb i p s A k c m v q L F) : m < cntJ p.T s i := by
  obtain ⟨D, h1, _⟩ := h.div
  exact (List.getElem?_eq_some_iff.1 h1).1
structure UnQ (w W : World) (base lb wb nb i : Nat) (p : VocP) (s : List UInt8) (A : Option Addr) (k c m : Nat) (v : Value) (q : Nat) (L F : List Int) (X : Int) : Prop where
  ask : Ask w W base lb p s
  way : Way W lb wb i
  num : Var W lb nb A k c m
  out : OutI W w.heap.size v q L
  lo : w.heap.size ≤ nb
  lo2 : w.heap.size ≤ wb
  ilo : lb < w.heap.size
  div : ∃ D, (divA p.T (s.drop (i + lenT p.T X)))[m]? = some D ∧ L ++ X :: D = F
  le : i + lenT p.T X ≤ s.length
  pos : 0 < lenT p.T X
  qi : q ≤ i
structure UnP (w W : World) (base lb wb nb i : Nat) (p : VocP) (s : List UInt8) (A : Option Addr) (k c m : Nat) (v : Value) (q : Nat) (L F : List Int) (X : Int) : Prop where
  ask : Ask w W base lb p s
  way : Way W lb wb i
  num : Var W lb nb A k c m
  out : OutI W w.heap.size v q L
  lo : w.heap.size ≤ nb
  lo2 : w.heap.size ≤ wb
  ilo : lb < w.heap.size
  div : ∃ D, (divA p.T (s.drop (i + lenT p.T X)))[m]? = some D ∧ L ++ D = F
  le : i + lenT p.T X ≤ s.length
  pos : 0 < lenT p.T X
  qi : q ≤ i + 1
theorem UnP.below {X : Int} (h : UnP w W base lb wb nb i p s A k c m v q L F X) (hb : Below W.heap.size W W') : UnP w W' base lb wb nb i p s A k c m v q L F X :=
  have ha := Ask.of_below h.ask.lat hb
  ⟨h.ask.trans ha, h.way.ask ha, h.num.ask ha, h.out.ask h.ask.lat ha, h.lo, h.lo2, h.ilo, h.div, h.le, h.pos, h.qi⟩
theorem UnP.drew {X : Int} (h : UnP w W base lb wb nb i p s A k c m v q L F X) : UnP w W.drew base lb wb nb i p s A k c m v q L F X := h.below (Below.refl _ _).drew
theorem UnI.pick {A' : Option Addr} {k' c' R : Nat} {X : Int} (h : UnI w W base lb wb nb i p s A k c m v q L F) (hT : OkT p.T) (hi : i < s.length) (hX : pickN p.T (s.drop i) m (atP p.T s i) = (X, R)) (hn : NatIs W (.agg #[.slice A' k' c']) R) :
    UnQ w (W.setCell ⟨nb, 0, none⟩ (.slice A' k' c')) base lb wb nb i p s A' k' c' R v q L F X := by
  obtain ⟨D, h1, h2⟩ := h.div
  obtain ⟨D', e, h3, h4⟩ := div_pick hT (by intro e; have := List.drop_eq_nil_iff.1 e; omega) h1 hX
  obtain ⟨g1, g2, g3, _⟩ := atA_has hT h4
  rw [List.length_drop] at g3
  refine ⟨h.ask.setVar h.num h.lo _, h.way.far (fun e => h.way.ne h.num e.symm) _, h.num.put hn, h.out.far h.num.blk (by decide) _ _, h.lo, h.lo2, h.ilo, ⟨D', ?_, ?_⟩, by omega, g2, h.qi⟩
  · rw [← List.drop_drop]
    exact h3
  · rw [← h2, e]
theorem UnQ.grow {X : Int} {v' : Value} (h : UnQ w W base lb wb nb i p s A k c m v q L F X) (h0 : LatV w base lb p s) (ho : OutI W' w.heap.size v' (q + 1) (L ++ [X])) (hk : Keep (fun g => v.ownBlock = some g) W W') : UnP w W' base lb wb nb i p s A k c m v' (q + 1) (L ++ [X]) F X :=
  ⟨h.ask.app h0 h.out (Nat.le_refl _) hk, h.way.app h.out hk, h.num.app h.out h.ilo hk, ho, h.lo, h.lo2, h.ilo, by obtain ⟨D, h1, h2⟩ := h.div; exact ⟨D, h1, by rw [← h2]; simp⟩, h.le, h.pos, by have := h.qi; omega⟩
theorem UnP.step {X : Int} (h : UnP w W base lb wb nb i p s A k c m v q L F X) {J : Nat} (hJ : i + lenT p.T X = J) : UnI w (W.setCell ⟨wb, 1, none⟩ (.int .i64 (J : Int))) base lb wb nb J p s A k c m v q L F := by
  subst hJ
  exact ⟨h.ask.setWay h.way h.lo2 _, h.way.put _, h.num.setWay h.way _, h.out.far h.way.blk (by decide) _ _, h.lo, h.lo2, h.ilo, h.le, h.div, by have := h.pos; have := h.qi; omega⟩
set_option maxHeartbeats 4000000 in
theorem unrank_ok {n : Nat} (h : LatV w base lb p s) (hT : OkT p.T) (hs : s.length ≤ 4000) (hn : NatIs w (.agg #[.slice A k c]) n) (hF : (divA p.T s)[n]? = some F) :
    Calls Tryz.prog 49 #[.pointer (some ⟨lb, 0, none⟩), .agg #[.slice A k c]] w fun e w' => (∃ v, e = .returned (.tuple #[v, .int .i64 0]) ∧ IntsIs w' w.heap.size v F) ∧ Ask w w' base lb p s := by
  have hlt : n < cntJ p.T s 0 := (List.getElem?_eq_some_iff.1 hF).1
  obtain ⟨cm, hcm⟩ : ∃ z, cmpN n (cntJ p.T s 0) = z := ⟨_, rfl⟩
  have hcm0 : cm < 0 := by rw [← hcm]; unfold cmpN; rw [if_pos hlt]; decide
  have HCM := Lib.hid hcm
  have HD : Hid ((dg B32 n).length ≤ 100000 ∧ (dg B32 (cntJ p.T s 0)).length ≤ 100000) := Lib.hid (by
    have h1 := cntJ_dg hT s 0
    exact ⟨Nat.le_trans (dg_len_mono (by decide) (Nat.le_of_lt hlt)) (by omega), by omega⟩)
  have HT := Lib.hid hT
  have HSL := Lib.hid hs
  have HH := Lib.hid h
  have HF := Lib.hid hF
  have HV : Hid (Ask w (w.alloc (.cells #[.slice A k c] 59)) base lb p s ∧ Var (w.alloc (.cells #[.slice A k c] 59)) lb w.heap.size A k c n) := Lib.hid ⟨(Ask.refl h).alloc _, Var.made h hn⟩
  have HC : Hid (∀ V, LatV V base lb p s → Calls Tryz.prog 25 #[.pointer (some ⟨lb, 0, none⟩)] V fun e w' => ∃ A k c, e = .returned (.agg #[.slice A k c]) ∧ NatIs w' (.agg #[.slice A k c]) (cntJ p.T s 0) ∧ Ask V w' base lb p s) := Lib.hid (fun V hV => hV.count hT hs)
  clear hcm hT hs h hn hF hlt
  go_enter Tryz.func49, Tryz.ntmps49
  go_upto_region 3 with fail
  obtain ⟨nb, hnb⟩ : ∃ r, w.heap.size = r := ⟨_, rfl⟩
  have HNB := Lib.hid hnb
  rw [hnb] at HV ⊢
  clear hnb
  generalize w.alloc (.cells #[.slice A k c] 59) = w1 at *
  have hh := HV.out.2.c0
  obtain ⟨ct, hct⟩ : ∃ z, cntJ p.T s 0 = z := ⟨_, rfl⟩
  rw [hct] at HC HCM HD
  clear hct
  refine wp_region_held_drew (S := fun V => V.cell? ⟨nb, 0, none⟩ = some (.slice A k c)) (by kernel_rfl) (by exact hh) (fun hHeld => ?_)
  refine tkH 0 13 ?_ rfl hHeld (.inl ⟨by rfl, ?_⟩) ?_; rotate_left; focus (intro w' hSw; (try dsimp only at hSw); go_simp; (try with_reducible rfl))
  try simp only [sIB, sC0, sCS]
  refine tkH 1 14 ?_ rfl hHeld (.inl ⟨by rfl, ?_⟩) ?_; rotate_left; focus (intro w' hSw; (try dsimp only at hSw); go_simp; (try with_reducible rfl))
  try simp only [sIB, sC0, sCS]
  refine wpAnyH_ready (rs := [2]) (by kernel_rfl) (by simp) ?_
  refine AllReadyH.cons rfl (fun K hK => ?_) AllReadyH.nil
  (try go_simp)
  go_simp; refine (HC.out _ HV.out.1.drew.lat).mono ?_; rintro e W6 ⟨A3, k3, c3, rfl, hn, ha⟩; (replace HV := Lib.hid (And.intro (HV.out.1.drew.trans ha) (HV.out.2.drew.ask ha))); have HN3 := Lib.hid hn; have h := HV.out.2.c0; clear hn ha; go_simp
  go_wp2_with fail
  refine hK.out _ _ h (fun hHeld => ?_)
  clear hK K
  try simp only [Act.put, sIB, sC0, sCS]
  refine wpAnyH_ready (rs := [3]) (by kernel_rfl) (by simp) ?_
  refine AllReadyH.cons rfl (fun K hK => ?_) AllReadyH.nil
  (try go_simp)
  go_simp; refine (compare_any _ _ n ct _ HV.out.2.nat HN3.out HD.out.1 HD.out.2).mono ?_; rintro e W7 ⟨rfl, hb⟩; rw [HCM.out]; (replace HV := Lib.hid (And.intro (HV.out.1.below hb) (HV.out.2.below hb))); have h := HV.out.2.c0; clear hb HN3; go_simp
  go_wp2_with fail
  refine hK.out _ _ h (fun hHeld => ?_)
  clear hK K
  try simp only [Act.put, sIB, sC0, sCS]
  refine tkH 4 17 ?_ rfl hHeld (.inl ⟨by rfl, ?_⟩) ?_; rotate_left; focus (intro w' hSw; (try dsimp only at hSw); go_simp; (try with_reducible rfl))
  try simp only [sIB, sC0, sCS]
  refine tkH 5 12 ?_ rfl hHeld (.inl ⟨by rfl, ?_⟩) ?_; rotate_left; focus (intro w' hSw; (try dsimp only at hSw); go_simp; (try with_reducible rfl))
  try simp only [sIB, sC0, sCS]
  refine wpAnyH_done (by kernel_rfl) ?_ _
  clear hh hHeld h HC
  go_upto_region 6 with fail
  have HST : Hid (UnI w (W7.alloc (.cells #[.pointer (some ⟨lb, 0, none⟩), .int .i64 0] 161)) base lb W7.heap.size nb 0 p s A k c n (.slice none 0 0) 0 [] F) :=
    Lib.hid ⟨HV.out.1.alloc _, ⟨blk_new _ _, HV.out.1.lat.lt_size⟩, HV.out.2.below ((Below.refl _ _).alloc (Nat.le_refl _) _), OutI.nil _ _, Nat.le_of_eq HNB.out, HV.out.1.keep.size, HH.out.lt_size, Nat.zero_le _, ⟨F, HF.out, rfl⟩, Nat.le_refl _⟩
  obtain ⟨wb, hwb⟩ : ∃ b, W7.heap.size = b := ⟨_, rfl⟩
  rw [hwb] at HST ⊢
  clear hwb HV
  generalize W7.alloc (.cells #[.pointer (some ⟨lb, 0, none⟩), .int .i64 0] 161) = W8 at *
  go_wp2_with fail
  go_loopg [7] s.length (fun n' v W => ∃ (i : Nat) (A : Option Addr) (k c m q : Nat) (L : List Int), i + n' = s.length ∧ UnI w W base lb wb nb i p s A k c m v q L F)
  case atStart => exact ⟨0, A, k, c, n, 0, [], by omega, HST.out⟩
  case round =>
    obtain ⟨i, A1, k1, c1, m, q, L, hi, hst⟩ := hrel
    obtain ⟨G0, hG0⟩ : ∃ G, G = gk := ⟨_, rfl⟩
    subst hG0
    clear HST
    rename World => W
    rename Value => v
    have HU := Lib.hid hst
    have HI := Lib.hid hi
    have HWE := Lib.hid (wend_any hst.ask.lat hst.way)
    clear hst hi
    by_cases hlt : i < s.length
    · have HDE : Hid (decide (i = s.length) = false) := Lib.hid (decide_eq_false (by omega))
      have HLT := Lib.hid hlt
      clear hlt
      obtain ⟨A2, c2, rfl⟩ := own_slice HU.out.out.row
      obtain ⟨X, hX1⟩ : ∃ X, (pickN p.T (s.drop i) m (atP p.T s i)).1 = X := ⟨_, rfl⟩
      obtain ⟨R, hX2⟩ : ∃ R, (pickN p.T (s.drop i) m (atP p.T s i)).2 = R := ⟨_, rfl⟩
      have HX : Hid (pickN p.T (s.drop i) m (atP p.T s i) = (X, R)) := Lib.hid (by rw [← hX1, ← hX2])
      clear hX1 hX2
      have HPK : Hid (∀ V, UnI w V base lb wb nb i p s A1 k1 c1 m (.slice A2 q c2) q L F → Calls Tryz.prog 92 #[.pointer (some ⟨wb, 0, none⟩), .agg #[.slice A1 k1 c1]] V fun e w' => (∃ A k c, e = .returned (.tuple #[.int .i64 X, .agg #[.slice A k c]]) ∧ NatIs w' (.agg #[.slice A k c]) R) ∧ Ask V w' base lb p s) := Lib.hid (fun V hV => wpick_any hV.ask.lat hV.way HT.out HSL.out HLT.out hV.num.nat hV.lt X R HX.out)
      go_upto_region 10 with (first
        | (go_at_call 89; refine HWE.out.mono ?_; rintro e W2 ⟨rfl, ha⟩; rw [HDE.out]; (replace HU := Lib.hid (HU.out.asks ha)); (have n0 := HU.out.num.c0); clear ha)
        | (go_at_call 92; refine (HPK.out _ HU.out).mono ?_; rintro e W3 ⟨⟨A3, k3, c3, rfl, hn⟩, ha⟩; (replace HU := Lib.hid (HU.out.asks ha)); (have HQ := Lib.hid (HU.out.pick HT.out HLT.out HX.out hn)); clear n0; (have n0 := HU.out.num.c0); (have n1 := HU.out.num.z0); clear hn ha))
      clear n0 n1 HU HWE HDE HPK
      generalize W3.setCell ⟨nb, 0, none⟩ (.slice A3 k3 c3) = W4 at *
      have HQL : Hid (q ≤ 4000 ∧ w.heap.size ≤ W4.heap.size) := Lib.hid ⟨by have := HQ.out.qi; have := HLT.out; have := HSL.out; omega, HQ.out.ask.keep.size⟩
      go_wp2_with (at_builtin; refine app_intU (w.heap.size) 1 _ _ X rfl rfl _ q L rfl rfl HQ.out.out (by have := HQL.out; omega) HQL.out.2 ?_)
      intro v' W5 hown hk
      have HP := Lib.hid (HQ.out.grow HH.out hown hk)
      clear hown hk HQ HQL
      obtain ⟨A5, c5, rfl⟩ := own_slice HP.out.out.row
      obtain ⟨J, hJ⟩ : ∃ J, i + lenT p.T X = J := ⟨_, rfl⟩
      obtain ⟨sz, hsz⟩ : ∃ z, lenT p.T X = z := ⟨_, rfl⟩
      have HSZ : Hid (∀ V, LatV V base lb p s → Calls Tryz.prog 31 #[.pointer (some ⟨lb, 0, none⟩), .int .i64 X] V fun e w' => e = .returned (.int .i64 (sz : Nat)) ∧ w' = V) := Lib.hid (fun V hV => by rw [← hsz]; exact hV.size X)
      have HJ : Hid (i + lenT p.T X = J ∧ i < J ∧ J ≤ s.length) := Lib.hid ⟨hJ, by have := HP.out.pos; omega, by have := HP.out.le; omega⟩
      have wks : IntKind.i64.wrap ((i : Int) + (sz : Int)) = (J : Int) := by rw [show (i : Int) + (sz : Int) = (J : Int) by omega]; exact IntWalk.i64_in _ (by have := HJ.out; have := HSL.out; omega)
      clear hJ hsz
      have hh := HP.out.way.cc
      go_upto_region 11 with fail
      refine wp_region_D (Ds := [13]) (S := fun V => V.cell? ⟨wb, 0, none⟩ = some (.pointer (some ⟨lb, 0, none⟩)) ∧ V.cell? ⟨wb, 1, none⟩ = some (.int .i64 (i : Int))) (by kernel_rfl) (by exact hh) (fun hHeld => ?_)
      (replace HP := Lib.hid HP.out.drew); clear hh; generalize W5.drew = W6 at *
      refine tkP 0 34 ?_ rfl (.inl ⟨by rfl, ?_⟩) ?_; rotate_left; focus (intro w' _; go_simp; (try with_reducible rfl))
      try simp only [sIB, sC0, sCS]
      refine tkP 1 35 ?_ rfl (.inl ⟨by rfl, ?_⟩) ?_; rotate_left; focus (intro w' _; go_simp; (try with_reducible rfl))
      try simp only [sIB, sC0, sCS]
      refine tkP 2 36 ?_ rfl (.inl ⟨by rfl, ?_⟩) ?_; rotate_left; focus (intro w' _; go_simp; (try with_reducible rfl))
      try simp only [sIB, sC0, sCS]
      refine tkP 4 38 ?_ rfl (.inl ⟨by rfl, ?_⟩) ?_; rotate_left; focus (intro w' _; go_simp; (try with_reducible rfl))
      try simp only [sIB, sC0, sCS]
      refine tkP 5 39 ?_ rfl (.inl ⟨by rfl, ?_⟩) ?_; rotate_left; focus (intro w' _; go_simp; (try with_reducible rfl))
      try simp only [sIB, sC0, sCS]
      refine tkP 6 40 ?_ rfl (.inl ⟨by rfl, ?_⟩) ?_; rotate_left; focus (intro w' _; go_simp; (try with_reducible rfl))
      try simp only [sIB, sC0, sCS]
      refine tkP 8 42 ?_ rfl (.inl ⟨by rfl, ?_⟩) ?_; rotate_left; focus (intro w' _; go_simp; (try with_reducible rfl))
      try simp only [sIB, sC0, sCS]
      refine tkD 3 37 ?_ rfl hHeld (.inl ⟨by rfl, ?_⟩) ?_; rotate_left; focus (intro w' hSw; (try dsimp only at hSw); go_simp; (try with_reducible rfl))
      try simp only [sIB, sC0, sCS]
      refine tkD 7 41 ?_ rfl hHeld (.inl ⟨by rfl, ?_⟩) ?_; rotate_left; focus (intro w' hSw; (try dsimp only at hSw); go_simp; (try with_reducible rfl))
      try simp only [sIB, sC0, sCS]
      refine wpAnyD_one (i := 9) (by kernel_rfl) rfl (by rfl) (fun K hK => ?_)
      go_simp; refine (HSZ.out _ HP.out.ask.lat).mono ?_; rintro e W7 ⟨rfl, hw⟩; rw [hw]; clear hw W7; have h := hHeld; go_simp
      refine hK.out _ _ h (fun hHeld => ?_)
      clear hK K
      try simp only [Act.put, sIB, sC0, sCS]
      refine tkP 10 44 ?_ rfl (.inl ⟨by rfl, ?_⟩) ?_; rotate_left; focus (intro w' _; go_simp; (try with_reducible rfl))
      try simp only [sIB, sC0, sCS]
      refine tkP 11 45 ?_ rfl (.inl ⟨by rfl, ?_⟩) ?_; rotate_left; focus (intro w' _; go_simp; (try with_reducible rfl))
      try simp only [sIB, sC0, sCS]
      refine tkP 12 46 ?_ rfl (.inl ⟨by rfl, ?_⟩) ?_; rotate_left; focus (intro w' _; go_simp; (try with_reducible rfl))
      try simp only [sIB, sC0, sCS]
      refine wpAnyD_last (D := 13) (by decide) (by kernel_rfl) rfl (by rfl) (fun K hK => ?_)
      have n0 := HP.out.way.c1; have n1 := HP.out.way.z1; go_simp
      refine hK.out _ _ ?_
      clear hK K
      try simp only [Act.put, sIB, sC0, sCS]
      refine wpAnyD_done (by kernel_rfl) ?_ _
      have HU2 := Lib.hid (HP.out.step HJ.out.1)
      clear h hHeld n0 n1 HP HSZ wks
      generalize W6.setCell ⟨wb, 1, none⟩ (.int .i64 (J : Int)) = W9 at *
      go_wp2_with fail
      go_roundg (s.length - J)
      case measure => have := HI.out; have := HJ.out; omega
      case rel => exact ⟨J, A3, k3, c3, R, q + 1, L ++ [X], by have := HJ.out; omega, HU2.out⟩
    · have HDE : Hid (decide (i = s.length) = true) := Lib.hid (decide_eq_true (by have := HU.out.le; omega))
      have hnil : s.drop i = [] := List.drop_eq_nil_iff.2 (by omega)
      have hLF : L = F := by
        obtain ⟨D, h1, h2⟩ := HU.out.div
        rw [hnil, divA_nil] at h1
        rcases m with _ | m
        · simp at h1
          rw [← h2, h1, List.append_nil]
        · simp at h1
      have HLF := Lib.hid hLF
      clear hnil hLF hlt
      obtain ⟨A2, c2, rfl⟩ := own_slice HU.out.out.row
      go_wp2_with (go_at_call 89; refine HWE.out.mono ?_; rintro e W2 ⟨rfl, ha⟩; rw [HDE.out]; (replace HU := Lib.hid (HU.out.asks ha)); clear ha)
      go_ret2
      refine ⟨⟨_, rfl, ?_⟩, HU.out.ask⟩
      rw [← HLF.out]
      exact HU.out.out.ints
set_option maxHeartbeats 4000000 in
theorem unrank_no {n : Nat} (h : LatV w base lb p s) (hT : OkT p.T) (hs : s.length ≤ 4000) (hn : NatIs w (.agg #[.slice A k c]) n) (hd : (dg B32 n).length ≤ 100000) (hF : cntJ p.T s 0 ≤ n) :
    Calls Tryz.prog 49 #[.pointer (some ⟨lb, 0, none⟩), .agg #[.slice A k c]] w fun e w' => e = .returned (.tuple #[.slice none 0 0, .int .i64 7]) ∧ Ask w w' base lb p s := by
  obtain ⟨cm, hcm⟩ : ∃ z, cmpN n (cntJ p.T s 0) = z := ⟨_, rfl⟩
  have hcm0 : ¬ cm < 0 := by rw [← hcm]; unfold cmpN; rw [if_neg (by omega)]; split <;> decide
  have hcm1 : 0 ≤ cm := by omega
  have HCM := Lib.hid hcm
  have HD : Hid ((dg B32 n).length ≤ 100000 ∧ (dg B32 (cntJ p.T s 0)).length ≤ 100000) := Lib.hid (by
    have h1 := cntJ_dg hT s 0
    exact ⟨hd, by omega⟩)
  have HV : Hid (Ask w (w.alloc (.cells #[.slice A k c] 59)) base lb p s ∧ Var (w.alloc (.cells #[.slice A k c] 59)) lb w.heap.size A k c n) := Lib.hid ⟨(Ask.refl h).alloc _, Var.made h hn⟩
  have HC : Hid (∀ V, LatV V base lb p s → Calls Tryz.prog 25 #[.pointer (some ⟨lb, 0, none⟩)] V fun e w' => ∃ A k c, e = .returned (.agg #[.slice A k c]) ∧ NatIs w' (.agg #[.slice A k c]) (cntJ p.T s 0) ∧ Ask V w' base lb p s) := Lib.hid (fun V hV => hV.count hT hs)
  clear hcm hT hs h hn hF hd
  go_enter Tryz.func49, Tryz.ntmps49
  go_upto_region 3 with fail
  obtain ⟨nb, hnb⟩ : ∃ r, w.heap.size = r := ⟨_, rfl⟩
  rw [hnb] at HV ⊢
  clear hnb
  generalize w.alloc (.cells #[.slice A k c] 59) = w1 at *
  have hh := HV.out.2.c0
  obtain ⟨ct, hct⟩ : ∃ z, cntJ p.T s 0 = z := ⟨_, rfl⟩
  rw [hct] at HC HCM HD
  clear hct
  refine wp_region_held_drew (S := fun V => V.cell? ⟨nb, 0, none⟩ = some (.slice A k c)) (by kernel_rfl) (by exact hh) (fun hHeld => ?_)
  refine tkH 0 13 ?_ rfl hHeld (.inl ⟨by rfl, ?_⟩) ?_; rotate_left; focus (intro w' hSw; (try dsimp only at hSw); go_simp; (try with_reducible rfl))
  try simp only [sIB, sC0, sCS]
  refine tkH 1 14 ?_ rfl hHeld (.inl ⟨by rfl, ?_⟩) ?_; rotate_left; focus (intro w' hSw; (try dsimp only at hSw); go_simp; (try with_reducible rfl))
  try simp only [sIB, sC0, sCS]
  refine wpAnyH_ready (rs := [2]) (by kernel_rfl) (by simp) ?_
  refine AllReadyH.cons rfl (fun K hK => ?_) AllReadyH.nil
  (try go_simp)
  go_simp; refine (HC.out _ HV.out.1.drew.lat).mono ?_; rintro e W6 ⟨A3, k3, c3, rfl, hn, ha⟩; (replace HV := Lib.hid (And.intro (HV.out.1.drew.trans ha) (HV.out.2.drew.ask ha))); have HN3 := Lib.hid hn; have h := HV.out.2.c0; clear hn ha; go_simp
  go_wp2_with fail
  refine hK.out _ _ h (fun hHeld => ?_)
  clear hK K
  try simp only [Act.put, sIB, sC0, sCS]
  refine wpAnyH_ready (rs := [3]) (by kernel_rfl) (by simp) ?_
  refine AllReadyH.cons rfl (fun K hK => ?_) AllReadyH.nil
  (try go_simp)
  go_simp; refine (compare_any _ _ n ct _ HV.out.2.nat HN3.out HD.out.1 HD.out.2).mono ?_; rintro e W7 ⟨rfl, hb⟩; rw [HCM.out]; (replace HV := Lib.hid (And.intro (HV.out.1.below hb) (HV.out.2.below hb))); have h := HV.out.2.c0; clear hb HN3; go_simp
  go_wp2_with fail
  refine hK.out _ _ h (fun hHeld => ?_)
  clear hK K
  try simp only [Act.put, sIB, sC0, sCS]
  refine tkH 4 17 ?_ rfl hHeld (.inl ⟨by rfl, ?_⟩) ?_; rotate_left; focus (intro w' hSw; (try dsimp only at hSw); go_simp; (try with_reducible rfl))
  try simp only [sIB, sC0, sCS]
  refine tkH 5 12 ?_ rfl hHeld (.inl ⟨by rfl, ?_⟩) ?_; rotate_left; focus (intro w' hSw; (try dsimp only at hSw); go_simp; (try with_reducible rfl))
  try simp only [sIB, sC0, sCS]
  refine wpAnyH_done (by kernel_rfl) ?_ _
  clear hh hHeld h HC
  go_wp2_with fail
  go_ret2
  exact ⟨rfl, HV.out.1⟩
end
theorem rank_nil (v : Value) (w : World) : Calls Tryz.prog 44 #[.pointer none, v] w fun e w' => (∃ A k c, e = .returned (.tuple #[.agg #[.slice A k c], .int .i64 1]) ∧ NatIs w' (.agg #[.slice A k c]) 0) ∧ Below w.heap.size w w' := by
  have HN0 := Lib.hid (blk_new w (.cells #[.slice none 0 0] 59))
  have HB0 := Lib.hid ((Below.refl w.heap.size w).alloc (Nat.le_refl _) (.cells #[.slice none 0 0] 59))
  go_enter Tryz.func44, Tryz.ntmps44
  go_upto_region 1 with fail
  obtain ⟨r, hr⟩ : ∃ r, w.heap.size = r := ⟨_, rfl⟩
  have HRR := Lib.hid hr
  rw [hr] at HN0 ⊢
  clear hr
  generalize w.alloc (.cells #[.slice none 0 0] 59) = w1 at *
  have d0 := blk_cell HN0.out 0
  have z0 := blk_froz HN0.out 0
  simp only [List.getElem?_toArray, List.getElem?_cons_zero] at d0
  have HB3 := Lib.hid (blk_set HN0.out 0 (.slice none 0 0))
  go_wp2_with fail
  refine ret_cell_tmp1 rfl rfl rfl (load_nat HB3.out) ?_
  exact ⟨⟨_, _, _, rfl, NatIs.zero _⟩, HB0.out.setCell (p := ⟨r, 0, none⟩) (Nat.le_of_eq HRR.out) _⟩
theorem skip_bound {T : List Ent} {s : List UInt8} {id : Int} : ∀ {l : List Int} {k : Nat}, skipN T s id l = some k → id ∈ l ∧ k + cntA T (s.drop (lenT T id)) ≤ sumA T s l
  | [], k, h => by simp [skipN] at h
  | x :: l, k, h => by
    rw [skipN] at h
    rw [sumA_cons]
    by_cases hx : x = id
    · rw [if_pos hx] at h
      injection h with h
      subst hx
      exact ⟨List.mem_cons_self, by omega⟩
    · rw [if_neg hx, Option.map_eq_some_iff] at h
      obtain ⟨k', h1, h2⟩ := h
      obtain ⟨h3, h4⟩ := skip_bound h1
      exact ⟨List.mem_cons_of_mem _ h3, by omega⟩
section
variable {w w' W W' : World} {base lb wb rb nb kb i m k c q c2 : Nat} {p : VocP} {s : List UInt8} {A A2 : Option Addr} {ids : List Int}
structure RkI (w W : World) (base lb wb rb nb i : Nat) (p : VocP) (s : List UInt8) (A : Option Addr) (k c m : Nat) (A2 : Option Addr) (ids : List Int) (q : Nat) : Prop where
  ask : Ask w W base lb p s
  way : Way W lb wb i
  res : Var W lb rb none 0 0 0
  num : Var W lb nb A k c m
  sl : Sl1 W A2 (Value.int .i64) ids
  lo : w.heap.size ≤ rb
  lo2 : w.heap.size ≤ wb
  lo3 : w.heap.size ≤ nb
  ne : rb ≠ nb
  old : ∀ a, A2 = some a → ids ≠ [] → a.block < w.heap.size
  le : i ≤ s.length
  sum : m + cntJ p.T s i ≤ cntJ p.T s 0
  rel : rnk p.T s ids = (rnk p.T (s.drop i) (ids.drop q)).map (fun n => m + n)
theorem RkI.asks (h : RkI w W base lb wb rb nb i p s A k c m A2 ids q) (ha : Ask W W' base lb p s) : RkI w W' base lb wb rb nb i p s A k c m A2 ids q :=
  ⟨h.ask.trans ha, h.way.ask ha, h.res.ask ha, h.num.ask ha, sl_ask h.sl h.ask.lat ha, h.lo, h.lo2, h.lo3, h.ne, h.old, h.le, h.sum, h.rel⟩
theorem RkI.below (h : RkI w W base lb wb rb nb i p s A k c m A2 ids q) (hb : Below W.heap.size W W') : RkI w W' base lb wb rb nb i p s A k c m A2 ids q := h.asks (Ask.of_below h.ask.lat hb)
theorem RkI.drew (h : RkI w W base lb wb rb nb i p s A k c m A2 ids q) : RkI w W.drew base lb wb rb nb i p s A k c m A2 ids q := h.below (Below.refl _ _).drew
theorem sl_old (h : Sl1 W A2 (Value.int .i64) ids) (ho : ∀ a, A2 = some a → ids ≠ [] → a.block < w.heap.size) {a : Addr} (ha : w.heap.size ≤ a.block) (u : Value) : Sl1 (W.setCell a u) A2 (Value.int .i64) ids :=
  h.cellO (fun i x b o hx e he => by
    have h1 := ho _ e (by intro e2; rw [e2] at hx; simp at hx)
    have h2 : b = a.block := by rw [← he]
    simp only at h1
    omega) u
theorem RkI.put {A' : Option Addr} {k' c' K : Nat} (h : RkI w W base lb wb rb nb i p s A k c m A2 ids q) (hn : NatIs W (.agg #[.slice A' k' c']) K) :
    Ask w (W.setCell ⟨nb, 0, none⟩ (.slice A' k' c')) base lb p s ∧ Way (W.setCell ⟨nb, 0, none⟩ (.slice A' k' c')) lb wb i ∧ Var (W.setCell ⟨nb, 0, none⟩ (.slice A' k' c')) lb rb none 0 0 0 ∧ Var (W.setCell ⟨nb, 0, none⟩ (.slice A' k' c')) lb nb A' k' c' K ∧ Sl1 (W.setCell ⟨nb, 0, none⟩ (.slice A' k' c')) A2 (Value.int .i64) ids :=
  ⟨h.ask.setVar h.num h.lo3 _, h.way.far (fun e => h.way.ne h.num e.symm) _, h.res.far h.num.c0 (fun x => by simp) h.ne h.num.lo _, h.num.put hn, sl_old h.sl h.old h.lo3 _⟩
structure RkJ (w W : World) (base lb wb rb nb i : Nat) (p : VocP) (s : List UInt8) (A : Option Addr) (k c m : Nat) (A2 : Option Addr) (ids : List Int) (q J : Nat) : Prop where
  ask : Ask w W base lb p s
  way : Way W lb wb i
  res : Var W lb rb none 0 0 0
  num : Var W lb nb A k c m
  sl : Sl1 W A2 (Value.int .i64) ids
  lo : w.heap.size ≤ rb
  lo2 : w.heap.size ≤ wb
  lo3 : w.heap.size ≤ nb
  ne : rb ≠ nb
  old : ∀ a, A2 = some a → ids ≠ [] → a.block < w.heap.size
  le : J ≤ s.length
  sum : m + cntJ p.T s J ≤ cntJ p.T s 0
  rel : rnk p.T s ids = (rnk p.T (s.drop J) (ids.drop (q + 1))).map (fun n => m + n)
theorem RkI.add {A' : Option Addr} {k' c' K J : Nat} {id : Int} (h : RkI w W base lb wb rb nb i p s A k c m A2 ids q) (hT : OkT p.T) (hid : ids[q]? = some id) (hK : skipN p.T (s.drop i) id (atP p.T s i) = some K) (hJ : i + lenT p.T id = J) (hn : NatIs W (.agg #[.slice A' k' c']) (m + K)) :
    RkJ w (W.setCell ⟨nb, 0, none⟩ (.slice A' k' c')) base lb wb rb nb i p s A' k' c' (m + K) A2 ids q J := by
  obtain ⟨h1, h2, h3, h4, h5⟩ := h.put hn
  obtain ⟨g1, g2⟩ := skip_bound hK
  obtain ⟨f1, f2, f3, _⟩ := atA_has hT g1
  rw [List.length_drop] at f3
  subst hJ
  refine ⟨h1, h2, h3, h4, h5, h.lo, h.lo2, h.lo3, h.ne, h.old, by omega, ?_, ?_⟩
  · have h6 := h.sum
    have h7 : sumA p.T (s.drop i) (atP p.T s i) = cntJ p.T s i := (cntA_rec hT (by intro e; have := List.drop_eq_nil_iff.1 e; omega)).symm
    rw [h7, List.drop_drop] at g2
    unfold cntJ at *
    omega
  · rw [h.rel, drop_at hid, rnk]
    have h8 : skipN p.T (s.drop i) id (atA p.T (s.drop i)) = some K := hK
    rw [h8, List.drop_drop]
    simp only [Option.bind_some, Option.map_map]
    congr 1
    funext x
    simp [Nat.add_assoc]
theorem RkJ.below {J : Nat} (h : RkJ w W base lb wb rb nb i p s A k c m A2 ids q J) (hb : Below W.heap.size W W') : RkJ w W' base lb wb rb nb i p s A k c m A2 ids q J :=
  have ha := Ask.of_below h.ask.lat hb
  ⟨h.ask.trans ha, h.way.ask ha, h.res.ask ha, h.num.ask ha, sl_ask h.sl h.ask.lat ha, h.lo, h.lo2, h.lo3, h.ne, h.old, h.le, h.sum, h.rel⟩
theorem RkJ.drew {J : Nat} (h : RkJ w W base lb wb rb nb i p s A k c m A2 ids q J) : RkJ w W.drew base lb wb rb nb i p s A k c m A2 ids q J := h.below (Below.refl _ _).drew
theorem RkJ.step {J : Nat} (h : RkJ w W base lb wb rb nb i p s A k c m A2 ids q J) : RkI w (W.setCell ⟨wb, 1, none⟩ (.int .i64 (J : Int))) base lb wb rb nb J p s A k c m A2 ids (q + 1) :=
  ⟨h.ask.setWay h.way h.lo2 _, h.way.put _, h.res.setWay h.way _, h.num.setWay h.way _, sl_old h.sl h.old h.lo2 _, h.lo, h.lo2, h.lo3, h.ne, h.old, h.le, h.sum, h.rel⟩
theorem sl_blk (h : Sl1 w A2 (Value.int .i64) ids) : ∀ a, A2 = some a → ids ≠ [] → a.block < w.heap.size := by
  intro a ha hne
  obtain ⟨x, l, e⟩ := List.exists_cons_of_ne_nil hne
  subst e
  obtain ⟨b, o, e1, hc⟩ := h 0 x rfl
  rw [ha] at e1
  injection e1 with e1
  subst e1
  exact World.block_lt_of_cell? w _ hc
set_option maxHeartbeats 4000000 in
theorem rank_any {E : Int} {K : Nat} (h : LatV w base lb p s) (hT : OkT p.T) (hs : s.length ≤ 4000) (hsl : Sl1 w A2 (Value.int .i64) ids) (hlen : ids.length ≤ 1000000) (hK : (rnk p.T s ids).getD 0 = K) (hE0 : rnk p.T s ids ≠ none → E = 0) (hE8 : rnk p.T s ids = none → E = 8) :
    Calls Tryz.prog 44 #[.pointer (some ⟨lb, 0, none⟩), .slice A2 ids.length c2] w fun e w' => (∃ A k c, e = .returned (.tuple #[.agg #[.slice A k c], .int .i64 E]) ∧ NatIs w' (.agg #[.slice A k c]) K) ∧ Ask w w' base lb p s := by
  have HNO : Hid (rnk p.T s ids = none → K = 0 ∧ E = 8) := Lib.hid (fun e => ⟨by rw [← hK, e]; rfl, hE8 e⟩)
  have HYE : Hid (∀ m, rnk p.T s ids = some m → K = m ∧ E = 0) := Lib.hid (fun m e => ⟨by rw [← hK, e]; rfl, hE0 (by rw [e]; simp)⟩)
  have HT := Lib.hid hT
  have HSL := Lib.hid hs
  have HLE := Lib.hid hlen
  have HV1 := Lib.hid (And.intro ((Ask.refl h).alloc (.cells #[.slice none 0 0] 59)) (And.intro (Var.made h (NatIs.zero w)) (And.intro (hsl.below ((Below.refl _ _).alloc (Nat.le_refl _) (.cells #[.slice none 0 0] 59)) (Nat.le_refl _)) (sl_blk hsl))))
  clear hK hE0 hE8 hT hs h hsl hlen
  obtain ⟨N, hN⟩ : ∃ N, ids.length = N := ⟨_, rfl⟩
  have HNN := Lib.hid hN
  rw [hN]
  clear hN
  go_enter Tryz.func44, Tryz.ntmps44
  go_upto_region 1 with fail
  obtain ⟨rb, hrb⟩ : ∃ r, w.heap.size = r := ⟨_, rfl⟩
  have HRB := Lib.hid hrb
  rw [hrb] at HV1 ⊢
  clear hrb
  generalize w.alloc (.cells #[.slice none 0 0] 59) = w1 at *
  go_upto_region 4 with fail
  obtain ⟨wb, hwb⟩ : ∃ r, w1.heap.size = r := ⟨_, rfl⟩
  have HV2 : Hid (Ask w (w1.alloc (.cells #[.pointer (some ⟨lb, 0, none⟩), .int .i64 0] 161)) base lb p s ∧ Var (w1.alloc (.cells #[.pointer (some ⟨lb, 0, none⟩), .int .i64 0] 161)) lb rb none 0 0 0 ∧ Way (w1.alloc (.cells #[.pointer (some ⟨lb, 0, none⟩), .int .i64 0] 161)) lb w1.heap.size 0 ∧ w.heap.size ≤ w1.heap.size ∧ Sl1 (w1.alloc (.cells #[.pointer (some ⟨lb, 0, none⟩), .int .i64 0] 161)) A2 (Value.int .i64) ids) :=
    Lib.hid ⟨HV1.out.1.alloc _, HV1.out.2.1.below ((Below.refl _ _).alloc (Nat.le_refl _) _), ⟨blk_new _ _, HV1.out.1.lat.lt_size⟩, HV1.out.1.keep.size, HV1.out.2.2.1.below ((Below.refl _ _).alloc (Nat.le_refl _) _) (Nat.le_refl _)⟩
  have HOLD := Lib.hid HV1.out.2.2.2
  rw [hwb] at HV2 ⊢
  clear hwb HV1
  generalize w1.alloc (.cells #[.pointer (some ⟨lb, 0, none⟩), .int .i64 0] 161) = w2 at *
  go_upto_region 5 with fail
  obtain ⟨nb, hnb⟩ : ∃ r, w2.heap.size = r := ⟨_, rfl⟩
  have HST : Hid (RkI w (w2.alloc (.cells #[.slice none 0 0] 59)) base lb wb rb w2.heap.size 0 p s none 0 0 0 A2 ids 0) := by
    have hb := (Below.refl w2.heap.size w2).alloc (Nat.le_refl _) (.cells #[.slice none 0 0] 59)
    exact Lib.hid ⟨HV2.out.1.alloc _, HV2.out.2.2.1.below hb, HV2.out.2.1.below hb, Var.made HV2.out.1.lat (NatIs.zero _), HV2.out.2.2.2.2.below hb (Nat.le_refl _), Nat.le_of_eq HRB.out, HV2.out.2.2.2.1, HV2.out.1.keep.size, by have := HV2.out.2.1.lt; omega, by rw [HRB.out]; exact HOLD.out, Nat.zero_le _, by omega, by
      rw [List.drop_zero, List.drop_zero]
      cases rnk p.T s ids <;> simp⟩
  rw [hnb] at HST ⊢
  clear hnb HV2
  generalize w2.alloc (.cells #[.slice none 0 0] 59) = w3 at *
  go_wp2_with fail
  go_loopg [20] N (fun n' i' W => ∃ (q i : Nat) (A : Option Addr) (k c m : Nat), q + n' = N ∧ i' = .int .i64 (q : Int) ∧ RkI w W base lb wb rb nb i p s A k c m A2 ids q)
  case atStart => exact ⟨0, 0, none, 0, 0, 0, by omega, rfl, HST.out⟩
  case round =>
    obtain ⟨q, i, A1, k1, c1, m, hq, rfl, hst⟩ := hrel
    obtain ⟨G0, hG0⟩ : ∃ G, G = gk := ⟨_, rfl⟩
    subst hG0
    clear HST
    rename World => W
    have HR := Lib.hid hst
    have HQ := Lib.hid hq
    clear hst hq
    by_cases hlt : q < N
    · have hq2 : q < ids.length := by have := HNN.out; omega
      obtain ⟨id, hid⟩ : ∃ x, ids[q]? = some x := ⟨_, List.getElem?_eq_getElem hq2⟩
      obtain ⟨bi, oi, hA2, e1⟩ := HR.out.sl q id hid
      have r0 : (0 : Int) ≤ (q : Int) := by omega
      have r1 : (q : Int) < (N : Int) := by omega
      have wq : IntKind.i64.wrap ((q : Int) + 1) = (q : Int) + 1 := IntWalk.i64_in _ (by have := HNN.out; have := HLE.out; omega)
      have HID := Lib.hid hid
      clear hid hq2 hlt
      subst hA2
      cases hsk : skipN p.T (s.drop i) id (atP p.T s i) with
      | none =>
        have HNO2 := Lib.hid (HNO.out (by
          rw [HR.out.rel, drop_at HID.out, rnk]
          have h8 : skipN p.T (s.drop i) id (atA p.T (s.drop i)) = none := hsk
          rw [h8]
          rfl))
        have HSK : Hid (Calls Tryz.prog 88 #[.pointer (some ⟨wb, 0, none⟩), .int .i64 id] W fun e w' => (∃ A k c, e = .returned (.tuple #[.agg #[.slice A k c], .bool false]) ∧ NatIs w' (.agg #[.slice A k c]) 0) ∧ Ask W w' base lb p s) := Lib.hid (wskips_any HR.out.ask.lat HR.out.way HT.out HSL.out HR.out.le id 0 false (by rw [hsk]; rfl) (by rw [hsk]; rfl))
        clear hsk
        go_upto_region 9 with (go_at_call 88; refine HSK.out.mono ?_; rintro e W3 ⟨⟨A3, k3, c3, rfl, hn⟩, ha⟩; (replace HR := Lib.hid ((HR.out.asks ha).below ((Below.refl _ _).alloc (Nat.le_refl _) (.cells #[.slice A3 k3 c3] 59)))); clear hn ha e1)
        obtain ⟨kb, hkb⟩ : ∃ b, W3.heap.size = b := ⟨_, rfl⟩
        rw [hkb]
        clear hkb
        generalize W3.alloc (.cells #[.slice A3 k3 c3] 59) = W4 at *
        have v0 := HR.out.res.c0
        have v1 := HR.out.res.z0
        obtain ⟨hk0, hk1⟩ := HNO2.out
        subst hk1
        have HK0 := Lib.hid hk0
        clear hk0
        go_wp2_with fail
        refine ret_cell_tmp1 rfl rfl rfl (load_nat (HR.out.res.put (NatIs.zero _)).blk) ?_
        exact ⟨⟨_, _, _, rfl, by rw [HK0.out]; exact NatIs.zero _⟩, HR.out.ask.setVar HR.out.res HR.out.lo _⟩
      | some K1 =>
        have HK1 := Lib.hid hsk
        have HSK : Hid (Calls Tryz.prog 88 #[.pointer (some ⟨wb, 0, none⟩), .int .i64 id] W fun e w' => (∃ A k c, e = .returned (.tuple #[.agg #[.slice A k c], .bool true]) ∧ NatIs w' (.agg #[.slice A k c]) K1) ∧ Ask W w' base lb p s) := Lib.hid (wskips_any HR.out.ask.lat HR.out.way HT.out HSL.out HR.out.le id K1 true (by rw [hsk]; rfl) (by rw [hsk]; rfl))
        clear hsk
        go_upto_region 11 with (go_at_call 88; refine HSK.out.mono ?_; rintro e W3 ⟨⟨A3, k3, c3, rfl, hn⟩, ha⟩; (have HN3 := Lib.hid (hn.below ((Below.refl _ _).alloc (Nat.le_refl _) (.cells #[.slice A3 k3 c3] 59)) (Nat.le_refl _))); (have HKB := Lib.hid (blk_new W3 (.cells #[.slice A3 k3 c3] 59))); (replace HR := Lib.hid ((HR.out.asks ha).below ((Below.refl _ _).alloc (Nat.le_refl _) (.cells #[.slice A3 k3 c3] 59)))); clear hn ha e1)
        obtain ⟨kb, hkb⟩ : ∃ b, W3.heap.size = b := ⟨_, rfl⟩
        rw [hkb] at HKB ⊢
        clear hkb
        generalize W3.alloc (.cells #[.slice A3 k3 c3] 59) = W4 at *
        have n0 := HR.out.num.c0
        have n1 := blk_cell HKB.out 0
        simp only [List.getElem?_toArray, List.getElem?_cons_zero] at n1
        obtain ⟨J, hJ⟩ : ∃ J, i + lenT p.T id = J := ⟨_, rfl⟩
        have HJ := Lib.hid hJ
        have HD : Hid ((dg B32 (m + K1)).length ≤ 100000) := Lib.hid (by
          have h1 := HR.out.sum
          have h2 := (skip_bound HK1.out).2
          have h3 : sumA p.T (s.drop i) (atP p.T s i) ≤ cntJ p.T s i := by
            by_cases he : s.drop i = []
            · unfold atP
              rw [he]
              exact Nat.zero_le _
            · exact Nat.le_of_eq (cntA_rec HT.out he).symm
          have h4 := cntJ_dg HT.out s 0
          have h5 := HSL.out
          exact Nat.le_trans (dg_len_mono (by decide) (show m + K1 ≤ cntJ p.T s 0 by omega)) (by omega))
        have hba := (Below.refl W4.heap.size W4).alloc (Nat.le_refl _) (.cells #[.slice A3 k3 c3] 59)
        have HAD := Lib.hid (add1_any (w := W4.alloc (.cells #[.slice A3 k3 c3] 59)) k3 c3 ((HR.out.below hba).num.nat) (HN3.out.below hba (Nat.le_refl _)) (blk_new W4 (.cells #[.slice A3 k3 c3] 59)) HD.out 1)
        have HBA := Lib.hid hba
        clear hba hJ
        go_upto_region 12 with (go_at_call 34; refine HAD.out.mono ?_; rintro e W5 ⟨A5, k5, c5, rfl, hn, hb⟩; (replace HR := Lib.hid ((HR.out.below HBA.out).below hb)); (have HR5 := Lib.hid (HR.out.add HT.out HID.out HK1.out HJ.out hn)); clear n0 n1; (have n0 := HR.out.num.c0); (have n1 := HR.out.num.z0); clear hn hb)
        clear n0 n1 HR HAD HBA HKB HN3 HD HSK
        generalize W5.setCell ⟨nb, 0, none⟩ (.slice A5 k5 c5) = W6 at *
        obtain ⟨sz, hsz⟩ : ∃ z, lenT p.T id = z := ⟨_, rfl⟩
        have HSZ : Hid (∀ V, LatV V base lb p s → Calls Tryz.prog 31 #[.pointer (some ⟨lb, 0, none⟩), .int .i64 id] V fun e w' => e = .returned (.int .i64 (sz : Nat)) ∧ w' = V) := Lib.hid (fun V hV => by rw [← hsz]; exact hV.size id)
        have wks : IntKind.i64.wrap ((i : Int) + (sz : Int)) = (J : Int) := by rw [show (i : Int) + (sz : Int) = (J : Int) by have := HJ.out; omega]; exact IntWalk.i64_in _ (by have := HR5.out.le; have := HSL.out; omega)
        clear hsz
        have hh := HR5.out.way.cc
        refine wp_region_D (Ds := [13]) (S := fun V => V.cell? ⟨wb, 0, none⟩ = some (.pointer (some ⟨lb, 0, none⟩)) ∧ V.cell? ⟨wb, 1, none⟩ = some (.int .i64 (i : Int))) (by kernel_rfl) (by exact hh) (fun hHeld => ?_)
        (replace HR5 := Lib.hid HR5.out.drew); clear hh; generalize W6.drew = W7 at *
        refine tkP 0 37 ?_ rfl (.inl ⟨by rfl, ?_⟩) ?_; rotate_left; focus (intro w' _; go_simp; (try with_reducible rfl))
        try simp only [sIB, sC0, sCS]
        refine tkP 1 38 ?_ rfl (.inl ⟨by rfl, ?_⟩) ?_; rotate_left; focus (intro w' _; go_simp; (try with_reducible rfl))
        try simp only [sIB, sC0, sCS]
        refine tkP 2 39 ?_ rfl (.inl ⟨by rfl, ?_⟩) ?_; rotate_left; focus (intro w' _; go_simp; (try with_reducible rfl))
        try simp only [sIB, sC0, sCS]
        refine tkP 4 41 ?_ rfl (.inl ⟨by rfl, ?_⟩) ?_; rotate_left; focus (intro w' _; go_simp; (try with_reducible rfl))
        try simp only [sIB, sC0, sCS]
        refine tkP 5 42 ?_ rfl (.inl ⟨by rfl, ?_⟩) ?_; rotate_left; focus (intro w' _; go_simp; (try with_reducible rfl))
        try simp only [sIB, sC0, sCS]
        refine tkP 6 43 ?_ rfl (.inl ⟨by rfl, ?_⟩) ?_; rotate_left; focus (intro w' _; go_simp; (try with_reducible rfl))
        try simp only [sIB, sC0, sCS]
        refine tkP 8 45 ?_ rfl (.inl ⟨by rfl, ?_⟩) ?_; rotate_left; focus (intro w' _; go_simp; (try with_reducible rfl))
        try simp only [sIB, sC0, sCS]
        refine tkD 3 40 ?_ rfl hHeld (.inl ⟨by rfl, ?_⟩) ?_; rotate_left; focus (intro w' hSw; (try dsimp only at hSw); go_simp; (try with_reducible rfl))
        try simp only [sIB, sC0, sCS]
        refine tkD 7 44 ?_ rfl hHeld (.inl ⟨by rfl, ?_⟩) ?_; rotate_left; focus (intro w' hSw; (try dsimp only at hSw); go_simp; (try with_reducible rfl))
        try simp only [sIB, sC0, sCS]
        refine wpAnyD_one (i := 9) (by kernel_rfl) rfl (by rfl) (fun K hK => ?_)
        go_simp; refine (HSZ.out _ HR5.out.ask.lat).mono ?_; rintro e W8 ⟨rfl, hw⟩; rw [hw]; clear hw W8; have h := hHeld; go_simp
        refine hK.out _ _ h (fun hHeld => ?_)
        clear hK K
        try simp only [Act.put, sIB, sC0, sCS]
        refine tkP 10 47 ?_ rfl (.inl ⟨by rfl, ?_⟩) ?_; rotate_left; focus (intro w' _; go_simp; (try with_reducible rfl))
        try simp only [sIB, sC0, sCS]
        refine tkP 11 48 ?_ rfl (.inl ⟨by rfl, ?_⟩) ?_; rotate_left; focus (intro w' _; go_simp; (try with_reducible rfl))
        try simp only [sIB, sC0, sCS]
        refine tkP 12 49 ?_ rfl (.inl ⟨by rfl, ?_⟩) ?_; rotate_left; focus (intro w' _; go_simp; (try with_reducible rfl))
        try simp only [sIB, sC0, sCS]
        refine wpAnyD_last (D := 13) (by decide) (by kernel_rfl) rfl (by rfl) (fun K hK => ?_)
        have n0 := HR5.out.way.c1; have n1 := HR5.out.way.z1; go_simp
        refine hK.out _ _ ?_
        clear hK K
        try simp only [Act.put, sIB, sC0, sCS]
        refine wpAnyD_done (by kernel_rfl) ?_ _
        have HR9 := Lib.hid HR5.out.step
        clear h hHeld n0 n1 HR5 HSZ wks
        generalize W7.setCell ⟨wb, 1, none⟩ (.int .i64 (J : Int)) = W9 at *
        go_wp2_with fail
        go_roundg (G0 - 1)
        case measure => have := HQ.out; omega
        case rel => exact ⟨q + 1, J, A5, k5, c5, m + K1, by have := HQ.out; omega, by simp, HR9.out⟩
    · have hlt2 : ¬ (q : Int) < (N : Int) := by omega
      have HWE := Lib.hid (wend_any HR.out.ask.lat HR.out.way)
      have hdr : ids.drop q = [] := List.drop_eq_nil_iff.2 (by have := HNN.out; omega)
      have hrel := HR.out.rel
      rw [hdr] at hrel
      by_cases hie : i = s.length
      · have HDE : Hid (decide (i = s.length) = true) := Lib.hid (decide_eq_true hie)
        rw [List.drop_eq_nil_iff.2 (by omega)] at hrel
        obtain ⟨hk0, hk1⟩ := HYE.out m (by rw [hrel]; rfl)
        subst hk1
        have HK0 := Lib.hid hk0
        clear hk0 hrel hdr hie hlt
        go_upto_region 16 with (go_at_call 89; refine HWE.out.mono ?_; rintro e W2 ⟨rfl, ha⟩; rw [HDE.out]; (replace HR := Lib.hid (HR.out.asks ha)); clear ha)
        have n0 := HR.out.num.c0
        have v0 := HR.out.res.c0
        have v1 := HR.out.res.z0
        go_wp2_with fail
        refine ret_cell_tmp1 rfl rfl rfl (load_nat (HR.out.res.put HR.out.num.nat).blk) ?_
        exact ⟨⟨_, _, _, rfl, by rw [HK0.out]; exact (HR.out.res.put HR.out.num.nat).nat⟩, HR.out.ask.setVar HR.out.res HR.out.lo _⟩
      · have HDE : Hid (decide (i = s.length) = false) := Lib.hid (decide_eq_false hie)
        have hne : s.drop i ≠ [] := by intro e; have := List.drop_eq_nil_iff.1 e; have := HR.out.le; omega
        obtain ⟨hk0, hk1⟩ := HNO.out (by rw [hrel, rnk, if_neg hne]; rfl)
        subst hk1
        have HK0 := Lib.hid hk0
        clear hk0 hrel hdr hie hlt hne
        go_upto_region 15 with (go_at_call 89; refine HWE.out.mono ?_; rintro e W2 ⟨rfl, ha⟩; rw [HDE.out]; (replace HR := Lib.hid (HR.out.asks ha)); clear ha)
        have v0 := HR.out.res.c0
        have v1 := HR.out.res.z0
        go_wp2_with fail
        refine ret_cell_tmp1 rfl rfl rfl (load_nat (HR.out.res.put (NatIs.zero _)).blk) ?_
        exact ⟨⟨_, _, _, rfl, by rw [HK0.out]; exact NatIs.zero _⟩, HR.out.ask.setVar HR.out.res HR.out.lo _⟩
end
theorem next_nil (v : Value) (w : World) : Calls Tryz.prog 54 #[.pointer none, v] w fun e w' => e = .returned (.tuple #[.slice none 0 0, .int .i64 1]) ∧ Below w.heap.size w w' := by
  go_enter Tryz.func54, Tryz.ntmps54
  go_wp2_with (go_at_call 44; refine (rank_nil _ _).mono ?_; rintro e w1 ⟨⟨A, k, c, rfl, hn⟩, hb⟩; (have HB := Lib.hid (hb.alloc hb.size (.cells #[.slice A k c] 59))); clear hn hb)
  go_ret2
  exact ⟨rfl, HB.out⟩
theorem last_nil (w : World) : Calls Tryz.prog 50 #[.pointer none] w fun e w' => e = .returned (.slice none 0 0) ∧ w' = w := by
  go_enter Tryz.func50, Tryz.ntmps50
  go_wp2_with (go_at_call 30; refine (lbytes_nil _).mono ?_; rintro e w1 ⟨rfl, hw⟩; rw [hw]; clear hw w1)
  go_loopg [3, 9] 0 (fun n v i W => v = .slice none 0 0 ∧ i = .int .i64 0 ∧ W = w)
  case atStart => exact ⟨rfl, rfl, rfl⟩
  case round =>
    obtain ⟨rfl, rfl, rfl⟩ := hrel
    go_wp2_with fail
    go_ret
    exact ⟨rfl, rfl⟩
theorem made_nil (w : World) : Calls Tryz.prog 58 #[.pointer none] w fun e w' => (∃ A k c, e = .returned (.tuple #[.agg #[.slice A k c], .int .i64 1]) ∧ NatIs w' (.agg #[.slice A k c]) 0) ∧ Below w.heap.size w w' := by
  have HN0 := Lib.hid (blk_new w (.cells #[.slice none 0 0] 59))
  have HB0 := Lib.hid ((Below.refl w.heap.size w).alloc (Nat.le_refl _) (.cells #[.slice none 0 0] 59))
  go_enter Tryz.func58, Tryz.ntmps58
  go_upto_region 1 with fail
  obtain ⟨r, hr⟩ : ∃ r, w.heap.size = r := ⟨_, rfl⟩
  have HRR := Lib.hid hr
  rw [hr] at HN0 ⊢
  clear hr
  generalize w.alloc (.cells #[.slice none 0 0] 59) = w1 at *
  have d0 := blk_cell HN0.out 0
  have z0 := blk_froz HN0.out 0
  simp only [List.getElem?_toArray, List.getElem?_cons_zero] at d0
  have HB3 := Lib.hid (blk_set HN0.out 0 (.slice none 0 0))
  go_wp2_with fail
  refine ret_cell_tmp1 rfl rfl rfl (load_nat HB3.out) ?_
  exact ⟨⟨_, _, _, rfl, NatIs.zero _⟩, HB0.out.setCell (p := ⟨r, 0, none⟩) (Nat.le_of_eq HRR.out) _⟩
section
variable {w w' W W' : World} {base lb nb m k c c2 : Nat} {p : VocP} {s : List UInt8} {A A2 : Option Addr} {ids F : List Int}
def byteI (s : List UInt8) : List Int := s.map (fun x => (x.toNat : Int))
structure LsI (w W : World) (base lb : Nat) (p : VocP) (s : List UInt8) (k : Nat) (v : Value) : Prop where
  lat : LatV W base lb p s
  blw : Below w.heap.size w W
  out : OutI W w.heap.size v k (byteI (s.take k))
theorem LsI.below {k : Nat} {v : Value} (h : LsI w W base lb p s k v) (hb : Below W.heap.size W W') : LsI w W' base lb p s k v := ⟨h.lat.below hb, h.blw.trans (hb.mono h.blw.size), h.out.below hb⟩
theorem LsI.grow {k : Nat} {v v' : Value} {L : List Int} (h0 : LatV w base lb p s) (h : LsI w W base lb p s k v) (ho : OutI W' w.heap.size v' (k + 1) (byteI (s.take k) ++ L)) (hL : byteI (s.take k) ++ L = byteI (s.take (k + 1))) (hk : Keep (fun g => v.ownBlock = some g) W W') : LsI w W' base lb p s (k + 1) v' :=
  ⟨((Ask.of_below h0 h.blw).app h0 h.out (Nat.le_refl _) hk).lat, h.blw.trans (hk.below h.blw.size (fun x hx => (h.out.row.lt x hx).1)), by rw [← hL]; exact ho⟩
end
theorem aw22_div : (divA awT21 abab)[2]? = some [97, 98, 256] := by kernel_rfl
theorem aw22_rnk : rnk awT21 abab [256, 97, 98] = some 1 := by kernel_rfl
theorem aw22_d32 : (dg B32 1).length ≤ 100000 := Nat.le_trans (dg_len_le (k := 2) (by decide) (by decide)) (by decide)
theorem aw22_d10 : (dg 10 1).length ≤ 100000000 := Nat.le_trans (dg_len_le (k := 1) (by decide) (by decide)) (by decide)
theorem nat_agg {w : World} {v : Value} {n : Nat} (h : NatIs w v n) : ∃ A k c, v = .agg #[.slice A k c] := by
  obtain ⟨A, c, rfl, _⟩ := h
  exact ⟨_, _, _, rfl⟩
theorem sl_ints3 {w : World} {g : Nat} {a b c : Int} (h : w.heap[g]? = some (.cells #[.int .i64 a, .int .i64 b, .int .i64 c] 3)) : Sl1 w (some ⟨g, 0, none⟩) (Value.int .i64) [a, b, c] := by
  intro i x hx
  refine ⟨g, 0, rfl, ?_⟩
  rw [blk_cell h]
  match i, hx with
  | 0, hx => simpa using hx
  | 1, hx => simpa using hx
  | 2, hx => simpa using hx
  | n + 3, hx => simp at hx
structure AwL (w W : World) (base lb : Nat) (p : VocP) : Prop where
  lat : LatV W base lb p abab
  T : p.T = awT21
  ok : OkT p.T
  blw : Below w.heap.size w W
  lo : w.heap.size ≤ lb
theorem AwL.asks {w W W' : World} {lb base : Nat} {p : VocP} (h : AwL w W base lb p) (ha : Ask W W' base lb p abab) : AwL w W' base lb p :=
  ⟨ha.lat, h.T, h.ok, h.blw.trans (ha.blw h.blw.size h.lo), h.lo⟩
theorem AwL.below {w W W' : World} {lb base : Nat} {p : VocP} (h : AwL w W base lb p) (hb : Below W.heap.size W W') : AwL w W' base lb p := h.asks (Ask.of_below h.lat hb)
theorem aw22_u {w : World} {base lb k c : Nat} {p : VocP} {A : Option Addr} {W : World} (h : AwL w W base lb p) (hn : NatIs W (.agg #[.slice A k c]) 2) :
    Calls Tryz.prog 49 #[.pointer (some ⟨lb, 0, none⟩), .agg #[.slice A k c]] W fun e w' => (∃ A c, e = .returned (.tuple #[.slice A 3 c, .int .i64 0]) ∧ Sl1 w' A (Value.int .i64) [97, 98, 256]) ∧ Ask W w' base lb p abab := by
  refine (unrank_ok (F := [97, 98, 256]) h.lat h.ok (by decide) hn (by rw [h.T]; exact aw22_div)).mono ?_
  rintro e w' ⟨⟨v, rfl, A, c, rfl, ho⟩, ha⟩
  exact ⟨⟨A, c, rfl, own_sl1 ho⟩, ha⟩
theorem aw22_n {w : World} {base lb k c : Nat} {p : VocP} {A : Option Addr} {W : World} (h : AwL w W base lb p) (hn : NatIs W (.agg #[.slice A k c]) 4) :
    Calls Tryz.prog 49 #[.pointer (some ⟨lb, 0, none⟩), .agg #[.slice A k c]] W fun e w' => e = .returned (.tuple #[.slice none 0 0, .int .i64 7]) ∧ Ask W w' base lb p abab :=
  unrank_no h.lat h.ok (by decide) hn (Nat.le_trans (dg_len_le (k := 2) (by decide) (by decide)) (by decide)) (by rw [h.T, aw21_cnt]; exact Nat.le_refl _)
theorem aw22_r {w : World} {base lb g : Nat} {p : VocP} {W : World} (h : AwL w W base lb p) (hg : W.heap[g]? = some (.cells #[.int .i64 256, .int .i64 97, .int .i64 98] 3)) :
    Calls Tryz.prog 44 #[.pointer (some ⟨lb, 0, none⟩), .slice (some ⟨g, 0, none⟩) 3 3] W fun e w' => (∃ A k c, e = .returned (.tuple #[.agg #[.slice A k c], .int .i64 0]) ∧ NatIs w' (.agg #[.slice A k c]) 1) ∧ Ask W w' base lb p abab :=
  rank_any (ids := [256, 97, 98]) h.lat h.ok (by decide) (sl_ints3 hg) (by decide) (by rw [h.T, aw22_rnk]; rfl) (fun _ => rfl) (fun e => by rw [h.T, aw22_rnk] at e; cases e)
theorem awake22_any (w : World) : Calls Tryz.prog 46 #[] w fun e w' => e = .returned (.bool true) ∧ Below w.heap.size w w' := by
  have HB0 := Lib.hid ((Below.refl w.heap.size w).alloc (Nat.le_refl _) (.cells #[.int .i64 97, .int .i64 98] 113))
  have HSL := Lib.hid (sl_mrg1 (blk_new w (.cells #[.int .i64 97, .int .i64 98] 113)))
  have HN : Hid (∀ V, Sl V (some ⟨w.heap.size, 0, none⟩) encM 2 aw21 → Calls Tryz.prog 62 #[.agg #[.bool false, .slice (some ⟨w.heap.size, 0, none⟩) 1 1, .slice none 0 0, .slice none 0 0, .slice none 0 0, .slice none 0 0]] V fun e w' => (∃ p, e = .returned (.tuple #[.pointer (some ⟨p.vb, 0, none⟩), .int .i64 0, .int .i64 0]) ∧ VocAt w' V.heap.size p none ∧ p.T = awT21 ∧ p.s = mrgS aw21 ∧ OkT awT21) ∧ Below V.heap.size V w') := Lib.hid (fun V hV => vnew_m aw21_adds _ 1 V hV (by decide) (by decide))
  go_enter Tryz.func46, Tryz.ntmps46
  go_upto_region 3 with (first
    | (go_at_call 62; refine (HN.out _ HSL.out).mono ?_; rintro e W ⟨⟨p, rfl, hv, hT, hs, hok⟩, hb⟩; (have HV := Lib.hid hv); (have HT := Lib.hid hT); (have HOK := Lib.hid hok); (have HB := Lib.hid (HB0.out.trans (hb.mono HB0.out.size))); clear hv hT hs hok hb)
    | (go_at_call 24; refine (count_newV HV.out (by rw [HT.out]; exact HOK.out) abab (by decide)).mono ?_; rintro e W2 ⟨⟨lb, rfl, hlo, hl⟩, hb⟩; (have HL : Hid (AwL w W2 W.heap.size lb p) := Lib.hid ⟨hl, HT.out, by rw [HT.out]; exact HOK.out, HB.out.trans (hb.mono HB.out.size), Nat.le_trans HB.out.size hlo⟩); clear hlo hl hb))
  clear HB0 HSL HN HV HT HOK HB
  generalize W.heap.size = base at *
  have HI2 : Hid (∀ V, Calls Tryz.prog 53 #[.int .u64 2] V fun e w' => ∃ v, e = .returned v ∧ NatIs w' v 2 ∧ Below V.heap.size V w') := Lib.hid (fun V => int_any 2 V (by decide))
  have HI4 : Hid (∀ V, Calls Tryz.prog 53 #[.int .u64 4] V fun e w' => ∃ v, e = .returned v ∧ NatIs w' v 4 ∧ Below V.heap.size V w') := Lib.hid (fun V => int_any 4 V (by decide))
  go_upto_region 4 with (first
    | (go_at_call 53; refine (HI2.out _).mono ?_; rintro e W3 ⟨v, rfl, hn, hb⟩; (obtain ⟨A3, k3, c3, hv3⟩ := nat_agg hn); subst hv3; (replace HL := Lib.hid (HL.out.below hb)); (have HN3 := Lib.hid hn); clear hn hb)
    | (go_at_call 49; refine (aw22_u HL.out HN3.out).mono ?_; rintro e W4 ⟨⟨A4, c4, rfl, hv⟩, ha⟩; (have HL0 := HL); (replace HL := Lib.hid (HL.out.asks ha)); (have HV4 := Lib.hid hv); clear hv ha HL0 HN3))
  have HAL := Lib.hid (HL.out.below ((Below.refl _ _).alloc (Nat.le_refl _) (.cells #[.int .i64 256, .int .i64 97, .int .i64 98] 3)))
  have HV5 := Lib.hid (HV4.out.below ((Below.refl _ _).alloc (Nat.le_refl _) (.cells #[.int .i64 256, .int .i64 97, .int .i64 98] 3)) (Nat.le_refl _))
  have HR := Lib.hid (aw22_r HAL.out (blk_new W4 _))
  go_upto_region 5 with (go_at_call 44; refine HR.out.mono ?_; rintro e W5 ⟨⟨A5, k5, c5, rfl, hn⟩, ha⟩; (replace HV5 := Lib.hid (sl_ask HV5.out HAL.out.lat ha)); (replace HAL := Lib.hid (HAL.out.asks ha)); (have HN5 := Lib.hid hn); clear hn ha HL HV4)
  have HVR := Lib.hid (Var.made HAL.out.lat HN5.out)
  have HBW := Lib.hid ((Below.refl W5.heap.size W5).alloc (Nat.le_refl _) (.cells #[.slice A5 k5 c5] 59))
  replace HAL := Lib.hid (HAL.out.below HBW.out)
  replace HV5 := Lib.hid (HV5.out.below HBW.out (Nat.le_refl _))
  obtain ⟨kb, hkb⟩ : ∃ b, W5.heap.size = b := ⟨_, rfl⟩
  rw [hkb] at HVR ⊢
  clear HBW HR HN5 hkb
  generalize W5.alloc (.cells #[.slice A5 k5 c5] 59) = W6 at *
  go_upto_region 6 with (first
    | (go_at_call 53; refine (HI4.out _).mono ?_; rintro e W7 ⟨v, rfl, hn, hb⟩; (obtain ⟨A7, k7, c7, hv7⟩ := nat_agg hn); subst hv7; (replace HAL := Lib.hid (HAL.out.below hb)); (replace HVR := Lib.hid (HVR.out.below hb)); (replace HV5 := Lib.hid (HV5.out.below hb (Nat.le_refl _))); (have HN7 := Lib.hid hn); clear hn hb)
    | (go_at_call 49; refine (aw22_n HAL.out HN7.out).mono ?_; rintro e W8 ⟨rfl, ha⟩; (replace HVR := Lib.hid (HVR.out.ask ha)); (replace HV5 := Lib.hid (sl_ask HV5.out HAL.out.lat ha)); (replace HAL := Lib.hid (HAL.out.asks ha)); clear ha HN7))
  have hba := (Below.refl W8.heap.size W8).alloc (Nat.le_refl _) (.cells #[.int .i64 97, .int .i64 98, .int .i64 256] 3)
  replace HAL := Lib.hid (HAL.out.below hba)
  replace HVR := Lib.hid (HVR.out.below hba)
  have HIN := Lib.hid (ints_same [97, 98, 256] A4 (some ⟨W8.heap.size, 0, none⟩) c4 3 (W8.alloc (.cells #[.int .i64 97, .int .i64 98, .int .i64 256] 3)) (HV5.out.below hba (Nat.le_refl _)) (sl_ints3 (blk_new W8 _)) (by decide))
  clear hba
  have e4 : ((decS 1).toList == [49]) = true := by kernel_rfl
  go_wp2_with (first
    | (go_at_call 40; refine HIN.out.mono ?_; rintro e W9 ⟨rfl, hb⟩; (replace HAL := Lib.hid (HAL.out.below hb)); (replace HVR := Lib.hid (HVR.out.below hb)); (have n0 := HVR.out.c0); clear hb)
    | (go_at_call 38; refine (string_any _ 1 _ HVR.out.nat aw22_d32 aw22_d10).mono ?_; rintro e W10 ⟨rfl, hb⟩; (have HB10 := Lib.hid (HAL.out.blw.trans (hb.mono HAL.out.blw.size))); clear hb))
  go_ret
  exact ⟨rfl, HB10.out⟩
theorem pnone_law {P : Prop} (n : Int) (xs : List Int) (A : Option Addr) (c : Nat) (w : World) (hn : (Lit.int .u64 n).wf = true) (_ : xs.length ≤ c) (hm : c ≤ maxLen) (_ : ∀ y ∈ xs, (Lit.int .i64 y).wf = true) (_ : P) :
    Calls Tryz.prog 15 #[.int .u64 n, .slice A xs.length c] w (RetTrue w) := by
  have hn2 : 0 ≤ n ∧ n ≤ 18446744073709551615 := by simpa [Lit.wf, IntKind.min, IntKind.max, IntKind.bits, IntKind.signed] using hn
  obtain ⟨m, hm1, hm2⟩ : ∃ m : Nat, n = (m : Int) ∧ m < B32 * B32 := ⟨n.toNat, by omega, by show n.toNat < 18446744073709551616; omega⟩
  subst hm1
  have HI := Lib.hid (int_any m)
  have HM := Lib.hid hm2
  clear hn hn2 hm2 hm
  generalize xs.length = N at *
  by_cases hb : N ≤ 100
  · have h1 : ¬ (100 : Int) < (N : Int) := by omega
    clear hb
    go_enter Tryz.func15, Tryz.ntmps15
    go_wp2_with (first
      | (go_at_call 53; refine (HI.out _ HM.out).mono ?_; rintro e W1 ⟨v, rfl, hn, hb⟩; (obtain ⟨A1, k1, c1, hv1⟩ := nat_agg hn); subst hv1; (have HB := Lib.hid hb); clear hn hb)
      | (go_at_call 49; refine (unrank_nil _ _).mono ?_; rintro e W2 ⟨rfl, hb⟩; (replace HB := Lib.hid (HB.out.trans (hb.mono HB.out.size))); clear hb)
      | (go_at_call 44; refine (rank_nil _ _).mono ?_; rintro e W3 ⟨⟨A3, k3, c3, rfl, hn⟩, hb⟩; (replace HB := Lib.hid ((HB.out.trans (hb.mono HB.out.size)).alloc (Nat.le_trans HB.out.size hb.size) (.cells #[.slice A3 k3 c3] 59))); clear hn hb)
      | (go_at_call 58; refine (made_nil _).mono ?_; rintro e W4 ⟨⟨A4, k4, c4, rfl, hn⟩, hb⟩; (replace HB := Lib.hid ((HB.out.trans (hb.mono HB.out.size)).alloc (Nat.le_trans HB.out.size hb.size) (.cells #[.slice A4 k4 c4] 59))); clear hn hb)
      | (go_at_call 54; refine (next_nil _ _).mono ?_; rintro e W5 ⟨rfl, hb⟩; (replace HB := Lib.hid (HB.out.trans (hb.mono HB.out.size))); clear hb)
      | (go_at_call 50; refine (last_nil _).mono ?_; rintro e W6 ⟨rfl, hw⟩; rw [hw]; clear hw W6)
      | (go_at_call 46; refine (awake22_any _).mono ?_; rintro e W7 ⟨rfl, hb⟩; (replace HB := Lib.hid (HB.out.trans (hb.mono HB.out.size))); clear hb))
    go_ret
    exact ⟨rfl, HB.out⟩
  · have h1 : (100 : Int) < (N : Int) := by omega
    clear hb
    go_enter Tryz.func15, Tryz.ntmps15
    go_wp2_with (go_at_call 46; refine (awake22_any _).mono ?_; rintro e W7 ⟨rfl, hb⟩; (have HB := Lib.hid hb); clear hb)
    go_ret
    exact ⟨rfl, HB.out⟩
end Go.Proofs.YtkkcekgbnloegaaGreat
