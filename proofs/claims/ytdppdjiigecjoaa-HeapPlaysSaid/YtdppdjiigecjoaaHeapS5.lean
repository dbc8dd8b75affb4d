/- Layer 3 (heap): heaps of texts: New, Len, Peek, Push, Pop. -/
import Derived.Test.YtdppdjiigecjoaaHeapS4
namespace Go.Proofs.Ytdppdjiigecjoaa.hs
open Go.RowKit Go.Maps Go.WideMaps
set_option maxRecDepth 100000
set_option linter.unusedVariables false
set_option linter.unusedSimpArgs false

theorem results_tmp4 {fn : Func} {a b c d : Tmp} (h : fn.results = #[.tmp a, .tmp b, .tmp c, .tmp d]) (tmps : Array Value) (P : Program) (w : World) :
    (results fn tmps).run P w = .ok (.tuple #[tmps.getD a undef, tmps.getD b undef, tmps.getD c undef, tmps.getD d undef]) w := by
  simp only [results, h]
  simp [Sem.run_bind, Result.andThen]

theorem new_any (w : World) : Calls Try.prog 63 #[] w fun e w' => e = .returned (.pointer (some ⟨w.heap.size, 0, none⟩)) ∧ HeapIs w' w.heap.size w.heap.size [] 0 none 0 ∧ Below w.heap.size w w' := by
  have hb := (Below.refl w.heap.size w).alloc (Nat.le_refl _) (.cells #[.slice none 0 0, .int .i64 0] 128)
  have HS := Lib.hid (show HeapIs (w.alloc (.cells #[.slice none 0 0, .int .i64 0] 128)) w.heap.size w.heap.size [] 0 none 0 from ⟨blk_new w _, by simpa using own_nil _ _ _ _, Nat.le_refl _⟩)
  have HB := Lib.hid hb
  clear hb
  go_enter Try.func63, Try.ntmps63
  go_wp2_with fail
  go_ret
  exact ⟨rfl, HS.out, HB.out⟩

section
variable {w : World} {base hb : Nat} {l : List (Th ByteArray)} {turn : Int} {A : Option Addr} {c : Nat}
theorem len_h (h : HeapIs w base hb l turn A c) : Calls Try.prog 46 #[.pointer (some ⟨hb, 0, none⟩)] w fun e w' => e = .returned (.int .i64 (l.length : Nat)) ∧ w' = w := by
  have h0 := blk_cell h.blk 0
  simp only [List.getElem?_toArray, List.getElem?_cons_zero, List.getElem?_cons_succ] at h0
  clear h
  go_enter Try.func46, Try.ntmps46
  go_wp2_with fail
  go_ret
  exact ⟨rfl, rfl⟩
theorem peek_none (h : HeapIs w base hb [] turn A c) : Calls Try.prog 45 #[.pointer (some ⟨hb, 0, none⟩)] w fun e w' => e = .returned (.tuple #[.string ⟨#[]⟩, .int .i64 0, .int .i64 0, .bool false]) ∧ w' = w := by
  go_enter Try.func45, Try.ntmps45
  go_wp2_with fail
  refine (len_h h).mono ?_
  rintro e w' ⟨rfl, rfl⟩
  go_wp2_with fail
  exact bodyPost_ret (results_tmp4 rfl _ _ _) rfl ⟨rfl, rfl⟩
theorem peek_h (h : HeapIs w base hb l turn A c) (hl : 0 < l.length) : Calls Try.prog 45 #[.pointer (some ⟨hb, 0, none⟩)] w fun e w' => e = .returned (.tuple #[.string l[0].x, .int .i64 l[0].r, .int .i64 l[0].p, .bool true]) ∧ Below w.heap.size w w' := by
  obtain ⟨g, rfl, a0, a1, a2, a3⟩ := h.at 0 hl
  have HLEN := Lib.hid (len_h h)
  have h0 := blk_cell h.blk 0
  simp only [List.getElem?_toArray, List.getElem?_cons_zero, List.getElem?_cons_succ] at h0
  generalize l[0] = x at *
  obtain ⟨xr, xp, xt, xx⟩ := x
  simp only [Nat.zero_mul, Nat.zero_add] at a0 a1 a2 a3
  have hb1 := (Below.refl w.heap.size w).alloc (Nat.le_refl _) (.cells #[.int .i64 xr, .int .i64 xp, .int .i64 xt, .string xx] 130)
  have hn := blk_new w (.cells #[.int .i64 xr, .int .i64 xp, .int .i64 xt, .string xx] 130)
  have n0 := blk_cell hn 0
  have n1 := blk_cell hn 1
  have n3 := blk_cell hn 3
  simp only [List.getElem?_toArray, List.getElem?_cons_zero, List.getElem?_cons_succ] at n0 n1 n3
  have HB := Lib.hid hb1
  have hl' : ¬ (l.length : Int) = 0 := by omega
  have hl2 : (0 : Int) < (l.length : Int) := by omega
  clear h hb1 hn
  go_enter Try.func45, Try.ntmps45
  go_wp2_with fail
  refine HLEN.out.mono ?_
  rintro e w' ⟨rfl, rfl⟩
  clear HLEN
  go_upto_region 5 with fail
  go_quiet (fail)
  go_wp2_with fail
  refine bodyPost_ret (results_tmp4 rfl _ _ _) rfl ⟨rfl, ?_⟩
  exact below_drewN HB.out _
end
end Go.Proofs.Ytdppdjiigecjoaa.hs
