/- Layer 4 (token): the document's answer: Add. -/
import Derived.Test.YtdppdjiigecjoaaRef1
import Derived.Laws.AppendOwnNone
namespace Go.Proofs.Ytdppdjiigecjoaa
open Go.RowKit Go.Maps Go.WideMaps
set_option maxRecDepth 100000
set_option linter.unusedVariables false
set_option linter.unusedSimpArgs false

/-- 'append(nil, v...)': a copy -/
theorem app_copy {P : Program} {w : World} {ops : Array Oper} {rest : List Oper} {o : Oper} {a : Act} {Q : Exit → Act → World → Prop} (base base0 : Nat) (t e : TypeId) (z : Value) (size bytes : Nat) (s x : Operand)
    (hgd : o.guard = none) (ho : o.op = .call { callee := .builtin .append, args := #[s, x], argTypes := #[t, t] })
    (ht : P.underlying t = some (.slice e)) (hinfo : (P.info? e).map (fun i => (i.zero, i.size, i.bytes)) = some (some z, size, bytes)) (hzs : z.cells.size = size) (hsz : 0 < size)
    (v : Value) (n : Nat) (xs : List Value) (hs : a.eval s = .slice none 0 0) (hx : a.eval x = v) (h1 : ∀ u ∈ xs, u.oneCell' = true) (h0 : n = 0 → v = .slice none 0 0)
    (hown : w.ownsRow base0 e size v n xs) (hbytes : n * bytes ≤ 140737488355328) (h63 : n < 9000000000000000000) (hbase : base ≤ w.heap.size)
    (h : ∀ v' w', w'.ownsRow base e size v' n xs → Below w.heap.size w w' → (n = 0 → v' = .slice none 0 0) → wpList P ops Q rest (a.put o.dst v') w') : wpList P ops Q (o :: rest) a w := by
  obtain ⟨i, hi, hz0, hz1, hz2⟩ := info_parts hinfo
  by_cases hn : n = 0
  · subst hn
    have hv := h0 rfl
    subst hv
    have hx0 : xs = [] := by
      have := hown.1
      exact List.eq_nil_of_length_eq_zero (by simpa using this)
    subst hx0
    exact wpList_append_own_none hgd s x t ho base e i size ht hi (.slice none 0 0) 0 [] hs (own_nil _ _ _ _) hx (h _ _ (own_nil _ _ _ _) (Below.refl _ _) (fun _ => rfl))
  · obtain ⟨g, cap, rfl, hg, hlt, hc⟩ := own_open hown (by omega)
    refine wpList_append_own_at w hgd s x t ho base e i z size bytes ht hi hz0 hz1 hz2 hzs hsz (.slice none 0 0) 0 [] hs (own_nil _ _ _ _) ⟨g, 0, none⟩ n cap xs hx hown.1 ?_ h1 (by unfold maxLen; omega) (by rw [Nat.zero_add]; exact hbytes) hbase ?_
    · intro j u hu
      rw [add_plain, Nat.zero_add]
      exact (hc j u hu).1
    · intro v' w' r1 r2 _ _
      rw [Nat.zero_add, List.nil_append] at r1
      exact h v' w' r1 ⟨r2.os, r2.tape, r2.output, r2.size, fun k hk => r2.block k hk (by simp [Value.ownBlock])⟩ (fun e => absurd e hn)
end Go.Proofs.Ytdppdjiigecjoaa
