/- Layer 5 (chain): what waits; the beginning, and each step of the queue: the plain law. -/
import Derived.Test.YtpkmcokkapfnmaaChain2
namespace Go.Proofs.Ytpkmcokkapfnmaa
set_option linter.unusedVariables false
set_option linter.unusedSimpArgs false

/-- a node and the next one wait, if they may become one -/
def askQ (P : Int → Int → Option Int) (Q : List (Th Wt)) (turn i a : Int) : List Nd → List (Th Wt) × Int
  | [] => (Q, turn)
  | y :: _ => match P a y.2 with
    | some r => (pushT Q ⟨r, i, turn, ⟨i, a, y.2⟩⟩, turn + 1)
    | none => (Q, turn)
/-- the last one of those ahead asks -/
def askL (P : Int → Int → Option Int) (Q : List (Th Wt)) (turn : Int) (p q : List Nd) : List (Th Wt) × Int :=
  match p.getLast? with
  | none => (Q, turn)
  | some x => askQ P Q turn x.1 x.2 q
section
variable {P : Int → Int → Option Int} {Q : List (Th Wt)} {turn i a : Int} {q : List Nd}
theorem askQ_mem {e : Th Wt} (h : e ∈ (askQ P Q turn i a q).1) : e ∈ Q ∨ (P e.x.a e.x.b = some e.r ∧ e.p = e.x.i ∧ e.x.i = i ∧ e.x.a = a) := by
  unfold askQ at h
  split at h
  · exact .inl h
  · split at h
    · rename_i r hr
      rcases List.mem_cons.1 ((push_perm _ _).mem_iff.1 h) with rfl | h
      · exact .inr ⟨hr, rfl, rfl, rfl⟩
      · exact .inl h
    · exact .inl h
theorem askQ_sub {e : Th Wt} (h : e ∈ Q) : e ∈ (askQ P Q turn i a q).1 := by
  unfold askQ
  split
  · exact h
  · split
    · exact (push_perm _ _).mem_iff.2 (List.mem_cons_of_mem _ h)
    · exact h
theorem askQ_has {y : Nd} {q' : List Nd} (e : q = y :: q') {r : Int} (hr : P a y.2 = some r) : ∃ e ∈ (askQ P Q turn i a q).1, e.r = r ∧ e.p = i ∧ e.x = ⟨i, a, y.2⟩ := by
  subst e
  simp only [askQ, hr]
  exact ⟨_, (push_perm _ _).mem_iff.2 (List.mem_cons_self), rfl, rfl, rfl⟩
theorem askQ_heap (h : HeapT Q) : HeapT (askQ P Q turn i a q).1 := by
  unfold askQ
  split
  · exact h
  · split
    · exact push_heap _ _ h
    · exact h
theorem askQ_len : (askQ P Q turn i a q).1.length ≤ Q.length + 1 ∧ turn ≤ (askQ P Q turn i a q).2 ∧ (askQ P Q turn i a q).2 ≤ turn + 1 := by
  unfold askQ
  split
  · exact ⟨Nat.le_succ _, by omega, by omega⟩
  · split
    · exact ⟨by rw [push_len]; omega, by omega, by omega⟩
    · exact ⟨Nat.le_succ _, by omega, by omega⟩
end
theorem askL_len {P : Int → Int → Option Int} {Q : List (Th Wt)} {turn : Int} {p q : List Nd} : (askL P Q turn p q).1.length ≤ Q.length + 1 ∧ turn ≤ (askL P Q turn p q).2 ∧ (askL P Q turn p q).2 ≤ turn + 1 := by
  unfold askL
  split
  · exact ⟨Nat.le_succ _, by omega, by omega⟩
  · exact askQ_len
structure QOk (P : Int → Int → Option Int) (n : Nat) (Q : List (Th Wt)) : Prop where
  heap : HeapT Q
  ent : ∀ e ∈ Q, P e.x.a e.x.b = some e.r ∧ e.p = e.x.i
  pos : ∀ e ∈ Q, ∃ k : Nat, e.x.i = k ∧ k < n ∧ 0 ≤ e.x.a
theorem QOk.ask {P : Int → Int → Option Int} {n : Nat} {Q : List (Th Wt)} (h : QOk P n Q) (turn a : Int) (k : Nat) (hk : k < n) (ha : 0 ≤ a) (q : List Nd) : QOk P n (askQ P Q turn k a q).1 := by
  refine ⟨askQ_heap h.heap, ?_, ?_⟩
  · intro e he
    rcases askQ_mem he with h1 | ⟨h1, h2, _⟩
    · exact h.ent e h1
    · exact ⟨h1, h2⟩
  · intro e he
    rcases askQ_mem he with h1 | ⟨h1, h2, h3, h4⟩
    · exact h.pos e h1
    · exact ⟨k, h3, hk, by rw [h4]; exact ha⟩
theorem QOk.pop {P : Int → Int → Option Int} {n : Nat} {Q : List (Th Wt)} (h : QOk P n Q) (hl : 0 < Q.length) : QOk P n (popT Q) :=
  have sub : ∀ e ∈ popT Q, e ∈ Q := fun e he => (pop_perm Q hl).mem_iff.2 (List.mem_cons_of_mem _ he)
  ⟨pop_heap _ h.heap, fun e he => h.ent e (sub e he), fun e he => h.pos e (sub e he)⟩

/-! the beginning -/
/-- the first k nodes have asked -/
structure BegS (P : Int → Int → Option Int) (L : List Nd) (n k : Nat) (Q : List (Th Wt)) (turn : Int) : Prop where
  q : QOk P n Q
  com : ∀ (i a j b : Int) (p q : List Nd), L = p ++ (i, a) :: (j, b) :: q → p.length < k → ∀ r, P a b = some r → ∃ e ∈ Q, e.r = r ∧ e.p = i ∧ e.x = ⟨i, a, b⟩
  size : Q.length ≤ k
  turn : 0 ≤ turn ∧ turn ≤ k
theorem BegS.start (P : Int → Int → Option Int) (L : List Nd) (n : Nat) : BegS P L n 0 [] 0 := by
  refine ⟨⟨?_, by simp, by simp⟩, fun i a j b p q e h => by omega, by simp, by omega⟩
  intro j hj
  simp at hj
theorem BegS.ask {P : Int → Int → Option Int} {L : List Nd} {n : Nat} {Q : List (Th Wt)} {turn : Int} {p q : List Nd} {i : Nat} {a : Int} (h : BegS P L n p.length Q turn) (e : L = p ++ ((i : Int), a) :: q) (hi : i < n) (ha : 0 ≤ a) :
    BegS P L n (p.length + 1) (askQ P Q turn i a q).1 (askQ P Q turn i a q).2 := by
  have hl := askQ_len (P := P) (Q := Q) (turn := turn) (i := i) (a := a) (q := q)
  refine ⟨h.q.ask turn a i hi ha q, ?_, ?_, ?_⟩
  · intro i' a' j b p' q' e' hk r hr
    by_cases hlt : p'.length < p.length
    · obtain ⟨x, hx, h3⟩ := h.com i' a' j b p' q' e' hlt r hr
      exact ⟨x, askQ_sub hx, h3⟩
    · have hpl : p'.length = p.length := by omega
      rw [e] at e'
      obtain ⟨rfl, e2⟩ := List.append_inj e' hpl.symm
      simp only [List.cons.injEq, Prod.mk.injEq] at e2
      obtain ⟨⟨e3, rfl⟩, e4⟩ := e2
      rw [← e3]
      exact askQ_has e4 hr
  · have := h.size; omega
  · have := h.turn; omega
theorem BegS.mach {P : Int → Int → Option Int} {L : List Nd} {n : Nat} {Q : List (Th Wt)} {turn : Int} (h : BegS P L n L.length Q turn) (hs : L.Pairwise (fun x y => x.1 < y.1)) : Mach P L Q :=
  ⟨h.q.ent, fun i a j b p q e r hr => h.com i a j b p q e (by rw [e]; simp) r hr, hs⟩

/-! the queue, step by step -/
structure RunS (P : Int → Int → Option Int) (M : List (Int × Int)) (ids0 : List Int) (N : List Node) (L : List Nd) (Q : List (Th Wt)) (turn steps : Int) (n : Nat) : Prop where
  lives : Lives N L
  nlen : N.length = n
  mach : Mach P L Q
  q : QOk P n Q
  same : seqE M 256 (idsC L) = seqE M 256 ids0
  pos : 0 ≤ steps
  steps : steps + L.length = n
  size : Q.length + 3 * L.length ≤ 4 * n
  turn : 0 ≤ turn ∧ turn + 2 * L.length ≤ 3 * n
theorem RunS.start {P : Int → Int → Option Int} {M : List (Int × Int)} {N : List Node} {L : List Nd} {Q : List (Th Wt)} {turn : Int} (hl : Lives N L) (hn : N.length = L.length) (h : BegS P L L.length L.length Q turn) : RunS P M (idsC L) N L Q turn 0 L.length :=
  ⟨hl, hn, h.mach hl.srt, h.q, rfl, Int.le_refl _, by omega, by have := h.size; omega, by have := h.turn; omega⟩
theorem RunS.fin {P : Int → Int → Option Int} {M : List (Int × Int)} {ids0 : List Int} {N : List Node} {L : List Nd} {turn steps : Int} {n : Nat} (h : RunS P M ids0 N L [] turn steps n)
    (hP : ∀ a b r, P a b = some r ↔ ∃ k : Nat, M[k]? = some (a, b) ∧ r = 256 + k) : idsC L = seqE M 256 ids0 ∧ steps = n - (seqE M 256 ids0).length := by
  have h1 := done_same hP h.mach
  rw [h.same] at h1
  refine ⟨h1.symm, ?_⟩
  rw [h1]
  have := h.steps
  unfold idsC
  rw [List.length_map]
  omega
/-- what waits is stale: passed over -/
theorem RunS.drop {P : Int → Int → Option Int} {M : List (Int × Int)} {ids0 : List Int} {N : List Node} {L : List Nd} {Q : List (Th Wt)} {turn steps : Int} {n : Nat} (h : RunS P M ids0 N L Q turn steps n) (hl : 0 < Q.length)
    (hs : ∀ p j q, L ≠ p ++ (Q[0].x.i, Q[0].x.a) :: (j, Q[0].x.b) :: q) : RunS P M ids0 N L (popT Q) turn steps n :=
  ⟨h.lives, h.nlen, h.mach.stale (pop_perm Q hl) hs, h.q.pop hl, h.same, h.pos, h.steps, by rw [pop_len]; have := h.size; omega, h.turn⟩
theorem RunS.join {P : Int → Int → Option Int} {M : List (Int × Int)} {ids0 : List Int} {N : List Node} {L1 L2 : List Nd} {Q : List (Th Wt)} {turn steps : Int} {n i j : Nat} {a b : Int}
    (h : RunS P M ids0 N (L1 ++ ((i : Int), a) :: ((j : Int), b) :: L2) Q turn steps n) (hl : 0 < Q.length) (hx : Q[0].x = ⟨i, a, b⟩)
    (hP : ∀ a b r, P a b = some r ↔ ∃ k : Nat, M[k]? = some (a, b) ∧ r = 256 + k) (hM : OkM M 256) (hr : Q[0].r < 1000000) :
    RunS P M ids0 (joinN N i j Q[0].r (kOf L2)) (L1 ++ ((i : Int), Q[0].r) :: L2)
      (askQ P (askL P (popT Q) turn L1 (((i : Int), Q[0].r) :: L2)).1 (askL P (popT Q) turn L1 (((i : Int), Q[0].r) :: L2)).2 i Q[0].r L2).1
      (askQ P (askL P (popT Q) turn L1 (((i : Int), Q[0].r) :: L2)).1 (askL P (popT Q) turn L1 (((i : Int), Q[0].r) :: L2)).2 i Q[0].r L2).2 (steps + 1) n := by
  have hp := pop_perm Q hl
  have hmem : Q[0] ∈ Q := List.getElem_mem _
  have hmin : ∀ e ∈ Q, leT Q[0] e := by
    intro e he
    obtain ⟨j', hj', rfl⟩ := List.getElem_of_mem he
    exact heap_min Q h.q.heap j' hj'
  have he0 := h.q.ent Q[0] hmem
  obtain ⟨k0, hk0, hr0⟩ := (hP _ _ _).1 he0.1
  have hr1 : 0 ≤ Q[0].r := by omega
  have hlives := h.lives.join (r := Q[0].r) ⟨hr1, hr⟩
  have hsame := join_same hP hM h.mach hmem hmin hx
  have hqp := h.q.pop hl
  generalize hR : Q[0].r = R at *
  generalize hQ1 : askL P (popT Q) turn L1 (((i : Int), R) :: L2) = Q1 at *
  have hplace : ∀ x ∈ L1 ++ ((i : Int), R) :: L2, ∃ k : Nat, x.1 = k ∧ k < n ∧ 0 ≤ x.2 := by
    intro x hx
    obtain ⟨k, h1, h2⟩ := hlives.place hx
    rw [joinN_len, h.nlen] at h2
    exact ⟨k, h1, h2, (hlives.nn x hx).1⟩
  have hl1 : QOk P n Q1.1 ∧ (∀ e ∈ popT Q, e ∈ Q1.1) ∧ Q1.1.length ≤ (popT Q).length + 1 ∧ turn ≤ Q1.2 ∧ Q1.2 ≤ turn + 1 ∧ (∀ e ∈ Q1.1, e ∈ popT Q ∨ (P e.x.a e.x.b = some e.r ∧ e.p = e.x.i)) ∧
      (∀ p i' a', L1 = p ++ [(i', a')] → ∀ r, P a' R = some r → ∃ e ∈ Q1.1, e.r = r ∧ e.p = i' ∧ e.x = ⟨i', a', R⟩) := by
    subst hQ1
    unfold askL
    rcases List.eq_nil_or_concat L1 with rfl | ⟨p', x, rfl⟩
    · refine ⟨hqp, fun e he => he, by simp, by simp, by simp; omega, fun e he => .inl he, ?_⟩
      intro p i' a' e
      simp at e
    · simp only [List.concat_eq_append, List.getLast?_concat] at *
      obtain ⟨k, hk1, hk2, hk3⟩ := hplace x (by simp)
      have hlen := askQ_len (P := P) (Q := popT Q) (turn := turn) (i := x.1) (a := x.2) (q := ((i : Int), R) :: L2)
      refine ⟨?_, fun e he => askQ_sub he, hlen.1, hlen.2.1, hlen.2.2, ?_, ?_⟩
      · rw [hk1]; exact hqp.ask turn x.2 k hk2 hk3 _
      · intro e he
        rcases askQ_mem he with h1 | ⟨h1, h2, _⟩
        · exact .inl h1
        · exact .inr ⟨h1, h2⟩
      · intro p i' a' e r hr'
        have e2 := (List.append_inj' e rfl).2
        simp at e2
        subst e2
        exact askQ_has rfl hr'
  obtain ⟨q1, q2, q3, q4, q5, q6, q7⟩ := hl1
  obtain ⟨ki, hki1, hki2, hki3⟩ := hplace ((i : Int), R) (by simp)
  have hki : i = ki := by simp at hki1; omega
  subst hki
  have hlen := askQ_len (P := P) (Q := Q1.1) (turn := Q1.2) (i := (i : Int)) (a := R) (q := L2)
  refine ⟨hlives, by rw [joinN_len]; exact h.nlen, ?_, q1.ask Q1.2 R i hki2 hr1 L2, ?_, by have := h.pos; omega, ?_, ?_, ?_⟩
  · have := Mach.join (Q'' := (askQ P Q1.1 Q1.2 i R L2).1) h.mach hp hx (fun e he => askQ_sub (q2 e he)) (fun e he => ?_) (fun p i' a' e r hr' => ?_) (fun j' b' q e r hr' => ?_)
    · rw [hR] at this
      exact this
    · rcases askQ_mem he with h1 | ⟨h1, h2, _⟩
      · exact q6 e h1
      · exact .inr ⟨h1, h2⟩
    · rw [hR] at hr' ⊢
      obtain ⟨x, hx1, hx2⟩ := q7 p i' a' e r hr'
      exact ⟨x, askQ_sub hx1, hx2⟩
    · rw [hR] at hr' ⊢
      exact askQ_has e hr'
  · rw [← hsame]; exact h.same
  · have := h.steps; simp only [List.length_append, List.length_cons] at this ⊢; omega
  · have := h.size
    have h2 := pop_len Q
    simp only [List.length_append, List.length_cons] at this ⊢; omega
  · have := h.turn; simp only [List.length_append, List.length_cons] at this ⊢; omega
end Go.Proofs.Ytpkmcokkapfnmaa
