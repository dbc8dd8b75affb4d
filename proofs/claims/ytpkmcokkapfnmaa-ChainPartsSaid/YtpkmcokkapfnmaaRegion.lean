/- A region that draws and whose last operation, D, stores: S need not hold behind D. And 'm[k]' of a tuple's assignment, where the key is new. -/
import Derived.Test.YtpkmcokkapfnmaaMaps
import Derived.WideKeyEntry
import Derived.Maps.AppendAt
import Derived.Deep.RegionHeld3
namespace Go.Proofs.Ytpkmcokkapfnmaa
open Go.RowKit Go.Maps

section
variable {P : Program} {ops : Array Oper} {Q : Exit → Act → World → Prop} {md : Region.Mode} {S : World → Prop} {D : Nat}

/-- whatever order is picked; S holds behind each operation but D -/
def wpAnyG (P : Program) (md : Region.Mode) (ops : Array Oper) (Q : Exit → Act → World → Prop) (S : World → Prop) (D : Nat) : Nat → Array Bool → Act → World → Prop
  | 0, listed, a, w => Region.ready md ops listed = [] ∧ Q .normal a w
  | fuel + 1, listed, a, w =>
    (Region.ready md ops listed = [] → Q .normal a w) ∧
    ∀ i ∈ Region.ready md ops listed, wpOp P ops Q i (fun a' w' => (i = D ∨ S w') ∧ wpAnyG P md ops Q S D fuel (listed.setIfInBounds i true) a' w') a w

theorem wpAny_of_G : ∀ (fuel : Nat) (listed : Array Bool) (a : Act) (w : World), wpAnyG P md ops Q S D fuel listed a w → wpAny P md ops Q fuel listed a w
  | 0, _, _, _, h => h
  | fuel + 1, _, _, _, h => ⟨h.1, fun i hi => wpOp_mono (fun a' w' h' => wpAny_of_G fuel _ a' w' h'.2) (h.2 i hi)⟩

theorem wpAnyG_first {i : Nat} {oi : Oper} {v : Value} (hi : ops[i]? = some oi) (hsel : ∀ (j : Nat) (o : Oper) cs b, ops[j]? = some o → o.op ≠ .select cs b)
    (hQ : ∀ c a w, Q (.panic c) (a.put oi.dst v) w → Q (.panic c) a w) (hiD : i ≠ D) (hD : Region.waitsFor md ops D i = true) :
    ∀ (fuel : Nat) (listed : Array Bool) (a : Act) (w : World),
      (∀ j oj, ops[j]? = some oj → j ≠ i → listed.getD j true = false → (∀ e ∈ oj.after, Region.binds md e = true → e.on ≠ i) → oi.apart ops oj = true) →
      i ∈ Region.ready md ops listed → YieldsIf P ops S oi v a → S w →
      wpAnyG P md ops Q S D fuel (listed.setIfInBounds i true) (a.put oi.dst v) w → wpAnyG P md ops Q S D (fuel + 1) listed a w := by
  intro fuel
  induction fuel with
  | zero =>
    intro listed a w _ hr hy hS H
    refine ⟨fun h => (by rw [h] at hr; cases hr), fun j hj => ?_⟩
    by_cases hji : j = i
    · subst hji; exact hy.wpOp hi hS ⟨Or.inr hS, H⟩
    · have := ready_mono hj hji
      rw [H.1] at this
      cases this
  | succ fuel ih =>
    intro listed a w hfree hr hy hS H
    refine ⟨fun h => (by rw [h] at hr; cases hr), fun j hj => ?_⟩
    by_cases hji : j = i
    · subst hji; exact hy.wpOp hi hS ⟨Or.inr hS, H⟩
    · have h1 := H.2 j (ready_mono hj hji)
      obtain ⟨hjun, oj, hoj, hall⟩ := mem_ready.1 hj
      have hnot : ∀ e ∈ oj.after, Region.binds md e = true → e.on ≠ i := by
        intro e he hb heq
        have h1 := hall e he hb
        have h0 := (mem_ready.1 hr).1
        rw [heq] at h1
        rcases Nat.lt_or_ge i listed.size with h' | h'
        · simp [h'] at h0 h1; rw [h0] at h1; cases h1
        · simp [Array.getElem?_eq_none h'] at h1
      have hjD : j ≠ D := by
        intro e
        obtain ⟨od, hod, x, hx, hb, hxi⟩ := Region.waitsFor_spec hD
        subst e
        rw [hoj] at hod
        cases hod
        exact hnot x hx hb hxi
      have h2 := wpOp_putIf hoj (hfree j oj hoj hji hjun hnot) (fun cs b => hsel i oi cs b hi) (fun cs b => hsel j oj cs b hoj) hQ hy h1
      have hfree' : ∀ k ok, ops[k]? = some ok → k ≠ i → (listed.setIfInBounds j true).getD k true = false →
          (∀ e ∈ ok.after, Region.binds md e = true → e.on ≠ i) → oi.apart ops ok = true := by
        intro k ok hk hki hun hno
        refine hfree k ok hk hki ?_ hno
        by_cases hjk : j = k
        · subst hjk; exact hjun
        · rw [getD_set_ne true hjk] at hun; exact hun
      refine wpOp_mono (fun a' w' h3 => ⟨h3.2.1, ?_⟩) h2
      refine ih (listed.setIfInBounds j true) a' w' hfree' (ready_mono hr (Ne.symm hji)) h3.1 (h3.2.1.resolve_left hjD) ?_
      rw [Array.setIfInBounds_comm _ _ hji]
      exact h3.2.2

theorem wpAnyG_takeD {i d : Nat} {oi : Oper} {v : Value} {fuel : Nat} {listed : Array Bool} {tmps : Array Value} {df : List Deferred} {w : World}
    (hi : ops[i]? = some oi) (hd : oi.dst = some d) (hiD : (Region.waitsFor md ops D i && !(i == D)) = true)
    (hs : Region.noSelect ops = true) (hf : Region.free md ops listed i = true) (hr : (Region.ready md ops listed).contains i = true)
    (hQ : ∀ c a w, Q (.panic c) (a.put oi.dst v) w → Q (.panic c) a w) (hy : YieldsIf P ops S oi v ⟨tmps, df⟩) (hS : S w)
    (h : wpAnyG P md ops Q S D fuel (listed.setIfInBounds i true) ⟨tmps.setIfInBounds d v, df⟩ w) : wpAnyG P md ops Q S D (fuel + 1) listed ⟨tmps, df⟩ w := by
  simp only [Bool.and_eq_true, Bool.not_eq_true', beq_eq_false_iff_ne, ne_eq] at hiD
  refine wpAnyG_first hi (Region.noSelect_spec hs) hQ hiD.2 hiD.1 fuel listed _ w (Region.free_spec hi hf) (by simpa using hr) hy hS ?_
  rw [hd]
  exact h

/-- one alone may come up -/
theorem wpAnyG_one {i : Nat} {o : Oper} {fuel : Nat} {listed : Array Bool} {a : Act} {w : World} (hr : Region.ready md ops listed = [i]) (ho : ops[i]? = some o)
    (hw : Region.wanted o (yielded ops a.tmps) = true)
    (h : ∀ K' : Act → World → Prop, Shut (∀ a w, S w → (S w → wpAnyG P md ops Q S D fuel (listed.setIfInBounds i true) a w) → K' a w) → Oper.wp P o a w K' Q) :
    wpAnyG P md ops Q S D (fuel + 1) listed a w := by
  refine ⟨fun h0 => (by rw [hr] at h0; cases h0), fun j hj => ?_⟩
  rw [hr] at hj
  have : j = i := by simpa using hj
  subst this
  refine wpOp_step ho (fun K' hK => ?_)
  rw [if_pos hw]
  exact h K' (fun a w hS hW => hK a w ⟨Or.inr hS, hW hS⟩)
/-- D, the last one -/
theorem wpAnyG_last {o : Oper} {fuel : Nat} {listed : Array Bool} {a : Act} {w : World} (hr : Region.ready md ops listed = [D]) (ho : ops[D]? = some o)
    (hw : Region.wanted o (yielded ops a.tmps) = true)
    (h : ∀ K' : Act → World → Prop, Shut (∀ a w, wpAnyG P md ops Q S D fuel (listed.setIfInBounds D true) a w → K' a w) → Oper.wp P o a w K' Q) :
    wpAnyG P md ops Q S D (fuel + 1) listed a w := by
  refine ⟨fun h0 => (by rw [hr] at h0; cases h0), fun j hj => ?_⟩
  rw [hr] at hj
  have : j = D := by simpa using hj
  subst this
  refine wpOp_step ho (fun K' hK => ?_)
  rw [if_pos hw]
  exact h K' (fun a w hW => hK a w ⟨Or.inl rfl, hW⟩)
/-- one of two may come up -/
theorem wpAnyG_two {i j : Nat} {oi oj : Oper} {fuel : Nat} {listed : Array Bool} {a : Act} {w : World} (hr : Region.ready md ops listed = [i, j]) (hoi : ops[i]? = some oi) (hoj : ops[j]? = some oj)
    (hwi : Region.wanted oi (yielded ops a.tmps) = true) (hwj : Region.wanted oj (yielded ops a.tmps) = true)
    (hi : ∀ K' : Act → World → Prop, Shut (∀ a w, S w → (S w → wpAnyG P md ops Q S D fuel (listed.setIfInBounds i true) a w) → K' a w) → Oper.wp P oi a w K' Q)
    (hj : ∀ K' : Act → World → Prop, Shut (∀ a w, S w → (S w → wpAnyG P md ops Q S D fuel (listed.setIfInBounds j true) a w) → K' a w) → Oper.wp P oj a w K' Q) :
    wpAnyG P md ops Q S D (fuel + 1) listed a w := by
  refine ⟨fun h0 => (by rw [hr] at h0; cases h0), fun k hk => ?_⟩
  rw [hr] at hk
  have : k = i ∨ k = j := by simpa using hk
  rcases this with rfl | rfl
  · refine wpOp_step hoi (fun K' hK => ?_)
    rw [if_pos hwi]
    exact hi K' (fun a w hS hW => hK a w ⟨Or.inr hS, hW hS⟩)
  · refine wpOp_step hoj (fun K' hK => ?_)
    rw [if_pos hwj]
    exact hj K' (fun a w hS hW => hK a w ⟨Or.inr hS, hW hS⟩)
theorem wpAnyG_done {listed : Array Bool} {a : Act} {w : World} (hr : Region.ready md ops listed = []) (h : Q .normal a w) :
    ∀ fuel, wpAnyG P md ops Q S D fuel listed a w
  | 0 => ⟨hr, h⟩
  | _ + 1 => ⟨fun _ => h, by rw [hr]; simp⟩
theorem wp_region_G {id : Nat} {a : Act} {w : World} (hm : P.follows .mixedOrders = true) (hS : S w.drew)
    (h : S w.drew → wpAnyG P .any ops Q S D ops.size (Array.replicate ops.size false) a w.drew) : (Code.region id ops true).wp P Q a w :=
  wp_region_any hm (wpAny_of_G _ _ _ _ (h hS))
end

/-- append of one element that was just built, at the operation -/
theorem wp_app_one {P : Program} {w : World} {o : Oper} {a : Act} {K : Act → World → Prop} {Q : Exit → Act → World → Prop} (base : Nat) (t e : TypeId) (z : Value) (size bytes : Nat) (news : List Value) (c : Nat) (s x : Operand)
    (ho : o.op = .call { callee := .builtin .append, args := #[s, x], argTypes := #[t, t] })
    (ht : P.underlying t = some (.slice e)) (hinfo : (P.info? e).map (fun i => (i.zero, i.size, i.bytes)) = some (some z, size, bytes)) (hzs : z.cells.size = size) (hsz : 0 < size)
    (v : Value) (n : Nat) (xs : List Value) (hs : a.eval s = v) (g : Nat) (hg : w.heap.size = g) (hx : a.eval x = .slice (some ⟨g, 0, none⟩) 1 c) (hl : news.length = size) (h1 : ∀ u ∈ news, u.oneCell' = true)
    (hown : w.ownsRow base e size v n xs) (hbytes : (n + 1) * bytes ≤ 140737488355328) (h63 : n < 9000000000000000000) (hbase : base ≤ w.heap.size)
    (h : ∀ v' w', w'.ownsRow base e size v' (n + 1) (xs ++ news) → w.grownBy w' v.ownBlock → (v'.ownBlock = v.ownBlock ∨ ∃ g, v'.ownBlock = some g ∧ w.heap.size ≤ g) → K (a.put o.dst v') w') : Oper.wp P o a (w.alloc (.cells news.toArray e)) K Q := by
  subst hg
  obtain ⟨i, hi, hz0, hz1, hz2⟩ := info_parts hinfo
  have hadd : ∀ j, (⟨w.heap.size, 0, none⟩ : Addr).add j = ⟨w.heap.size, j, none⟩ := by intro j; unfold Addr.add; split <;> simp_all
  obtain ⟨v', w', hr, h2, h3, _, h5⟩ := run_append_own_at (P := P) (w.alloc (.cells news.toArray e)) base t o.type e i z size bytes ht hi hz0 hz1 hz2 hzs hsz v n xs (hown.alloc _) ⟨w.heap.size, 0, none⟩ 1 c news (by rw [hl]; omega)
    (by intro j u hu; rw [hadd, blk_cell (blk_new w _) j]; simpa using hu) h1 (by unfold maxLen; omega) hbytes (by simp; omega)
  unfold Oper.wp execOp
  simp only [ho, resolve, invoke, builtin, Sem.run_bind, Sem.run_pure, Result.andThen_ok, List.map_toArray, List.map_cons, List.map_nil, hs, hx, hr]
  refine h v' w' h2 ?_ ?_
  · have h0 := World.grownBy_alloc w (.cells news.toArray e) v.ownBlock
    exact ⟨h3.os.trans h0.os, h3.tape.trans h0.tape, h3.output.trans h0.output, Nat.le_trans h0.size h3.size, fun k hk hne => (h3.block k (by have := h0.size; omega) hne).trans (h0.block k hk hne)⟩
  · rcases h5 with h5 | h5
    · exact .inl h5
    · exact .inr ⟨_, h5, by simp⟩

/-- append of one element that lies in a block of its own, at the operation -/
theorem wp_app_at {P : Program} {w : World} {o : Oper} {a : Act} {K : Act → World → Prop} {Q : Exit → Act → World → Prop} (base : Nat) (t e : TypeId) (z : Value) (size bytes : Nat) (news : List Value) (c g : Nat) (s x : Operand)
    (ho : o.op = .call { callee := .builtin .append, args := #[s, x], argTypes := #[t, t] })
    (ht : P.underlying t = some (.slice e)) (hinfo : (P.info? e).map (fun i => (i.zero, i.size, i.bytes)) = some (some z, size, bytes)) (hzs : z.cells.size = size) (hsz : 0 < size)
    (v : Value) (n : Nat) (xs : List Value) (hs : a.eval s = v) (hx : a.eval x = .slice (some ⟨g, 0, none⟩) 1 c) (hl : news.length = size) (h1 : ∀ u ∈ news, u.oneCell' = true)
    (hblk : w.heap[g]? = some (.cells news.toArray e))
    (hown : w.ownsRow base e size v n xs) (hbytes : (n + 1) * bytes ≤ 140737488355328) (h63 : n < 9000000000000000000) (hbase : base ≤ w.heap.size)
    (h : ∀ v' w', w'.ownsRow base e size v' (n + 1) (xs ++ news) → w.grownBy w' v.ownBlock → (v'.ownBlock = v.ownBlock ∨ ∃ g, v'.ownBlock = some g ∧ w.heap.size ≤ g) → K (a.put o.dst v') w') : Oper.wp P o a w K Q := by
  obtain ⟨i, hi, hz0, hz1, hz2⟩ := info_parts hinfo
  have hadd : ∀ j, (⟨g, 0, none⟩ : Addr).add j = ⟨g, j, none⟩ := by intro j; unfold Addr.add; split <;> simp_all
  obtain ⟨v', w', hr, h2, h3, _, h5⟩ := run_append_own_at (P := P) w base t o.type e i z size bytes ht hi hz0 hz1 hz2 hzs hsz v n xs hown ⟨g, 0, none⟩ 1 c news (by rw [hl]; omega)
    (by intro j u hu; rw [hadd, blk_cell hblk j]; simpa using hu) h1 (by unfold maxLen; omega) hbytes hbase
  unfold Oper.wp execOp
  simp only [ho, resolve, invoke, builtin, Sem.run_bind, Sem.run_pure, Result.andThen_ok, List.map_toArray, List.map_cons, List.map_nil, hs, hx, hr]
  refine h v' w' h2 h3 ?_
  rcases h5 with h5 | h5
  · exact .inl h5
  · exact .inr ⟨_, h5, Nat.le_refl _⟩
/-- two rows whose elements have different types -/
theorem row_row_ne {w : World} {base base' e e' : TypeId} {size size' n n' : Nat} {v v' : Value} {xs xs' : List Value} (h : w.ownsRow base e size v n xs) (h' : w.ownsRow base' e' size' v' n' xs') (hne : e ≠ e') : ∀ g, v.ownBlock = some g → v'.ownBlock ≠ some g := by
  rcases h.2 with ⟨rfl, _⟩ | ⟨g, cap, cur, rfl, _, hg, _⟩
  · intro g hg; simp [Value.ownBlock] at hg
  · rcases h'.2 with ⟨rfl, _⟩ | ⟨g', cap', cur', rfl, _, hg', _⟩
    · intro g _; simp [Value.ownBlock]
    · intro k hk hk'
      simp only [Value.ownBlock, Option.some.injEq] at hk hk'
      subst hk hk'
      rw [hg] at hg'
      simp only [Option.some.injEq, Obj.cells.injEq] at hg'
      exact hne hg'.2.1

theorem wp_mapEntry {P : Program} {w w1 : World} {o : Oper} {a : Act} {K : Act → World → Prop} {Q : Exit → Act → World → Prop} {v : Value} (t : TypeId) (m x : Operand) (mv xv : Value)
    (ho : o.op = .mapEntry t m x) (hm : a.eval m = mv) (hx : a.eval x = xv) (hr : (Instr.mapEntry t mv xv).run P w = .ok v w1) (h : K (a.put o.dst v) w1) : Oper.wp P o a w K Q := by
  unfold Oper.wp execOp
  simp [ho, hm, hx, hr, Result.andThen]
  exact h
theorem wp_entryStore {P : Program} {w w1 : World} {o : Oper} {a : Act} {K : Act → World → Prop} {Q : Exit → Act → World → Prop} (t : TypeId) (m s x : Operand) (mv sv xv : Value)
    (ho : o.op = .entryStore t m s x) (hm : a.eval m = mv) (hs : a.eval s = sv) (hx : a.eval x = xv) (hr : (Instr.entryStore t mv sv xv).run P w = .ok () w1) (h : K (a.put o.dst undef) w1) : Oper.wp P o a w K Q := by
  unfold Oper.wp execOp
  simp [ho, hm, hs, hx, hr, Result.andThen]
  exact h

/-! 'm[k]' as it stands in an assignment of several, where the key is new -/
section
open Go.WideElems Go.ChangeShapes Go.ChangeMaps
theorem setBlock_twice {w : World} {b : Nat} {o o' : Obj} : setBlock (setBlock w b o) b o' = setBlock w b o' := by
  unfold setBlock
  simp
theorem setBlock_keep {w : World} {b : Nat} {o : Obj} : Keep (fun k => k = b) w (setBlock w b o) := by
  refine ⟨rfl, rfl, rfl, by simp [setBlock], fun k hk hne => ?_⟩
  have : b ≠ k := fun e => hne e.symm
  simp [setBlock, this]

theorem setBlock_at {w : World} {b : Nat} {o : Obj} (h : b < w.heap.size) : (setBlock w b o).heap[b]? = some o := by
  simp [setBlock, h]

theorem entry_new {α : Type} [DecidableEq α] {P : Program} {K E : TypeId} {kv : α → Value} {w : World} {b n : Nat} {f : α → Option Int} {t : TypeId}
    (law : Keyed P K) (ht : P.underlying t = some (.map K E)) (he : P.underlying E = some (.int .i64)) (hz : ∀ u : World, (zeroValue E).run P u = .ok (.int .i64 0) u) (hinj : ∀ x y, kv x = kv y → x = y)
    (h : MapOf P K E kv w b n f) (hn : n < maxLen) (y : α) (hkey : ∃ l, keyOf P K (kv y) = some l) (hf : f y = none) (c : Int) (hc : (Lit.int .i64 c).wf = true) :
    ∃ (st : Nat) (o1 o2 : Obj), (Instr.mapEntry t (.map (some b)) (kv y)).run P w = .ok (.tuple #[.int .i64 0, .int .i64 st]) (setBlock w b o1) ∧
      (∀ u : World, u.heap[b]? = some o1 → (Instr.entryStore t (.map (some b)) (.int .i64 st) (.int .i64 c)).run P u = .ok () (setBlock u b o2)) ∧
      MapOf P K E kv (setBlock w b o2) b (n + 1) (fun x => if x = y then some c else f x) := by
  obtain ⟨D, hown, hD, hfd⟩ := h
  obtain ⟨l, hl⟩ := hkey
  obtain ⟨v0, ps0, hlook, _⟩ := hown.look_ok law ht (hz w) (plainElem_int he (by decide)) hl
  obtain ⟨w', hrun, hown', _⟩ := hown.store law ht hn hl (plainElem_int he hc)
  obtain ⟨es, clock, hb, F, hs, hDe⟩ := hown
  obtain ⟨s1, s2, _⟩ := F.stamped
  have hno : (Instr.findKey K (kv y) es.toList).run P w = .ok none w := by
    rcases law.find w hl es.toList (fun e he => by obtain ⟨z, hz⟩ := F.reads e he; exact ⟨_, rd_key hz⟩) with ⟨h1, _⟩ | ⟨j, e0, h1, h2, h3⟩
    · exact h1
    · exfalso
      have hhas : Maps.has D l = false := by rw [(hfd y l hl).1, hf]; rfl
      rw [hhas] at hlook
      have hj : es[j]? = some e0 := by simpa using h2
      simp [Instr.lookup, run_underlying ht, MapKept.run_getObj_map hb, law.check w es.isEmpty hl, h1, Result.andThen] at hlook
  have hup : w' = setBlock w b (.map (es.push ⟨kv y, .int .i64 c, clock⟩) (clock + 1)) := by
    simp [Instr.mapUpdate, run_underlying ht, MapKept.run_getObj_map hb, law.check w false hl, hno, MapKept.run_setObj_map _ hb, Result.andThen] at hrun
    exact hrun.symm
  refine ⟨clock, .map (es.push ⟨kv y, .int .i64 0, clock⟩) (clock + 1), .map (es.push ⟨kv y, .int .i64 c, clock⟩) (clock + 1), ?_, ?_, ?_⟩
  · simp [Instr.mapEntry, run_underlying ht, MapKept.run_getObj_map hb, law.check w false hl, hno, hz, MapKept.run_setObj_map _ hb, Result.andThen, setBlock, goInt]
  · intro u hu
    have hidx : (es.push ⟨kv y, .int .i64 0, clock⟩).findIdx? (fun e => ((e.born : Nat) : Int) == ((clock : Nat) : Int)) = some es.size := by
      rw [findIdx_arr]
      refine findIdx_born (j := es.size) (e0 := ⟨kv y, .int .i64 0, clock⟩) ?_ (by simp)
      rw [Array.toList_push, List.map_append]
      refine List.nodup_append.2 ⟨s2, by simp, fun a ha c hc e => ?_⟩
      obtain ⟨x, hx, rfl⟩ := List.mem_map.1 ha
      have h3 := s1 x hx
      simp only [List.map_cons, List.map_nil, List.mem_singleton] at hc
      omega
    have hmod : (es.push ⟨kv y, .int .i64 0, clock⟩).modify es.size (fun e => { e with val := .int .i64 c }) = es.push ⟨kv y, .int .i64 c, clock⟩ := by
      apply Array.ext'
      rw [Array.toList_modify, Array.toList_push, Array.toList_push, ← Array.length_toList, modify_last]
    simp [Instr.entryStore, MapKept.run_getObj_map hu, asInt, asIntOf, hidx, hmod, MapKept.run_setObj_map _ hu, Result.andThen, setBlock]
  · rw [← hup]
    refine ⟨_, hown', hD.put _ _, ?_⟩
    intro a' l' hl'
    by_cases e : a' = y
    · subst e
      have : l' = l := by rw [hl] at hl'; exact (Option.some.inj hl').symm
      subst this
      rw [has_put_same hD (law.key hl')]
      dsimp only
      rw [if_pos rfl]
      refine ⟨rfl, fun v hv => ?_⟩
      cases hv
      exact atKey_put_same hD (law.key hl') _ _
    · have hne : l' ≠ l := by
        intro h
        subst h
        exact e (hinj _ _ (law.inj hl' hl))
      rw [has_put_other hne]
      dsimp only
      rw [if_neg e]
      obtain ⟨h1, h2⟩ := hfd a' l' hl'
      refine ⟨h1, fun v hv => ?_⟩
      rw [atKey_put_other hne]
      exact h2 v hv
end
end Go.Proofs.Ytpkmcokkapfnmaa
