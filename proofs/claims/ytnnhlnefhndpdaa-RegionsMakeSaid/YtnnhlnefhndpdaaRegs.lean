/- A list of regions that a call owns, and append of one region onto it. -/
import Derived.Test.YtnnhlnefhndpdaaPlain8
import Derived.Test.YtnnhlnefhndpdaaOwn
namespace Go.Proofs.Ytnnhlnefhndpdaa
open Go.RowKit

/-- A region, and where its places lie. -/
structure RE where
  r : Rg
  A : Option Addr
  c : Nat

abbrev RE.row (e : RE) : Array Value := #[.int .i64 e.r.at_, .int .i64 e.r.join, .slice e.A e.r.pl.length e.c]
def RE.vals (e : RE) : List Value := [.int .i64 e.r.at_, .int .i64 e.r.join, .slice e.A e.r.pl.length e.c]
def flatV (es : List RE) : List Value := es.flatMap RE.vals

theorem flatV_length : ∀ es : List RE, (flatV es).length = es.length * 3
  | [] => rfl
  | e :: es => by
    have := flatV_length es
    unfold flatV at *
    simp only [List.flatMap_cons, List.length_append, List.length_cons, this, RE.vals, List.length_nil]
    omega
theorem flatV_snoc (es : List RE) (e : RE) : flatV es ++ e.vals = flatV (es ++ [e]) := by simp [flatV]
theorem flatV_at : ∀ {es : List RE} {i : Nat} {e : RE} (j : Nat), es[i]? = some e → j < 3 → (flatV es)[i * 3 + j]? = e.vals[j]?
  | [], i, e, j, h, _ => by simp at h
  | e0 :: es, 0, e, j, h, hj => by
    injection h with h
    subst h
    show (e0.vals ++ flatV es)[0 * 3 + j]? = _
    rw [List.getElem?_append_left (by show 0 * 3 + j < 3; omega)]
    simp
  | e0 :: es, i + 1, e, j, h, hj => by
    have ih := flatV_at (es := es) (i := i) (e := e) j (by simpa using h) hj
    show (e0.vals ++ flatV es)[(i + 1) * 3 + j]? = _
    rw [List.getElem?_append_right (by show 3 ≤ (i + 1) * 3 + j; omega), ← ih]
    congr 1
    show (i + 1) * 3 + j - 3 = _
    omega

/-- A region's places lie in a block from base on that is not the list's own. -/
def PlOk (w : World) (base : Nat) (row : Option Nat) (e : RE) : Prop :=
  e.r.pl = [] ∨ ∃ B off, e.A = some ⟨B, off, none⟩ ∧ base ≤ B ∧ B < w.heap.size ∧ some B ≠ row ∧ ∀ i v, (intsV e.r.pl)[i]? = some v → w.cell? ⟨B, off + i, none⟩ = some v

/-- The slice at A with capacity c is a row of the call's own, in a block from base on, and holds the regions es. -/
structure OwnR (w : World) (base : Nat) (A : Option Addr) (c : Nat) (es : List RE) : Prop where
  own : w.ownsRow base 44 3 (.slice A es.length c) es.length (flatV es)
  pl : ∀ e ∈ es, PlOk w base (A.map (·.block)) e

section
variable {w w' : World} {base : Nat} {A : Option Addr} {c : Nat} {es : List RE}

theorem PlOk.row_any {row : Option Nat} {e : RE} (h : PlOk w base row e) : Row w 0 e.A (intsV e.r.pl) := by
  rcases h with h | ⟨B, off, hA, _, hB, _, hc⟩
  · exact .inl (by rw [h]; rfl)
  · exact .inr ⟨B, off, hA, Nat.zero_le _, hB, hc⟩

theorem PlOk.keep {row row' : Option Nat} {e : RE} (h : PlOk w base row e) (hs : w.heap.size ≤ w'.heap.size) (hk : ∀ k, k < w.heap.size → some k ≠ row → w'.heap[k]? = w.heap[k]?) (hr : ∀ k, k < w.heap.size → some k ≠ row → some k ≠ row') : PlOk w' base row' e := by
  rcases h with h | ⟨B, off, hA, hb, hB, hne, hc⟩
  · exact .inl h
  · refine .inr ⟨B, off, hA, hb, by omega, hr B hB hne, fun i v hv => ?_⟩
    rw [World.cell?_of_block (w := w) (w' := w') (a := ⟨B, off + i, none⟩) (hk B hB hne)]
    exact hc i v hv

theorem OwnR.nil (w : World) (base : Nat) : OwnR w base none 0 [] := ⟨World.ownsRow_nil w base 44 3, fun e he => by simp at he⟩

theorem OwnR.below {L : Nat} (h : OwnR w base A c es) (hb : Below L w w') (hB : w.heap.size ≤ L) : OwnR w' base A c es := by
  refine ⟨⟨h.own.1, ?_⟩, fun e he => (h.pl e he).keep hb.size (fun k hk _ => hb.block k (by omega)) (fun k _ hk => hk)⟩
  rcases h.own.2 with hn | ⟨g, cap, cur, hv, hg, hh, r⟩
  · exact .inl hn
  · refine .inr ⟨g, cap, cur, hv, hg, ?_, r⟩
    rw [hb.block g (by have := (Array.getElem?_eq_some_iff.1 hh).1; omega)]
    exact hh
theorem OwnR.stay (h : OwnR w base A c es) (hb : Below w.heap.size w w') : OwnR w' base A c es := h.below hb (Nat.le_refl _)

theorem OwnR.at_ (h : OwnR w base A c es) {k : Nat} (hk : k < es.length) : ∃ g e, A = some ⟨g, 0, none⟩ ∧ es[k]? = some e ∧ g < w.heap.size ∧ Row w 0 e.A (intsV e.r.pl) ∧
    w.cell? ⟨g, 0 + k * 3, none⟩ = some (.int .i64 e.r.at_) ∧ w.cell? ⟨g, 0 + k * 3 + 1, none⟩ = some (.int .i64 e.r.join) ∧ w.cell? ⟨g, 0 + k * 3 + 2, none⟩ = some (.slice e.A e.r.pl.length e.c) := by
  obtain ⟨g, cap, hv, hb, hlt⟩ := World.ownsRow.form h.own (by omega)
  injection hv with hA hn hc
  subst hA
  have he : es[k]? = some es[k] := List.getElem?_eq_getElem hk
  have hcell : ∀ j u, (flatV es)[j]? = some u → w.cell? ⟨g, 0 + j, none⟩ = some u := fun j u hu => by
    have := World.ownsRow.cells h.own (g := g) rfl j u hu
    rwa [Addr.add_lit] at this
  refine ⟨g, es[k], rfl, he, hlt, (h.pl _ (List.getElem_mem hk)).row_any, hcell _ _ ((flatV_at 0 he (by omega)).trans rfl), ?_, ?_⟩
  · have := hcell _ _ ((flatV_at 1 he (by omega)).trans rfl)
    rwa [← Nat.add_assoc] at this
  · have := hcell _ _ ((flatV_at 2 he (by omega)).trans rfl)
    rwa [← Nat.add_assoc] at this

theorem info44 : (Try.prog.info? 44).map (fun i => (i.zero, i.size, i.bytes)) = some (some (.agg #[.int .i64 0, .int .i64 0, .slice none 0 0]), 3, 40) := by kernel_rfl

theorem vals_one (e : RE) : ∀ u ∈ e.vals, u.oneCell' = true := by
  intro u hu
  simp only [RE.vals, List.mem_cons, List.not_mem_nil, or_false] at hu
  rcases hu with rfl | rfl | rfl <;> rfl

/-- append of one region, which has just been laid into a block of its own. -/
theorem run_appR (ty : TypeId) (h : OwnR w base A c es) (e : RE) (he : PlOk w base (A.map (·.block)) e) (c2 : Nat) (hsz : es.length + 1 ≤ 10000) (hbase : base ≤ w.heap.size) :
    ∃ A' c' w', (Builtin.append_ #[28, 28] ty #[.slice A es.length c, .slice (some ⟨w.heap.size, 0, none⟩) 1 c2]).run Try.prog (w.alloc (.cells e.row 44)) = .ok (.slice A' (es ++ [e]).length c') w' ∧ OwnR w' base A' c' (es ++ [e]) ∧ Below base w w' := by
  obtain ⟨i, hi, hz, hs, hby⟩ := info_parts info44
  have hb0 : Below w.heap.size w (w.alloc (.cells e.row 44)) := (Below.refl _ _).alloc (Nat.le_refl _) _
  have h' := h.stay hb0
  have he' : PlOk (w.alloc (.cells e.row 44)) base (A.map (·.block)) e := he.keep hb0.size (fun k hk _ => hb0.block k hk) (fun k _ hk => hk)
  have hsz' : w.heap.size < (w.alloc (.cells e.row 44)).heap.size := by simp
  have hnew : ∀ j u, e.vals[j]? = some u → (w.alloc (.cells e.row 44)).cell? ((⟨w.heap.size, 0, none⟩ : Addr).add j) = some u := fun j u hu => by
    rw [Addr.add_lit, Nat.zero_add, World.cell?_alloc_new]
    have : e.row = e.vals.toArray := rfl
    rw [this]
    simpa using hu
  obtain ⟨v', w', hrun, h2, h3, h4, h5⟩ := run_append_own_at (P := Try.prog) (w.alloc (.cells e.row 44)) base 28 ty 44 i (.agg #[.int .i64 0, .int .i64 0, .slice none 0 0]) 3 40 Try.underlying28 hi hz hs hby rfl (by decide) _ es.length (flatV es) h'.own
    ⟨w.heap.size, 0, none⟩ 1 c2 e.vals rfl hnew (vals_one e) (by unfold maxLen; omega) (by omega) (by omega)
  have hown : ∀ k, (Value.slice A es.length c).ownBlock = some k → base ≤ k := fun k hk => (World.ownsRow.lt h'.own k hk).1
  have hob : (Value.slice A es.length c).ownBlock = A.map (·.block) := by cases A <;> rfl
  have hb : Below base (w.alloc (.cells e.row 44)) w' := (Below.refl base _).grown h3 (by omega) hown
  have hform : ∃ A' c', v' = .slice A' (es ++ [e]).length c' := by
    rcases h2.2 with ⟨hv, hn⟩ | ⟨g, cap, cur, hv, _⟩
    · omega
    · exact ⟨some ⟨g, 0, none⟩, cap, by rw [hv, List.length_append]; rfl⟩
  obtain ⟨A', c', rfl⟩ := hform
  have hob' : (Value.slice A' (es ++ [e]).length c').ownBlock = A'.map (·.block) := by cases A' <;> rfl
  refine ⟨A', c', w', hrun, ⟨?_, fun e1 he1 => ?_⟩, (hb0.mono hbase).trans hb⟩
  · rw [← flatV_snoc]
    have e2 : (es ++ [e]).length = es.length + 1 := by simp
    rw [e2] at h2 ⊢
    exact h2
  · have hk : PlOk (w.alloc (.cells e.row 44)) base (A.map (·.block)) e1 ∧ (e1.r.pl = [] ∨ ∃ B off, e1.A = some ⟨B, off, none⟩ ∧ B < (w.alloc (.cells e.row 44)).heap.size) := by
      have hp : PlOk (w.alloc (.cells e.row 44)) base (A.map (·.block)) e1 := by
        rcases List.mem_append.1 he1 with hm | hm
        · exact h'.pl e1 hm
        · rw [List.mem_singleton] at hm
          subst hm
          exact he'
      refine ⟨hp, ?_⟩
      rcases hp with hp | ⟨B, off, hA, _, hB, _⟩
      · exact .inl hp
      · exact .inr ⟨B, off, hA, hB⟩
    refine hk.1.keep h3.size (fun k hk1 hk2 => h3.block k hk1 (by rw [hob]; exact hk2)) (fun k hk1 hk2 => ?_)
    rw [← hob']
    rcases h5 with h5 | h5
    · rw [h5, hob]; exact hk2
    · rw [h5]
      intro hc
      injection hc with hc
      omega
end

theorem ix28 {A : Option Addr} {B off n k : Nat} (hA : A = some ⟨B, off, none⟩) (hk : k < n) (c : Nat) (W : World) : (Instr.indexAt 28 (.slice A n c) (.int .i64 (k : Int))).run Try.prog W = .ok (.pointer (some ⟨B, off + k * 3, none⟩)) W :=
  run_ix (by kernel_rfl) (fun _ => by kernel_rfl) hA hk W

section
variable {ops : Array Oper} {Q : Exit → Act → World → Prop} {a : Act} {w : World} {rest : List Oper} {o : Oper}
/-- append of one region that the walk has just laid. -/
theorem wp_appR (s x : Operand) (ho : o.op = .call { callee := .builtin .append, args := #[s, x], argTypes := #[28, 28] }) {W : World} (e : RE) (hw : Region.wanted o (yielded ops a.tmps) = true) {base : Nat} {A : Option Addr} {c c2 : Nat} {es : List RE}
    (hs : a.eval s = .slice A es.length c) (hx : a.eval x = .slice (some ⟨W.heap.size, 0, none⟩) 1 c2) (hown : OwnR W base A c es) (he : PlOk W base (A.map (·.block)) e) (hsz : es.length + 1 ≤ 10000) (hbase : base ≤ W.heap.size)
    (h : ∀ A' c' es' w', Hid (es' = es ++ [e]) → OwnR w' base A' c' es' → Below base W w' → wpList Try.prog ops Q rest (a.put o.dst (.slice A' es'.length c')) w') : wpList Try.prog ops Q (o :: rest) a (W.alloc (.cells e.row 44)) := by
  obtain ⟨A', c', w', hrun, h2, h3⟩ := run_appR o.type hown e he c2 hsz hbase
  refine wp_run hw ?_ (h A' c' (es ++ [e]) w' rfl h2 h3)
  unfold execOp
  simp only [ho, resolve, invoke, builtin, Sem.run_bind, Sem.run_pure, Result.andThen_ok, List.map_toArray, List.map_cons, List.map_nil, hs, hx, hrun]
end
end Go.Proofs.Ytnnhlnefhndpdaa
