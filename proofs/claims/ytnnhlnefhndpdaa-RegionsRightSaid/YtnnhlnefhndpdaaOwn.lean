/- A list of numbers that a call owns, and append onto it: of one number, or of a row of numbers that is nil, empty or neither. -/
import Derived.Test.YtnnhlnefhndpdaaBox
import Derived.Maps.AppendAt
import Derived.Deep.AppendLies
namespace Go.Proofs.Ytnnhlnefhndpdaa
open Go.RowKit

/-- The slice at A with capacity c is a row of the call's own, in a block from base on, and holds the numbers l. -/
def Own (w : World) (base : Nat) (A : Option Addr) (c : Nat) (l : List Int) : Prop := w.ownsRow base 3 1 (.slice A l.length c) l.length (intsV l)

theorem info3 : (Try.prog.info? 3).map (fun i => (i.zero, i.size, i.bytes)) = some (some (.int .i64 0), 1, 8) := by kernel_rfl

section
variable {w w' : World} {base : Nat} {A : Option Addr} {c : Nat} {l m : List Int}

theorem Own.nil (w : World) (base : Nat) : Own w base none 0 [] := World.ownsRow_nil w base 3 1

theorem Own.row (h : Own w base A c l) : Row w base A (intsV l) := by
  cases l with
  | nil => exact .inl rfl
  | cons v r =>
    obtain ⟨g, cap, hv, hb, hlt⟩ := World.ownsRow.form h (by simp)
    injection hv with hA hn hc
    subst hA
    refine .inr ⟨g, 0, rfl, hb, hlt, fun i u hu => ?_⟩
    have := World.ownsRow.cells h (g := g) rfl i u hu
    rw [Addr.add_lit] at this
    simpa using this

theorem Own.cap (h : Own w base A c l) : l.length ≤ c := by
  rcases h.2 with ⟨hv, hn⟩ | ⟨g, cap, cur, hv, _, _, hc, _⟩
  · omega
  · injection hv with _ _ hcc
    omega

theorem Own.below {B : Nat} (h : Own w base A c l) (hb : Below B w w') (hB : w.heap.size ≤ B) : Own w' base A c l := by
  refine ⟨h.1, ?_⟩
  rcases h.2 with hn | ⟨g, cap, cur, hv, hg, hh, r⟩
  · exact .inl hn
  · refine .inr ⟨g, cap, cur, hv, hg, ?_, r⟩
    rw [hb.block g (by have := (Array.getElem?_eq_some_iff.1 hh).1; omega)]
    exact hh

theorem Own.stay (h : Own w base A c l) (hb : Below w.heap.size w w') : Own w' base A c l := h.below hb (Nat.le_refl _)

theorem Own.lower {b : Nat} (h : Own w base A c l) (hb : b ≤ base) : Own w b A c l := by
  refine ⟨h.1, ?_⟩
  rcases h.2 with hn | ⟨g, cap, cur, hv, hg, r⟩
  · exact .inl hn
  · exact .inr ⟨g, cap, cur, hv, by omega, r⟩
theorem Own.set_low (h : Own w base A c l) {p : Addr} (hp : p.block < base) (u : Value) : Own (w.setCell p u) base A c l := ownsRow_setCell_below h hp u

theorem ints_one : ∀ u ∈ intsV l, u.oneCell' = true := ints_oneCell .i64 l

theorem row_len (l : List Int) : (intsV l).length = l.length := by simp [intsV]
theorem intsV_append (l m : List Int) : intsV l ++ intsV m = intsV (l ++ m) := by simp [intsV]

theorem small_max {n : Nat} (h : n ≤ 1000000) : n ≤ Go.maxLen := by
  unfold Go.maxLen
  omega
theorem small_bytes {n : Nat} (h : n ≤ 1000000) : n * 8 ≤ 140737488355328 := by omega

/-- append of a row, wherever it lies. -/
theorem run_app (ty : TypeId) (hown : Own w base A c l) {lo : Nat} {A2 : Option Addr} {c2 : Nat} (hr : Row w lo A2 (intsV m)) (hsz : l.length + m.length ≤ 1000000) (hbase : base ≤ w.heap.size) :
    ∃ A' c' w', (Builtin.append_ #[32, 32] ty #[.slice A l.length c, .slice A2 m.length c2]).run Try.prog w = .ok (.slice A' (l ++ m).length c') w' ∧ Own w' base A' c' (l ++ m) ∧ Below base w w' := by
  obtain ⟨i, hi, hz, hs, hby⟩ := info_parts info3
  cases A2 with
  | none =>
    have hm : m = [] := by
      rcases hr with hr | ⟨B, off, hA, _⟩
      · simpa [intsV] using hr
      · cases hA
    subst hm
    refine ⟨A, c, w, ?_, by simpa using hown, Below.refl _ _⟩
    rw [List.append_nil]
    rcases hown.2 with ⟨hv, hn⟩ | ⟨g, cap, cur, hv, _, _, hnc, _⟩
    · rw [hv]
      simp [Builtin.append_, run_underlying Try.underlying32, sizeOf, typeInfo, hi, Builtin.lenOf, Builtin.firstCells]
    · rw [hv]
      simp [Builtin.append_, run_underlying Try.underlying32, sizeOf, typeInfo, hi, Builtin.lenOf, Builtin.firstCells, hnc, storeCells]
  | some ad =>
    have hcells : ∀ j u, (intsV m)[j]? = some u → w.cell? (ad.add j) = some u := by
      intro j u hu
      rcases hr with hr | ⟨B, off, hA, _, _, hc⟩
      · rw [hr] at hu; simp at hu
      · injection hA with hA
        subst hA
        rw [Addr.add_lit]
        exact hc j u hu
    obtain ⟨v', w', hrun, h2, h3, h4, h5⟩ := run_append_own_at (P := Try.prog) w base 32 ty 3 i (.int .i64 0) 1 8 Try.underlying32 hi hz hs hby rfl (by decide) _ l.length (intsV l) hown ad m.length c2 (intsV m)
      (by simp [row_len]) hcells ints_one (small_max hsz) (small_bytes hsz) hbase
    have hb : Below base w w' := (Below.refl base w).grown h3 hbase (fun k hk => (World.ownsRow.lt hown k hk).1)
    have hform : ∃ A' c', v' = .slice A' (l ++ m).length c' := by
      rcases h2.2 with ⟨hv, hn⟩ | ⟨g, cap, cur, hv, _⟩
      · exact ⟨none, 0, by rw [hv, List.length_append]; congr 1; omega⟩
      · exact ⟨some ⟨g, 0, none⟩, cap, by rw [hv, List.length_append]⟩
    obtain ⟨A', c', rfl⟩ := hform
    refine ⟨A', c', w', hrun, ?_, hb⟩
    unfold Own
    rw [← intsV_append]
    have e : (l ++ m).length = l.length + m.length := by simp
    rw [e] at h2 ⊢
    exact h2
end

section
variable {ops : Array Oper} {Q : Exit → Act → World → Prop} {a : Act} {w : World} {rest : List Oper} {o : Oper}

/-- append of a row onto a list of the call's own. -/
theorem wp_app (s x : Operand) (ho : o.op = .call { callee := .builtin .append, args := #[s, x], argTypes := #[32, 32] }) (hw : Region.wanted o (yielded ops a.tmps) = true) {base : Nat} {A A2 : Option Addr} {c c2 lo : Nat} {l m : List Int}
    (hs : a.eval s = .slice A l.length c) (hx : a.eval x = .slice A2 m.length c2) (hown : Own w base A c l) (hr : Row w lo A2 (intsV m)) (hsz : l.length + m.length ≤ 1000000) (hbase : base ≤ w.heap.size)
    (h : ∀ A' c' l' w', Hid (l' = l ++ m) → Own w' base A' c' l' → Below base w w' → wpList Try.prog ops Q rest (a.put o.dst (.slice A' l'.length c')) w') : wpList Try.prog ops Q (o :: rest) a w := by
  obtain ⟨A', c', w', hrun, h2, h3⟩ := run_app (c2 := c2) o.type hown hr hsz hbase
  refine wp_run hw ?_ (h A' c' (l ++ m) w' rfl h2 h3)
  unfold execOp
  simp only [ho, resolve, invoke, builtin, Sem.run_bind, Sem.run_pure, Result.andThen_ok, List.map_toArray, List.map_cons, List.map_nil, hs, hx, hrun]

/-- append of one number, which the walk has just laid into a block of its own. -/
theorem wp_app1 (s x : Operand) (ho : o.op = .call { callee := .builtin .append, args := #[s, x], argTypes := #[32, 32] }) {W : World} {v : Int} (hw : Region.wanted o (yielded ops a.tmps) = true) {base : Nat} {A : Option Addr} {c c2 : Nat} {l : List Int}
    (hs : a.eval s = .slice A l.length c) (hx : a.eval x = .slice (some ⟨W.heap.size, 0, none⟩) 1 c2) (hown : Own W base A c l) (hsz : l.length + 1 ≤ 1000000) (hbase : base ≤ W.heap.size)
    (h : ∀ A' c' l' w', Hid (l' = l ++ [v]) → Own w' base A' c' l' → Below base W w' → wpList Try.prog ops Q rest (a.put o.dst (.slice A' l'.length c')) w') : wpList Try.prog ops Q (o :: rest) a (W.alloc (.cells #[.int .i64 v] 3)) := by
  refine wp_app (m := [v]) (lo := 0) s x ho hw hs hx (hown.stay ((Below.refl _ _).alloc (Nat.le_refl _) _)) ?_ hsz (by simp; omega) ?_
  · refine .inr ⟨W.heap.size, 0, rfl, Nat.zero_le _, by simp, fun i u hu => ?_⟩
    rw [World.cell?_alloc_new]
    cases i with
    | zero => simpa [intsV] using hu
    | succ i => simp [intsV] at hu
  · intro A' c' l' w' hl hw' hb
    exact h A' c' l' w' hl hw' (((Below.refl base W).alloc hbase _).trans hb)
end

theorem info4 : (Try.prog.info? 4).map (fun i => (i.zero, i.size, i.bytes)) = some (some (.bool false), 1, 1) := by kernel_rfl

/-- A block that is just a list of truths, of numbers. -/
abbrev BoolsBk (w : World) (B : Nat) (l : List Bool) : Prop := Bk w B 4 (boolsV l).toArray
abbrev IntsBk (w : World) (B : Nat) (l : List Int) : Prop := Bk w B 3 (intsV l).toArray

section
variable {w : World} {B k : Nat}
theorem bools_at {l : List Bool} (h : BoolsBk w B l) (hk : k < l.length) : w.cell? ⟨B, k, none⟩ = some (.bool (l.getD k false)) := by
  rw [Bk.cell h k]
  simp [boolsV, hk]
theorem ints_at {l : List Int} (h : IntsBk w B l) (hk : k < l.length) : w.cell? ⟨B, k, none⟩ = some (.int .i64 (l.getD k 0)) := by
  rw [Bk.cell h k]
  simp [intsV, hk]
theorem bools_set {l : List Bool} (h : BoolsBk w B l) (v : Bool) : BoolsBk (w.setCell ⟨B, k, none⟩ (.bool v)) B (l.set k v) := by
  have := Bk.set_ h k (.bool v)
  unfold BoolsBk
  rwa [show (boolsV (l.set k v)).toArray = (boolsV l).toArray.setIfInBounds k (.bool v) by simp [boolsV, List.map_set]]
theorem ints_set {l : List Int} (h : IntsBk w B l) (v : Int) : IntsBk (w.setCell ⟨B, k, none⟩ (.int .i64 v)) B (l.set k v) := by
  have := Bk.set_ h k (.int .i64 v)
  unfold IntsBk
  rwa [show (intsV (l.set k v)).toArray = (intsV l).toArray.setIfInBounds k (.int .i64 v) by simp [intsV, List.map_set]]

theorem run_mk31 (n : Nat) (hn : n ≤ 100000) (w : World) : (Instr.makeSlice 31 (.int .i64 (n : Int)) (.int .i64 (n : Int))).run Try.prog w = .ok (.slice (some ⟨w.heap.size, 0, none⟩) n n) (w.alloc (.cells (boolsV (List.replicate n false)).toArray 4)) := by
  obtain ⟨i, hi, hz, hs, hby⟩ := info_parts info4
  have hr := run_make (P := Try.prog) w 31 4 i (.bool false) Try.underlying31 hi hz .i64 .i64 n n (by omega) (by omega) (by rw [hby]; omega) (by omega)
  simp only [Int.toNat_natCast, hs, Nat.mul_one] at hr
  have e : madeCells (Value.bool false).cells n = (boolsV (List.replicate n false)).toArray := by
    apply Array.ext'
    rw [show (Value.bool false).cells = #[Value.bool false] from rfl, toList_madeCells_one]
    simp [boolsV]
  rw [e] at hr
  exact hr
theorem run_mk32 (n : Nat) (hn : n ≤ 100000) (w : World) : (Instr.makeSlice 32 (.int .i64 (n : Int)) (.int .i64 (n : Int))).run Try.prog w = .ok (.slice (some ⟨w.heap.size, 0, none⟩) n n) (w.alloc (.cells (intsV (List.replicate n 0)).toArray 3)) := by
  obtain ⟨i, hi, hz, hs, hby⟩ := info_parts info3
  have hr := run_make (P := Try.prog) w 32 3 i (.int .i64 0) Try.underlying32 hi hz .i64 .i64 n n (by omega) (by omega) (by rw [hby]; omega) (by omega)
  simp only [Int.toNat_natCast, hs, Nat.mul_one] at hr
  have e : madeCells (Value.int .i64 0).cells n = (intsV (List.replicate n 0)).toArray := by
    apply Array.ext'
    rw [show (Value.int .i64 0).cells = #[Value.int .i64 0] from rfl, toList_madeCells_one]
    simp [intsV]
  rw [e] at hr
  exact hr
end

section
variable {ops : Array Oper} {Q : Exit → Act → World → Prop} {a : Act} {w : World} {rest : List Oper} {o : Oper}
theorem mk31 (l c : Operand) (ho : o.op = .makeSlice 31 l c) (hw : Region.wanted o (yielded ops a.tmps) = true) (n : Nat) (hl : a.eval l = .int .i64 (n : Int)) (hc : a.eval c = .int .i64 (n : Int)) (hn : n ≤ 100000)
    (h : ∀ w1, BoolsBk w1 w.heap.size (List.replicate n false) → Below w.heap.size w w1 → w.heap.size < w1.heap.size → wpList Try.prog ops Q rest (a.put o.dst (.slice (some ⟨w.heap.size, 0, none⟩) n n)) w1) : wpList Try.prog ops Q (o :: rest) a w := by
  refine wp_run (w1 := w.alloc (.cells (boolsV (List.replicate n false)).toArray 4)) hw ?_ (h _ (Bk.new w _ _) ((Below.refl _ _).alloc (Nat.le_refl _) _) (by simp))
  unfold execOp
  simp only [ho, hl, hc, Sem.run_bind, run_mk31 n hn, Result.andThen_ok, Sem.run_pure]
theorem mk32 (l c : Operand) (ho : o.op = .makeSlice 32 l c) (hw : Region.wanted o (yielded ops a.tmps) = true) (n : Nat) (hl : a.eval l = .int .i64 (n : Int)) (hc : a.eval c = .int .i64 (n : Int)) (hn : n ≤ 100000)
    (h : ∀ w1, IntsBk w1 w.heap.size (List.replicate n 0) → Below w.heap.size w w1 → w.heap.size < w1.heap.size → wpList Try.prog ops Q rest (a.put o.dst (.slice (some ⟨w.heap.size, 0, none⟩) n n)) w1) : wpList Try.prog ops Q (o :: rest) a w := by
  refine wp_run (w1 := w.alloc (.cells (intsV (List.replicate n 0)).toArray 3)) hw ?_ (h _ (Bk.new w _ _) ((Below.refl _ _).alloc (Nat.le_refl _) _) (by simp))
  unfold execOp
  simp only [ho, hl, hc, Sem.run_bind, run_mk32 n hn, Result.andThen_ok, Sem.run_pure]
end

/-- The first numbers of a list that is owned. -/
theorem Own.cut {w : World} {base g c : Nat} {l m : List Int} (h : Own w base (some ⟨g, 0, none⟩) c (l ++ m)) : Own w base (some ⟨g, 0, none⟩) c l := by
  rcases h.2 with ⟨hv, _⟩ | ⟨g', cap, cur, hv, hg, hh, h1, h2, h3, h4⟩
  · cases hv
  · injection hv with hA _ hc
    have hg' : g' = g := by injection hA with hA; injection hA with hA; exact hA.symm
    subst hg'; subst hc
    have e : (l ++ m).length = l.length + m.length := by simp
    refine ⟨by simp [intsV], .inr ⟨g', c, cur, rfl, hg, hh, by omega, h2, h3, ?_⟩⟩
    have h5 : (cur.toList.take ((l ++ m).length * 1)).take (l.length * 1) = (intsV (l ++ m)).take (l.length * 1) := by rw [h4]
    rw [List.take_take, Nat.min_eq_left (by omega), ← intsV_append, Nat.mul_one] at h5
    rw [Nat.mul_one, h5]
    exact List.take_left' (row_len l)

end Go.Proofs.Ytnnhlnefhndpdaa
