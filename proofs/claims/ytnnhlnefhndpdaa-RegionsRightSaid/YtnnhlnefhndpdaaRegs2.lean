/- What Make gives, in plain words; and append of a region as an operation. -/
import Derived.Test.YtnnhlnefhndpdaaRegs
import Derived.Test.YtnnhlnefhndpdaaPlain9
namespace Go.Proofs.Ytnnhlnefhndpdaa
open Go.RowKit

/-- The regions of all places below k that branch. -/
noncomputable def mkTo (F : Fn) (rs : List Bool) (k : Nat) : List Rg := ((List.range k).filter fun i : Nat => F.branches rs (i : Int)).map fun i : Nat => made F rs (i : Int)
noncomputable def makeF (F : Fn) (rs : List Bool) : List Rg := if F.ahead = true then mkTo F rs F.code.length else []

theorem mkTo_yes {F : Fn} {rs : List Bool} {k : Nat} (h : F.branches rs k = true) : mkTo F rs (k + 1) = mkTo F rs k ++ [made F rs k] := by
  simp [mkTo, List.range_succ, List.filter_append, h]
theorem mkTo_no {F : Fn} {rs : List Bool} {k : Nat} (h : F.branches rs k = false) : mkTo F rs (k + 1) = mkTo F rs k := by
  simp [mkTo, List.range_succ, List.filter_append, h]
theorem mkTo_length (F : Fn) (rs : List Bool) (k : Nat) : (mkTo F rs k).length ≤ k := by
  have := List.length_filter_le (fun i : Nat => F.branches rs (i : Int)) (List.range k)
  simpa [mkTo] using this
theorem mkTo_prefix {F : Fn} {rs : List Bool} {k m : Nat} (h : k ≤ m) : ∃ t, mkTo F rs m = mkTo F rs k ++ t := by
  induction m with
  | zero =>
    have : k = 0 := by omega
    subst this
    exact ⟨[], by simp⟩
  | succ m ih =>
    by_cases hk : k = m + 1
    · subst hk; exact ⟨[], by simp⟩
    · obtain ⟨t, ht⟩ := ih (by omega)
      cases hb : F.branches rs m
      · exact ⟨t, by rw [mkTo_no hb, ht]⟩
      · exact ⟨t ++ [made F rs m], by rw [mkTo_yes hb, ht, List.append_assoc]⟩
/-- Where the region of a place that branches stands. -/
theorem mkTo_at {F : Fn} {rs : List Bool} {k n : Nat} (hk : k < n) (h : F.branches rs k = true) : (mkTo F rs n)[(mkTo F rs k).length]? = some (made F rs k) := by
  obtain ⟨t, ht⟩ := mkTo_prefix (F := F) (rs := rs) (show k + 1 ≤ n by omega)
  rw [ht, mkTo_yes h, List.append_assoc, List.getElem?_append_right (Nat.le_refl _)]
  simp

theorem makeF_yes {F : Fn} {rs : List Bool} (h : F.ahead = true) : makeF F rs = mkTo F rs F.code.length := if_pos h
theorem makeF_no {F : Fn} {rs : List Bool} (h : F.ahead = false) : makeF F rs = [] := if_neg (by simp [h])

/-- A list that a callee has made since lies aside from the row. -/
theorem PlOk.of_own {w0 w : World} {base b3 : Nat} {A A3 : Option Addr} {c c3 : Nat} {es : List RE} {r : Rg} (h3 : Own w b3 A3 c3 r.pl) (hR : OwnR w0 base A c es) (h1 : w0.heap.size ≤ b3) (h2 : base ≤ b3) : PlOk w base (A.map (·.block)) ⟨r, A3, c3⟩ := by
  rcases h3.row with h | ⟨B, off, hA, hb, hB, hc⟩
  · left
    have : (intsV r.pl).length = 0 := by rw [h]; rfl
    rw [row_len] at this
    exact List.eq_nil_of_length_eq_zero this
  · refine .inr ⟨B, off, hA, by omega, hB, ?_, hc⟩
    cases A with
    | none => simp
    | some ad =>
      intro e
      have e : B = ad.block := by simpa using e
      have := (World.ownsRow.lt hR.own ad.block rfl).2
      omega

section
variable {a : Act} {w w' : World} {o : Oper}
theorem exec_app (s x : Operand) (ho : o.op = .call { callee := .builtin .append, args := #[s, x], argTypes := #[28, 28] }) {v1 v2 v : Value} (hs : a.eval s = v1) (hx : a.eval x = v2)
    (hrun : (Builtin.append_ #[28, 28] o.type #[v1, v2]).run Try.prog w = .ok v w') : (execOp a.eval o).run Try.prog w = .ok (.value v) w' := by
  unfold execOp
  simp only [ho, resolve, invoke, builtin, Sem.run_bind, Sem.run_pure, Result.andThen_ok, List.map_toArray, List.map_cons, List.map_nil, hs, hx, hrun]
end
end Go.Proofs.Ytnnhlnefhndpdaa
