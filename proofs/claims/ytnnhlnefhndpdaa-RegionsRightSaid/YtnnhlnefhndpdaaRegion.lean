/- Steps through a region that draws its order: a box loaded whole is taken first; a call that may come up. -/
import Derived.Test.YtnnhlnefhndpdaaOwn
import Derived.OrdersHeld
import Derived.Deep.RegionHeld3
namespace Go.Proofs.Ytnnhlnefhndpdaa
open Go.RowKit

section
variable {ops : Array Oper} {Q : Exit → Act → World → Prop} {md : Region.Mode} {S : World → Prop} {fuel : Nat} {listed : Array Bool} {a : Act} {w : World}

/-- THE BEGINNING, the number of operations and what has come up written out. -/
theorem h_begin {id : Nat} (n : Nat) (l : Array Bool) (hn : ops.size = n) (hl : Array.replicate n false = l) (h : wpAnyH Try.prog .any ops Q S n l a w.drew) : (Code.region id ops true).wp Try.prog Q a w := by
  subst hl
  subst hn
  exact wp_region_held (by kernel_rfl) h

/-- Operation i, which yields in every world that meets S, is taken first. -/
theorem h_take (i : Nat) (d : Option Tmp) {oi : Oper} {v : Value} (hi : ops[i]? = some oi) (hd : oi.dst = d) (hs : Region.noSelect ops = true) (hf : Region.free md ops listed i = true) (hr : (Region.ready md ops listed).contains i = true)
    (hQ : ∀ c a w, Q (.panic c) (a.put oi.dst v) w → Q (.panic c) a w) (hw : Region.wanted oi (yielded ops a.tmps) = true) (hS : S w) (hy : ∀ w, S w → (execOp a.eval oi).run Try.prog w = .ok (.value v) w)
    (l' : Array Bool) (hl : listed.setIfInBounds i true = l') (h : wpAnyH Try.prog md ops Q S fuel l' (a.put d v) w) : wpAnyH Try.prog md ops Q S (fuel + 1) listed a w := by
  subst hl
  subst hd
  exact wpAnyH_take hi hs hf hr hQ (.inl ⟨hw, hy⟩) hS h

/-- Operation i, whose guard does not want it, is passed over. -/
theorem h_skip (i : Nat) (d : Option Tmp) {oi : Oper} (hi : ops[i]? = some oi) (hd : oi.dst = d) (hs : Region.noSelect ops = true) (hf : Region.free md ops listed i = true) (hr : (Region.ready md ops listed).contains i = true)
    (hQ : ∀ c a w, Q (.panic c) (a.put oi.dst undef) w → Q (.panic c) a w) (hw : Region.wanted oi (yielded ops a.tmps) = false) (hS : S w)
    (l' : Array Bool) (hl : listed.setIfInBounds i true = l') (h : wpAnyH Try.prog md ops Q S fuel l' (a.put d undef) w) : wpAnyH Try.prog md ops Q S (fuel + 1) listed a w := by
  subst hl
  subst hd
  exact wpAnyH_take hi hs hf hr hQ (.inr ⟨hw, rfl⟩) hS h

/-- A box is loaded whole. -/
theorem run_ld30 (o : Oper) (x : Operand) (ho : o.op = .load 30 x) {B : Nat} {X : FX} {F : Fn} (hx : a.eval x = .pointer (some ⟨B, 0, none⟩)) (hB : Bx w B X F) : (execOp a.eval o).run Try.prog w = .ok (.value (X.val F)) w := by
  unfold execOp
  simp only [ho, hx, Instr.loadAt, Instr.sureAddr, Sem.run_bind, Sem.run_pure, Result.andThen_ok, run_loadVar_row w B 30 30 (X.cells F) (0, 0) _ hB Try.underlying30 rfl (by kernel_rfl)]

/-- One call may come up, and no other operation. -/
theorem h_call (i : Nat) (d : Option Tmp) {o : Oper} (hr : Region.ready md ops listed = [i]) (hi : ops[i]? = some o) (hd : o.dst = d) (hw : Region.wanted o (yielded ops a.tmps) = true) {f : FuncId} {args : Array Value}
    (l' : Array Bool) (hl : listed.setIfInBounds i true = l') (hrun : (execOp a.eval o).run Try.prog w = .ok (.enter f args) w) (hc : Calls Try.prog f args w fun e w' => ∃ v, e = .returned v ∧ S w' ∧ wpAnyH Try.prog md ops Q S fuel l' (a.put d v) w') :
    wpAnyH Try.prog md ops Q S (fuel + 1) listed a w := by
  subst hl
  subst hd
  refine wpAnyH_all hr (by simp) ?_
  intro j hj
  rw [List.mem_singleton] at hj
  subst hj
  unfold wpOp
  simp only [hi, hw, if_true]
  refine .inl ?_
  unfold Oper.wp
  rw [hrun]
  refine hc.mono ?_
  rintro e w' ⟨v, rfl, hS, h⟩
  exact ⟨hS, h⟩

/-- Two calls may come up, and no other operation. -/
theorem h_call2 (i j : Nat) (di dj : Option Tmp) {oi oj : Oper} (hr : Region.ready md ops listed = [i, j]) (hi : ops[i]? = some oi) (hj : ops[j]? = some oj) (hdi : oi.dst = di) (hdj : oj.dst = dj) (hwi : Region.wanted oi (yielded ops a.tmps) = true) (hwj : Region.wanted oj (yielded ops a.tmps) = true)
    {f g : FuncId} {args brgs : Array Value} (l' m' : Array Bool) (hl : listed.setIfInBounds i true = l') (hm : listed.setIfInBounds j true = m') (hrun : (execOp a.eval oi).run Try.prog w = .ok (.enter f args) w) (hrunj : (execOp a.eval oj).run Try.prog w = .ok (.enter g brgs) w)
    (hc : Calls Try.prog f args w fun e w' => ∃ v, e = .returned v ∧ S w' ∧ wpAnyH Try.prog md ops Q S fuel l' (a.put di v) w')
    (hcj : Calls Try.prog g brgs w fun e w' => ∃ v, e = .returned v ∧ S w' ∧ wpAnyH Try.prog md ops Q S fuel m' (a.put dj v) w') :
    wpAnyH Try.prog md ops Q S (fuel + 1) listed a w := by
  subst hl
  subst hm
  subst hdi
  subst hdj
  refine wpAnyH_all hr (by simp) ?_
  intro k hk
  rw [List.mem_cons, List.mem_singleton] at hk
  rcases hk with rfl | rfl
  · unfold wpOp
    simp only [hi, hwi, if_true]
    refine .inl ?_
    unfold Oper.wp
    rw [hrun]
    refine hc.mono ?_
    rintro e w' ⟨v, rfl, hS, h⟩
    exact ⟨hS, h⟩
  · unfold wpOp
    simp only [hj, hwj, if_true]
    refine .inl ?_
    unfold Oper.wp
    rw [hrunj]
    refine hcj.mono ?_
    rintro e w' ⟨v, rfl, hS, h⟩
    exact ⟨hS, h⟩

/-- The last operation stores, or makes memory: it runs to a value and a new world. -/
theorem h_last (i : Nat) (d : Option Tmp) {o : Oper} (hr : Region.ready md ops listed = [i]) (hi : ops[i]? = some o) (hd : o.dst = d) (hw : Region.wanted o (yielded ops a.tmps) = true) {v : Value} {w1 : World}
    (hrun : (execOp a.eval o).run Try.prog w = .ok (.value v) w1) (hS : S w1) (l' : Array Bool) (hl : listed.setIfInBounds i true = l') (h : wpAnyH Try.prog md ops Q S fuel l' (a.put d v) w1) :
    wpAnyH Try.prog md ops Q S (fuel + 1) listed a w := by
  subst hl
  subst hd
  refine wpAnyH_all hr (by simp) ?_
  intro j hj
  rw [List.mem_singleton] at hj
  subst hj
  unfold wpOp
  simp only [hi, hw, if_true]
  refine .inl ?_
  unfold Oper.wp
  rw [hrun]
  exact ⟨hS, h⟩
/-- .. and one that has no value. -/
theorem h_store (i : Nat) (d : Option Tmp) {o : Oper} (hr : Region.ready md ops listed = [i]) (hi : ops[i]? = some o) (hd : o.dst = d) (hw : Region.wanted o (yielded ops a.tmps) = true) {w1 : World}
    (hrun : (execOp a.eval o).run Try.prog w = .ok .skip w1) (hS : S w1) (l' : Array Bool) (hl : listed.setIfInBounds i true = l') (h : wpAnyH Try.prog md ops Q S fuel l' (a.put d undef) w1) :
    wpAnyH Try.prog md ops Q S (fuel + 1) listed a w := by
  subst hl
  subst hd
  refine wpAnyH_all hr (by simp) ?_
  intro j hj
  rw [List.mem_singleton] at hj
  subst hj
  unfold wpOp
  simp only [hi, hw, if_true]
  refine .inl ?_
  unfold Oper.wp
  rw [hrun]
  exact ⟨hS, h⟩
end
end Go.Proofs.Ytnnhlnefhndpdaa
