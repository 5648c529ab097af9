/- The walk's own laws for this seat: a struct that a call boxes, loaded whole from its box; an index into a slice whose address is told aside. -/
import Derived.Test.YtnnhlnefhndpdaaProg
import Derived.Test.YtnnhlnefhndpdaaCore
import Derived.WalkSpells
import Derived.WalkLawsBesides
import Derived.BigQuiet
import Derived.Deep.QuietTactic
import Derived.Deep.LoopGhost
namespace Go.Proofs.Ytnnhlnefhndpdaa
open Go.RowKit

/-- Block B is just the cells cs of type t. -/
def Bk (w : World) (B : Nat) (t : TypeId) (cs : Array Value) : Prop := w.heap[B]? = some (.cells cs t (0, 0))
abbrev Bx (w : World) (B : Nat) (x : FX) (F : Fn) : Prop := Bk w B 30 (x.cells F)

section
variable {w w' : World} {B : Nat} {t : TypeId} {cs : Array Value}
theorem Bk.lt (h : Bk w B t cs) : B < w.heap.size := by
  rcases Nat.lt_or_ge B w.heap.size with h' | h'
  · exact h'
  · unfold Bk at h; rw [Array.getElem?_eq_none h'] at h; cases h
theorem Bk.cell (h : Bk w B t cs) (i : Nat) : w.cell? ⟨B, i, none⟩ = cs[i]? := cell_of_row w B i cs t (0, 0) h
theorem Bk.c0 {v : Value} (h : Bk w B t #[v]) : w.cell? ⟨B, 0, none⟩ = some v := h.cell 0
theorem Bk.free (h : Bk w B t cs) (i : Nat) : w.frozen? ⟨B, i, none⟩ = false := by
  unfold Bk at h
  simp [World.frozen?, h]
theorem Bk.new (w : World) (t : TypeId) (cs : Array Value) : Bk (w.alloc (.cells cs t)) w.heap.size t cs := heap_alloc_new w _
theorem Bk.drew (h : Bk w B t cs) : Bk w.drew B t cs := h
theorem Bk.drewN (h : Bk w B t cs) (n : Nat) : Bk (w.drewN n) B t cs := h
theorem Bk.below {L : Nat} (h : Bk w B t cs) (hb : Below L w w') (hB : B < L) : Bk w' B t cs := (hb.block B hB).trans h
theorem Bk.stay (h : Bk w B t cs) (hb : Below w.heap.size w w') : Bk w' B t cs := h.below hb h.lt
theorem Bk.alloc (h : Bk w B t cs) (o : Obj) : Bk (w.alloc o) B t cs := (Below.heap_alloc w o B h.lt).trans h
theorem Bk.set_ (h : Bk w B t cs) (i : Nat) (u : Value) : Bk (w.setCell ⟨B, i, none⟩ u) B t (cs.setIfInBounds i u) := by
  unfold Bk at h ⊢
  simp [World.setCell, Array.getElem?_modify, h]
theorem Bk.far (h : Bk w B t cs) {p : Addr} (hp : B ≠ p.block) (u : Value) : Bk (w.setCell p u) B t cs := (Below.heap_setCell w p u B hp).trans h
theorem Bk.grown {row : Option Nat} (h : Bk w B t cs) (hb : w.grownBy w' row) (hg : some B ≠ row) : Bk w' B t cs := (hb.block B h.lt hg).trans h
end

theorem Bx.c14 {w : World} {B : Nat} {x : FX} {F : Fn} (h : Bx w B x F) : w.cell? ⟨B, 14, none⟩ = some (.slice x.C F.code.length x.cc) := h.cell 14
theorem Bx.c15 {w : World} {B : Nat} {x : FX} {F : Fn} (h : Bx w B x F) : w.cell? ⟨B, 15, none⟩ = some (.slice x.H F.hs.length x.hc) := h.cell 15

section
variable {P : Program} {ops : Array Oper} {Q : Exit → Act → World → Prop} {a : Act} {w : World} {rest : List Oper} {o : Oper}

/-- An operation that runs to a value. -/
theorem wp_run {v : Value} {w1 : World} (hw : Region.wanted o (yielded ops a.tmps) = true) (hrun : (execOp a.eval o).run P w = .ok (.value v) w1) (h : wpList P ops Q rest (a.put o.dst v) w1) :
    wpList P ops Q (o :: rest) a w := by
  unfold wpList
  rw [if_pos hw]
  refine .inl ?_
  unfold Oper.wp
  rw [hrun]
  exact h

/-- Guards: which operation stands first. -/
theorem at_box (t : TypeId) {src : Operand} (_ho : o.op = .box t src) (h : wpList P ops Q (o :: rest) a w) : wpList P ops Q (o :: rest) a w := h
theorem at_alloc (t : TypeId) (_ho : o.op = .alloc t) (h : wpList P ops Q (o :: rest) a w) : wpList P ops Q (o :: rest) a w := h
theorem at_load (t : TypeId) {x : Operand} (_ho : o.op = .load t x) (h : wpList P ops Q (o :: rest) a w) : wpList P ops Q (o :: rest) a w := h

/-- A struct is boxed: the world behind it is a name. -/
theorem wp_box (t : TypeId) (src : Operand) (ho : o.op = .box t src) (cs : Array Value) (hx : a.eval src = .agg cs) (hw : Region.wanted o (yielded ops a.tmps) = true)
    (h : ∀ w1, Bk w1 w.heap.size t cs → Below w.heap.size w w1 → w.heap.size < w1.heap.size → wpList P ops Q rest (a.put o.dst (.pointer (some ⟨w.heap.size, 0, none⟩))) w1) : wpList P ops Q (o :: rest) a w := by
  refine wp_run (w1 := w.alloc (.cells cs t)) hw ?_ (h _ (Bk.new w t cs) ((Below.refl _ _).alloc (Nat.le_refl _) _) (by simp))
  unfold execOp
  simp only [ho, hx]
  rfl

/-- A variable is laid: the world behind it is a name. -/
theorem wp_alloc (t : TypeId) (ho : o.op = .alloc t) (cs : Array Value) (hrun : (Instr.alloc t true (.tuple #[])).run P w = .ok (.pointer (some ⟨w.heap.size, 0, none⟩)) (w.alloc (.cells cs t))) (hw : Region.wanted o (yielded ops a.tmps) = true)
    (h : ∀ w1, Bk w1 w.heap.size t cs → Below w.heap.size w w1 → w.heap.size < w1.heap.size → wpList P ops Q rest (a.put o.dst (.pointer (some ⟨w.heap.size, 0, none⟩))) w1) : wpList P ops Q (o :: rest) a w := by
  refine wp_run (w1 := w.alloc (.cells cs t)) hw ?_ (h _ (Bk.new w t cs) ((Below.refl _ _).alloc (Nat.le_refl _) _) (by simp))
  unfold execOp
  simp only [ho, Sem.run_bind, hrun, Result.andThen_ok, Sem.run_pure]

/-- A box is loaded whole. -/
theorem wp_loadbox (t : TypeId) (x : Operand) (ho : o.op = .load t x) (B : Nat) (hx : a.eval x = .pointer (some ⟨B, 0, none⟩)) (cs : Array Value) (hB : Bk w B t cs) (d : TypeDesc) (hu : P.underlying t = some d)
    (hd : (match d with | .struct _ | .array _ _ => true | _ => false) = true) (hi : (P.info? t).map (·.size) = some cs.size) (hw : Region.wanted o (yielded ops a.tmps) = true)
    (h : wpList P ops Q rest (a.put o.dst (.agg cs)) w) : wpList P ops Q (o :: rest) a w := by
  refine wp_run hw ?_ h
  unfold execOp
  simp only [ho, hx, Instr.loadAt, Instr.sureAddr, Sem.run_bind, Sem.run_pure, Result.andThen_ok, run_loadVar_row w B t t cs (0, 0) d hB hu hd hi]
end

theorem ld30 {ops : Array Oper} {Q : Exit → Act → World → Prop} {a : Act} {w : World} {rest : List Oper} {o : Oper} (x : Operand) (ho : o.op = .load 30 x) (B : Nat) (hx : a.eval x = .pointer (some ⟨B, 0, none⟩)) (X : FX) (F : Fn)
    (hB : Bx w B X F) (hw : Region.wanted o (yielded ops a.tmps) = true) (h : wpList Try.prog ops Q rest (a.put o.dst (X.val F)) w) : wpList Try.prog ops Q (o :: rest) a w :=
  wp_loadbox 30 x ho B hx (X.cells F) hB _ Try.underlying30 rfl (by kernel_rfl) hw h
theorem bx30 {ops : Array Oper} {Q : Exit → Act → World → Prop} {a : Act} {w : World} {rest : List Oper} {o : Oper} (src : Operand) (ho : o.op = .box 30 src) (X : FX) (F : Fn) (hx : a.eval src = X.val F) (hw : Region.wanted o (yielded ops a.tmps) = true)
    (h : ∀ w1, Bx w1 w.heap.size X F → Below w.heap.size w w1 → w.heap.size < w1.heap.size → wpList Try.prog ops Q rest (a.put o.dst (.pointer (some ⟨w.heap.size, 0, none⟩))) w1) : wpList Try.prog ops Q (o :: rest) a w :=
  wp_box 30 src ho (X.cells F) hx hw h

theorem al32 {ops : Array Oper} {Q : Exit → Act → World → Prop} {a : Act} {w : World} {rest : List Oper} {o : Oper} (ho : o.op = .alloc 32) (hw : Region.wanted o (yielded ops a.tmps) = true)
    (h : ∀ w1, Bk w1 w.heap.size 32 #[.slice none 0 0] → Below w.heap.size w w1 → w.heap.size < w1.heap.size → wpList Try.prog ops Q rest (a.put o.dst (.pointer (some ⟨w.heap.size, 0, none⟩))) w1) : wpList Try.prog ops Q (o :: rest) a w :=
  wp_alloc 32 ho #[.slice none 0 0] (by kernel_rfl) hw h

/-- An index into a slice whose address is told aside. -/
theorem run_ix {t : TypeId} {s : Nat} (h : Try.prog.underlying t = some (.slice (Try.prog.elem t))) (hs : ∀ W, (sizeOf (Try.prog.elem t)).run Try.prog W = .ok s W) {A : Option Addr} {B off n c k : Nat}
    (hA : A = some ⟨B, off, none⟩) (hk : k < n) (W : World) : (Instr.indexAt t (.slice A n c) (.int .i64 (k : Int))).run Try.prog W = .ok (.pointer (some ⟨B, off + k * s, none⟩)) W := by
  rw [hA, run_indexAt_slice W t _ n c .i64 k h, if_pos ⟨by omega, by omega⟩, hs]
  simp [Addr.add_lit]
theorem ix25 {A : Option Addr} {B off n k : Nat} (hA : A = some ⟨B, off, none⟩) (hk : k < n) (c : Nat) (W : World) : (Instr.indexAt 25 (.slice A n c) (.int .i64 (k : Int))).run Try.prog W = .ok (.pointer (some ⟨B, off + k * 7, none⟩)) W :=
  run_ix (by kernel_rfl) (fun _ => by kernel_rfl) hA hk W
theorem ix26 {A : Option Addr} {B off n k : Nat} (hA : A = some ⟨B, off, none⟩) (hk : k < n) (c : Nat) (W : World) : (Instr.indexAt 26 (.slice A n c) (.int .i64 (k : Int))).run Try.prog W = .ok (.pointer (some ⟨B, off + k * 3, none⟩)) W :=
  run_ix (by kernel_rfl) (fun _ => by kernel_rfl) hA hk W
theorem ix31 {A : Option Addr} {B off n k : Nat} (hA : A = some ⟨B, off, none⟩) (hk : k < n) (c : Nat) (W : World) : (Instr.indexAt 31 (.slice A n c) (.int .i64 (k : Int))).run Try.prog W = .ok (.pointer (some ⟨B, off + k, none⟩)) W := by
  rw [run_ix (s := 1) (by kernel_rfl) (fun _ => by kernel_rfl) hA hk W, Nat.mul_one]
theorem ix32 {A : Option Addr} {B off n k : Nat} (hA : A = some ⟨B, off, none⟩) (hk : k < n) (c : Nat) (W : World) : (Instr.indexAt 32 (.slice A n c) (.int .i64 (k : Int))).run Try.prog W = .ok (.pointer (some ⟨B, off + k, none⟩)) W := by
  rw [run_ix (s := 1) (by kernel_rfl) (fun _ => by kernel_rfl) hA hk W, Nat.mul_one]

theorem ret_int {k : IntKind} {a b : Int} (h : a = b) : Ending.returned (.int k a) = .returned (.int k b) := by rw [h]
theorem ret_bool {a b : Bool} (h : a = b) : Ending.returned (.bool a) = .returned (.bool b) := by rw [h]

/-- Where a walk stands that has boxed its function at block B: below the call's first block nothing has turned. -/
structure St (w0 w : World) (B : Nat) (x : FX) (F : Fn) : Prop where
  bx : Bx w B x F
  hb : Below w0.heap.size w0 w
  hl : w0.heap.size ≤ B

section
variable {w0 w w' : World} {B : Nat} {x : FX} {F : Fn}
theorem St.new (hbx : Bx w w0.heap.size x F) (hb : Below w0.heap.size w0 w) : St w0 w w0.heap.size x F := ⟨hbx, hb, Nat.le_refl _⟩
theorem St.next (h : St w0 w B x F) (hb : Below w.heap.size w w') : St w0 w' B x F := ⟨h.bx.stay hb, h.hb.trans (hb.mono h.hb.size), h.hl⟩
theorem St.low {L : Nat} (h : St w0 w B x F) (hb : Below L w w') (hB : B < L) : St w0 w' B x F := ⟨h.bx.below hb hB, h.hb.trans (hb.mono (by have := h.hl; omega)), h.hl⟩
theorem St.set (h : St w0 w B x F) {p : Addr} (hp : w0.heap.size ≤ p.block) (hne : B ≠ p.block) (u : Value) : St w0 (w.setCell p u) B x F := ⟨h.bx.far hne u, h.hb.setCell hp u, h.hl⟩
theorem St.alloc (h : St w0 w B x F) (o : Obj) : St w0 (w.alloc o) B x F := h.next ((Below.refl _ _).alloc (Nat.le_refl _) _)
theorem St.drewN (h : St w0 w B x F) (n : Nat) : St w0 (w.drewN n) B x F := ⟨h.bx, below_drewN h.hb n, h.hl⟩
theorem St.drew (h : St w0 w B x F) : St w0 w.drew B x F := ⟨h.bx, h.hb.drew, h.hl⟩
theorem St.c14 (h : St w0 w B x F) : w.cell? ⟨B, 14, none⟩ = some (.slice x.C F.code.length x.cc) := h.bx.c14
theorem St.c15 (h : St w0 w B x F) : w.cell? ⟨B, 15, none⟩ = some (.slice x.H F.hs.length x.hc) := h.bx.c15
theorem St.old (h : St w0 w B x F) : ∀ b o, b < w0.heap.size → w.cell? ⟨b, o, none⟩ = w0.cell? ⟨b, o, none⟩ := cells_of h.hb
theorem St.fn (h : St w0 w B x F) (hF : FnAt w0 x F) : FnAt w x F := hF.stay h.hb
theorem St.row (h : St w0 w B x F) {lo : Nat} {A : Option Addr} {vs : List Value} (hR : Row w0 lo A vs) : Row w lo A vs := hR.stay h.hb
end

end Go.Proofs.Ytnnhlnefhndpdaa
