/- A struct variable laid with zero values, and stored whole. -/
import Derived.Test.YtnnhlnefhndpdaaOwn
import Derived.Laws.CopyOwn
namespace Go.Proofs.Ytnnhlnefhndpdaa
open Go.RowKit

section
variable {P : Program} {ops : Array Oper} {Q : Exit → Act → World → Prop} {a : Act} {w : World} {rest : List Oper} {o : Oper}
theorem at_store (t : TypeId) {x v : Operand} (_ho : o.op = .store t x v) (h : wpList P ops Q (o :: rest) a w) : wpList P ops Q (o :: rest) a w := h

/-- A struct is stored whole into its box. -/
theorem wp_storebox (t : TypeId) (x y : Operand) (ho : o.op = .store t x y) (hgd : o.guard = none) (B : Nat) (cs : Array Value) (hx : a.eval x = .pointer (some ⟨B, 0, none⟩)) (hy : a.eval y = .agg cs) {old : Array Value} (hB : Bk w B t old)
    (hi : (P.info? t).map (·.size) = some cs.size) (hold : old.size = cs.size) (h1 : cs.all (·.oneCell') = true)
    (h : ∀ w1, Bk w1 B t cs → Below B w w1 → w1.heap.size = w.heap.size → (∀ k, k ≠ B → w1.heap[k]? = w.heap[k]?) → wpList P ops Q rest (a.put o.dst undef) w1) : wpList P ops Q (o :: rest) a w :=
  wpList_store_row hgd t x y ho B cs hx hy t old hB hi hold h1 (h _ (setRow_heap w B old cs t (0, 0) hB) (below_setRow (Below.refl _ _) (Nat.le_refl _) cs) (by simp) (fun k hk => setRow_other w B k cs hk))
end

def zero30 : Array Value := #[.int .i64 0, .int .i64 0, .slice none 0 0, .int .i64 0, .int .i64 0, .int .i64 0, .int .i64 0, .slice none 0 0, .int .i64 0, .int .i64 0, .slice none 0 0, .int .i64 0, .int .i64 0, .int .i64 0, .slice none 0 0, .slice none 0 0, .slice none 0 0, .slice none 0 0]
def zero44 : Array Value := #[.int .i64 0, .int .i64 0, .slice none 0 0]

section
variable {ops : Array Oper} {Q : Exit → Act → World → Prop} {a : Act} {w : World} {rest : List Oper} {o : Oper}
theorem al30 (ho : o.op = .alloc 30) (hw : Region.wanted o (yielded ops a.tmps) = true)
    (h : ∀ w1, Bk w1 w.heap.size 30 zero30 → Below w.heap.size w w1 → w.heap.size < w1.heap.size → wpList Try.prog ops Q rest (a.put o.dst (.pointer (some ⟨w.heap.size, 0, none⟩))) w1) : wpList Try.prog ops Q (o :: rest) a w :=
  wp_alloc 30 ho zero30 (by kernel_rfl) hw h
theorem al44 (ho : o.op = .alloc 44) (hw : Region.wanted o (yielded ops a.tmps) = true)
    (h : ∀ w1, Bk w1 w.heap.size 44 zero44 → Below w.heap.size w w1 → w.heap.size < w1.heap.size → wpList Try.prog ops Q rest (a.put o.dst (.pointer (some ⟨w.heap.size, 0, none⟩))) w1) : wpList Try.prog ops Q (o :: rest) a w :=
  wp_alloc 44 ho zero44 (by kernel_rfl) hw h
end

/-- The function of the two small examples: an OpUnless .., told by its code alone. -/
def FX.lit (C : Option Addr) (n : Nat) : FX := ⟨.int .i64 0, .int .i64 0, .slice none 0 0, .int .i64 0, .int .i64 0, .int .i64 0, .int .i64 0, .slice none 0 0, .int .i64 0, .int .i64 0, .slice none 0 0, .int .i64 0, .int .i64 0, .int .i64 0, C, n, none, 0, .slice none 0 0, .slice none 0 0⟩
def F15 : Fn := ⟨[(25, 1), (27, 0)], []⟩
def F16 : Fn := ⟨[(25, 3), (1, 0), (24, 4), (1, 0), (27, 0)], []⟩
end Go.Proofs.Ytnnhlnefhndpdaa
