/- A function of the language whose code lies in memory with one value to a cell: so that an instruction can be copied whole. -/
import Derived.Test.YtnnhlnefhndpdaaBox2
namespace Go.Proofs.Ytnnhlnefhndpdaa
open Go.RowKit

/-- Each cell of the code holds one value. -/
def FnOne (w : World) (x : FX) (F : Fn) : Prop := ∀ B off i j v, x.C = some ⟨B, off, none⟩ → i < F.code.length → j < 7 → w.cell? ⟨B, off + i * 7 + j, none⟩ = some v → v.oneCell' = true

structure FnX (w : World) (x : FX) (F : Fn) : Prop where
  fn : FnAt w x F
  one : FnOne w x F

theorem FnX.stay {w w' : World} {x : FX} {F : Fn} (h : FnX w x F) (hb : Below w.heap.size w w') : FnX w' x F := by
  refine ⟨h.fn.stay hb, fun B off i j v hC hi hj hv => h.one B off i j v hC hi hj ?_⟩
  obtain ⟨B', off', c2, c3, c4, c5, c6, hC', hlt, _⟩ := h.fn.code_at hi
  rw [hC] at hC'
  injection hC' with hC'
  injection hC' with h1 h2
  subst h1
  exact (hb.cell (p := ⟨B, off + i * 7 + j, none⟩) hlt).symm.trans hv

theorem St.fnx {w0 w : World} {B : Nat} {x : FX} {F : Fn} (h : St w0 w B x F) (hF : FnX w0 x F) : FnX w x F := hF.stay h.hb

theorem FnX.code_at {w : World} {x : FX} {F : Fn} (h : FnX w x F) {k : Nat} (hk : k < F.code.length) :
    ∃ B off c2 c3 c4 c5 c6, x.C = some ⟨B, off, none⟩ ∧ B < w.heap.size ∧ w.cell? ⟨B, off + k * 7, none⟩ = some (.int .i64 (F.code.getD k (0, 0)).1) ∧ w.cell? ⟨B, off + k * 7 + 1, none⟩ = some (.int .i64 (F.code.getD k (0, 0)).2) ∧
      w.cell? ⟨B, off + k * 7 + 2, none⟩ = some c2 ∧ w.cell? ⟨B, off + k * 7 + 3, none⟩ = some c3 ∧ w.cell? ⟨B, off + k * 7 + 4, none⟩ = some c4 ∧ w.cell? ⟨B, off + k * 7 + 5, none⟩ = some c5 ∧ w.cell? ⟨B, off + k * 7 + 6, none⟩ = some c6 ∧
      c2.oneCell' = true ∧ c3.oneCell' = true ∧ c4.oneCell' = true ∧ c5.oneCell' = true ∧ c6.oneCell' = true := by
  obtain ⟨B, off, c2, c3, c4, c5, c6, hC, hlt, h0, h1, h2, h3, h4, h5, h6⟩ := h.fn.code_at hk
  exact ⟨B, off, c2, c3, c4, c5, c6, hC, hlt, h0, h1, h2, h3, h4, h5, h6, h.one B off k 2 c2 hC hk (by omega) h2, h.one B off k 3 c3 hC hk (by omega) h3, h.one B off k 4 c4 hC hk (by omega) h4,
    h.one B off k 5 c5 hC hk (by omega) h5, h.one B off k 6 c6 hC hk (by omega) h6⟩

def zero54 : Array Value := #[.int .i64 0, .int .i64 0, .int .i64 0, .int .i64 0, .slice none 0 0, .int .i64 0, .int .i64 0]
section
variable {ops : Array Oper} {Q : Exit → Act → World → Prop} {a : Act} {w : World} {rest : List Oper} {o : Oper}
theorem al54 (ho : o.op = .alloc 54) (hw : Region.wanted o (yielded ops a.tmps) = true)
    (h : ∀ w1, Bk w1 w.heap.size 54 zero54 → Below w.heap.size w w1 → w.heap.size < w1.heap.size → wpList Try.prog ops Q rest (a.put o.dst (.pointer (some ⟨w.heap.size, 0, none⟩))) w1) : wpList Try.prog ops Q (o :: rest) a w :=
  wp_alloc 54 ho zero54 (by kernel_rfl) hw h
end
end Go.Proofs.Ytnnhlnefhndpdaa
