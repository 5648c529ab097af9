/- The words of this seat's proofs: how a function of the language, a list of numbers and a list of truths lie in memory, and that they lie there still when only new memory has been made. -/
import Derived.Test.YtnnhlnefhndpdaaPlain
import Derived.WalkKit
import Derived.Lib.Hide
import Derived.Deep.Draws
namespace Go.Proofs.Ytnnhlnefhndpdaa
open Go.RowKit

/-- The parts of an api.Func as they come in: eighteen cells, two of them slices that are looked into. -/
structure FX where
  v0 : Value
  v1 : Value
  v2 : Value
  v3 : Value
  v4 : Value
  v5 : Value
  v6 : Value
  v7 : Value
  v8 : Value
  v9 : Value
  v10 : Value
  v11 : Value
  v12 : Value
  v13 : Value
  C : Option Addr
  cc : Nat
  H : Option Addr
  hc : Nat
  v16 : Value
  v17 : Value

abbrev FX.cells (x : FX) (F : Fn) : Array Value := #[x.v0, x.v1, x.v2, x.v3, x.v4, x.v5, x.v6, x.v7, x.v8, x.v9, x.v10, x.v11, x.v12, x.v13, .slice x.C F.code.length x.cc, .slice x.H F.hs.length x.hc, x.v16, x.v17]
abbrev FX.val (x : FX) (F : Fn) : Value := .agg #[x.v0, x.v1, x.v2, x.v3, x.v4, x.v5, x.v6, x.v7, x.v8, x.v9, x.v10, x.v11, x.v12, x.v13, .slice x.C F.code.length x.cc, .slice x.H F.hs.length x.hc, x.v16, x.v17]

/-- A row of cells from address A on, in a block from lo on; an empty one lies anywhere. -/
def Row (w : World) (lo : Nat) (A : Option Addr) (vs : List Value) : Prop :=
  vs = [] ∨ ∃ B off, A = some ⟨B, off, none⟩ ∧ lo ≤ B ∧ B < w.heap.size ∧ ∀ i v, vs[i]? = some v → w.cell? ⟨B, off + i, none⟩ = some v

def intsV (l : List Int) : List Value := l.map (Value.int .i64)
def boolsV (l : List Bool) : List Value := l.map Value.bool

def CodeAt (w : World) (C : Option Addr) (code : List (Int × Int)) : Prop :=
  code = [] ∨ ∃ B off, C = some ⟨B, off, none⟩ ∧ B < w.heap.size ∧ ∀ i o a, code[i]? = some (o, a) →
    ∃ c2 c3 c4 c5 c6, w.cell? ⟨B, off + i * 7, none⟩ = some (.int .i64 o) ∧ w.cell? ⟨B, off + i * 7 + 1, none⟩ = some (.int .i64 a) ∧ w.cell? ⟨B, off + i * 7 + 2, none⟩ = some c2 ∧
      w.cell? ⟨B, off + i * 7 + 3, none⟩ = some c3 ∧ w.cell? ⟨B, off + i * 7 + 4, none⟩ = some c4 ∧ w.cell? ⟨B, off + i * 7 + 5, none⟩ = some c5 ∧ w.cell? ⟨B, off + i * 7 + 6, none⟩ = some c6

def HandAt (w : World) (H : Option Addr) (hs : List (Int × Int × Int)) : Prop :=
  hs = [] ∨ ∃ B off, H = some ⟨B, off, none⟩ ∧ B < w.heap.size ∧ ∀ i f t a, hs[i]? = some (f, t, a) →
    w.cell? ⟨B, off + i * 3, none⟩ = some (.int .i64 f) ∧ w.cell? ⟨B, off + i * 3 + 1, none⟩ = some (.int .i64 t) ∧ w.cell? ⟨B, off + i * 3 + 2, none⟩ = some (.int .i64 a)

structure FnAt (w : World) (x : FX) (F : Fn) : Prop where
  code : CodeAt w x.C F.code
  hs : HandAt w x.H F.hs

section
variable {w w' : World} {lo : Nat} {A : Option Addr} {vs : List Value}

theorem Row.below {B : Nat} (h : Row w lo A vs) (hb : Below B w w') (hB : w.heap.size ≤ B) : Row w' lo A vs := by
  rcases h with h | ⟨b, off, rfl, hlo, hlt, hc⟩
  · exact .inl h
  · exact .inr ⟨b, off, rfl, hlo, Nat.lt_of_lt_of_le hlt hb.size, fun i v hv => (hb.cell (p := ⟨b, off + i, none⟩) (by show b < B; omega)).trans (hc i v hv)⟩

theorem Row.stay (h : Row w lo A vs) (hb : Below w.heap.size w w') : Row w' lo A vs := h.below hb (Nat.le_refl _)

theorem Row.lower {lo' : Nat} (h : Row w lo A vs) (hl : lo' ≤ lo) : Row w lo' A vs := by
  rcases h with h | ⟨b, off, rfl, hlo, hlt, hc⟩
  · exact .inl h
  · exact .inr ⟨b, off, rfl, by omega, hlt, hc⟩

theorem Row.nil (w : World) (lo : Nat) (A : Option Addr) : Row w lo A [] := .inl rfl

theorem Row.at_ (h : Row w lo A vs) {k : Nat} {v : Value} (hv : vs[k]? = some v) : ∃ B off, A = some ⟨B, off, none⟩ ∧ lo ≤ B ∧ B < w.heap.size ∧ w.cell? ⟨B, off + k, none⟩ = some v := by
  rcases h with rfl | ⟨b, off, rfl, hlo, hlt, hc⟩
  · simp at hv
  · exact ⟨b, off, rfl, hlo, hlt, hc k v hv⟩

theorem Row.int_at {l : List Int} (h : Row w lo A (intsV l)) {k : Nat} (hk : k < l.length) : ∃ B off, A = some ⟨B, off, none⟩ ∧ lo ≤ B ∧ B < w.heap.size ∧ w.cell? ⟨B, off + k, none⟩ = some (.int .i64 (l.getD k 0)) :=
  h.at_ (by simp [intsV, List.getElem?_eq_getElem hk])

theorem Row.bool_at {l : List Bool} (h : Row w lo A (boolsV l)) {k : Nat} (hk : k < l.length) : ∃ B off, A = some ⟨B, off, none⟩ ∧ lo ≤ B ∧ B < w.heap.size ∧ w.cell? ⟨B, off + k, none⟩ = some (.bool (l.getD k false)) :=
  h.at_ (by simp [boolsV, List.getElem?_eq_getElem hk])

theorem CodeAt.below {B : Nat} {C : Option Addr} {code : List (Int × Int)} (h : CodeAt w C code) (hb : Below B w w') (hB : w.heap.size ≤ B) : CodeAt w' C code := by
  rcases h with h | ⟨b, off, rfl, hlt, hc⟩
  · exact .inl h
  · have hx : ∀ o, w'.cell? ⟨b, o, none⟩ = w.cell? ⟨b, o, none⟩ := fun o => hb.cell (p := ⟨b, o, none⟩) (by show b < B; omega)
    refine .inr ⟨b, off, rfl, Nat.lt_of_lt_of_le hlt hb.size, fun i o a hi => ?_⟩
    obtain ⟨c2, c3, c4, c5, c6, h0, h1, h2, h3, h4, h5, h6⟩ := hc i o a hi
    exact ⟨c2, c3, c4, c5, c6, (hx _).trans h0, (hx _).trans h1, (hx _).trans h2, (hx _).trans h3, (hx _).trans h4, (hx _).trans h5, (hx _).trans h6⟩

theorem HandAt.below {B : Nat} {H : Option Addr} {hs : List (Int × Int × Int)} (h : HandAt w H hs) (hb : Below B w w') (hB : w.heap.size ≤ B) : HandAt w' H hs := by
  rcases h with h | ⟨b, off, rfl, hlt, hc⟩
  · exact .inl h
  · have hx : ∀ o, w'.cell? ⟨b, o, none⟩ = w.cell? ⟨b, o, none⟩ := fun o => hb.cell (p := ⟨b, o, none⟩) (by show b < B; omega)
    refine .inr ⟨b, off, rfl, Nat.lt_of_lt_of_le hlt hb.size, fun i f t a hi => ?_⟩
    obtain ⟨h0, h1, h2⟩ := hc i f t a hi
    exact ⟨(hx _).trans h0, (hx _).trans h1, (hx _).trans h2⟩

theorem FnAt.stay {x : FX} {F : Fn} (h : FnAt w x F) (hb : Below w.heap.size w w') : FnAt w' x F :=
  ⟨h.code.below hb (Nat.le_refl _), h.hs.below hb (Nat.le_refl _)⟩

theorem FnAt.code_at {x : FX} {F : Fn} (h : FnAt w x F) {k : Nat} (hk : k < F.code.length) :
    ∃ B off c2 c3 c4 c5 c6, x.C = some ⟨B, off, none⟩ ∧ B < w.heap.size ∧ w.cell? ⟨B, off + k * 7, none⟩ = some (.int .i64 (F.code.getD k (0, 0)).1) ∧ w.cell? ⟨B, off + k * 7 + 1, none⟩ = some (.int .i64 (F.code.getD k (0, 0)).2) ∧
      w.cell? ⟨B, off + k * 7 + 2, none⟩ = some c2 ∧ w.cell? ⟨B, off + k * 7 + 3, none⟩ = some c3 ∧ w.cell? ⟨B, off + k * 7 + 4, none⟩ = some c4 ∧ w.cell? ⟨B, off + k * 7 + 5, none⟩ = some c5 ∧ w.cell? ⟨B, off + k * 7 + 6, none⟩ = some c6 := by
  rcases h.code with h0 | ⟨b, off, hC, hlt, hc⟩
  · rw [h0] at hk; simp at hk
  · obtain ⟨c2, c3, c4, c5, c6, h0, h1, h2, h3, h4, h5, h6⟩ := hc k (F.code.getD k (0, 0)).1 (F.code.getD k (0, 0)).2 (by simp [List.getElem?_eq_getElem hk])
    exact ⟨b, off, c2, c3, c4, c5, c6, hC, hlt, h0, h1, h2, h3, h4, h5, h6⟩

theorem FnAt.hand_at {x : FX} {F : Fn} (h : FnAt w x F) {k : Nat} (hk : k < F.hs.length) :
    ∃ B off, x.H = some ⟨B, off, none⟩ ∧ B < w.heap.size ∧ w.cell? ⟨B, off + k * 3, none⟩ = some (.int .i64 (F.hs.getD k (0, 0, 0)).1) ∧ w.cell? ⟨B, off + k * 3 + 1, none⟩ = some (.int .i64 (F.hs.getD k (0, 0, 0)).2.1) ∧
      w.cell? ⟨B, off + k * 3 + 2, none⟩ = some (.int .i64 (F.hs.getD k (0, 0, 0)).2.2) := by
  rcases h.hs with h0 | ⟨b, off, hC, hlt, hc⟩
  · rw [h0] at hk; simp at hk
  · obtain ⟨h0, h1, h2⟩ := hc k (F.hs.getD k (0, 0, 0)).1 (F.hs.getD k (0, 0, 0)).2.1 (F.hs.getD k (0, 0, 0)).2.2 (by simp [List.getElem?_eq_getElem hk])
    exact ⟨b, off, hC, hlt, h0, h1, h2⟩
end

/-- Behind a call that only makes memory: each old cell reads as it did. -/
theorem cells_of {W w1 : World} {B : Nat} (hb : Below B W w1) : ∀ b o, b < B → w1.cell? ⟨b, o, none⟩ = W.cell? ⟨b, o, none⟩ :=
  fun b o h => hb.cell (p := ⟨b, o, none⟩) h
theorem frozen_of {W w1 : World} {B : Nat} (hb : Below B W w1) : ∀ b o, b < B → w1.frozen? ⟨b, o, none⟩ = W.frozen? ⟨b, o, none⟩ :=
  fun b o h => hb.frozen (p := ⟨b, o, none⟩) h
theorem below_drewN {B : Nat} {a w : World} (h : Below B a w) (n : Nat) : Below B a (w.drewN n) := ⟨h.os, h.tape, h.output, h.size, h.block⟩

end Go.Proofs.Ytnnhlnefhndpdaa
