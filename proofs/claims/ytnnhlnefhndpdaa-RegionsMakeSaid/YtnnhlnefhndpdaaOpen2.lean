/- The code of a function that comes in holds one value to a cell. -/
import Derived.Test.YtnnhlnefhndpdaaOpen
import Derived.Test.YtnnhlnefhndpdaaOne
namespace Go.Proofs.Ytnnhlnefhndpdaa
open Go.ChangeShapes Go.WideShapes Go.ChangeAt Go.RowKit Go.Deep

theorem Try.cells22 : Try.prog.cellsOf 22 = 1 := by kernel_rfl
theorem Try.cells24 : Try.prog.cellsOf 24 = 5 := by kernel_rfl

section
variable {H : Type} {enc : TypeId × Value → H} {W : World} {base : Nat}

theorem len5 {α : Type} : ∀ {l : List α}, l.length = 5 → ∃ c0 c1 c2 c3 c4, l = [c0, c1, c2, c3, c4]
  | [c0, c1, c2, c3, c4], _ => ⟨c0, c1, c2, c3, c4, rfl⟩

theorem one_int {m : Nat} {c : Value} {y : DataW H × List MemPlace} (h : DataW.trod enc Try.prog W base (fun _ => true) true m 3 [c] = some y) : c.oneCell' = true := by
  obtain ⟨z, hz, _⟩ := DataW.trod_int Try.underlying3 h
  obtain rfl := (List.cons.inj hz).1
  rfl
theorem one_int2 {m : Nat} {c : Value} {y : DataW H × List MemPlace} (h : DataW.trod enc Try.prog W base (fun _ => true) true m 2 [c] = some y) : c.oneCell' = true := by
  obtain ⟨z, hz, _⟩ := DataW.trod_int Try.underlying2 h
  obtain rfl := (List.cons.inj hz).1
  rfl
theorem one_slice {m : Nat} {c : Value} {y : DataW H × List MemPlace} (h : DataW.trod enc Try.prog W base (fun _ => true) true m 22 [c] = some y) : c.oneCell' = true := by
  rcases open_slice Try.underlying22 h with ⟨hc, _⟩ | ⟨a, len, cap, k, n, D, Pl, hc, _⟩
  · obtain rfl := (List.cons.inj hc).1
    rfl
  · obtain rfl := (List.cons.inj hc).1
    rfl

theorem one_type {m : Nat} {c0 c1 c2 c3 c4 : Value} {y : DataW H × List MemPlace} (h : DataW.trod enc Try.prog W base (fun _ => true) true m 24 [c0, c1, c2, c3, c4] = some y) :
    c0.oneCell' = true ∧ c1.oneCell' = true ∧ c2.oneCell' = true ∧ c3.oneCell' = true ∧ c4.oneCell' = true := by
  obtain ⟨xs, n, _, _, _, hxl, hg⟩ := DataW.trod_struct Try.underlying24 h
  obtain ⟨y0, y1, y2, y3, y4, rfl⟩ := len5 hxl
  have f0 : DataW.trod enc Try.prog W base (fun _ => true) true n 3 [c0] = some y0 := by
    have this : DataW.trod enc Try.prog W base (fun _ => true) true n 3 ((([c0, c1, c2, c3, c4] : List Value).drop 0).take (Try.prog.cellsOf 3)) = some y0 := hg 0 _ rfl
    rw [Try.cells3] at this
    exact this
  have f1 : DataW.trod enc Try.prog W base (fun _ => true) true n 3 [c1] = some y1 := by
    have this : DataW.trod enc Try.prog W base (fun _ => true) true n 3 ((([c0, c1, c2, c3, c4] : List Value).drop 1).take (Try.prog.cellsOf 3)) = some y1 := hg 1 _ rfl
    rw [Try.cells3] at this
    exact this
  have f2 : DataW.trod enc Try.prog W base (fun _ => true) true n 22 [c2] = some y2 := by
    have this : DataW.trod enc Try.prog W base (fun _ => true) true n 22 ((([c0, c1, c2, c3, c4] : List Value).drop 2).take (Try.prog.cellsOf 22)) = some y2 := hg 2 _ rfl
    rw [Try.cells22] at this
    exact this
  have f3 : DataW.trod enc Try.prog W base (fun _ => true) true n 3 [c3] = some y3 := by
    have this : DataW.trod enc Try.prog W base (fun _ => true) true n 3 ((([c0, c1, c2, c3, c4] : List Value).drop 3).take (Try.prog.cellsOf 3)) = some y3 := hg 3 _ rfl
    rw [Try.cells3] at this
    exact this
  have f4 : DataW.trod enc Try.prog W base (fun _ => true) true n 3 [c4] = some y4 := by
    have this : DataW.trod enc Try.prog W base (fun _ => true) true n 3 ((([c0, c1, c2, c3, c4] : List Value).drop 4).take (Try.prog.cellsOf 3)) = some y4 := hg 4 _ rfl
    rw [Try.cells3] at this
    exact this
  exact ⟨one_int f0, one_int f1, one_slice f2, one_int f3, one_int f4⟩

theorem one_ins {m : Nat} {l : List Value} {y : DataW H × List MemPlace} (hl : l.length = 7) (h : DataW.trod enc Try.prog W base (fun _ => true) true m 54 l = some y) : ∀ v ∈ l, v.oneCell' = true := by
  obtain ⟨c0, c1, c2, c3, c4, c5, c6, rfl⟩ := len7 hl
  obtain ⟨xs, n, _, _, _, hxl, hg⟩ := DataW.trod_struct Try.underlying54 h
  obtain ⟨y0, y1, y2, rfl⟩ := len3 hxl
  have f0 : DataW.trod enc Try.prog W base (fun _ => true) true n 3 [c0] = some y0 := by
    have this : DataW.trod enc Try.prog W base (fun _ => true) true n 3 ((([c0, c1, c2, c3, c4, c5, c6] : List Value).drop 0).take (Try.prog.cellsOf 3)) = some y0 := hg 0 _ rfl
    rw [Try.cells3] at this
    exact this
  have f1 : DataW.trod enc Try.prog W base (fun _ => true) true n 2 [c1] = some y1 := by
    have this : DataW.trod enc Try.prog W base (fun _ => true) true n 2 ((([c0, c1, c2, c3, c4, c5, c6] : List Value).drop 1).take (Try.prog.cellsOf 2)) = some y1 := hg 1 _ rfl
    rw [Try.cells2] at this
    exact this
  have f2 : DataW.trod enc Try.prog W base (fun _ => true) true n 24 [c2, c3, c4, c5, c6] = some y2 := by
    have this : DataW.trod enc Try.prog W base (fun _ => true) true n 24 ((([c0, c1, c2, c3, c4, c5, c6] : List Value).drop 2).take (Try.prog.cellsOf 24)) = some y2 := hg 2 _ rfl
    rw [Try.cells24] at this
    exact this
  obtain ⟨h2, h3, h4, h5, h6⟩ := one_type f2
  intro v hv
  simp only [List.mem_cons, List.not_mem_nil, or_false] at hv
  rcases hv with rfl | rfl | rfl | rfl | rfl | rfl | rfl
  · exact one_int f0
  · exact one_int2 f1
  · exact h2
  · exact h3
  · exact h4
  · exact h5
  · exact h6

/-- A function that comes in: its code holds one value to a cell. -/
theorem open_one {x : FX} {F : Fn} {d : DataW H} {p : List MemPlace} (h : DataW.Trod enc Try.prog W base (fun _ => true) true 30 (FX.val x F) d p) : FnOne W x F := by
  obtain ⟨fuel, hf⟩ := h
  obtain ⟨xs, n, _, _, _, hxl, hg⟩ := DataW.trod_struct Try.underlying30 hf
  obtain ⟨y0, y1, y2, y3, y4, y5, y6, y7, y8, y9, rfl⟩ := len10 hxl
  have f6 : DataW.trod enc Try.prog W base (fun _ => true) true n 25 [.slice x.C F.code.length x.cc] = some y6 := by
    have this : DataW.trod enc Try.prog W base (fun _ => true) true n 25 ((((FX.val x F).cells.toList : List Value).drop 14).take (Try.prog.cellsOf 25)) = some y6 := hg 6 _ rfl
    rw [Try.cells25] at this
    exact this
  intro B off i j v hC hi hj hv
  rcases open_slice Try.underlying25 f6 with ⟨hc, _⟩ | ⟨a, len, cap, k, m, D, Pl, hc, _, hl, _, hk, _, ht⟩
  · rw [hC] at hc
    cases hc
  · have hc := (List.cons.inj hc).1
    rw [hC] at hc
    injection hc with h1 h2 h3
    injection h1 with h1
    subst h1
    have hlk : len ≤ k := by rw [hk]; simpa using hl
    obtain ⟨cs', hcs, ht'⟩ := ht i (by omega)
    rw [Try.cells54] at hcs
    obtain ⟨_, hlen, hat⟩ := World.cells?_some hcs
    have := hat j (by omega)
    rw [Addr.add_lit, Addr.add_lit, hv] at this
    exact one_ins hlen ht' v (List.mem_of_getElem? this.symm)
end
end Go.Proofs.Ytnnhlnefhndpdaa
