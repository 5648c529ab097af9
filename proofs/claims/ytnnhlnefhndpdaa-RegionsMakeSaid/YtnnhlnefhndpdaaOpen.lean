/- The arguments of the laws, opened: a function of the language, lists of numbers and of truths, and the small structs that hold them. -/
import Derived.Test.YtnnhlnefhndpdaaRows
import Derived.Test.YtnnhlnefhndpdaaCore
import Derived.ProofKit
import Derived.Deep.Slices
import Derived.Below
namespace Go.Proofs.Ytnnhlnefhndpdaa
open Go.ChangeShapes Go.WideShapes Go.ChangeAt Go.RowKit Go.Deep

theorem Try.own : ownKnob Try.prog.godebug = none := by kernel_rfl
theorem Try.laidOut : laidOutB Try.prog = true := by kernel_rfl
theorem Try.cells54 : Try.prog.cellsOf 54 = 7 := by kernel_rfl
theorem Try.cells66 : Try.prog.cellsOf 66 = 3 := by kernel_rfl
theorem Try.cells3 : Try.prog.cellsOf 3 = 1 := by kernel_rfl
theorem Try.cells2 : Try.prog.cellsOf 2 = 1 := by kernel_rfl
theorem Try.cells4 : Try.prog.cellsOf 4 = 1 := by kernel_rfl
theorem Try.cells30 : Try.prog.cellsOf 30 = 18 := by kernel_rfl
theorem Try.cells34 : Try.prog.cellsOf 34 = 3 := by kernel_rfl
theorem Try.cells44 : Try.prog.cellsOf 44 = 3 := by kernel_rfl
theorem Try.cells25 : Try.prog.cellsOf 25 = 1 := by kernel_rfl
theorem Try.cells26 : Try.prog.cellsOf 26 = 1 := by kernel_rfl
theorem Try.cells31 : Try.prog.cellsOf 31 = 1 := by kernel_rfl
theorem Try.cells32 : Try.prog.cellsOf 32 = 1 := by kernel_rfl

section
variable {H : Type} {enc : TypeId × Value → H} {W : World} {base : Nat} {n : Nat}

theorem cell_spot {a : Addr} {v : Value} (h : W.cell? a = some v) : a.spot = none := by
  unfold World.cell? at h
  cases hs : a.spot with
  | none => rfl
  | some s =>
    split at h
    · simp [hs] at h
    · cases h
theorem add_zero_zero (a : Addr) (k : Nat) : (a.add (0 * k)).add 0 = a := by simp [Addr.add]

theorem add_two {a : Addr} (h : a.spot = none) (m k : Nat) : (a.add m).add k = ⟨a.block, a.off + m + k, none⟩ := by
  cases a
  cases h
  rw [Addr.add_lit, Addr.add_lit]
theorem addr_none {a : Addr} (h : a.spot = none) : a = ⟨a.block, a.off, none⟩ := by
  cases a
  cases h
  rfl


theorem len3 {α : Type} : ∀ {l : List α}, l.length = 3 → ∃ c0 c1 c2, l = [c0, c1, c2]
  | [c0, c1, c2], _ => ⟨c0, c1, c2, rfl⟩
theorem len7 {α : Type} : ∀ {l : List α}, l.length = 7 → ∃ c0 c1 c2 c3 c4 c5 c6, l = [c0, c1, c2, c3, c4, c5, c6]
  | [c0, c1, c2, c3, c4, c5, c6], _ => ⟨c0, c1, c2, c3, c4, c5, c6, rfl⟩
theorem len10 {α : Type} : ∀ {l : List α}, l.length = 10 → ∃ c0 c1 c2 c3 c4 c5 c6 c7 c8 c9, l = [c0, c1, c2, c3, c4, c5, c6, c7, c8, c9]
  | [c0, c1, c2, c3, c4, c5, c6, c7, c8, c9], _ => ⟨c0, c1, c2, c3, c4, c5, c6, c7, c8, c9, rfl⟩
theorem len18 {α : Type} : ∀ {l : List α}, l.length = 18 → ∃ c0 c1 c2 c3 c4 c5 c6 c7 c8 c9 c10 c11 c12 c13 c14 c15 c16 c17, l = [c0, c1, c2, c3, c4, c5, c6, c7, c8, c9, c10, c11, c12, c13, c14, c15, c16, c17]
  | [c0, c1, c2, c3, c4, c5, c6, c7, c8, c9, c10, c11, c12, c13, c14, c15, c16, c17], _ => ⟨c0, c1, c2, c3, c4, c5, c6, c7, c8, c9, c10, c11, c12, c13, c14, c15, c16, c17, rfl⟩

/-- A list of numbers. -/
theorem open_ints_row {m : Nat} {c : Value} {y : DataW H × List MemPlace} (h : DataW.trod enc Try.prog W base (fun _ => true) true m 32 [c] = some y) :
    ∃ A l cap, c = .slice A (l : List Int).length cap ∧ Row W 0 A (intsV l) := by
  rcases open_slice Try.underlying32 h with ⟨hc, _⟩ | ⟨a, len, cap, k, n, D, Pl, hc, _, hl, _, hk, _, hi⟩
  · exact ⟨none, [], 0, by simpa using hc, .inl rfl⟩
  · have hkl : len ≤ k := by rw [hk]; simpa using hl
    have hex : ∀ i, ∃ z : Int, i < len → W.cell? (a.add (i * 1)) = some (.int .i64 z) := by
      intro i
      by_cases hil : i < len
      · obtain ⟨cs', hcs, ht⟩ := hi i (by omega)
        rw [Try.cells3] at hcs
        obtain ⟨_, _, hat⟩ := World.cells?_some hcs
        obtain ⟨z, hz, _⟩ := DataW.trod_int Try.underlying3 ht
        refine ⟨z, fun _ => ?_⟩
        have := hat 0 (by omega)
        rw [hz] at this
        simpa [Addr.add] using this
      · exact ⟨0, fun h => absurd h hil⟩
    obtain ⟨f, hf⟩ := Classical.skolem.1 hex
    refine ⟨some a, (List.range len).map f, cap, by simpa using hc, ?_⟩
    by_cases h0 : len = 0
    · subst h0; exact .inl rfl
    · have hs : a.spot = none := by
        have := hf 0 (by omega)
        exact cell_spot (by simpa [Addr.add] using this)
      refine .inr ⟨a.block, a.off, by rw [← addr_none hs], Nat.zero_le _, ?_, fun i v hv => ?_⟩
      · have := hf 0 (by omega)
        exact World.block_lt_of_cell? W a (by simpa [Addr.add] using this)
      · simp only [intsV, List.getElem?_map] at hv
        have hil : i < len := by
          rcases Nat.lt_or_ge i len with h | h
          · exact h
          · simp [List.getElem?_eq_none (show (List.range len).length ≤ i by simpa using h)] at hv
        simp [hil] at hv
        have := hf i hil
        rw [addr_none hs, Addr.add_lit, Nat.mul_one] at this
        rw [this, hv]

/-- A list of truths. -/
theorem open_bools_row {m : Nat} {c : Value} {y : DataW H × List MemPlace} (h : DataW.trod enc Try.prog W base (fun _ => true) true m 31 [c] = some y) :
    ∃ A l cap, c = .slice A (l : List Bool).length cap ∧ Row W 0 A (boolsV l) := by
  rcases open_slice Try.underlying31 h with ⟨hc, _⟩ | ⟨a, len, cap, k, n, D, Pl, hc, _, hl, _, hk, _, hi⟩
  · exact ⟨none, [], 0, by simpa using hc, .inl rfl⟩
  · have hkl : len ≤ k := by rw [hk]; simpa using hl
    have hex : ∀ i, ∃ z : Bool, i < len → W.cell? (a.add (i * 1)) = some (.bool z) := by
      intro i
      by_cases hil : i < len
      · obtain ⟨cs', hcs, ht⟩ := hi i (by omega)
        rw [Try.cells4] at hcs
        obtain ⟨_, _, hat⟩ := World.cells?_some hcs
        obtain ⟨z, hz, _⟩ := DataW.trod_bool Try.underlying4 ht
        refine ⟨z, fun _ => ?_⟩
        have := hat 0 (by omega)
        rw [hz] at this
        simpa [Addr.add] using this
      · exact ⟨false, fun h => absurd h hil⟩
    obtain ⟨f, hf⟩ := Classical.skolem.1 hex
    refine ⟨some a, (List.range len).map f, cap, by simpa using hc, ?_⟩
    by_cases h0 : len = 0
    · subst h0; exact .inl rfl
    · have hs : a.spot = none := by
        have := hf 0 (by omega)
        exact cell_spot (by simpa [Addr.add] using this)
      refine .inr ⟨a.block, a.off, by rw [← addr_none hs], Nat.zero_le _, ?_, fun i v hv => ?_⟩
      · have := hf 0 (by omega)
        exact World.block_lt_of_cell? W a (by simpa [Addr.add] using this)
      · simp only [boolsV, List.getElem?_map] at hv
        have hil : i < len := by
          rcases Nat.lt_or_ge i len with h | h
          · exact h
          · simp [List.getElem?_eq_none (show (List.range len).length ≤ i by simpa using h)] at hv
        simp [hil] at hv
        have := hf i hil
        rw [addr_none hs, Addr.add_lit, Nat.mul_one] at this
        rw [this, hv]

/-- The code of a function. -/
theorem open_code {m : Nat} {c : Value} {y : DataW H × List MemPlace} (h : DataW.trod enc Try.prog W base (fun _ => true) true m 25 [c] = some y) :
    ∃ A code cap, c = .slice A (code : List (Int × Int)).length cap ∧ CodeAt W A code := by
  rcases open_slice Try.underlying25 h with ⟨hc, _⟩ | ⟨a, len, cap, k, n, D, Pl, hc, _, hl, _, hk, _, hi⟩
  · exact ⟨none, [], 0, by simpa using hc, .inl rfl⟩
  · have hkl : len ≤ k := by rw [hk]; simpa using hl
    have hex : ∀ i, ∃ oa : Int × Int, i < len → ∃ c2 c3 c4 c5 c6, W.cell? ((a.add (i * 7)).add 0) = some (.int .i64 oa.1) ∧ W.cell? ((a.add (i * 7)).add 1) = some (.int .i64 oa.2) ∧ W.cell? ((a.add (i * 7)).add 2) = some c2 ∧
        W.cell? ((a.add (i * 7)).add 3) = some c3 ∧ W.cell? ((a.add (i * 7)).add 4) = some c4 ∧ W.cell? ((a.add (i * 7)).add 5) = some c5 ∧ W.cell? ((a.add (i * 7)).add 6) = some c6 := by
      intro i
      by_cases hil : i < len
      · obtain ⟨cs', hcs, ht⟩ := hi i (by omega)
        rw [Try.cells54] at hcs
        obtain ⟨_, hlen, hat⟩ := World.cells?_some hcs
        obtain ⟨xs, k', _, _, _, hxl, hf⟩ := DataW.trod_struct Try.underlying54 ht
        obtain ⟨c0, c1, c2, c3, c4, c5, c6, rfl⟩ := len7 hlen
        obtain ⟨y0, y1, y2, rfl⟩ := len3 hxl
        have f0 : DataW.trod enc Try.prog W base (fun _ => true) true k' 3 [c0] = some y0 := by
            have this : DataW.trod enc Try.prog W base (fun _ => true) true k' 3 ((([c0, c1, c2, c3, c4, c5, c6] : List Value).drop 0).take (Try.prog.cellsOf 3)) = some y0 := hf 0 _ rfl
            rw [Try.cells3] at this
            exact this
        have f1 : DataW.trod enc Try.prog W base (fun _ => true) true k' 2 [c1] = some y1 := by
            have this : DataW.trod enc Try.prog W base (fun _ => true) true k' 2 ((([c0, c1, c2, c3, c4, c5, c6] : List Value).drop 1).take (Try.prog.cellsOf 2)) = some y1 := hf 1 _ rfl
            rw [Try.cells2] at this
            exact this
        obtain ⟨o, ho, _⟩ := DataW.trod_int Try.underlying3 f0
        obtain ⟨g, hg, _⟩ := DataW.trod_int Try.underlying2 f1
        obtain rfl := (List.cons.inj ho).1
        obtain rfl := (List.cons.inj hg).1
        exact ⟨(o, g), fun _ => ⟨c2, c3, c4, c5, c6, hat 0 (by omega), hat 1 (by omega), hat 2 (by omega), hat 3 (by omega), hat 4 (by omega), hat 5 (by omega), hat 6 (by omega)⟩⟩
      · exact ⟨(0, 0), fun h => absurd h hil⟩
    obtain ⟨f, hf⟩ := Classical.skolem.1 hex
    refine ⟨some a, (List.range len).map f, cap, by simpa using hc, ?_⟩
    by_cases h0 : len = 0
    · subst h0; exact .inl rfl
    · have hz : ∃ v, W.cell? a = some v := by
        obtain ⟨_, _, _, _, _, h1, _⟩ := hf 0 (by omega)
        rw [add_zero_zero] at h1
        exact ⟨_, h1⟩
      obtain ⟨v0, hv0⟩ := hz
      have hs := cell_spot hv0
      refine .inr ⟨a.block, a.off, by rw [← addr_none hs], World.block_lt_of_cell? W a hv0, fun i o g hv => ?_⟩
      rw [List.getElem?_map] at hv
      have hil : i < len := by
        rcases Nat.lt_or_ge i len with h | h
        · exact h
        · simp [List.getElem?_eq_none (show (List.range len).length ≤ i by simpa using h)] at hv
      rw [List.getElem?_range hil] at hv
      have hv := Option.some.inj hv
      obtain ⟨c2, c3, c4, c5, c6, h1, h2, h3, h4, h5, h6, h7⟩ := hf i hil
      rw [hv] at h1 h2
      simp only [add_two hs] at h1 h2 h3 h4 h5 h6 h7
      exact ⟨c2, c3, c4, c5, c6, h1, h2, h3, h4, h5, h6, h7⟩

/-- The handlers of a function. -/
theorem open_hands {m : Nat} {c : Value} {y : DataW H × List MemPlace} (h : DataW.trod enc Try.prog W base (fun _ => true) true m 26 [c] = some y) :
    ∃ A hs cap, c = .slice A (hs : List (Int × Int × Int)).length cap ∧ HandAt W A hs := by
  rcases open_slice Try.underlying26 h with ⟨hc, _⟩ | ⟨a, len, cap, k, n, D, Pl, hc, _, hl, _, hk, _, hi⟩
  · exact ⟨none, [], 0, by simpa using hc, .inl rfl⟩
  · have hkl : len ≤ k := by rw [hk]; simpa using hl
    have hex : ∀ i, ∃ q : Int × Int × Int, i < len → W.cell? ((a.add (i * 3)).add 0) = some (.int .i64 q.1) ∧ W.cell? ((a.add (i * 3)).add 1) = some (.int .i64 q.2.1) ∧ W.cell? ((a.add (i * 3)).add 2) = some (.int .i64 q.2.2) := by
      intro i
      by_cases hil : i < len
      · obtain ⟨cs', hcs, ht⟩ := hi i (by omega)
        rw [Try.cells66] at hcs
        obtain ⟨_, hlen, hat⟩ := World.cells?_some hcs
        obtain ⟨xs, k', _, _, _, hxl, hf⟩ := DataW.trod_struct Try.underlying66 ht
        obtain ⟨c0, c1, c2, rfl⟩ := len3 hlen
        obtain ⟨y0, y1, y2, rfl⟩ := len3 hxl
        have f0 : DataW.trod enc Try.prog W base (fun _ => true) true k' 3 [c0] = some y0 := by
            have this : DataW.trod enc Try.prog W base (fun _ => true) true k' 3 ((([c0, c1, c2] : List Value).drop 0).take (Try.prog.cellsOf 3)) = some y0 := hf 0 _ rfl
            rw [Try.cells3] at this
            exact this
        have f1 : DataW.trod enc Try.prog W base (fun _ => true) true k' 3 [c1] = some y1 := by
            have this : DataW.trod enc Try.prog W base (fun _ => true) true k' 3 ((([c0, c1, c2] : List Value).drop 1).take (Try.prog.cellsOf 3)) = some y1 := hf 1 _ rfl
            rw [Try.cells3] at this
            exact this
        have f2 : DataW.trod enc Try.prog W base (fun _ => true) true k' 3 [c2] = some y2 := by
            have this : DataW.trod enc Try.prog W base (fun _ => true) true k' 3 ((([c0, c1, c2] : List Value).drop 2).take (Try.prog.cellsOf 3)) = some y2 := hf 2 _ rfl
            rw [Try.cells3] at this
            exact this
        obtain ⟨o, ho, _⟩ := DataW.trod_int Try.underlying3 f0
        obtain ⟨g, hg, _⟩ := DataW.trod_int Try.underlying3 f1
        obtain ⟨e, he, _⟩ := DataW.trod_int Try.underlying3 f2
        obtain rfl := (List.cons.inj ho).1
        obtain rfl := (List.cons.inj hg).1
        obtain rfl := (List.cons.inj he).1
        exact ⟨(o, g, e), fun _ => ⟨hat 0 (by omega), hat 1 (by omega), hat 2 (by omega)⟩⟩
      · exact ⟨(0, 0, 0), fun h => absurd h hil⟩
    obtain ⟨f, hf⟩ := Classical.skolem.1 hex
    refine ⟨some a, (List.range len).map f, cap, by simpa using hc, ?_⟩
    by_cases h0 : len = 0
    · subst h0; exact .inl rfl
    · have hz : ∃ v, W.cell? a = some v := by
        obtain ⟨h1, _⟩ := hf 0 (by omega)
        rw [add_zero_zero] at h1
        exact ⟨_, h1⟩
      obtain ⟨v0, hv0⟩ := hz
      have hs := cell_spot hv0
      refine .inr ⟨a.block, a.off, by rw [← addr_none hs], World.block_lt_of_cell? W a hv0, fun i o g e hv => ?_⟩
      rw [List.getElem?_map] at hv
      have hil : i < len := by
        rcases Nat.lt_or_ge i len with h | h
        · exact h
        · simp [List.getElem?_eq_none (show (List.range len).length ≤ i by simpa using h)] at hv
      rw [List.getElem?_range hil] at hv
      have hv := Option.some.inj hv
      obtain ⟨h1, h2, h3⟩ := hf i hil
      rw [hv] at h1 h2 h3
      simp only [add_two hs] at h1 h2 h3
      exact ⟨h1, h2, h3⟩

/-- A function of the language. -/
theorem open_fn {r : Reach} {b0 : Nat} {v : Value} {d : DataW H} {p : List MemPlace} (hv : Value.okWide Try.prog W r b0 30 v) (h : DataW.Trod enc Try.prog W base (fun _ => true) true 30 v d p) :
    ∃ x F, v = FX.val x F ∧ FnAt W x F := by
  obtain ⟨cs, rfl, hsz⟩ := okWide_struct Try.underlying30 hv
  obtain ⟨l⟩ := cs
  obtain ⟨c0, c1, c2, c3, c4, c5, c6, c7, c8, c9, c10, c11, c12, c13, c14, c15, c16, c17, rfl⟩ := len18 (hsz.trans Try.cells30)
  obtain ⟨fuel, hf⟩ := h
  obtain ⟨xs, n, _, _, _, hxl, hg⟩ := DataW.trod_struct Try.underlying30 hf
  obtain ⟨y0, y1, y2, y3, y4, y5, y6, y7, y8, y9, rfl⟩ := len10 hxl
  have f6 : DataW.trod enc Try.prog W base (fun _ => true) true n 25 [c14] = some y6 := by
      have this : DataW.trod enc Try.prog W base (fun _ => true) true n 25 ((([c0, c1, c2, c3, c4, c5, c6, c7, c8, c9, c10, c11, c12, c13, c14, c15, c16, c17] : List Value).drop 14).take (Try.prog.cellsOf 25)) = some y6 := hg 6 _ rfl
      rw [Try.cells25] at this
      exact this
  have f7 : DataW.trod enc Try.prog W base (fun _ => true) true n 26 [c15] = some y7 := by
      have this : DataW.trod enc Try.prog W base (fun _ => true) true n 26 ((([c0, c1, c2, c3, c4, c5, c6, c7, c8, c9, c10, c11, c12, c13, c14, c15, c16, c17] : List Value).drop 15).take (Try.prog.cellsOf 26)) = some y7 := hg 7 _ rfl
      rw [Try.cells26] at this
      exact this
  obtain ⟨A, code, ca, rfl, hcode⟩ := open_code (c := c14) f6
  obtain ⟨B, hs, cb, rfl, hhs⟩ := open_hands (c := c15) f7
  exact ⟨⟨c0, c1, c2, c3, c4, c5, c6, c7, c8, c9, c10, c11, c12, c13, A, ca, B, cb, c16, c17⟩, ⟨code, hs⟩, rfl, ⟨hcode, hhs⟩⟩

/-- What layer 15's laws are asked: which calls raise, from where, and the stop. -/
theorem open_asked {r : Reach} {b0 : Nat} {v : Value} {d : DataW H} {p : List MemPlace} (hv : Value.okWide Try.prog W r b0 34 v) (h : DataW.Trod enc Try.prog W base (fun _ => true) true 34 v d p) :
    ∃ (R : Option Addr) (rs : List Bool) (rc : Nat) (A : Option Addr) (l : List Int) (ac : Nat) (stop : Int), v = .agg #[.slice R rs.length rc, .slice A l.length ac, .int .i64 stop] ∧ Row W 0 R (boolsV rs) ∧ Row W 0 A (intsV l) := by
  obtain ⟨cs, rfl, hsz⟩ := okWide_struct Try.underlying34 hv
  obtain ⟨l⟩ := cs
  obtain ⟨c0, c1, c2, rfl⟩ := len3 (hsz.trans Try.cells34)
  obtain ⟨fuel, hf⟩ := h
  obtain ⟨xs, n, _, _, _, hxl, hg⟩ := DataW.trod_struct Try.underlying34 hf
  obtain ⟨y0, y1, y2, rfl⟩ := len3 hxl
  have f0 : DataW.trod enc Try.prog W base (fun _ => true) true n 31 [c0] = some y0 := by
      have this : DataW.trod enc Try.prog W base (fun _ => true) true n 31 ((([c0, c1, c2] : List Value).drop 0).take (Try.prog.cellsOf 31)) = some y0 := hg 0 _ rfl
      rw [Try.cells31] at this
      exact this
  have f1 : DataW.trod enc Try.prog W base (fun _ => true) true n 32 [c1] = some y1 := by
      have this : DataW.trod enc Try.prog W base (fun _ => true) true n 32 ((([c0, c1, c2] : List Value).drop 1).take (Try.prog.cellsOf 32)) = some y1 := hg 1 _ rfl
      rw [Try.cells32] at this
      exact this
  have f2 : DataW.trod enc Try.prog W base (fun _ => true) true n 3 [c2] = some y2 := by
      have this : DataW.trod enc Try.prog W base (fun _ => true) true n 3 ((([c0, c1, c2] : List Value).drop 2).take (Try.prog.cellsOf 3)) = some y2 := hg 2 _ rfl
      rw [Try.cells3] at this
      exact this
  obtain ⟨R, rs, rc, rfl, hR⟩ := open_bools_row (c := c0) f0
  obtain ⟨A, l, ac, rfl, hA⟩ := open_ints_row (c := c1) f1
  obtain ⟨z, hz, _⟩ := DataW.trod_int Try.underlying3 f2
  obtain rfl := (List.cons.inj hz).1
  exact ⟨R, rs, rc, A, l, ac, z, rfl, hR, hA⟩

/-- A region. -/
theorem open_region {r : Reach} {b0 : Nat} {v : Value} {d : DataW H} {p : List MemPlace} (hv : Value.okWide Try.prog W r b0 44 v) (h : DataW.Trod enc Try.prog W base (fun _ => true) true 44 v d p) :
    ∃ (a j : Int) (A : Option Addr) (l : List Int) (ac : Nat), v = .agg #[.int .i64 a, .int .i64 j, .slice A l.length ac] ∧ Row W 0 A (intsV l) := by
  obtain ⟨cs, rfl, hsz⟩ := okWide_struct Try.underlying44 hv
  obtain ⟨l⟩ := cs
  obtain ⟨c0, c1, c2, rfl⟩ := len3 (hsz.trans Try.cells44)
  obtain ⟨fuel, hf⟩ := h
  obtain ⟨xs, n, _, _, _, hxl, hg⟩ := DataW.trod_struct Try.underlying44 hf
  obtain ⟨y0, y1, y2, rfl⟩ := len3 hxl
  have f0 : DataW.trod enc Try.prog W base (fun _ => true) true n 3 [c0] = some y0 := by
      have this : DataW.trod enc Try.prog W base (fun _ => true) true n 3 ((([c0, c1, c2] : List Value).drop 0).take (Try.prog.cellsOf 3)) = some y0 := hg 0 _ rfl
      rw [Try.cells3] at this
      exact this
  have f1 : DataW.trod enc Try.prog W base (fun _ => true) true n 3 [c1] = some y1 := by
      have this : DataW.trod enc Try.prog W base (fun _ => true) true n 3 ((([c0, c1, c2] : List Value).drop 1).take (Try.prog.cellsOf 3)) = some y1 := hg 1 _ rfl
      rw [Try.cells3] at this
      exact this
  have f2 : DataW.trod enc Try.prog W base (fun _ => true) true n 32 [c2] = some y2 := by
      have this : DataW.trod enc Try.prog W base (fun _ => true) true n 32 ((([c0, c1, c2] : List Value).drop 2).take (Try.prog.cellsOf 32)) = some y2 := hg 2 _ rfl
      rw [Try.cells32] at this
      exact this
  obtain ⟨z, hz, _⟩ := DataW.trod_int Try.underlying3 f0
  obtain ⟨u, hu, _⟩ := DataW.trod_int Try.underlying3 f1
  obtain rfl := (List.cons.inj hz).1
  obtain rfl := (List.cons.inj hu).1
  obtain ⟨A, l, ac, rfl, hA⟩ := open_ints_row (c := c2) f2
  exact ⟨z, u, A, l, ac, rfl, hA⟩

/-- A list of numbers, as an argument; a list of truths. -/
theorem open_ints_arg {r : Reach} {b0 : Nat} {v : Value} {d : DataW H} {p : List MemPlace} (hv : Value.okWide Try.prog W r b0 32 v) (h : DataW.Trod enc Try.prog W base (fun _ => true) true 32 v d p) :
    ∃ (A : Option Addr) (l : List Int) (c : Nat), v = .slice A l.length c ∧ Row W 0 A (intsV l) := by
  obtain ⟨a0, len, cap, rfl⟩ := okWide_slice Try.underlying32 hv
  obtain ⟨fuel, hf⟩ := h
  exact open_ints_row (by simpa [Value.cells] using hf)
theorem open_bools_arg {r : Reach} {b0 : Nat} {v : Value} {d : DataW H} {p : List MemPlace} (hv : Value.okWide Try.prog W r b0 31 v) (h : DataW.Trod enc Try.prog W base (fun _ => true) true 31 v d p) :
    ∃ (A : Option Addr) (l : List Bool) (c : Nat), v = .slice A l.length c ∧ Row W 0 A (boolsV l) := by
  obtain ⟨a0, len, cap, rfl⟩ := okWide_slice Try.underlying31 hv
  obtain ⟨fuel, hf⟩ := h
  exact open_bools_row (by simpa [Value.cells] using hf)
end
end Go.Proofs.Ytnnhlnefhndpdaa
