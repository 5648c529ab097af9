/- Joins in plain words: what all ways from a place meet, the least of them, and that the reference's word says the same. -/
import Derived.Test.YtnnhlnefhndpdaaPlain5
namespace Go.Proofs.Ytnnhlnefhndpdaa

/-- All ways go ahead. -/
def Fn.ahead (F : Fn) : Bool :=
  decide (F.code.length ≤ 2000) && (List.range F.code.length).all (fun k => !((F.op k == 24 || F.op k == 25) && decide (F.arg k ≤ k))) && F.hs.all fun h => !decide (h.2.2 < h.2.1)

theorem handFrom_ahead : ∀ {hs : List (Int × Int × Int)} {a : Int}, (∀ h ∈ hs, h.2.1 ≤ h.2.2) → 0 ≤ handFrom hs a → a < handFrom hs a
  | [], _, _, h => by simp [handFrom] at h
  | (f, t, g) :: r, a, hh, h => by
    unfold handFrom at h ⊢
    split
    · have := hh _ (List.mem_cons_self ..)
      simp only at this
      omega
    · rename_i hne
      rw [if_neg hne] at h
      exact handFrom_ahead (fun x hx => hh x (List.mem_cons_of_mem _ hx)) h

variable {F : Fn} {rs : List Bool} {x y j k m : Int}

theorem Fn.ways_ahead (ha : F.ahead = true) (h : y ∈ F.ways rs x) : x < y := by
  obtain ⟨h1, h2, h3⟩ := Fn.mem_ways.1 h
  obtain ⟨p, rfl, hp⟩ := Fn.place_nat h1
  have hy := (Fn.place_iff.1 h2).1
  simp only [Fn.ahead, Bool.and_eq_true, decide_eq_true_eq, List.all_eq_true, List.mem_range, Bool.not_eq_true', Bool.and_eq_false_iff, decide_eq_false_iff_not] at ha
  obtain ⟨⟨-, ha1⟩, ha2⟩ := ha
  simp only [Fn.way, Bool.or_eq_true, Bool.and_eq_true, beq_iff_eq] at h3
  rcases h3 with (h3 | h3) | h3
  · omega
  · have := ha1 p hp
    rcases this with this | this
    · simp only [Bool.or_eq_false_iff, beq_eq_false_iff_ne] at this
      rcases h3.1 with h4 | h4
      · exact absurd h4 this.1
      · exact absurd h4 this.2
    · omega
  · have : (p : Int) < F.handler p := handFrom_ahead (fun h hh => by have := ha2 h hh; omega) (by unfold Fn.handler at h3; omega)
    omega

/-- Every way on from x meets j; x may be j. -/
inductive Meets (F : Fn) (rs : List Bool) (j : Int) : Int → Prop
  | here : Meets F rs j j
  | go {x : Int} : F.leaves rs x = false → F.ways rs x ≠ [] → (∀ w ∈ F.ways rs x, Meets F rs j w) → Meets F rs j x

/-- Every way on from x meets j behind x. -/
def Strict (F : Fn) (rs : List Bool) (j x : Int) : Prop := F.leaves rs x = false ∧ F.ways rs x ≠ [] ∧ ∀ w ∈ F.ways rs x, Meets F rs j w

theorem Strict.meets (h : Strict F rs j x) : Meets F rs j x := .go h.1 h.2.1 h.2.2
theorem Meets.cases' (h : Meets F rs j x) : x = j ∨ Strict F rs j x := by
  cases h with
  | here => exact .inl rfl
  | go h1 h2 h3 => exact .inr ⟨h1, h2, h3⟩
theorem Meets.le (ha : F.ahead = true) (h : Meets F rs j x) : x ≤ j := by
  induction h with
  | here => omega
  | go h1 h2 h3 ih =>
    obtain ⟨w, hw⟩ := List.exists_mem_of_ne_nil _ h2
    have := ih w hw
    have := Fn.ways_ahead ha hw
    omega
theorem Strict.lt (ha : F.ahead = true) (h : Strict F rs j x) : x < j := by
  obtain ⟨w, hw⟩ := List.exists_mem_of_ne_nil _ h.2.1
  have := (h.2.2 w hw).le ha
  have := Fn.ways_ahead ha hw
  omega
theorem Meets.strict (h : Meets F rs j x) (hne : x ≠ j) : Strict F rs j x := h.cases'.resolve_left hne
theorem Meets.trans (h : Meets F rs j x) (h2 : Meets F rs k j) : Meets F rs k x := by
  induction h with
  | here => exact h2
  | go g1 g2 _ ih => exact .go g1 g2 ih
theorem Meets.chain (ha : F.ahead = true) (h : Meets F rs j x) (h2 : Meets F rs k x) (hjk : j ≤ k) : Meets F rs k j := by
  induction h with
  | here => exact h2
  | go g1 g2 g3 ih =>
    rename_i x
    rcases h2.cases' with rfl | h2
    · have h5 := (Meets.go (j := j) g1 g2 g3).le ha
      have : x = j := by omega
      subst this
      exact .here
    · obtain ⟨w, hw⟩ := List.exists_mem_of_ne_nil _ g2
      exact ih w hw (h2.2.2 w hw)
theorem Meets.place (h : Meets F rs j x) (hx : F.place x = true) : F.place j = true := by
  induction h with
  | here => exact hx
  | go g1 g2 g3 ih =>
    obtain ⟨w, hw⟩ := List.exists_mem_of_ne_nil _ g2
    exact ih w hw (Fn.ways_place hw)
theorem Strict.place (h : Strict F rs j x) : F.place j = true := by
  obtain ⟨w, hw⟩ := List.exists_mem_of_ne_nil _ h.2.1
  exact (h.2.2 w hw).place (Fn.ways_place hw)
theorem Meets.way (h : Meets F rs j x) (hne : x ≠ j) (hw : y ∈ F.ways rs x) : Meets F rs j y := (h.strict hne).2.2 y hw

/-- What the reference asks of a join. -/
def joinsB (F : Fn) (rs : List Bool) (x j : Int) : Prop :=
  F.leaves rs x = false ∧ (∀ y ∈ reachL F rs (F.ways rs x) j, F.leaves rs y = false ∧ F.ways rs y ≠ []) ∧ F.ways rs x ≠ []

theorem Strict.reach (h : Strict F rs j x) (hy : y ∈ reachL F rs (F.ways rs x) j) : Meets F rs j y ∧ y ≠ j := by
  replace hy := mem_reachL.1 hy
  induction hy with
  | start h1 h2 h3 => exact ⟨h.2.2 _ h1, h3⟩
  | step h1 h2 h3 ih => exact ⟨ih.1.way ih.2 h2, h3⟩

theorem joinsB_iff (ha : F.ahead = true) : joinsB F rs x j ↔ Strict F rs j x := by
  refine ⟨fun ⟨h1, h2, h3⟩ => ⟨h1, h3, ?_⟩, fun h => ⟨h.1, fun y hy => ?_, h.2.1⟩⟩
  · have key : ∀ (n : Nat) (y : Int), (F.code.length : Int) - y ≤ n → y ∈ reachL F rs (F.ways rs x) j → Meets F rs j y := by
      intro n
      induction n with
      | zero =>
        intro y hn hy
        have := (Fn.place_iff.1 (reachL_place hy)).2
        omega
      | succ n ih =>
        intro y hn hy
        refine .go (h2 y hy).1 (h2 y hy).2 fun w hw => ?_
        by_cases hj : w = j
        · exact hj ▸ .here
        · have := Fn.ways_ahead ha hw
          exact ih w (by omega) (reachL_way hy hw hj)
    intro w hw
    by_cases hj : w = j
    · exact hj ▸ .here
    · exact key ((F.code.length : Int) - w).toNat w (by omega) (reachL_from hw (Fn.ways_place hw) hj)
  · have h5 := h.reach hy
    have h6 := h5.1.strict h5.2
    exact ⟨h6.1, h6.2.1⟩
end Go.Proofs.Ytnnhlnefhndpdaa
