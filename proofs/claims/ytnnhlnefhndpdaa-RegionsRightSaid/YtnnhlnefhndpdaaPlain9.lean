/- The laws of regions in plain words: the least region, what is met, a single way, what is made holds. -/
import Derived.Test.YtnnhlnefhndpdaaPlain8
namespace Go.Proofs.Ytnnhlnefhndpdaa

variable {F : Fn} {rs : List Bool} {a j p : Int} {pl : List Int}

theorem withinF_way (h : withinF F rs j pl p = true) {w : Int} (hw : w ∈ F.ways rs p) : w = j ∨ w ∈ pl := by
  unfold withinF at h
  rw [Bool.not_eq_true', List.any_eq_false] at h
  have := h w hw
  by_cases hj : w = j
  · exact .inl hj
  · refine .inr ?_
    simp only [Bool.and_eq_true, bne_iff_ne, ne_eq, Bool.not_eq_true', decide_eq_false_iff_not, not_and, Decidable.not_not] at this
    exact this hj
theorem withinF_of (h : ∀ w ∈ F.ways rs p, w = j ∨ w ∈ pl) : withinF F rs j pl p = true := by
  unfold withinF
  rw [Bool.not_eq_true', List.any_eq_false]
  intro w hw hc
  simp only [Bool.and_eq_true, bne_iff_ne, ne_eq, Bool.not_eq_true', decide_eq_false_iff_not] at hc
  rcases h w hw with h1 | h1
  · exact hc.1 h1
  · exact hc.2 h1

/-- What it says that a region holds. -/
theorem holdsF_zero (ha : F.ahead = true) (h : holdsF F rs a j pl = 0) :
    F.place a = true ∧ (j = -1 ∨ F.place j = true) ∧ withinF F rs j pl a = true ∧ (∀ p ∈ pl, withinF F rs j pl p = true) ∧ (j = -1 ∨ (F.leaves rs a = false ∧ ∀ p ∈ pl, F.leaves rs p = false)) := by
  unfold holdsF at h
  rw [if_neg (by simp [ha])] at h
  split at h
  · exact absurd h (by decide)
  · rename_i h1
    split at h
    · exact absurd h (by decide)
    · rename_i h2
      split at h
      · exact absurd h (by decide)
      · rename_i h3
        split at h
        · exact absurd h (by decide)
        · rename_i h4
          simp only [Bool.not_eq_false, Bool.and_eq_true, Bool.or_eq_true, beq_iff_eq] at h1
          refine ⟨h1.1, h1.2, by simpa using h2, fun p hp => ?_, ?_⟩
          · exact (show ∀ x ∈ pl, withinF F rs j pl x = true by simpa using h3) p hp
          · by_cases hj : j = -1
            · exact .inl hj
            · refine .inr ?_
              have hj2 : (j != -1) = true := by simpa using hj
              rw [hj2, Bool.true_and, Bool.not_eq_true, Bool.or_eq_false_iff, List.any_eq_false] at h4
              exact ⟨h4.1, fun p hp => by simpa using h4.2 p hp⟩
theorem holdsF_of (hp : F.place a = true) (hj : j = -1 ∨ F.place j = true) (h1 : withinF F rs j pl a = true) (h2 : ∀ p ∈ pl, withinF F rs j pl p = true) (h3 : j = -1 ∨ (F.leaves rs a = false ∧ ∀ p ∈ pl, F.leaves rs p = false)) :
    holdsF F rs a j pl = 0 := by
  unfold holdsF
  split
  · rfl
  · rw [if_neg, if_neg (by simp [h1]), if_neg, if_neg]
    · rcases h3 with rfl | ⟨h3, h4⟩
      · simp
      · have h5 : (pl.any fun p => F.leaves rs p) = false := List.any_eq_false.2 fun p hp => by simp [h4 p hp]
        simp [h3, h5]
    · have : (pl.any fun p => !withinF F rs j pl p) = false := List.any_eq_false.2 fun p hp => by simp [h2 p hp]
      simp [this]
    · rcases hj with rfl | hj
      · simp [hp]
      · simp [hp, hj]

/-- From a region that holds, whose places all go on, its join is met. -/
theorem holds_strict (ha : F.ahead = true) (h : holdsF F rs a j pl = 0) (hj : j ≠ -1) (hp : ∀ p ∈ pl, F.place p = true ∧ F.ways rs p ≠ []) (hw : F.ways rs a ≠ []) : Strict F rs j a := by
  obtain ⟨_, _, h1, h2, h3⟩ := holdsF_zero ha h
  obtain ⟨h4, h5⟩ := h3.resolve_left hj
  have key : ∀ (n : Nat) (p : Int), (F.code.length : Int) - p ≤ n → p ∈ pl → Meets F rs j p := by
    intro n
    induction n with
    | zero =>
      intro p hn hpp
      have := (Fn.place_iff.1 (hp p hpp).1).2
      omega
    | succ n ih =>
      intro p hn hpp
      refine .go (h5 p hpp) (hp p hpp).2 fun w hww => ?_
      rcases withinF_way (h2 p hpp) hww with rfl | hm
      · exact .here
      · have := Fn.ways_ahead ha hww
        exact ih w (by omega) hm
  refine ⟨h4, hw, fun w hww => ?_⟩
  rcases withinF_way h1 hww with rfl | hm
  · exact .here
  · exact key ((F.code.length : Int) - w).toNat w (by omega) hm

theorem jn_of_strict {k : Int} (h : Strict F rs k a) : ∃ m : Nat, jn F rs a = m ∧ (m : Int) ≤ k := by
  rcases jn_range F rs a with h1 | ⟨m, h1, _⟩
  · exact absurd h (jn_none h1 k)
  · exact ⟨m, h1, (jn_strict h1).2.2 k h⟩

/-- The least region. -/
theorem least_region (ha : F.ahead = true) (h : holdsF F rs a j pl = 0) (hj : j ≠ -1) (hp : ∀ p ∈ pl, F.place p = true ∧ F.ways rs p ≠ []) (hw : F.ways rs a ≠ []) :
    jn F rs a ≠ -1 ∧ jn F rs a ≤ j ∧ ∀ y ∈ (made F rs a).pl, y ∈ pl := by
  obtain ⟨m, hm, hmj⟩ := jn_of_strict (holds_strict ha h hj hp hw)
  obtain ⟨_, _, h1, h2, _⟩ := holdsF_zero ha h
  have hs := (jn_strict hm).1
  rw [← hm] at hs
  refine ⟨by omega, by omega, fun y hy => ?_⟩
  replace hy : y ∈ reachL F rs (F.ways rs a) (jn F rs a) := hy
  have hr := mem_reachL.1 hy
  induction hr with
  | start g1 g2 g3 =>
    rename_i y
    have h5 := hs.reach hy
    have := h5.1.le ha
    rcases withinF_way h1 g1 with h6 | h6
    · have := h5.2
      omega
    · exact h6
  | step g1 g2 g3 ih =>
    rename_i x y
    have hx := ih (mem_reachL.2 g1)
    have h5 := hs.reach hy
    have := h5.1.le ha
    rcases withinF_way (h2 _ hx) g2 with h6 | h6
    · have := h5.2
      omega
    · exact h6

/-- What is come to without meeting the join. -/
theorem meet_region (ha : F.ahead = true) {m : Nat} (hm : jn F rs a = m) {y : Int} (hy : y ∈ reachL F rs (F.ways rs a) m) : F.leaves rs y = false ∧ F.ways rs y ≠ [] ∧ y ≤ m ∧ y ≠ m := by
  have hs := (jn_strict hm).1
  have h5 := hs.reach hy
  have h6 := h5.1.strict h5.2
  exact ⟨h6.1, h6.2.1, h5.1.le ha, h5.2⟩
theorem reach_join {k x : Int} (h : Meets F rs k x) (hx : x ∈ reachL F rs [a] (-1)) : k ∈ reachL F rs [a] (-1) := by
  induction h with
  | here => exact hx
  | go g1 g2 g3 ih =>
    obtain ⟨w, hw⟩ := List.exists_mem_of_ne_nil _ g2
    refine ih w hw (reachL_way hx hw ?_)
    have := (Fn.place_iff.1 (Fn.ways_place hw)).1
    omega
theorem join_reached (hp : F.place a = true) {m : Nat} (hm : jn F rs a = m) : (m : Int) ∈ reachL F rs [a] (-1) := by
  refine reach_join (jn_strict hm).1.meets (reachL_from (by simp) hp ?_)
  have := (Fn.place_iff.1 hp).1
  omega

/-- A single way. -/
theorem one_way (ha : F.ahead = true) (hl : F.leaves rs a = false) {w : Int} (hw : F.ways rs a = [w]) : jn F rs a = w ∧ (made F rs a).pl = [] := by
  have hp : F.place w = true := Fn.ways_place (by rw [hw]; simp)
  have h1 : jn F rs a = w := by rw [jn_all hl (by rw [hw]; simp), hw, allM_one ha hp]
  refine ⟨h1, ?_⟩
  show reachL F rs (F.ways rs a) (jn F rs a) = []
  rw [h1, hw]
  refine List.eq_nil_iff_forall_not_mem.2 fun y hy => ?_
  have hr := mem_reachL.1 hy
  clear hy
  induction hr with
  | start g1 g2 g3 => exact g3 (by simpa using g1)
  | step _ _ _ ih => exact ih

/-- What is made holds. -/
theorem made_holds (hp : F.place a = true) : holdsF F rs a (jn F rs a) (made F rs a).pl = 0 := by
  have hj := jn_range F rs a
  refine holdsF_of hp ?_ (withinF_of fun w hw => ?_) (fun p hpp => withinF_of fun w hw => ?_) ?_
  · rcases hj with h | ⟨m, h, hm⟩
    · exact .inl h
    · exact .inr (by rw [h]; exact Fn.place_of_nat hm)
  · by_cases h : w = jn F rs a
    · exact .inl h
    · exact .inr (reachL_from hw (Fn.ways_place hw) h)
  · by_cases h : w = jn F rs a
    · exact .inl h
    · exact .inr (reachL_way hpp hw h)
  · rcases hj with h | ⟨m, h, hm⟩
    · exact .inl h
    · refine .inr ⟨(jn_strict h).1.1, fun p hpp => ?_⟩
      have hs := (jn_strict h).1
      rw [← h] at hs
      have h5 := hs.reach hpp
      exact (h5.1.strict h5.2).1
theorem made_ahead (ha : F.ahead = true) {y : Int} (hy : y ∈ (made F rs a).pl) : a < y ∧ y ≠ jn F rs a := by
  have hr := mem_reachL.1 (show y ∈ reachL F rs (F.ways rs a) (jn F rs a) from hy)
  clear hy
  induction hr with
  | start g1 g2 g3 => exact ⟨Fn.ways_ahead ha g1, g3⟩
  | step g1 g2 g3 ih =>
    have := Fn.ways_ahead ha g2
    exact ⟨by omega, g3⟩
theorem jn_ahead (ha : F.ahead = true) (h : jn F rs a ≠ -1) : a < jn F rs a := by
  rcases jn_range F rs a with h1 | ⟨m, h1, _⟩
  · exact absurd h1 h
  · rw [h1]
    exact (jn_strict h1).1.lt ha
end Go.Proofs.Ytnnhlnefhndpdaa
