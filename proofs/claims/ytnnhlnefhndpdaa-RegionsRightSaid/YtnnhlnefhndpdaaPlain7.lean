/- The least join, and how it is reckoned from the end: the first place on two chains of joins. -/
import Derived.Test.YtnnhlnefhndpdaaPlain6
namespace Go.Proofs.Ytnnhlnefhndpdaa

open Classical in
/-- The least number below n that meets P; -1: there is none. -/
noncomputable def least (n : Nat) (P : Int → Prop) : Int :=
  match (List.range n).find? fun i : Nat => decide (P (i : Int)) with
  | some i => i
  | none => -1

theorem least_cases (n : Nat) (P : Int → Prop) : (least n P = -1 ∧ ∀ m : Nat, m < n → ¬P m) ∨ ∃ k : Nat, least n P = k ∧ k < n ∧ P k ∧ ∀ m : Nat, m < k → ¬P m := by
  unfold least
  cases h : (List.range n).find? fun i : Nat => @decide (P (i : Int)) (Classical.propDecidable _) with
  | none =>
    refine .inl ⟨rfl, fun m hm => ?_⟩
    have := List.find?_eq_none.1 h m (List.mem_range.2 hm)
    simpa using this
  | some k =>
    obtain ⟨h1, as, bs, h2, h3⟩ := List.find?_eq_some_iff_append.1 h
    have hk : k < n := by
      have : k ∈ List.range n := by rw [h2]; simp
      exact List.mem_range.1 this
    refine .inr ⟨k, rfl, hk, by simpa using h1, fun m hm => ?_⟩
    have hlen : as.length = k := by
      have e : (List.range n)[as.length]? = some k := by rw [h2]; simp
      have hl : as.length < n := by
        have : (List.range n).length = (as ++ k :: bs).length := by rw [h2]
        simp at this
        omega
      rw [List.getElem?_range hl] at e
      injection e
    have hmem : m ∈ as := by
      have e : as[m]? = some m := by
        have : (List.range n)[m]? = some m := List.getElem?_range (by omega)
        rw [h2, List.getElem?_append_left (by omega)] at this
        exact this
      exact List.mem_of_getElem? e
    have := h3 m hmem
    simpa using this

theorem least_eq {n k : Nat} {P : Int → Prop} (hk : k < n) (h : P k) (hm : ∀ m : Nat, m < k → ¬P m) : least n P = k := by
  rcases least_cases n P with ⟨_, h2⟩ | ⟨j, h1, _, h3, h4⟩
  · exact absurd h (h2 k hk)
  · rw [h1]
    rcases Nat.lt_trichotomy j k with h5 | h5 | h5
    · exact absurd h3 (hm j h5)
    · rw [h5]
    · exact absurd h (h4 k h5)
theorem least_none {n : Nat} {P : Int → Prop} (h : ∀ m : Nat, m < n → ¬P m) : least n P = -1 := by
  rcases least_cases n P with ⟨h1, _⟩ | ⟨j, _, h2, h3, _⟩
  · exact h1
  · exact absurd h3 (h j h2)
theorem least_congr {n : Nat} {P Q : Int → Prop} (h : ∀ m : Nat, m < n → (P m ↔ Q m)) : least n P = least n Q := by
  rcases least_cases n Q with ⟨h1, h2⟩ | ⟨j, h1, h2, h3, h4⟩
  · rw [h1]; exact least_none fun m hm hp => h2 m hm ((h m hm).1 hp)
  · rw [h1]; exact least_eq h2 ((h j h2).2 h3) fun m hm hp => h4 m hm ((h m (by omega)).1 hp)

variable {F : Fn} {rs : List Bool} {a b x : Int}

/-- A place's join. -/
noncomputable def jn (F : Fn) (rs : List Bool) (x : Int) : Int := least F.code.length fun j => Strict F rs j x
/-- The first place that is met from a and from b. -/
noncomputable def meetF (F : Fn) (rs : List Bool) (a b : Int) : Int := least F.code.length fun m => Meets F rs m a ∧ Meets F rs m b
/-- The first place that is met from all of a list. -/
noncomputable def allM (F : Fn) (rs : List Bool) (ws : List Int) : Int := least F.code.length fun m => ∀ w ∈ ws, Meets F rs m w

theorem jn_range (F : Fn) (rs : List Bool) (x : Int) : jn F rs x = -1 ∨ ∃ k : Nat, jn F rs x = k ∧ k < F.code.length := by
  rcases least_cases F.code.length fun j => Strict F rs j x with ⟨h, _⟩ | ⟨k, h, h2, _⟩
  · exact .inl h
  · exact .inr ⟨k, h, h2⟩
theorem meetF_range (F : Fn) (rs : List Bool) (a b : Int) : meetF F rs a b = -1 ∨ ∃ k : Nat, meetF F rs a b = k ∧ k < F.code.length := by
  rcases least_cases F.code.length fun m => Meets F rs m a ∧ Meets F rs m b with ⟨h, _⟩ | ⟨k, h, h2, _⟩
  · exact .inl h
  · exact .inr ⟨k, h, h2⟩

/-- A join that there is. -/
theorem jn_strict {k : Nat} (h : jn F rs x = k) : Strict F rs k x ∧ k < F.code.length ∧ ∀ m : Int, Strict F rs m x → (k : Int) ≤ m := by
  rcases least_cases F.code.length fun j => Strict F rs j x with ⟨h1, _⟩ | ⟨j, h1, h2, h3, h4⟩
  · unfold jn at h; omega
  · have e : j = k := by unfold jn at h; omega
    subst e
    refine ⟨h3, h2, fun m hm => ?_⟩
    have hp := Fn.place_iff.1 hm.place
    obtain ⟨q, rfl⟩ : ∃ q : Nat, m = q := ⟨m.toNat, by omega⟩
    rcases Nat.lt_or_ge q j with h5 | h5
    · exact absurd hm (h4 q h5)
    · omega
theorem jn_none (h : jn F rs x = -1) : ∀ m : Int, ¬Strict F rs m x := by
  rcases least_cases F.code.length fun j => Strict F rs j x with ⟨_, h2⟩ | ⟨j, h1, _⟩
  · intro m hm
    have hp := Fn.place_iff.1 hm.place
    obtain ⟨q, rfl⟩ : ∃ q : Nat, m = q := ⟨m.toNat, by omega⟩
    exact h2 q (by omega) hm
  · unfold jn at h; omega

theorem not_meets_neg {m : Nat} : ¬Meets F rs m (-1) := fun h => by
  rcases h.cases' with h | h
  · omega
  · exact h.2.1 (Fn.ways_out rs (by simp [Fn.place]))

theorem meetF_neg_left : meetF F rs (-1) b = -1 := least_none fun _ _ h => not_meets_neg h.1
theorem meetF_neg_right : meetF F rs a (-1) = -1 := least_none fun _ _ h => not_meets_neg h.2
theorem meetF_same (ha : F.ahead = true) {k : Nat} (hk : k < F.code.length) : meetF F rs k k = k :=
  least_eq hk ⟨.here, .here⟩ fun m hm h => by have := h.1.le ha; omega
theorem meetF_comm : meetF F rs a b = meetF F rs b a := least_congr fun _ _ => And.comm

theorem meets_jn (ha : F.ahead = true) {m : Nat} (h : Strict F rs m x) : Meets F rs m (jn F rs x) := by
  rcases jn_range F rs x with h1 | ⟨k, h1, _⟩
  · exact absurd h (jn_none h1 _)
  · rw [h1]
    have h2 := jn_strict h1
    exact h2.1.meets.chain ha h.meets (h2.2.2 _ h)
theorem jn_meets {m : Nat} (h : Meets F rs m (jn F rs x)) : Strict F rs m x := by
  rcases jn_range F rs x with h1 | ⟨k, h1, _⟩
  · rw [h1] at h; exact absurd h not_meets_neg
  · rw [h1] at h
    have h2 := (jn_strict h1).1
    exact ⟨h2.1, h2.2.1, fun w hw => (h2.2.2 w hw).trans h⟩

theorem meetF_left (ha : F.ahead = true) (hab : a < b) : meetF F rs a b = meetF F rs (jn F rs a) b := by
  refine least_congr fun m _ => ⟨fun ⟨h1, h2⟩ => ⟨?_, h2⟩, fun ⟨h1, h2⟩ => ⟨(jn_meets h1).meets, h2⟩⟩
  refine meets_jn ha (h1.strict ?_)
  have := h2.le ha
  omega
theorem meetF_right (ha : F.ahead = true) (hab : b < a) : meetF F rs a b = meetF F rs a (jn F rs b) := by
  rw [meetF_comm, meetF_left ha hab, meetF_comm]

theorem allM_one (ha : F.ahead = true) {w : Int} (hw : F.place w = true) : allM F rs [w] = w := by
  obtain ⟨k, rfl, hk⟩ := Fn.place_nat hw
  refine least_eq hk (fun u hu => by rw [List.mem_singleton] at hu; exact hu ▸ .here) fun m hm h => ?_
  have := (h _ (List.mem_singleton.2 rfl)).le ha
  omega
theorem allM_range (F : Fn) (rs : List Bool) (ws : List Int) : allM F rs ws = -1 ∨ ∃ k : Nat, allM F rs ws = k ∧ k < F.code.length := by
  rcases least_cases F.code.length fun m => ∀ w ∈ ws, Meets F rs m w with ⟨h, _⟩ | ⟨k, h, h2, _⟩
  · exact .inl h
  · exact .inr ⟨k, h, h2⟩
theorem allM_add (ha : F.ahead = true) {ws : List Int} {w : Int} (hne : ws ≠ []) : meetF F rs (allM F rs ws) w = allM F rs (ws ++ [w]) := by
  refine least_congr fun m hm => ?_
  have key : Meets F rs m (allM F rs ws) ↔ ∀ u ∈ ws, Meets F rs m u := by
    rcases least_cases F.code.length fun m => ∀ w ∈ ws, Meets F rs m w with ⟨h, h2⟩ | ⟨k, h, h2, h3, h4⟩
    · have e : allM F rs ws = -1 := h
      rw [e]
      exact ⟨fun h => absurd h not_meets_neg, fun h => absurd h (h2 m hm)⟩
    · have e : allM F rs ws = k := h
      rw [e]
      refine ⟨fun h u hu => (h3 u hu).trans h, fun h5 => ?_⟩
      obtain ⟨u, hu⟩ := List.exists_mem_of_ne_nil _ hne
      have hle : k ≤ m := by
        rcases Nat.lt_or_ge m k with h6 | h6
        · exact absurd h5 (h4 m h6)
        · exact h6
      exact (h3 u hu).chain ha (h5 u hu) (by omega)
  rw [key]
  refine ⟨fun ⟨h1, h2⟩ u hu => ?_, fun h => ⟨fun u hu => h u (List.mem_append.2 (.inl hu)), h w (List.mem_append.2 (.inr (List.mem_singleton.2 rfl)))⟩⟩
  rcases List.mem_append.1 hu with hu | hu
  · exact h1 u hu
  · rw [List.mem_singleton] at hu; exact hu ▸ h2

theorem jn_all (hl : F.leaves rs x = false) (hw : F.ways rs x ≠ []) : jn F rs x = allM F rs (F.ways rs x) :=
  least_congr fun _ _ => ⟨fun h => h.2.2, fun h => ⟨hl, hw, h⟩⟩
theorem jn_leaves (h : F.leaves rs x = true ∨ F.ways rs x = []) : jn F rs x = -1 :=
  least_none fun m _ hs => by
    rcases h with h | h
    · rw [hs.1] at h; cases h
    · exact hs.2.1 h
end Go.Proofs.Ytnnhlnefhndpdaa
