/- Sorted and without repeats: what Ways hands back is the list of the ways. -/
import Derived.Test.YtnnhlnefhndpdaaPlain
import Derived.Lib.SlicesCompact
namespace Go.Proofs.Ytnnhlnefhndpdaa

theorem getBang (l : List Int) (i : Nat) (h : i < l.length) : l.toArray[i]! = l[i] := by
  rw [getElem!_pos l.toArray i (by simpa using h)]
  simp

theorem compact_rising (l : List Int) (h : l.Pairwise (· ≤ ·)) : (Lib.compact l).Pairwise (· < ·) := by
  unfold Lib.compact Lib.compactUpTo
  rw [List.pairwise_map]
  refine List.Pairwise.imp_of_mem ?_ (List.pairwise_lt_range.filter _)
  intro i j hi hj hij
  rw [List.mem_filter, List.mem_range] at hi hj
  obtain ⟨hj1, hk⟩ := hj
  rw [getBang l i hi.1, getBang l j hj1]
  have h1 : j ≠ 0 := by omega
  have h2 : l.toArray[j]! ≠ l.toArray[j - 1]! := by simpa [Lib.keeps, h1] using hk
  rw [getBang l j hj1, getBang l (j - 1) (by omega)] at h2
  have h3 : l[j - 1] ≤ l[j] := List.pairwise_iff_getElem.1 h (j - 1) j (by omega) hj1 (by omega)
  have h4 : l[i] ≤ l[j - 1] := by
    by_cases e : i = j - 1
    · subst e; exact Int.le_refl _
    · exact List.pairwise_iff_getElem.1 h i (j - 1) hi.1 (by omega) (by omega)
  omega

theorem compact_mem (l : List Int) (x : Int) : x ∈ Lib.compact l ↔ x ∈ l := by
  unfold Lib.compact Lib.compactUpTo
  rw [List.mem_map]
  constructor
  · rintro ⟨i, hi, rfl⟩
    rw [List.mem_filter, List.mem_range] at hi
    rw [getBang l i hi.1]
    exact List.getElem_mem _
  · intro hx
    obtain ⟨i, hi, hix⟩ := List.getElem_of_mem hx
    have key : ∀ n, n < l.length → l.toArray[n]! = x → ∃ a, a ∈ List.filter (Lib.keeps l.toArray) (List.range l.length) ∧ l.toArray[a]! = x := by
      intro n
      induction n with
      | zero => intro hn hx; exact ⟨0, by rw [List.mem_filter, List.mem_range]; exact ⟨hn, by simp [Lib.keeps]⟩, hx⟩
      | succ n ih =>
        intro hn hx
        by_cases e : l.toArray[n]! = x
        · exact ih (by omega) e
        · refine ⟨n + 1, ?_, hx⟩
          rw [List.mem_filter, List.mem_range]
          refine ⟨hn, ?_⟩
          simp only [Lib.keeps]
          simp
          intro h
          apply e
          have h' : l.toArray[n + 1]! = l.toArray[n]! := by simpa using h
          rw [← h', hx]
    exact key i hi (by rw [getBang l i hi, hix])

/-- Two rising lists of the same numbers are one. -/
theorem rising_ext : ∀ {l m : List Int}, l.Pairwise (· < ·) → m.Pairwise (· < ·) → (∀ x, x ∈ l ↔ x ∈ m) → l = m
  | [], [], _, _, _ => rfl
  | [], b :: m, _, _, h => by have := (h b).2 (by simp); simp at this
  | a :: l, [], _, _, h => by have := (h a).1 (by simp); simp at this
  | a :: l, b :: m, hl, hm, h => by
    rw [List.pairwise_cons] at hl hm
    have hab : a = b := by
      have h1 := (h a).1 (by simp)
      have h2 := (h b).2 (by simp)
      rw [List.mem_cons] at h1 h2
      rcases h1 with h1 | h1
      · exact h1
      · rcases h2 with h2 | h2
        · exact h2.symm
        · have := hm.1 a h1; have := hl.1 b h2; omega
    subst hab
    congr 1
    refine rising_ext hl.2 hm.2 (fun x => ⟨fun hx => ?_, fun hx => ?_⟩)
    · have := (h x).1 (by simp [hx])
      rw [List.mem_cons] at this
      rcases this with e | e
      · have := hl.1 x hx; omega
      · exact e
    · have := (h x).2 (by simp [hx])
      rw [List.mem_cons] at this
      rcases this with e | e
      · have := hm.1 x hx; omega
      · exact e

theorem srt_sorted (l : List Int) : (l.mergeSort fun x y => decide (x ≤ y)).Pairwise (· ≤ ·) := by
  have := List.pairwise_mergeSort (le := fun x y : Int => decide (x ≤ y)) (by intro a b c; simp; omega) (by intro a b; simp; omega) l
  simpa using this

theorem Fn.ways_rising (F : Fn) (rs : List Bool) (a : Int) : (F.ways rs a).Pairwise (· < ·) := by
  unfold Fn.ways
  split
  · refine List.Pairwise.filter _ ?_
    rw [List.pairwise_map]
    exact List.pairwise_lt_range.imp (fun h => by simpa using h)
  · exact List.Pairwise.nil

theorem Fn.mem_ways {F : Fn} {rs : List Bool} {a x : Int} : x ∈ F.ways rs a ↔ F.place a = true ∧ F.place x = true ∧ F.way rs a x = true := by
  unfold Fn.ways
  split
  · rename_i h
    rw [List.mem_filter, List.mem_map]
    constructor
    · rintro ⟨⟨k, hk, rfl⟩, hw⟩
      rw [List.mem_range] at hk
      exact ⟨by simp [Fn.place, h.1, h.2], Fn.place_of_nat hk, hw⟩
    · rintro ⟨_, hx, hw⟩
      obtain ⟨k, rfl, hk⟩ := Fn.place_nat hx
      exact ⟨⟨k, List.mem_range.2 hk, rfl⟩, hw⟩
  · rename_i h
    constructor
    · intro h'; simp at h'
    · rintro ⟨hp, _⟩
      exfalso; apply h
      simpa [Fn.place] using hp

theorem Fn.mem_add {F : Fn} {l : List Int} {n x : Int} : x ∈ F.add l n ↔ x ∈ l ∨ (x = n ∧ F.place x = true) := by
  unfold Fn.add
  by_cases h : F.place n = true
  · rw [if_pos h, List.mem_append, List.mem_singleton]
    constructor
    · rintro (h1 | rfl)
      · exact .inl h1
      · exact .inr ⟨rfl, h⟩
    · rintro (h1 | ⟨rfl, _⟩)
      · exact .inl h1
      · exact .inr rfl
  · rw [if_neg h]
    constructor
    · exact .inl
    · rintro (h1 | ⟨rfl, h2⟩)
      · exact h1
      · exact absurd h2 h

theorem Fn.mem_raw {F : Fn} {rs : List Bool} {a x : Int} : x ∈ F.raw rs a ↔ F.place x = true ∧ F.way rs a x = true := by
  have h1 : x ∈ F.raw1 a ↔ (F.place x = true ∧ (x == a + 1 && F.op a != 24 && F.op a != 26 && F.op a != 27 && F.op a != 0) = true) := by
    unfold Fn.raw1
    by_cases h : (F.op a == 0 || F.op a == 24 || F.op a == 26 || F.op a == 27) = true
    · rw [if_pos h]
      constructor
      · intro h'; simp at h'
      · rintro ⟨_, h'⟩
        simp only [Bool.or_eq_true, beq_iff_eq, Bool.and_eq_true, bne_iff_ne] at h h'
        omega
    · rw [if_neg h, Fn.mem_add]
      simp only [Bool.or_eq_true, beq_iff_eq, Bool.and_eq_true, bne_iff_ne, not_or, List.not_mem_nil, false_or] at h ⊢
      constructor
      · rintro ⟨h1, h2⟩; exact ⟨h2, by omega⟩
      · rintro ⟨h1, h2⟩; exact ⟨by omega, h1⟩
  have h2 : x ∈ F.raw2 a ↔ (F.place x = true ∧ ((x == a + 1 && F.op a != 24 && F.op a != 26 && F.op a != 27 && F.op a != 0) || ((F.op a == 24 || F.op a == 25) && F.arg a == x)) = true) := by
    unfold Fn.raw2
    by_cases h : (F.op a == 24 || F.op a == 25) = true
    · rw [if_pos h, Fn.mem_add, h1, h]
      simp only [Bool.or_eq_true, Bool.true_and, beq_iff_eq]
      constructor
      · rintro (⟨hp, hw⟩ | ⟨rfl, hp⟩)
        · exact ⟨hp, .inl hw⟩
        · exact ⟨hp, .inr rfl⟩
      · rintro ⟨hp, hw | hw⟩
        · exact .inl ⟨hp, hw⟩
        · exact .inr ⟨hw.symm, hp⟩
    · rw [if_neg h, h1]
      have h : (F.op a == 24 || F.op a == 25) = false := by simpa using h
      rw [h]
      simp
  unfold Fn.raw Fn.way
  by_cases h : F.raises rs a = true
  · rw [if_pos h, Fn.mem_add, h2, h]
    simp only [Bool.or_eq_true, Bool.true_and, beq_iff_eq]
    constructor
    · rintro (⟨hp, hw⟩ | ⟨rfl, hp⟩)
      · exact ⟨hp, .inl hw⟩
      · exact ⟨hp, .inr rfl⟩
    · rintro ⟨hp, hw | hw⟩
      · exact .inl ⟨hp, hw⟩
      · exact .inr ⟨hw.symm, hp⟩
  · rw [if_neg h, h2]
    have h : F.raises rs a = false := by simpa using h
    rw [h]
    simp

theorem Fn.ways_eq (F : Fn) (rs : List Bool) (a : Int) : Lib.compact ((F.raw rs a).mergeSort fun x y => decide (x ≤ y)) = F.ways rs a := by
  refine rising_ext (compact_rising _ (srt_sorted _)) (F.ways_rising rs a) (fun x => ?_)
  rw [compact_mem, List.mem_mergeSort, Fn.mem_ways]
  by_cases ha : F.place a = true
  · rw [Fn.mem_raw]
    exact ⟨fun h => ⟨ha, h⟩, fun h => h.2⟩
  · have ha : F.place a = false := by simpa using ha
    have : F.raw rs a = [] := by simp [Fn.raw, Fn.raw2, Fn.raw1, Fn.op_out ha, Fn.raises_out rs ha]
    rw [this, ha]
    simp
end Go.Proofs.Ytnnhlnefhndpdaa
