/- What is come to: the word, and what each step of the two searches keeps. -/
import Derived.Test.YtnnhlnefhndpdaaPlain2
import Derived.Lib.RowBridge
namespace Go.Proofs.Ytnnhlnefhndpdaa

/-- A place is come to from some of a list by ways, never through the stop. -/
inductive Rch (F : Fn) (rs : List Bool) (from_ : List Int) (stop : Int) : Int → Prop
  | start {x : Int} : x ∈ from_ → F.place x = true → x ≠ stop → Rch F rs from_ stop x
  | step {x y : Int} : Rch F rs from_ stop x → y ∈ F.ways rs x → y ≠ stop → Rch F rs from_ stop y

theorem Fn.ways_length (F : Fn) (rs : List Bool) (a : Int) : (F.ways rs a).length ≤ 3 := by
  rw [← Fn.ways_eq]
  refine Nat.le_trans (Lib.compact_length_le _) ?_
  rw [List.length_mergeSort]
  have h1 : (F.raw1 a).length ≤ 1 := by
    unfold Fn.raw1
    split
    · simp
    · exact F.add_length [] _
  have h2 : (F.raw2 a).length ≤ 2 := by
    unfold Fn.raw2
    split
    · have := F.add_length (F.raw1 a) (F.arg a); omega
    · omega
  unfold Fn.raw
  split
  · have := F.add_length (F.raw2 a) (F.handler a); omega
  · omega

theorem Fn.ways_place {F : Fn} {rs : List Bool} {a x : Int} (h : x ∈ F.ways rs a) : F.place x = true := (Fn.mem_ways.1 h).2.1

theorem Rch.place {F : Fn} {rs : List Bool} {from_ : List Int} {stop x : Int} (h : Rch F rs from_ stop x) : F.place x = true := by
  cases h with
  | start _ h _ => exact h
  | step _ h _ => exact Fn.ways_place h
theorem Rch.ne {F : Fn} {rs : List Bool} {from_ : List Int} {stop x : Int} (h : Rch F rs from_ stop x) : x ≠ stop := by
  cases h with
  | start _ _ h => exact h
  | step _ _ h => exact h

/-- The places of a list of truths. -/
def told (l : List Bool) (k : Nat) : List Int := ((List.range k).filter fun i => l.getD i false).map Int.ofNat
theorem told_zero (l : List Bool) : told l 0 = [] := rfl
theorem told_yes {l : List Bool} {k : Nat} (h : l.getD k false = true) : told l (k + 1) = told l k ++ [(k : Int)] := by
  unfold told
  rw [List.range_succ, List.filter_append, List.filter_cons, if_pos h, List.map_append]
  rfl
theorem told_no {l : List Bool} {k : Nat} (h : l.getD k false = false) : told l (k + 1) = told l k := by
  unfold told
  rw [List.range_succ, List.filter_append, List.filter_cons, if_neg (by rw [h]; decide), List.filter_nil, List.append_nil]
theorem told_length (l : List Bool) (k : Nat) : (told l k).length ≤ k := by
  unfold told
  rw [List.length_map]
  exact Nat.le_trans (List.length_filter_le _ _) (by simp)
theorem told_rising (l : List Bool) (k : Nat) : (told l k).Pairwise (· < ·) := by
  unfold told
  rw [List.pairwise_map]
  exact (List.pairwise_lt_range.filter _).imp (fun h => by simpa using h)
theorem mem_told {l : List Bool} {k : Nat} {x : Int} : x ∈ told l k ↔ ∃ i, i < k ∧ l.getD i false = true ∧ x = i := by
  unfold told
  rw [List.mem_map]
  constructor
  · rintro ⟨i, hi, rfl⟩
    rw [List.mem_filter, List.mem_range] at hi
    exact ⟨i, hi.1, hi.2, rfl⟩
  · rintro ⟨i, h1, h2, rfl⟩
    exact ⟨i, by rw [List.mem_filter, List.mem_range]; exact ⟨h1, h2⟩, rfl⟩

open Classical in
/-- All places that are come to, rising. -/
noncomputable def reachL (F : Fn) (rs : List Bool) (from_ : List Int) (stop : Int) : List Int :=
  told ((List.range F.code.length).map fun i : Nat => decide (Rch F rs from_ stop (i : Int))) F.code.length

theorem reachL_rising (F : Fn) (rs : List Bool) (from_ : List Int) (stop : Int) : (reachL F rs from_ stop).Pairwise (· < ·) := told_rising _ _
theorem reachL_length (F : Fn) (rs : List Bool) (from_ : List Int) (stop : Int) : (reachL F rs from_ stop).length ≤ F.code.length := told_length _ _
theorem mem_reachL {F : Fn} {rs : List Bool} {from_ : List Int} {stop x : Int} : x ∈ reachL F rs from_ stop ↔ Rch F rs from_ stop x := by
  unfold reachL
  rw [mem_told]
  constructor
  · rintro ⟨i, hi, h, rfl⟩
    simpa [List.getD_eq_getElem?_getD, hi] using h
  · intro h
    obtain ⟨k, rfl, hk⟩ := Fn.place_nat h.place
    exact ⟨k, hk, by simpa [List.getD_eq_getElem?_getD, hk] using h, rfl⟩

/-- What the search with a list of what is to do keeps from round to round. -/
structure Inv (F : Fn) (rs : List Bool) (from_ : List Int) (stop : Int) (seen : List Bool) (todo : List Int) : Prop where
  len : seen.length = F.code.length
  seen_ok : ∀ i : Nat, seen.getD i false = true → Rch F rs from_ stop i
  todo_ok : ∀ t ∈ todo, F.place t = true → t ≠ stop → Rch F rs from_ stop t
  from_in : ∀ x ∈ from_, F.place x = true → x ≠ stop → (∃ i : Nat, x = i ∧ seen.getD i false = true) ∨ x ∈ todo
  ways_in : ∀ i : Nat, seen.getD i false = true → ∀ y ∈ F.ways rs i, y ≠ stop → (∃ j : Nat, y = j ∧ seen.getD j false = true) ∨ y ∈ todo

theorem getD_replicate (n i : Nat) : (List.replicate n false).getD i false = false := by
  rw [List.getD_eq_getElem?_getD, List.getElem?_replicate]
  split <;> rfl

theorem Inv.begin (F : Fn) (rs : List Bool) (from_ : List Int) (stop : Int) : Inv F rs from_ stop (List.replicate F.code.length false) from_ where
  len := by simp
  seen_ok i h := by rw [getD_replicate] at h; cases h
  todo_ok t h hp hs := .start h hp hs
  from_in x h _ _ := .inr h
  ways_in i h := by rw [getD_replicate] at h; cases h

theorem Inv.skip {F : Fn} {rs : List Bool} {from_ : List Int} {stop x : Int} {seen : List Bool} {todo : List Int} (h : Inv F rs from_ stop seen (todo ++ [x]))
    (hx : x = stop ∨ F.place x = false ∨ ∃ i : Nat, x = i ∧ seen.getD i false = true) : Inv F rs from_ stop seen todo where
  len := h.len
  seen_ok := h.seen_ok
  todo_ok t ht := h.todo_ok t (by simp [ht])
  from_in y hy hp hs := by
    rcases h.from_in y hy hp hs with h1 | h1
    · exact .inl h1
    · rw [List.mem_append, List.mem_singleton] at h1
      rcases h1 with h1 | rfl
      · exact .inr h1
      · rcases hx with e | e | e
        · exact absurd e hs
        · rw [hp] at e; cases e
        · exact .inl e
  ways_in i hi y hy hs := by
    rcases h.ways_in i hi y hy hs with h1 | h1
    · exact .inl h1
    · rw [List.mem_append, List.mem_singleton] at h1
      rcases h1 with h1 | rfl
      · exact .inr h1
      · rcases hx with e | e | e
        · exact absurd e hs
        · rw [Fn.ways_place hy] at e; cases e
        · exact .inl e

theorem getD_set {l : List Bool} {k i : Nat} (hk : k < l.length) : (l.set k true).getD i false = true ↔ i = k ∨ l.getD i false = true := by
  rw [List.getD_eq_getElem?_getD, List.getElem?_set]
  by_cases e : k = i
  · subst e
    simp [hk]
  · rw [if_neg e, List.getD_eq_getElem?_getD]
    constructor
    · exact .inr
    · rintro (h | h)
      · exact absurd h.symm e
      · exact h

theorem Inv.mark {F : Fn} {rs : List Bool} {from_ : List Int} {stop : Int} {k : Nat} {seen : List Bool} {todo : List Int} (h : Inv F rs from_ stop seen (todo ++ [(k : Int)])) (hs : (k : Int) ≠ stop) (hk : k < F.code.length) :
    Inv F rs from_ stop (seen.set k true) (todo ++ F.ways rs k) := by
  have hl : k < seen.length := by rw [h.len]; exact hk
  have hr : Rch F rs from_ stop k := h.todo_ok k (by simp) (Fn.place_of_nat hk) hs
  refine ⟨by simpa using h.len, fun i hi => ?_, fun t ht hp hst => ?_, fun x hx hp hst => ?_, fun i hi y hy hst => ?_⟩
  · rcases (getD_set hl).1 hi with rfl | hi
    · exact hr
    · exact h.seen_ok i hi
  · rw [List.mem_append] at ht
    rcases ht with ht | ht
    · exact h.todo_ok t (by simp [ht]) hp hst
    · exact .step hr ht hst
  · rcases h.from_in x hx hp hst with ⟨i, rfl, hi⟩ | hi
    · exact .inl ⟨i, rfl, (getD_set hl).2 (.inr hi)⟩
    · rw [List.mem_append, List.mem_singleton] at hi
      rcases hi with hi | rfl
      · exact .inr (by simp [hi])
      · exact .inl ⟨k, rfl, (getD_set hl).2 (.inl rfl)⟩
  · rcases (getD_set hl).1 hi with rfl | hi
    · exact .inr (by simp [hy])
    · rcases h.ways_in i hi y hy hst with ⟨j, rfl, hj⟩ | hj
      · exact .inl ⟨j, rfl, (getD_set hl).2 (.inr hj)⟩
      · rw [List.mem_append, List.mem_singleton] at hj
        rcases hj with hj | rfl
        · exact .inr (by simp [hj])
        · exact .inl ⟨k, rfl, (getD_set hl).2 (.inl rfl)⟩

/-- A list of truths that is closed, holds what it began with and only what is come to, is all that is come to. -/
theorem told_reach {F : Fn} {rs : List Bool} {from_ : List Int} {stop : Int} {seen : List Bool} (hlen : seen.length = F.code.length) (h1 : ∀ i : Nat, seen.getD i false = true → Rch F rs from_ stop i)
    (h2 : ∀ x ∈ from_, F.place x = true → x ≠ stop → ∃ i : Nat, x = i ∧ seen.getD i false = true) (h3 : ∀ i : Nat, seen.getD i false = true → ∀ y ∈ F.ways rs i, y ≠ stop → ∃ j : Nat, y = j ∧ seen.getD j false = true) :
    told seen F.code.length = reachL F rs from_ stop := by
  refine rising_ext (told_rising _ _) (reachL_rising _ _ _ _) (fun x => ?_)
  rw [mem_told, mem_reachL]
  constructor
  · rintro ⟨i, _, hi, rfl⟩
    exact h1 i hi
  · intro h
    have : ∃ i : Nat, x = i ∧ seen.getD i false = true := by
      induction h with
      | start hx hp hs => exact h2 _ hx hp hs
      | step _ hy hs ih =>
        obtain ⟨i, rfl, hi⟩ := ih
        exact h3 i hi _ hy hs
    obtain ⟨i, rfl, hi⟩ := this
    refine ⟨i, ?_, hi, rfl⟩
    rw [← hlen]
    rcases Nat.lt_or_ge i seen.length with h | h
    · exact h
    · rw [List.getD_eq_getElem?_getD, List.getElem?_eq_none h] at hi
      cases hi

theorem Inv.done {F : Fn} {rs : List Bool} {from_ : List Int} {stop : Int} {seen : List Bool} (h : Inv F rs from_ stop seen []) : told seen F.code.length = reachL F rs from_ stop := by
  refine told_reach h.len h.seen_ok (fun x hx hp hs => ?_) (fun i hi y hy hs => ?_)
  · rcases h.from_in x hx hp hs with h1 | h1
    · exact h1
    · simp at h1
  · rcases h.ways_in i hi y hy hs with h1 | h1
    · exact h1
    · simp at h1

/-- How many are not yet marked. -/
def unseen (l : List Bool) : Nat := (l.filter fun b => !b).length
theorem unseen_set {l : List Bool} {k : Nat} (hk : k < l.length) (h : l.getD k false = false) : unseen (l.set k true) + 1 = unseen l := by
  unfold unseen
  induction l generalizing k with
  | nil => simp at hk
  | cons b r ih =>
    cases k with
    | zero =>
      have hb : b = false := by simpa using h
      subst hb
      simp
    | succ k =>
      have := ih (k := k) (by simpa using hk) (by simpa using h)
      cases b <;> simp at this ⊢ <;> omega
theorem unseen_replicate (n : Nat) : unseen (List.replicate n false) = n := by simp [unseen]
/-- The ways among the first k places. -/
def waysTo (F : Fn) (rs : List Bool) (a : Int) (k : Nat) : List Int := ((List.range k).map Int.ofNat).filter fun to => F.way rs a to
theorem waysTo_yes {F : Fn} {rs : List Bool} {a : Int} {k : Nat} (h : F.way rs a k = true) : waysTo F rs a (k + 1) = waysTo F rs a k ++ [(k : Int)] := by
  unfold waysTo
  rw [List.range_succ, List.map_append, List.filter_append]
  congr 1
  show List.filter _ [(k : Int)] = _
  rw [List.filter_cons, if_pos h]
  rfl
theorem waysTo_no {F : Fn} {rs : List Bool} {a : Int} {k : Nat} (h : F.way rs a k = false) : waysTo F rs a (k + 1) = waysTo F rs a k := by
  unfold waysTo
  rw [List.range_succ, List.map_append, List.filter_append]
  have : List.filter (fun to => F.way rs a to) (List.map Int.ofNat [k]) = [] := by
    show List.filter _ [(k : Int)] = _
    rw [List.filter_cons, if_neg (by rw [h]; decide)]
    rfl
  rw [this, List.append_nil]
theorem waysTo_length (F : Fn) (rs : List Bool) (a : Int) (k : Nat) : (waysTo F rs a k).length ≤ k := by
  unfold waysTo
  exact Nat.le_trans (List.length_filter_le _ _) (by simp)
theorem waysTo_all {F : Fn} {rs : List Bool} {a : Int} (h : F.place a = true) : waysTo F rs a F.code.length = F.ways rs a := by
  unfold waysTo Fn.ways
  rw [if_pos (by simpa [Fn.place] using h)]

end Go.Proofs.Ytnnhlnefhndpdaa
