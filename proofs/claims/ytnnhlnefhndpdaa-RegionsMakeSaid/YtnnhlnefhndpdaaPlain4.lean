/- What the reference's search keeps from round to round. -/
import Derived.Test.YtnnhlnefhndpdaaPlain3
namespace Go.Proofs.Ytnnhlnefhndpdaa

/-- Only what is come to is marked, and of the first k places to begin with each that counts. -/
structure Snd (F : Fn) (rs : List Bool) (from_ : List Int) (stop : Int) (seen : List Bool) (k : Nat) : Prop where
  len : seen.length = F.code.length
  ok : ∀ i : Nat, seen.getD i false = true → Rch F rs from_ stop i
  start : ∀ j, j < k → F.place (from_.getD j 0) = true → from_.getD j 0 ≠ stop → ∃ i : Nat, from_.getD j 0 = i ∧ seen.getD i false = true

theorem Snd.begin (F : Fn) (rs : List Bool) (from_ : List Int) (stop : Int) : Snd F rs from_ stop (List.replicate F.code.length false) 0 where
  len := by simp
  ok i h := by rw [getD_replicate] at h; cases h
  start j h := by omega

theorem Snd.pass {F : Fn} {rs : List Bool} {from_ : List Int} {stop : Int} {seen : List Bool} {k : Nat} (h : Snd F rs from_ stop seen k) (hx : F.place (from_.getD k 0) = false ∨ from_.getD k 0 = stop) : Snd F rs from_ stop seen (k + 1) where
  len := h.len
  ok := h.ok
  start j hj hp hs := by
    by_cases e : j = k
    · subst e
      rcases hx with hx | hx
      · rw [hp] at hx; cases hx
      · exact absurd hx hs
    · exact h.start j (by omega) hp hs

theorem Snd.put {F : Fn} {rs : List Bool} {from_ : List Int} {stop : Int} {seen : List Bool} {k p : Nat} (h : Snd F rs from_ stop seen k) (hk : k < from_.length) (hp : p < F.code.length) (he : from_.getD k 0 = p) (hs : (p : Int) ≠ stop) :
    Snd F rs from_ stop (seen.set p true) (k + 1) := by
  have hl : p < seen.length := by rw [h.len]; exact hp
  refine ⟨by simpa using h.len, fun i hi => ?_, fun j hj hpl hst => ?_⟩
  · rcases (getD_set hl).1 hi with rfl | hi
    · refine .start ?_ (Fn.place_of_nat hp) hs
      rw [← he, List.getD_eq_getElem?_getD, List.getElem?_eq_getElem hk]
      exact List.getElem_mem hk
    · exact h.ok i hi
  · by_cases e : j = k
    · subst e
      exact ⟨p, he, (getD_set hl).2 (.inl rfl)⟩
    · obtain ⟨i, h1, h2⟩ := h.start j (by omega) hpl hst
      exact ⟨i, h1, (getD_set hl).2 (.inr h2)⟩

/-- Closed as far as the pairs ahead of (at_, to) go. -/
def Clo (F : Fn) (rs : List Bool) (stop : Int) (seen : List Bool) (at_ to : Nat) : Prop :=
  ∀ i j : Nat, seen.getD i false = true → (i < at_ ∨ (i = at_ ∧ j < to)) → j < F.code.length → F.way rs i j = true → (j : Int) ≠ stop → seen.getD j false = true

/-- Where a pass stands: nothing new yet, and closed so far; or something new. -/
structure Pst (F : Fn) (rs : List Bool) (from_ : List Int) (stop : Int) (s0 : Nat) (m : Bool) (seen : List Bool) (at_ to : Nat) : Prop where
  snd : Snd F rs from_ stop seen from_.length
  st : (m = false ∧ unseen seen = s0 ∧ Clo F rs stop seen at_ to) ∨ (m = true ∧ unseen seen < s0)

section
variable {F : Fn} {rs : List Bool} {from_ : List Int} {stop : Int} {s0 : Nat} {m : Bool} {seen : List Bool} {at_ to : Nat}

theorem Pst.begin (h : Snd F rs from_ stop seen from_.length) : Pst F rs from_ stop (unseen seen) false seen 0 0 :=
  ⟨h, .inl ⟨rfl, rfl, fun i j _ h _ _ _ => by omega⟩⟩

theorem Pst.pass (h : Pst F rs from_ stop s0 m seen at_ to) (hx : F.way rs at_ to = true → (to : Int) ≠ stop → seen.getD to false = true) : Pst F rs from_ stop s0 m seen at_ (to + 1) := by
  refine ⟨h.snd, ?_⟩
  rcases h.st with ⟨h1, h2, h3⟩ | h1
  · refine .inl ⟨h1, h2, fun i j hi hij hj hw hs => ?_⟩
    by_cases e : i = at_ ∧ j = to
    · obtain ⟨rfl, rfl⟩ := e
      exact hx hw hs
    · exact h3 i j hi (by omega) hj hw hs
  · exact .inr h1

theorem Pst.put (h : Pst F rs from_ stop s0 m seen at_ to) (hi : seen.getD at_ false = true) (hto : to < F.code.length) (hn : seen.getD to false = false) (hw : F.way rs at_ to = true) (hs : (to : Int) ≠ stop) :
    Pst F rs from_ stop s0 true (seen.set to true) at_ (to + 1) := by
  have hl : to < seen.length := by rw [h.snd.len]; exact hto
  have hr := h.snd.ok at_ hi
  refine ⟨⟨by simpa using h.snd.len, fun i hi => ?_, fun j hj hp hst => ?_⟩, .inr ⟨rfl, ?_⟩⟩
  · rcases (getD_set hl).1 hi with rfl | hi
    · exact .step hr (Fn.mem_ways.2 ⟨hr.place, Fn.place_of_nat hto, hw⟩) hs
    · exact h.snd.ok i hi
  · obtain ⟨i, h1, h2⟩ := h.snd.start j hj hp hst
    exact ⟨i, h1, (getD_set hl).2 (.inr h2)⟩
  · have := unseen_set hl hn
    rcases h.st with ⟨_, h2, _⟩ | ⟨_, h2⟩ <;> omega

theorem Pst.next (h : Pst F rs from_ stop s0 m seen at_ to) (hx : to = F.code.length ∨ seen.getD at_ false = false) : Pst F rs from_ stop s0 m seen (at_ + 1) 0 := by
  refine ⟨h.snd, ?_⟩
  rcases h.st with ⟨h1, h2, h3⟩ | h1
  · refine .inl ⟨h1, h2, fun i j hi hij hj hw hs => ?_⟩
    by_cases e : i = at_
    · subst e
      rcases hx with rfl | hx
      · exact h3 i j hi (by omega) hj hw hs
      · rw [hi] at hx; cases hx
    · exact h3 i j hi (by omega) hj hw hs
  · exact .inr h1

theorem Pst.done (h : Pst F rs from_ stop s0 false seen F.code.length 0) : told seen F.code.length = reachL F rs from_ stop := by
  rcases h.st with ⟨_, _, h3⟩ | ⟨h1, _⟩
  · refine told_reach h.snd.len h.snd.ok (fun x hx hp hs => ?_) (fun i hi y hy hs => ?_)
    · obtain ⟨j, hj, rfl⟩ := List.getElem_of_mem hx
      have := h.snd.start j hj
      rw [List.getD_eq_getElem?_getD, List.getElem?_eq_getElem hj] at this
      exact this hp hs
    · obtain ⟨_, hp, hw⟩ := Fn.mem_ways.1 hy
      obtain ⟨j, rfl, hj⟩ := Fn.place_nat hp
      have hil : i < F.code.length := by
        obtain ⟨i', e, hi'⟩ := Fn.place_nat (h.snd.ok i hi).place
        omega
      exact ⟨j, rfl, h3 i j hi (.inl hil) hj hw hs⟩
  · cases h1
end
end Go.Proofs.Ytnnhlnefhndpdaa
