/- What the laws of layer 15 ask of what is come to, in plain words: it is closed by ways, it holds what it began with, it grows with what it begins with. -/
import Derived.Test.YtnnhlnefhndpdaaPlain3
namespace Go.Proofs.Ytnnhlnefhndpdaa
variable {F : Fn} {rs : List Bool} {from_ : List Int} {stop x y : Int}

theorem Fn.place_iff {z : Int} : F.place z = true ↔ 0 ≤ z ∧ z < F.code.length := by simp [Fn.place]

theorem reachL_from (h : x ∈ from_) (hp : F.place x = true) (hs : x ≠ stop) : x ∈ reachL F rs from_ stop := mem_reachL.2 (.start h hp hs)
theorem reachL_way (h : x ∈ reachL F rs from_ stop) (hw : y ∈ F.ways rs x) (hs : y ≠ stop) : y ∈ reachL F rs from_ stop := mem_reachL.2 (.step (mem_reachL.1 h) hw hs)
theorem reachL_ne (h : x ∈ reachL F rs from_ stop) : x ≠ stop := (mem_reachL.1 h).ne
theorem reachL_place (h : x ∈ reachL F rs from_ stop) : F.place x = true := (mem_reachL.1 h).place
theorem reachL_come (h : x ∈ reachL F rs from_ stop) : x ∈ from_ ∨ ∃ y ∈ reachL F rs from_ stop, x ∈ F.ways rs y := by
  cases mem_reachL.1 h with
  | start h1 _ _ => exact .inl h1
  | step h1 h2 _ => exact .inr ⟨_, mem_reachL.2 h1, h2⟩

theorem getD_mem {l : List Int} {i : Nat} (h : i < l.length) : l.getD i 0 ∈ l := by
  rw [List.getD_eq_getElem?_getD, List.getElem?_eq_getElem h]; exact List.getElem_mem h

theorem rising_lt {l : List Int} (h : l.Pairwise (· < ·)) {i j : Nat} (hij : i < j) (hj : j < l.length) : l.getD i 0 < l.getD j 0 := by
  rw [List.getD_eq_getElem?_getD, List.getD_eq_getElem?_getD, List.getElem?_eq_getElem (by omega), List.getElem?_eq_getElem hj]
  exact List.pairwise_iff_getElem.1 h i j (by omega) hj hij

/-- What has been found by the k-th place. -/
def come (F : Fn) (rs : List Bool) (from_ l : List Int) (z : Int) (k : Nat) : Bool := decide (z ∈ from_) || (l.take k).any fun y => decide (z ∈ F.ways rs y)
theorem come_zero {l : List Int} {z : Int} : come F rs from_ l z 0 = decide (z ∈ from_) := by simp [come]
theorem come_succ {l : List Int} {z : Int} {k : Nat} (h : k < l.length) : come F rs from_ l z (k + 1) = (come F rs from_ l z k || decide (z ∈ F.ways rs (l.getD k 0))) := by
  unfold come
  rw [List.take_add_one, List.getElem?_eq_getElem h, List.any_append, ← Bool.or_assoc]
  simp [List.getD_eq_getElem?_getD, List.getElem?_eq_getElem h]
theorem come_all {z : Int} (h : z ∈ reachL F rs from_ stop) : come F rs from_ (reachL F rs from_ stop) z (reachL F rs from_ stop).length = true := by
  unfold come
  rw [List.take_length]
  rcases reachL_come h with h1 | ⟨y, hy, hw⟩
  · simp [h1]
  · simp only [Bool.or_eq_true, List.any_eq_true, decide_eq_true_eq]
    exact .inr ⟨y, hy, hw⟩

theorem reachL_mono {more : List Int} (hm : ∀ z ∈ from_, z ∈ more) (h : x ∈ reachL F rs from_ stop) : x ∈ reachL F rs more stop := by
  refine mem_reachL.2 ?_
  replace h := mem_reachL.1 h
  induction h with
  | start h1 h2 h3 => exact .start (hm _ h1) h2 h3
  | step _ h2 h3 ih => exact .step ih h2 h3

theorem reachL_free (h : x ∈ reachL F rs from_ stop) : x ∈ reachL F rs from_ (-1) := by
  refine mem_reachL.2 ?_
  replace h := mem_reachL.1 h
  have hne : ∀ z, F.place z = true → z ≠ -1 := fun z hz => by have := Fn.place_iff.1 hz; omega
  induction h with
  | start h1 h2 h3 => exact .start h1 h2 (hne _ h2)
  | step _ h2 h3 ih => exact .step ih h2 (hne _ (Fn.ways_place h2))

/-- Where the stop isn't come to, it stops nothing. -/
theorem reachL_nostop (h : stop ∉ reachL F rs from_ (-1)) : reachL F rs from_ stop = reachL F rs from_ (-1) := by
  refine rising_ext (reachL_rising _ _ _ _) (reachL_rising _ _ _ _) fun x => ⟨reachL_free, fun hx => mem_reachL.2 ?_⟩
  replace hx := mem_reachL.1 hx
  induction hx with
  | start h1 h2 h3 => exact .start h1 h2 (fun e => h (mem_reachL.2 (e ▸ .start h1 h2 h3)))
  | step h1 h2 h3 ih => exact .step ih h2 (fun e => h (mem_reachL.2 (e ▸ .step h1 h2 h3)))

theorem reachL_union {other : List Int} : x ∈ reachL F rs (from_ ++ other) stop ↔ x ∈ reachL F rs from_ stop ∨ x ∈ reachL F rs other stop := by
  refine ⟨fun h => ?_, fun h => ?_⟩
  · replace h := mem_reachL.1 h
    induction h with
    | start h1 h2 h3 =>
      rcases List.mem_append.1 h1 with h1 | h1
      · exact .inl (mem_reachL.2 (.start h1 h2 h3))
      · exact .inr (mem_reachL.2 (.start h1 h2 h3))
    | step h1 h2 h3 ih =>
      rcases ih with ih | ih
      · exact .inl (reachL_way ih h2 h3)
      · exact .inr (reachL_way ih h2 h3)
  · rcases h with h | h
    · exact reachL_mono (fun z hz => List.mem_append.2 (.inl hz)) h
    · exact reachL_mono (fun z hz => List.mem_append.2 (.inr hz)) h

theorem rising_length_le : ∀ {c a : List Int}, c.Pairwise (· < ·) → (∀ x ∈ c, x ∈ a) → c.length ≤ a.length
  | [], _, _, _ => Nat.zero_le _
  | x :: c, a, hc, h => by
    have hx : x ∈ a := h x (List.mem_cons_self ..)
    have h1 : c.length ≤ (a.erase x).length := by
      refine rising_length_le (List.pairwise_cons.1 hc).2 fun y hy => ?_
      have hne : y ≠ x := by have := (List.pairwise_cons.1 hc).1 y hy; omega
      exact (List.mem_erase_of_ne hne).2 (h y (List.mem_cons_of_mem _ hy))
    have h2 := List.length_erase_of_mem hx
    have h3 : 0 < a.length := List.length_pos_of_mem hx
    simp only [List.length_cons]
    omega

theorem reachL_union_length {other : List Int} : (reachL F rs (from_ ++ other) stop).length ≤ (reachL F rs from_ stop).length + (reachL F rs other stop).length := by
  rw [← List.length_append]
  exact rising_length_le (reachL_rising _ _ _ _) fun x hx => List.mem_append.2 (reachL_union.1 hx)
end Go.Proofs.Ytnnhlnefhndpdaa
