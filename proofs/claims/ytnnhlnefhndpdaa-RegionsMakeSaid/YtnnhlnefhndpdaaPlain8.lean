/- What regions' functions give, in plain words. -/
import Derived.Test.YtnnhlnefhndpdaaPlain7
namespace Go.Proofs.Ytnnhlnefhndpdaa

/-- A region: its place, its join, its places. -/
structure Rg where
  at_ : Int
  join : Int
  pl : List Int

def Rg.zero : Rg := ⟨0, 0, []⟩

/-- What Join gives. -/
noncomputable def joinF (F : Fn) (rs : List Bool) (a : Int) : Int := if (F.place a && F.ahead) = true then jn F rs a else -1
/-- What Of gives. -/
noncomputable def made (F : Fn) (rs : List Bool) (a : Int) : Rg := ⟨a, jn F rs a, reachL F rs (F.ways rs a) (jn F rs a)⟩
noncomputable def ofF (F : Fn) (rs : List Bool) (a : Int) : Rg := if (F.place a && F.ahead) = true then made F rs a else .zero

theorem joinF_yes {F : Fn} {rs : List Bool} {a : Int} (h1 : F.place a = true) (h2 : F.ahead = true) : joinF F rs a = jn F rs a := by
  unfold joinF
  rw [h1, h2]
  rfl
theorem joinF_no {F : Fn} {rs : List Bool} {a : Int} (h : F.place a = false ∨ F.ahead = false) : joinF F rs a = -1 := by
  unfold joinF
  rcases h with h | h
  · rw [h]; rfl
  · rw [h, Bool.and_false]; rfl
theorem ofF_yes {F : Fn} {rs : List Bool} {a : Int} (h1 : F.place a = true) (h2 : F.ahead = true) : ofF F rs a = made F rs a := by
  unfold ofF
  rw [h1, h2]
  rfl
theorem ofF_no {F : Fn} {rs : List Bool} {a : Int} (h : F.place a = false ∨ F.ahead = false) : ofF F rs a = .zero := by
  unfold ofF
  rcases h with h | h
  · rw [h]; rfl
  · rw [h, Bool.and_false]; rfl

/-- Do all ways from a place lead into a list, or to a join? -/
def withinF (F : Fn) (rs : List Bool) (j : Int) (pl : List Int) (a : Int) : Bool := !((F.ways rs a).any fun w => w != j && !decide (w ∈ pl))
/-- What Holds gives. -/
def holdsF (F : Fn) (rs : List Bool) (a j : Int) (pl : List Int) : Int :=
  if F.ahead = false then 0
  else if (F.place a && (j == -1 || F.place j)) = false then -1
  else if withinF F rs j pl a = false then 1
  else if (pl.any fun p => !withinF F rs j pl p) = true then 2
  else if (j != -1 && (F.leaves rs a || pl.any fun p => F.leaves rs p)) = true then 3
  else 0
end Go.Proofs.Ytnnhlnefhndpdaa
