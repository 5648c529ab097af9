/- The walk of layer 15's awake: the small example answers. -/
import Derived.Test.YtnnhlnefhndpdaaBox2
import Derived.Test.YtnnhlnefhndpdaaWalkG
namespace Go.Proofs.Ytnnhlnefhndpdaa
open Go.RowKit

def ins15 : Array Value := #[.int .i64 25, .int .i64 1, .int .i64 0, .int .i64 0, .slice none 0 0, .int .i64 0, .int .i64 0, .int .i64 27, .int .i64 0, .int .i64 0, .int .i64 0, .slice none 0 0, .int .i64 0, .int .i64 0]

theorem fn15 {w : World} {B : Nat} (h : Bk w B 54 ins15) : FnAt w (FX.lit (some ⟨B, 0, none⟩) 2) F15 := by
  refine ⟨.inr ⟨B, 0, rfl, h.lt, fun i o a hi => ?_⟩, .inl rfl⟩
  match i, hi with
  | 0, hi =>
    cases hi
    exact ⟨_, _, _, _, _, h.cell 0, h.cell 1, h.cell 2, h.cell 3, h.cell 4, h.cell 5, h.cell 6⟩
  | 1, hi =>
    cases hi
    exact ⟨_, _, _, _, _, h.cell 7, h.cell 8, h.cell 9, h.cell 10, h.cell 11, h.cell 12, h.cell 13⟩
  | i + 2, hi => simp [F15] at hi

theorem ways15 {w : World} {B : Nat} (h : Bk w B 54 ins15) : Calls Try.prog 19 #[(FX.lit (some ⟨B, 0, none⟩) 2).val F15, .slice none 0 0, .int .i64 0] w fun e w' => ∃ g c, e = .returned (.slice (some ⟨g, 0, none⟩) 1 c) ∧ w'.cell? ⟨g, 0, none⟩ = some (.int .i64 1) ∧ w.heap.size ≤ g ∧ Below w.heap.size w w' := by
  refine (ways_any (FX.lit (some ⟨B, 0, none⟩) 2) F15 none [] 0 0 w (fn15 h) (Row.nil _ _ _) (by decide) (by decide)).mono ?_
  rintro e w' ⟨A, c, he, ho, hb⟩
  have e1 : F15.ways [] 0 = [1] := by decide +kernel
  rw [e1] at he ho
  obtain ⟨g, cap, hv, hg, _⟩ := World.ownsRow.form ho (by decide)
  injection hv with hA _ hc
  subst hA; subst hc
  obtain ⟨B', off, hA1, _, _, hc1⟩ := ho.row.int_at (k := 0) (by decide)
  injection hA1 with hA1
  injection hA1 with h1 h2
  subst h1; subst h2
  exact ⟨g, c, he, hc1, hg, hb⟩

set_option maxHeartbeats 1000000 in
theorem awake15 (w : World) : Calls Try.prog 13 #[] w fun e w' => e = .returned (.bool true) ∧ Below w.heap.size w w' := by
  go_enter Try.func13, Try.ntmps13
  go_wp2_with (first | go_skip | ((with_reducible refine at_alloc 30 rfl ?_); refine al30 rfl rfl ?_; intro w1 hz hb1 hs1; have hcode := (Bk.new w 54 ins15).stay hb1) | ((with_reducible refine at_store 30 rfl ?_); refine wp_storebox 30 _ _ rfl rfl _ ((FX.lit (some ⟨w.heap.size, 0, none⟩) 2).cells F15) rfl rfl hz (by kernel_rfl) rfl (by kernel_rfl) ?_; intro w2 hbx hb2 hs2 hk2; have hbx' := hbx; rw [World.size_alloc] at hbx'; have hcode := (hk2 w.heap.size (by simp)).trans hcode) | ((with_reducible refine at_load 30 rfl ?_); refine ld30 _ rfl _ rfl (FX.lit (some ⟨w.heap.size, 0, none⟩) 2) F15 (by assumption) rfl ?_) | (go_at_call 19; refine (ways15 hcode).mono ?_; rintro e w3 ⟨g, c, rfl, hc, hg, hb3⟩; have hbx := hbx.stay hb3; have hbx' := hbx'.stay hb3; have hcode := Bk.stay hcode hb3) | (go_at_call 27; refine (leaves_any (FX.lit (some ⟨w.heap.size, 0, none⟩) 2) F15 none [] 0 1 _ (fn15 hcode) (Row.nil _ _ _) (by decide)).mono ?_; rw [show F15.leaves [] 1 = true by decide +kernel]; rintro e w4 ⟨rfl, hb4⟩))
  go_ret
  refine ⟨rfl, ?_⟩
  have h1 : Below w.heap.size w w1 := ((Below.refl _ _).alloc (Nat.le_refl _) _).trans (hb1.mono (by simp))
  have h2 : Below w.heap.size w w2 := h1.trans (hb2.mono (by simp))
  have h3 : Below w.heap.size w w3 := h2.trans (hb3.mono h2.size)
  exact h3.trans (hb4.mono h3.size)
end Go.Proofs.Ytnnhlnefhndpdaa
