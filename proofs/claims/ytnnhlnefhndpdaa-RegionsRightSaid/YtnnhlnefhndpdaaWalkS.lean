/- The walk of layer 16's awake. -/
import Derived.Test.YtnnhlnefhndpdaaWalkR
namespace Go.Proofs.Ytnnhlnefhndpdaa
open Go.RowKit
set_option linter.unusedVariables false

theorem of16_any {w : World} {B : Nat} (h : Bk w B 54 ins16) :
    Calls Try.prog 25 #[(FX.lit (some ⟨B, 0, none⟩) 5).val F16, .slice none 0 0, .int .i64 0] w fun e w' => ∃ A c, e = .returned (.agg #[.int .i64 0, .int .i64 4, .slice A 3 c]) ∧ Below w.heap.size w w' := by
  refine (of_any (FX.lit (some ⟨B, 0, none⟩) 5) F16 none [] 0 0 w (fn16 h) (Row.nil _ _ _) (by decide) (by decide)).mono ?_
  rw [of16]
  rintro e w' ⟨A, c, rfl, _, hb⟩
  exact ⟨A, c, rfl, hb⟩
theorem holds16_any {w : World} {B : Nat} (h : Bk w B 54 ins16) :
    Calls Try.prog 22 #[(FX.lit (some ⟨B, 0, none⟩) 5).val F16, .slice none 0 0, .agg #[.int .i64 0, .int .i64 4, .slice none 0 0]] w fun e w' => e = .returned (.int .i64 1) ∧ Below w.heap.size w w' := by
  refine (holds_any (FX.lit (some ⟨B, 0, none⟩) 5) F16 none none [] 0 0 4 [] 0 w (fn16 h) (Row.nil _ _ _) (Row.nil _ _ _) (by decide) (by decide) (by decide)).mono ?_
  rw [holds16]
  exact fun _ _ h => h

set_option maxHeartbeats 1000000 in
theorem awake16 (w : World) : Calls Try.prog 20 #[] w fun e w' => e = .returned (.bool true) ∧ Below w.heap.size w w' := by
  go_enter Try.func20, Try.ntmps20
  go_upto_region 2 with (first | go_skip | (go_at_call 43; refine (fork_any _).mono ?_; rintro e wf ⟨B, rfl, hcode, hbf⟩) | (go_at_call 25; refine (of16_any hcode).mono ?_; rintro e wo ⟨A, c, rfl, hbo⟩) | ((with_reducible refine at_alloc 44 rfl ?_); refine al44 rfl rfl ?_; intro wq hq hbq hsq) | ((with_reducible refine at_store 44 rfl ?_); refine wp_storebox 44 _ _ rfl rfl _ #[.int .i64 0, .int .i64 4, .slice A 3 c] rfl rfl hq (by kernel_rfl) rfl (all3 _ _ _ _ _) ?_; intro ws hr hbs hss hks))
  have hall : Below w.heap.size w ws := ((hbf.trans (hbo.mono hbf.size)).trans (hbq.mono (Nat.le_trans hbf.size hbo.size))).trans (hbs.mono (Nat.le_trans hbf.size hbo.size))
  have q1 := (hr.cell 1).trans rfl
  have q2 := (hr.cell 2).trans rfl
  clear hbf hbo hbq hbs hks hcode hq
  go_wp2_with (first | go_skip | (go_at_call 43; refine (fork_any _).mono ?_; rintro e wg ⟨B2, rfl, hcode2, hbg⟩) | (go_at_call 22; refine (holds16_any hcode2).mono ?_; rintro e wh ⟨rfl, hbh⟩))
  go_ret
  exact ⟨rfl, (hall.trans (hbg.mono hall.size)).trans (hbh.mono (Nat.le_trans hall.size hbg.size))⟩
end Go.Proofs.Ytnnhlnefhndpdaa
