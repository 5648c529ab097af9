/- The walk of layer 16's awake: the fork's join is 4, it has three places, and a region without them doesn't hold. -/
import Derived.Test.YtnnhlnefhndpdaaWalkO
import Derived.Test.YtnnhlnefhndpdaaWalkQ
namespace Go.Proofs.Ytnnhlnefhndpdaa
open Go.RowKit
set_option linter.unusedVariables false

def ins16 : Array Value := #[.int .i64 25, .int .i64 3, .int .i64 0, .int .i64 0, .slice none 0 0, .int .i64 0, .int .i64 0, .int .i64 1, .int .i64 0, .int .i64 0, .int .i64 0, .slice none 0 0, .int .i64 0, .int .i64 0,
  .int .i64 24, .int .i64 4, .int .i64 0, .int .i64 0, .slice none 0 0, .int .i64 0, .int .i64 0, .int .i64 1, .int .i64 0, .int .i64 0, .int .i64 0, .slice none 0 0, .int .i64 0, .int .i64 0,
  .int .i64 27, .int .i64 0, .int .i64 0, .int .i64 0, .slice none 0 0, .int .i64 0, .int .i64 0]

theorem ins16_one : ∀ v ∈ ins16.toList, v.oneCell' = true := by
  intro v hv
  have h : ins16.toList.all (·.oneCell') = true := by kernel_rfl
  exact List.all_eq_true.1 h v hv

theorem fn16 {w : World} {B : Nat} (h : Bk w B 54 ins16) : FnX w (FX.lit (some ⟨B, 0, none⟩) 5) F16 := by
  refine ⟨⟨.inr ⟨B, 0, rfl, h.lt, fun i o a hi => ?_⟩, .inl rfl⟩, ?_⟩
  · match i, hi with
    | 0, hi =>
      cases hi
      exact ⟨_, _, _, _, _, h.cell 0, h.cell 1, h.cell 2, h.cell 3, h.cell 4, h.cell 5, h.cell 6⟩
    | 1, hi =>
      cases hi
      exact ⟨_, _, _, _, _, h.cell 7, h.cell 8, h.cell 9, h.cell 10, h.cell 11, h.cell 12, h.cell 13⟩
    | 2, hi =>
      cases hi
      exact ⟨_, _, _, _, _, h.cell 14, h.cell 15, h.cell 16, h.cell 17, h.cell 18, h.cell 19, h.cell 20⟩
    | 3, hi =>
      cases hi
      exact ⟨_, _, _, _, _, h.cell 21, h.cell 22, h.cell 23, h.cell 24, h.cell 25, h.cell 26, h.cell 27⟩
    | 4, hi =>
      cases hi
      exact ⟨_, _, _, _, _, h.cell 28, h.cell 29, h.cell 30, h.cell 31, h.cell 32, h.cell 33, h.cell 34⟩
    | i + 5, hi => simp [F16] at hi
  · intro B' off i j v hC _ _ hv
    have hC : some (⟨B, 0, none⟩ : Addr) = some ⟨B', off, none⟩ := hC
    injection hC with hC
    injection hC with h1 h2
    subst h1
    rw [h.cell] at hv
    exact ins16_one v (by simpa using Array.mem_of_getElem? hv)

theorem ahead16 : F16.ahead = true := by decide +kernel
theorem jn16_3 : jn F16 [] 3 = 4 := by
  rw [jn_all (by decide +kernel) (by decide +kernel), show F16.ways [] 3 = [4] by decide +kernel]
  exact allM_one ahead16 (by decide +kernel)
theorem jn16_2 : jn F16 [] 2 = 4 := by
  rw [jn_all (by decide +kernel) (by decide +kernel), show F16.ways [] 2 = [4] by decide +kernel]
  exact allM_one ahead16 (by decide +kernel)
theorem jn16_1 : jn F16 [] 1 = 2 := by
  rw [jn_all (by decide +kernel) (by decide +kernel), show F16.ways [] 1 = [2] by decide +kernel]
  exact allM_one ahead16 (by decide +kernel)
theorem jn16 : jn F16 [] 0 = 4 := by
  rw [jn_all (by decide +kernel) (by decide +kernel), show F16.ways [] 0 = [1] ++ [3] by decide +kernel, ← allM_add ahead16 (by simp), allM_one ahead16 (by decide +kernel), meetF_left ahead16 (by decide), jn16_1,
    meetF_left ahead16 (by decide), jn16_2, meetF_right ahead16 (by decide), jn16_3]
  exact meetF_same ahead16 (k := 4) (by decide)
theorem reach16 : reachL F16 [] (F16.ways [] 0) 4 = [1, 2, 3] := by
  rw [show F16.ways [] 0 = [1, 3] by decide +kernel]
  refine rising_ext (reachL_rising _ _ _ _) (by decide) fun x => ⟨fun h => ?_, fun h => ?_⟩
  · replace h := mem_reachL.1 h
    induction h with
    | start h1 h2 h3 =>
      simp only [List.mem_cons, List.not_mem_nil, or_false] at h1 ⊢
      omega
    | step h1 h2 h3 ih =>
      simp only [List.mem_cons, List.not_mem_nil, or_false] at ih
      rcases ih with rfl | rfl | rfl
      · rw [show F16.ways [] 1 = [2] by decide +kernel] at h2
        simp at h2 ⊢
        omega
      · rw [show F16.ways [] 2 = [4] by decide +kernel] at h2
        simp at h2
        omega
      · rw [show F16.ways [] 3 = [4] by decide +kernel] at h2
        simp at h2
        omega
  · have h1 : (1 : Int) ∈ reachL F16 [] [1, 3] 4 := reachL_from (by simp) (by decide +kernel) (by decide)
    simp only [List.mem_cons, List.not_mem_nil, or_false] at h
    rcases h with rfl | rfl | rfl
    · exact h1
    · exact reachL_way h1 (by decide +kernel) (by decide)
    · exact reachL_from (by simp) (by decide +kernel) (by decide)
theorem of16 : ofF F16 [] 0 = ⟨0, 4, [1, 2, 3]⟩ := by
  rw [ofF_yes (by decide +kernel) ahead16]
  unfold made
  rw [jn16, reach16]
theorem holds16 : holdsF F16 [] 0 4 [] = 1 := by decide +kernel

set_option maxHeartbeats 1000000 in
theorem fork_any (w : World) : Calls Try.prog 43 #[] w fun e w' => ∃ B, e = .returned ((FX.lit (some ⟨B, 0, none⟩) 5).val F16) ∧ Bk w' B 54 ins16 ∧ Below w.heap.size w w' := by
  go_enter Try.func43, Try.ntmps43
  go_wp2_with (first | go_skip | ((with_reducible refine at_alloc 30 rfl ?_); refine al30 rfl rfl ?_; intro w1 hz hb1 hs1) | ((with_reducible refine at_store 30 rfl ?_); refine wp_storebox 30 _ _ rfl rfl _ ((FX.lit (some ⟨w1.heap.size, 0, none⟩) 5).cells F16) rfl rfl (hz.alloc _) (by kernel_rfl) rfl (by kernel_rfl) ?_; intro w2 hbx hb2 hs2 hk2))
  have hcode : Bk w2 w1.heap.size 54 ins16 := (hk2 _ (by omega)).trans (Bk.new w1 54 ins16)
  (try simp only [Exit.inBlock, Exit.then])
  refine bodyPost_ret (results_cell_row rfl _ _ w.heap.size 30 _ (0, 0) _ rfl hbx Try.underlying30 rfl (by kernel_rfl)) rfl ?_
  exact ⟨_, rfl, hcode, (hb1.trans (((Below.refl _ _).alloc (Nat.le_refl _) _).mono (by omega))).trans (hb2.mono (Nat.le_refl _))⟩
end Go.Proofs.Ytnnhlnefhndpdaa
