/- The walk of the closure of flow's Ways, and of Ways itself. -/
import Derived.Test.YtnnhlnefhndpdaaSort
import Derived.Test.YtnnhlnefhndpdaaWalkB
namespace Go.Proofs.Ytnnhlnefhndpdaa
open Go.RowKit

set_option maxHeartbeats 1000000 in
theorem add_any (x : FX) (F : Fn) (n : Int) (Bf Bl base : Nat) (w : World) (A : Option Addr) (c : Nat) (l : List Int) (m : Nat) (hbx : Bx w Bf x F) (hown : Own w base A c l) (hbl : Bk w Bl 32 #[.slice A m c]) (hlm : l.length = m)
    (hl : Bl < base) (hb : base ≤ w.heap.size) (hsz : m ≤ 1000) :
    Calls Try.prog 37 #[.int .i64 n, .pointer (some ⟨Bf, 0, none⟩), .pointer (some ⟨Bl, 0, none⟩)] w fun e w' => e = .returned (.tuple #[]) ∧
      ∃ A' c' l', Hid (l' = F.add l n) ∧ l'.length ≤ m + 1 ∧ Bk w' Bl 32 #[.slice A' l'.length c'] ∧ Own w' base A' c' l' ∧ Below Bl w w' := by
  subst hlm
  have h14 := hbx.c14
  have hc0 : w.cell? ⟨Bl, 0, none⟩ = some (.slice A l.length c) := hbl.cell 0
  by_cases h0 : 0 ≤ n
  · by_cases h1 : n < F.code.length
    · have hp : F.place n = true := by simp [Fn.place, h0, h1]
      rw [Fn.add_yes l hp]
      clear hp
      go_enter Try.func37, Try.ntmps37
      go_wp2_with (at_builtin; refine wp_app1 _ _ rfl rfl (base := base) rfl rfl hown (by omega) hb ?_; intro A2 c2 l2 w2 HL2 hown2 hb2; have hbl2 := hbl.below hb2 hl; have hc2 := hbl2.cell 0; have hf2 := hbl2.free 0)
      go_end0
      exact ⟨rfl, A2, c2, l2, HL2, by rw [HL2.out]; simp, hbl2.set_ 0 _, hown2.set_low hl _, (hb2.mono (Nat.le_of_lt hl)).setCell (Nat.le_refl _) _⟩
    · have hp : F.place n = false := by simp [Fn.place, h1]
      rw [Fn.add_no l hp]
      clear hp
      go_enter Try.func37, Try.ntmps37
      go_wp2
      go_end0
      exact ⟨rfl, A, c, l, rfl, by omega, hbl, hown, Below.refl _ _⟩
  · have hp : F.place n = false := by simp [Fn.place, h0]
    rw [Fn.add_no l hp]
    clear hp
    go_enter Try.func37, Try.ntmps37
    go_wp2
    go_end0
    exact ⟨rfl, A, c, l, rfl, by omega, hbl, hown, Below.refl _ _⟩

set_option maxHeartbeats 4000000 in

set_option maxHeartbeats 8000000 in
set_option maxRecDepth 100000 in
theorem ways_raw (x : FX) (F : Fn) (R : Option Addr) (rs : List Bool) (rc : Nat) (a : Int) (w : World) (hF : FnAt w x F) (hR : Row w 0 R (boolsV rs)) (hm : F.hs.length ≤ 1000) (hn : F.code.length ≤ 1000) :
    Calls Try.prog 19 #[x.val F, .slice R rs.length rc, .int .i64 a] w fun e w' => ∃ A c l, Hid (l = Lib.compact (srt (F.raw rs a))) ∧ e = .returned (.slice A l.length c) ∧ Own w' w.heap.size A c l ∧ Below w.heap.size w w' := by
  have hcall := fun W (h : FnAt W x F) => op_any x F a W h
  by_cases hp : F.place a = true
  · obtain ⟨k, rfl, hk⟩ := Fn.place_nat hp
    obtain ⟨B, off, c2, c3, c4, c5, c6, hC, hB, ho0, ha0, -⟩ := hF.code_at hk
    have hix := ix25 hC hk x.cc
    rw [← Fn.op_nat hk] at ho0
    rw [← Fn.arg_nat] at ha0
    have hraw : F.raw rs k = F.raw rs k := rfl
    conv at hraw => rhs; unfold Fn.raw Fn.raw2 Fn.raw1
    clear hC hp
    have hkn : k < 1000 := by omega
    generalize F.op k = o at *
    generalize F.arg k = g at *
    have Hcall := Lib.hid hcall
    clear hcall
    have hcases : o = 24 ∨ o = 25 ∨ o = 26 ∨ o = 27 ∨ o = 0 ∨ ((o == 24) = false ∧ (o == 25) = false ∧ (o == 26) = false ∧ (o == 27) = false ∧ (o == 0) = false) := by
      simp only [beq_eq_false_iff_ne]
      omega
    by_cases hr : F.raises rs k = true
    · rw [hr] at hraw
      rcases hcases with rfl | rfl | rfl | rfl | rfl | ⟨h24, h25, h26, h27, h0⟩
      all_goals
        (try rw [h24, h25, h26, h27, h0] at hraw)
        have Hraw := Lib.hid hraw
        clear hraw
        go_enter Try.func19, Try.ntmps19
        go_wp2_with (first | go_skip | ((with_reducible refine at_box 30 rfl ?_); refine bx30 _ rfl x F rfl rfl ?_; intro w1 hbx hb1 hs1; have st := St.new hbx hb1; have ho := st.old; have h14 := st.c14; clear hbx hb1) | ((with_reducible refine at_alloc 32 rfl ?_); refine al32 rfl rfl ?_; intro w2 hbl hb2 hs2; have st := St.next (by assumption) hb2; have ho := st.old; have h14 := st.c14; have hown := Own.nil w2 (w1.heap.size + 1); have hc0 := hbl.c0; clear hb2) | ((with_reducible refine at_load 30 rfl ?_); refine ld30 _ rfl _ rfl x F (St.bx (by assumption)) rfl ?_) | (go_at_call 38; refine (Hcall.out _ (St.fn (by assumption) hF)).mono ?_; rintro e wn ⟨rfl, hbn⟩; have st := St.next (by assumption) hbn; have ho := st.old; have h14 := st.c14; have hbl := Bk.stay (by assumption) hbn; have hown := Own.stay (by assumption) hbn; have hc0 := hbl.c0; have hz := hbn.size; clear hbn) | (go_at_call 39; refine (raises_any x F R rs rc _ _ (St.fn (by assumption) hF) (St.row (by assumption) hR)).mono ?_; rintro e wn ⟨rfl, hbn⟩; have st := St.next (by assumption) hbn; have ho := st.old; have h14 := st.c14; have hbl := Bk.stay (by assumption) hbn; have hown := Own.stay (by assumption) hbn; have hc0 := hbl.c0; have hz := hbn.size; clear hbn) | (go_at_call 40; refine (handler_any x F _ _ (St.fn (by assumption) hF) hm).mono ?_; rintro e wn ⟨rfl, hbn⟩; have st := St.next (by assumption) hbn; have ho := st.old; have h14 := st.c14; have hbl := Bk.stay (by assumption) hbn; have hown := Own.stay (by assumption) hbn; have hc0 := hbl.c0; have hz := hbn.size; clear hbn) | (go_at_call 37; refine (add_any x F _ _ _ _ _ _ _ _ _ (St.bx (by assumption)) (by assumption) (by assumption) (by rfl) (by omega) (by omega) (by omega)).mono ?_; rintro e wn ⟨rfl, A', c', l', HL, hll, hbl, hown, hbn⟩; have st := St.low (by assumption) hbn (by omega); have ho := st.old; have h14 := st.c14; have hc0 := hbl.c0; have hz := hbn.size; clear hbn) | (go_at_call 41; refine (sort_own _ _ _ _ _ _ (by assumption) (by rfl) (by omega) (by omega)).mono ?_; rintro e wn ⟨rfl, hown, hbn⟩; have st := St.low (by assumption) hbn (by omega); have hbl := Bk.below (by assumption) hbn (by omega); have hc0 := hbl.c0; have hz := hbn.size; clear hbn) | (go_at_call 42; refine (compact_own _ _ _ _ _ _ (by assumption) (by exact srt_length _) (by omega) (by omega)).mono ?_; rintro e wn ⟨rfl, hown, hbn⟩; have st := St.low (by assumption) hbn (by omega); clear hbn))
        go_ret
        refine ⟨_, _, _, ?_, rfl, hown.lower (by omega), st.hb⟩
        simp only [Hid] at *
        subst_vars
        simp_all
    · have hr : F.raises rs k = false := by simpa using hr
      rw [hr] at hraw
      rcases hcases with rfl | rfl | rfl | rfl | rfl | ⟨h24, h25, h26, h27, h0⟩
      all_goals
        (try rw [h24, h25, h26, h27, h0] at hraw)
        have Hraw := Lib.hid hraw
        clear hraw
        go_enter Try.func19, Try.ntmps19
        go_wp2_with (first | go_skip | ((with_reducible refine at_box 30 rfl ?_); refine bx30 _ rfl x F rfl rfl ?_; intro w1 hbx hb1 hs1; have st := St.new hbx hb1; have ho := st.old; have h14 := st.c14; clear hbx hb1) | ((with_reducible refine at_alloc 32 rfl ?_); refine al32 rfl rfl ?_; intro w2 hbl hb2 hs2; have st := St.next (by assumption) hb2; have ho := st.old; have h14 := st.c14; have hown := Own.nil w2 (w1.heap.size + 1); have hc0 := hbl.c0; clear hb2) | ((with_reducible refine at_load 30 rfl ?_); refine ld30 _ rfl _ rfl x F (St.bx (by assumption)) rfl ?_) | (go_at_call 38; refine (Hcall.out _ (St.fn (by assumption) hF)).mono ?_; rintro e wn ⟨rfl, hbn⟩; have st := St.next (by assumption) hbn; have ho := st.old; have h14 := st.c14; have hbl := Bk.stay (by assumption) hbn; have hown := Own.stay (by assumption) hbn; have hc0 := hbl.c0; have hz := hbn.size; clear hbn) | (go_at_call 39; refine (raises_any x F R rs rc _ _ (St.fn (by assumption) hF) (St.row (by assumption) hR)).mono ?_; rintro e wn ⟨rfl, hbn⟩; have st := St.next (by assumption) hbn; have ho := st.old; have h14 := st.c14; have hbl := Bk.stay (by assumption) hbn; have hown := Own.stay (by assumption) hbn; have hc0 := hbl.c0; have hz := hbn.size; clear hbn) | (go_at_call 40; refine (handler_any x F _ _ (St.fn (by assumption) hF) hm).mono ?_; rintro e wn ⟨rfl, hbn⟩; have st := St.next (by assumption) hbn; have ho := st.old; have h14 := st.c14; have hbl := Bk.stay (by assumption) hbn; have hown := Own.stay (by assumption) hbn; have hc0 := hbl.c0; have hz := hbn.size; clear hbn) | (go_at_call 37; refine (add_any x F _ _ _ _ _ _ _ _ _ (St.bx (by assumption)) (by assumption) (by assumption) (by rfl) (by omega) (by omega) (by omega)).mono ?_; rintro e wn ⟨rfl, A', c', l', HL, hll, hbl, hown, hbn⟩; have st := St.low (by assumption) hbn (by omega); have ho := st.old; have h14 := st.c14; have hc0 := hbl.c0; have hz := hbn.size; clear hbn) | (go_at_call 41; refine (sort_own _ _ _ _ _ _ (by assumption) (by rfl) (by omega) (by omega)).mono ?_; rintro e wn ⟨rfl, hown, hbn⟩; have st := St.low (by assumption) hbn (by omega); have hbl := Bk.below (by assumption) hbn (by omega); have hc0 := hbl.c0; have hz := hbn.size; clear hbn) | (go_at_call 42; refine (compact_own _ _ _ _ _ _ (by assumption) (by exact srt_length _) (by omega) (by omega)).mono ?_; rintro e wn ⟨rfl, hown, hbn⟩; have st := St.low (by assumption) hbn (by omega); clear hbn))
        go_ret
        refine ⟨_, _, _, ?_, rfl, hown.lower (by omega), st.hb⟩
        simp only [Hid] at *
        subst_vars
        simp_all
  · have hp : F.place a = false := by simpa using hp
    have hr := Fn.raises_out rs hp
    have hraw : F.raw rs a = [] := by simp [Fn.raw, Fn.raw2, Fn.raw1, Fn.op_out hp, hr]
    rw [Fn.op_out hp] at hcall
    have Hraw := Lib.hid hraw
    have Hcall := Lib.hid hcall
    clear hraw hcall
    go_enter Try.func19, Try.ntmps19
    go_wp2_with (first | go_skip | ((with_reducible refine at_box 30 rfl ?_); refine bx30 _ rfl x F rfl rfl ?_; intro w1 hbx hb1 hs1; have st := St.new hbx hb1; have ho := st.old; have h14 := st.c14; clear hbx hb1) | ((with_reducible refine at_alloc 32 rfl ?_); refine al32 rfl rfl ?_; intro w2 hbl hb2 hs2; have st := St.next (by assumption) hb2; have ho := st.old; have h14 := st.c14; have hown := Own.nil w2 (w1.heap.size + 1); have hc0 := hbl.c0; clear hb2) | ((with_reducible refine at_load 30 rfl ?_); refine ld30 _ rfl _ rfl x F (St.bx (by assumption)) rfl ?_) | (go_at_call 38; refine (Hcall.out _ (St.fn (by assumption) hF)).mono ?_; rintro e wn ⟨rfl, hbn⟩; have st := St.next (by assumption) hbn; have ho := st.old; have h14 := st.c14; have hbl := Bk.stay (by assumption) hbn; have hown := Own.stay (by assumption) hbn; have hc0 := hbl.c0; have hz := hbn.size; clear hbn) | (go_at_call 39; refine (raises_any x F R rs rc _ _ (St.fn (by assumption) hF) (St.row (by assumption) hR)).mono ?_; rintro e wn ⟨rfl, hbn⟩; have st := St.next (by assumption) hbn; have ho := st.old; have h14 := st.c14; have hbl := Bk.stay (by assumption) hbn; have hown := Own.stay (by assumption) hbn; have hc0 := hbl.c0; have hz := hbn.size; clear hbn) | (go_at_call 40; refine (handler_any x F _ _ (St.fn (by assumption) hF) hm).mono ?_; rintro e wn ⟨rfl, hbn⟩; have st := St.next (by assumption) hbn; have ho := st.old; have h14 := st.c14; have hbl := Bk.stay (by assumption) hbn; have hown := Own.stay (by assumption) hbn; have hc0 := hbl.c0; have hz := hbn.size; clear hbn) | (go_at_call 37; refine (add_any x F _ _ _ _ _ _ _ _ _ (St.bx (by assumption)) (by assumption) (by assumption) (by rfl) (by omega) (by omega) (by omega)).mono ?_; rintro e wn ⟨rfl, A', c', l', HL, hll, hbl, hown, hbn⟩; have st := St.low (by assumption) hbn (by omega); have ho := st.old; have h14 := st.c14; have hc0 := hbl.c0; have hz := hbn.size; clear hbn) | (go_at_call 41; refine (sort_own _ _ _ _ _ _ (by assumption) (by rfl) (by omega) (by omega)).mono ?_; rintro e wn ⟨rfl, hown, hbn⟩; have st := St.low (by assumption) hbn (by omega); have hbl := Bk.below (by assumption) hbn (by omega); have hc0 := hbl.c0; have hz := hbn.size; clear hbn) | (go_at_call 42; refine (compact_own _ _ _ _ _ _ (by assumption) (by exact srt_length _) (by omega) (by omega)).mono ?_; rintro e wn ⟨rfl, hown, hbn⟩; have st := St.low (by assumption) hbn (by omega); clear hbn))
    go_ret
    refine ⟨_, _, _, ?_, rfl, hown.lower (by omega), st.hb⟩
    simp only [Hid] at *
    subst_vars
    simp_all
end Go.Proofs.Ytnnhlnefhndpdaa
