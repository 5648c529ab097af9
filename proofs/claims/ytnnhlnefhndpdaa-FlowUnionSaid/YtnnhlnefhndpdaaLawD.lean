/- The walk of FlowUnion: whatever comes in, it returns true and only makes memory. -/
import Derived.Test.YtnnhlnefhndpdaaLawC
namespace Go.Proofs.Ytnnhlnefhndpdaa
open Go.RowKit
set_option linter.unusedSimpArgs false
set_option linter.unusedVariables false

set_option maxHeartbeats 1500000 in
set_option maxRecDepth 100000 in
theorem flowUnion_walk (x : FX) (F : Fn) (R A C : Option Addr) (rs : List Bool) (rc : Nat) (from_ more : List Int) (ac cc : Nat) (stop : Int) (w : World) (hF : FnAt w x F) (hR : Row w 0 R (boolsV rs)) (hA : Row w 0 A (intsV from_)) (hC : Row w 0 C (intsV more)) :
    Calls Try.prog 6 #[x.val F, .agg #[.slice R rs.length rc, .slice A from_.length ac, .int .i64 stop], .slice C more.length cc] w fun e w' => e = .returned (.bool true) ∧ Below w.heap.size w w' := by
  by_cases hfew : (decide (F.code.length ≤ 60) && decide (F.hs.length ≤ 60) && decide (rs.length ≤ 1000)) = true
  · have hb3 : F.code.length ≤ 60 ∧ F.hs.length ≤ 60 ∧ rs.length ≤ 1000 := by simpa [and_assoc] using hfew
    obtain ⟨hb0, hb1, hb2⟩ := hb3
    have Hfew := Lib.hid hfew
    clear hfew
    by_cases hl : from_.length ≤ 200
    · by_cases hm : more.length ≤ 200
      · go_enter Try.func6, Try.ntmps6
        go_wp2_with (first | go_skip | ((with_reducible refine at_box 30 rfl ?_); refine bx30 _ rfl x F rfl rfl ?_; intro w1 hbx hb1 hs1; have st := St.new hbx hb1; have ho := st.old; have h14 := st.c14; have h15 := st.c15; clear hbx hb1 hs1) | ((with_reducible refine at_box 34 rfl ?_); refine wp_box 34 _ rfl #[.slice R rs.length rc, .slice A from_.length ac, .int .i64 stop] rfl rfl ?_; intro w2 hbq hb2 hs2; have st := St.next (by assumption) hb2; have ho := st.old; have h14 := st.c14; have h15 := st.c15; clear hb2) | ((with_reducible refine at_load 30 rfl ?_); refine ld30 _ rfl _ rfl x F (St.bx (by assumption)) rfl ?_) | (go_at_call 13; refine (awake15 _).mono ?_; rintro e wa ⟨rfl, hba⟩; have st := St.next (by assumption) hba; have hbq := Bk.stay hbq hba; have q0 := (hbq.cell 0).trans rfl; have q1 := (hbq.cell 1).trans rfl; clear hba) | (go_at_call 14; refine (few15 x F R rs.length rc _ true Hfew.out.symm).mono ?_; rintro e wf ⟨rfl, hbf⟩; have st := St.next (by assumption) hbf; have hbq := Bk.stay hbq hbf; have q0 := (hbq.cell 0).trans rfl; have q1 := (hbq.cell 1).trans rfl; have q2 := (hbq.cell 2).trans rfl; have hql := hbq.lt; have hxf := st.bx.lt; have hqf := hbq.lt; clear hbf) | (at_builtin; refine wp_app (l := []) (m := from_) (lo := 0) (base := wf.heap.size) (A := none) (c := 0) (A2 := A) (c2 := ac) _ _ rfl rfl rfl rfl (Own.nil _ _) (St.row (by assumption) hA) (by simp; omega) (by omega) ?_; intro A4 c4 l4 w4 HL4 hown4 hb4; have hl4 : l4.length ≤ 200 := (by rw [HL4.out]; simpa using hl); have st := St.next (by assumption) hb4; have hbq := Bk.stay hbq hb4; have q0 := (hbq.cell 0).trans rfl; have q1 := (hbq.cell 1).trans rfl; have q2 := (hbq.cell 2).trans rfl; have hql := hbq.lt; have hz4 := hb4.size; clear hb4) | (at_builtin; refine wp_app (l := l4) (m := more) (lo := 0) (base := wf.heap.size) (A := A4) (c := c4) (A2 := C) (c2 := cc) _ _ rfl rfl rfl rfl hown4 (St.row (by assumption) hC) (by omega) (by omega) ?_; intro A5 c5 l5 w5 HL5 hown5 hb5; have hl5 : l5.length ≤ 400 := (by rw [HL5.out, List.length_append]; omega); have st := St.low (by assumption) hb5 hxf; have hbq := Bk.below hbq hb5 hqf; have q0 := (hbq.cell 0).trans rfl; have q1 := (hbq.cell 1).trans rfl; have q2 := (hbq.cell 2).trans rfl; have hql := hbq.lt; have hz5 := hb5.size; clear hb5) | (go_at_call 16; (with_reducible refine (reach_any x F R A rs rc from_ ac stop _ (St.fn (by assumption) hF) (St.row (by assumption) hR) (St.row (by assumption) hA) (by omega) (by omega) (by omega)).mono ?_); rintro e wn ⟨A1, c1, rfl, hown1, hbn⟩; have st := St.next (by assumption) hbn; have hbq := Bk.stay hbq hbn; have q0 := (hbq.cell 0).trans rfl; have q1 := (hbq.cell 1).trans rfl; have q2 := (hbq.cell 2).trans rfl; have hql := hbq.lt; have hown5 := Own.stay hown5 hbn; clear hbn) | (go_at_call 16; (with_reducible refine (reach_any x F R C rs rc more cc stop _ (St.fn (by assumption) hF) (St.row (by assumption) hR) (St.row (by assumption) hC) (by omega) (by omega) (by omega)).mono ?_); rintro e wn ⟨A2, c2, rfl, hown2, hbn⟩; have st := St.next (by assumption) hbn; have hbq := Bk.stay hbq hbn; have q0 := (hbq.cell 0).trans rfl; have q1 := (hbq.cell 1).trans rfl; have q2 := (hbq.cell 2).trans rfl; have hql := hbq.lt; have hown1 := Own.stay hown1 hbn; have hown5 := Own.stay hown5 hbn; clear hbn) | (go_at_call 16; (with_reducible refine (reach_any x F R A5 rs rc l5 c5 stop _ (St.fn (by assumption) hF) (St.row (by assumption) hR) (hown5.row.lower (Nat.zero_le _)) (by omega) (by omega) (by omega)).mono ?_); rintro e wn ⟨A3, c3, rfl, hown3, hbn⟩; have st := St.next (by assumption) hbn; have hbq := Bk.stay hbq hbn; have q0 := (hbq.cell 0).trans rfl; have q1 := (hbq.cell 1).trans rfl; have q2 := (hbq.cell 2).trans rfl; have hql := hbq.lt; have hown1 := Own.stay hown1 hbn; have hown2 := Own.stay hown2 hbn; clear hbn))
        have h5 : l5 = from_ ++ more := by rw [HL5.out, HL4.out]; rfl
        have hun := Lib.hid (fun z => show z ∈ reachL F rs l5 stop ↔ z ∈ reachL F rs from_ stop ∨ z ∈ reachL F rs more stop by rw [h5]; exact reachL_union)
        have hlen : (reachL F rs l5 stop).length ≤ (reachL F rs from_ stop).length + (reachL F rs more stop).length := by rw [h5]; exact reachL_union_length
        have hown1 := hown1.lower (Nat.zero_le _)
        have hown2 := hown2.lower (Nat.zero_le _)
        have hown3 := hown3.lower (Nat.zero_le _)
        have hn1 := reachL_length F rs from_ stop
        have hn2 := reachL_length F rs more stop
        have hn3 := reachL_length F rs l5 stop
        clear h5
        generalize reachL F rs from_ stop = La at *
        generalize reachL F rs more stop = Lb at *
        generalize reachL F rs l5 stop = Lc at *
        go_loopg [11] F.code.length (fun g s wr => ∃ (k : Nat), k ≤ F.code.length ∧ g = F.code.length - k ∧ s = .int .i64 k ∧ Own wr 0 A1 c1 La ∧ Own wr 0 A2 c2 Lb ∧ Own wr 0 A3 c3 Lc ∧ Bk wr w1.heap.size 34 #[.slice R rs.length rc, .slice A from_.length ac, .int .i64 stop] ∧ St w wr w.heap.size x F)
        case atStart => exact ⟨0, Nat.zero_le _, rfl, rfl, hown1, hown2, hown3, hbq, st⟩
        case round =>
          clear hown1 hown2 hown3 hbq st q0 q1 q2 hql
          obtain ⟨k, hk, rfl, rfl, hown1, hown2, hown3, hbq, st⟩ := hrel
          have ho := st.old
          have h14 := st.c14
          have q0 := (hbq.cell 0).trans rfl; have q1 := (hbq.cell 1).trans rfl; have q2 := (hbq.cell 2).trans rfl; have hql := hbq.lt; 
          by_cases hlt : k < F.code.length
          · have hu := hun.out (k : Int)
            by_cases ha : (k : Int) ∈ La
            · have hia := Lib.hid (decide_eq_true ha)
              have hic := Lib.hid (decide_eq_true (hu.2 (.inl ha)))
              clear hu ha
              go_wp2_with (first | go_skip | (go_at_call 18; (with_reducible refine (in_is A3 Lc c3 _ _ _ (hown3.row.lower (Nat.zero_le _)) (by omega) hic.out).mono ?_); rintro e wn ⟨rfl, hbn⟩; have st := St.next (by assumption) hbn; have hbq := Bk.stay hbq hbn; have q0 := (hbq.cell 0).trans rfl; have q1 := (hbq.cell 1).trans rfl; have q2 := (hbq.cell 2).trans rfl; have hql := hbq.lt; have ho := st.old; have h14 := st.c14; have hown1 := Own.stay hown1 hbn; have hown2 := Own.stay hown2 hbn; have hown3 := Own.stay hown3 hbn; clear hbn) | (go_at_call 18; (with_reducible refine (in_is A1 La c1 _ _ _ (hown1.row.lower (Nat.zero_le _)) (by omega) hia.out).mono ?_); rintro e wn ⟨rfl, hbn⟩; have st := St.next (by assumption) hbn; have hbq := Bk.stay hbq hbn; have q0 := (hbq.cell 0).trans rfl; have q1 := (hbq.cell 1).trans rfl; have q2 := (hbq.cell 2).trans rfl; have hql := hbq.lt; have ho := st.old; have h14 := st.c14; have hown1 := Own.stay hown1 hbn; have hown2 := Own.stay hown2 hbn; have hown3 := Own.stay hown3 hbn; clear hbn))
              go_roundg (F.code.length - (k + 1))
              case measure => omega
              case rel => exact ⟨k + 1, by omega, rfl, by go_num, hown1, hown2, hown3, hbq, st⟩
            · have hia := Lib.hid (decide_eq_false ha)
              by_cases hb : (k : Int) ∈ Lb
              · have hib := Lib.hid (decide_eq_true hb)
                have hic := Lib.hid (decide_eq_true (hu.2 (.inr hb)))
                clear hu ha hb
                go_wp2_with (first | go_skip | (go_at_call 18; (with_reducible refine (in_is A3 Lc c3 _ _ _ (hown3.row.lower (Nat.zero_le _)) (by omega) hic.out).mono ?_); rintro e wn ⟨rfl, hbn⟩; have st := St.next (by assumption) hbn; have hbq := Bk.stay hbq hbn; have q0 := (hbq.cell 0).trans rfl; have q1 := (hbq.cell 1).trans rfl; have q2 := (hbq.cell 2).trans rfl; have hql := hbq.lt; have ho := st.old; have h14 := st.c14; have hown1 := Own.stay hown1 hbn; have hown2 := Own.stay hown2 hbn; have hown3 := Own.stay hown3 hbn; clear hbn) | (go_at_call 18; (with_reducible refine (in_is A1 La c1 _ _ _ (hown1.row.lower (Nat.zero_le _)) (by omega) hia.out).mono ?_); rintro e wn ⟨rfl, hbn⟩; have st := St.next (by assumption) hbn; have hbq := Bk.stay hbq hbn; have q0 := (hbq.cell 0).trans rfl; have q1 := (hbq.cell 1).trans rfl; have q2 := (hbq.cell 2).trans rfl; have hql := hbq.lt; have ho := st.old; have h14 := st.c14; have hown1 := Own.stay hown1 hbn; have hown2 := Own.stay hown2 hbn; have hown3 := Own.stay hown3 hbn; clear hbn) | (go_at_call 18; (with_reducible refine (in_is A2 Lb c2 _ _ _ (hown2.row.lower (Nat.zero_le _)) (by omega) hib.out).mono ?_); rintro e wn ⟨rfl, hbn⟩; have st := St.next (by assumption) hbn; have hbq := Bk.stay hbq hbn; have q0 := (hbq.cell 0).trans rfl; have q1 := (hbq.cell 1).trans rfl; have q2 := (hbq.cell 2).trans rfl; have hql := hbq.lt; have ho := st.old; have h14 := st.c14; have hown1 := Own.stay hown1 hbn; have hown2 := Own.stay hown2 hbn; have hown3 := Own.stay hown3 hbn; clear hbn))
                go_roundg (F.code.length - (k + 1))
                case measure => omega
                case rel => exact ⟨k + 1, by omega, rfl, by go_num, hown1, hown2, hown3, hbq, st⟩
              · have hib := Lib.hid (decide_eq_false hb)
                have hic := Lib.hid (decide_eq_false (fun h => (hu.1 h).elim ha hb))
                clear hu ha hb
                go_wp2_with (first | go_skip | (go_at_call 18; (with_reducible refine (in_is A3 Lc c3 _ _ _ (hown3.row.lower (Nat.zero_le _)) (by omega) hic.out).mono ?_); rintro e wn ⟨rfl, hbn⟩; have st := St.next (by assumption) hbn; have hbq := Bk.stay hbq hbn; have q0 := (hbq.cell 0).trans rfl; have q1 := (hbq.cell 1).trans rfl; have q2 := (hbq.cell 2).trans rfl; have hql := hbq.lt; have ho := st.old; have h14 := st.c14; have hown1 := Own.stay hown1 hbn; have hown2 := Own.stay hown2 hbn; have hown3 := Own.stay hown3 hbn; clear hbn) | (go_at_call 18; (with_reducible refine (in_is A1 La c1 _ _ _ (hown1.row.lower (Nat.zero_le _)) (by omega) hia.out).mono ?_); rintro e wn ⟨rfl, hbn⟩; have st := St.next (by assumption) hbn; have hbq := Bk.stay hbq hbn; have q0 := (hbq.cell 0).trans rfl; have q1 := (hbq.cell 1).trans rfl; have q2 := (hbq.cell 2).trans rfl; have hql := hbq.lt; have ho := st.old; have h14 := st.c14; have hown1 := Own.stay hown1 hbn; have hown2 := Own.stay hown2 hbn; have hown3 := Own.stay hown3 hbn; clear hbn) | (go_at_call 18; (with_reducible refine (in_is A2 Lb c2 _ _ _ (hown2.row.lower (Nat.zero_le _)) (by omega) hib.out).mono ?_); rintro e wn ⟨rfl, hbn⟩; have st := St.next (by assumption) hbn; have hbq := Bk.stay hbq hbn; have q0 := (hbq.cell 0).trans rfl; have q1 := (hbq.cell 1).trans rfl; have q2 := (hbq.cell 2).trans rfl; have hql := hbq.lt; have ho := st.old; have h14 := st.c14; have hown1 := Own.stay hown1 hbn; have hown2 := Own.stay hown2 hbn; have hown3 := Own.stay hown3 hbn; clear hbn))
                go_roundg (F.code.length - (k + 1))
                case measure => omega
                case rel => exact ⟨k + 1, by omega, rfl, by go_num, hown1, hown2, hown3, hbq, st⟩
          · go_wp2
            go_ret
            exact ⟨ret_bool (by first | exact decide_eq_true (by omega) | (simp; done) | (simp; omega) | (rw [IntWalk.i64_in _ (by omega)]; exact decide_eq_true (by omega))), st.hb⟩
      · go_enter Try.func6, Try.ntmps6
        go_wp2_with (first | go_skip | ((with_reducible refine at_box 30 rfl ?_); refine bx30 _ rfl x F rfl rfl ?_; intro w1 hbx hb1 hs1; have st := St.new hbx hb1; have ho := st.old; have h14 := st.c14; have h15 := st.c15; clear hbx hb1 hs1) | ((with_reducible refine at_box 34 rfl ?_); refine wp_box 34 _ rfl #[.slice R rs.length rc, .slice A from_.length ac, .int .i64 stop] rfl rfl ?_; intro w2 hbq hb2 hs2; have st := St.next (by assumption) hb2; have ho := st.old; have h14 := st.c14; have h15 := st.c15; clear hb2) | ((with_reducible refine at_load 30 rfl ?_); refine ld30 _ rfl _ rfl x F (St.bx (by assumption)) rfl ?_) | (go_at_call 13; refine (awake15 _).mono ?_; rintro e wa ⟨rfl, hba⟩; have st := St.next (by assumption) hba; have hbq := Bk.stay hbq hba; have q0 := (hbq.cell 0).trans rfl; have q1 := (hbq.cell 1).trans rfl; clear hba) | (go_at_call 14; refine (few15 x F R rs.length rc _ true Hfew.out.symm).mono ?_; rintro e wf ⟨rfl, hbf⟩; have st := St.next (by assumption) hbf; have hbq := Bk.stay hbq hbf; have q0 := (hbq.cell 0).trans rfl; have q1 := (hbq.cell 1).trans rfl; have q2 := (hbq.cell 2).trans rfl; have hql := hbq.lt; have hxf := st.bx.lt; have hqf := hbq.lt; clear hbf))
        go_ret
        exact ⟨ret_bool (by simp), st.hb⟩
    · go_enter Try.func6, Try.ntmps6
      go_wp2_with (first | go_skip | ((with_reducible refine at_box 30 rfl ?_); refine bx30 _ rfl x F rfl rfl ?_; intro w1 hbx hb1 hs1; have st := St.new hbx hb1; have ho := st.old; have h14 := st.c14; have h15 := st.c15; clear hbx hb1 hs1) | ((with_reducible refine at_box 34 rfl ?_); refine wp_box 34 _ rfl #[.slice R rs.length rc, .slice A from_.length ac, .int .i64 stop] rfl rfl ?_; intro w2 hbq hb2 hs2; have st := St.next (by assumption) hb2; have ho := st.old; have h14 := st.c14; have h15 := st.c15; clear hb2) | ((with_reducible refine at_load 30 rfl ?_); refine ld30 _ rfl _ rfl x F (St.bx (by assumption)) rfl ?_) | (go_at_call 13; refine (awake15 _).mono ?_; rintro e wa ⟨rfl, hba⟩; have st := St.next (by assumption) hba; have hbq := Bk.stay hbq hba; have q0 := (hbq.cell 0).trans rfl; have q1 := (hbq.cell 1).trans rfl; clear hba) | (go_at_call 14; refine (few15 x F R rs.length rc _ true Hfew.out.symm).mono ?_; rintro e wf ⟨rfl, hbf⟩; have st := St.next (by assumption) hbf; have hbq := Bk.stay hbq hbf; have q0 := (hbq.cell 0).trans rfl; have q1 := (hbq.cell 1).trans rfl; have q2 := (hbq.cell 2).trans rfl; have hql := hbq.lt; have hxf := st.bx.lt; have hqf := hbq.lt; clear hbf))
      go_ret
      exact ⟨ret_bool (by simp), st.hb⟩
  · have hfew : (decide (F.code.length ≤ 60) && decide (F.hs.length ≤ 60) && decide (rs.length ≤ 1000)) = false := by simpa using hfew
    have Hfew := Lib.hid hfew
    clear hfew
    go_enter Try.func6, Try.ntmps6
    go_wp2_with (first | go_skip | ((with_reducible refine at_box 30 rfl ?_); refine bx30 _ rfl x F rfl rfl ?_; intro w1 hbx hb1 hs1; have st := St.new hbx hb1; have ho := st.old; have h14 := st.c14; have h15 := st.c15; clear hbx hb1 hs1) | ((with_reducible refine at_box 34 rfl ?_); refine wp_box 34 _ rfl #[.slice R rs.length rc, .slice A from_.length ac, .int .i64 stop] rfl rfl ?_; intro w2 hbq hb2 hs2; have st := St.next (by assumption) hb2; have ho := st.old; have h14 := st.c14; have h15 := st.c15; clear hb2) | ((with_reducible refine at_load 30 rfl ?_); refine ld30 _ rfl _ rfl x F (St.bx (by assumption)) rfl ?_) | (go_at_call 13; refine (awake15 _).mono ?_; rintro e wa ⟨rfl, hba⟩; have st := St.next (by assumption) hba; have hbq := Bk.stay hbq hba; have q0 := (hbq.cell 0).trans rfl; have q1 := (hbq.cell 1).trans rfl; clear hba) | (go_at_call 14; refine (few15 x F R rs.length rc _ false Hfew.out.symm).mono ?_; rintro e wf ⟨rfl, hbf⟩; have st := St.next (by assumption) hbf; have hbq := Bk.stay hbq hbf; have q0 := (hbq.cell 0).trans rfl; have q1 := (hbq.cell 1).trans rfl; have q2 := (hbq.cell 2).trans rfl; have hql := hbq.lt; have hxf := st.bx.lt; have hqf := hbq.lt; clear hbf))
    go_ret
    exact ⟨ret_bool (by simp), st.hb⟩
end Go.Proofs.Ytnnhlnefhndpdaa
