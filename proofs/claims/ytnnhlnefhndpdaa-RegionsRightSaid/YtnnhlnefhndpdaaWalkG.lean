/- What flow's Ways gives, as a list of the ways; the reference's Ways; Clone. -/
import Derived.Test.YtnnhlnefhndpdaaPlain3
import Derived.Test.YtnnhlnefhndpdaaWalkF
import Derived.Test.YtnnhlnefhndpdaaWalkD
namespace Go.Proofs.Ytnnhlnefhndpdaa
open Go.RowKit

theorem ways_any (x : FX) (F : Fn) (R : Option Addr) (rs : List Bool) (rc : Nat) (a : Int) (w : World) (hF : FnAt w x F) (hR : Row w 0 R (boolsV rs)) (hm : F.hs.length ≤ 1000) (hn : F.code.length ≤ 1000) :
    Calls Try.prog 19 #[x.val F, .slice R rs.length rc, .int .i64 a] w fun e w' => ∃ A c, e = .returned (.slice A (F.ways rs a).length c) ∧ Own w' w.heap.size A c (F.ways rs a) ∧ Below w.heap.size w w' := by
  refine (ways_raw x F R rs rc a w hF hR hm hn).mono ?_
  rintro e w' ⟨A, c, l, hl, he, ho, hb⟩
  have e1 : l = F.ways rs a := hl.out.trans (F.ways_eq rs a)
  subst e1
  exact ⟨A, c, he, ho, hb⟩

theorem ints_zs {w : World} {lo : Nat} {B off : Nat} {l : List Int} (h : Row w lo (some ⟨B, off, none⟩) (intsV l)) : ∀ j, j < l.length → w.cell? ⟨B, off + j, none⟩ = some (.int .i64 (l.getD j 0)) := by
  intro j hj
  obtain ⟨B', off', hA, _, _, hc⟩ := h.int_at hj
  injection hA with hA
  injection hA with h1 h2
  subst h1; subst h2
  exact hc

theorem own_of_row {w : World} {base : Nat} {v : Value} {n : Nat} {l : List Int} (hn : n = l.length) (h : w.ownsRow base 3 1 v n (intsV l)) : ∃ A c, v = .slice A l.length c ∧ Own w base A c l := by
  subst hn
  rcases h.2 with ⟨hv, hz⟩ | ⟨g, cap, cur, hv, _⟩
  · exact ⟨none, 0, by rw [hv, hz], by unfold Own; rw [hz]; rw [hv, hz] at h; exact h⟩
  · exact ⟨some ⟨g, 0, none⟩, cap, hv, by unfold Own; rw [← hv]; exact h⟩

theorem clone_any (A : Option Addr) (l : List Int) (c : Nat) (w : World) (hA : Row w 0 A (intsV l)) (hl : l.length ≤ 100000) :
    Calls Try.prog 34 #[.slice A l.length c] w fun e w' => ∃ A' c', e = .returned (.slice A' l.length c') ∧ Own w' w.heap.size A' c' l ∧ Below w.heap.size w w' := by
  cases A with
  | none =>
    have h0 : l = [] := by
      rcases hA with h | ⟨B, off, h, _⟩
      · simpa [intsV] using h
      · cases h
    subst h0
    refine (Try.slices_Clone_int_nil 0 c w).mono ?_
    rintro e w' ⟨rfl, rfl⟩
    exact ⟨none, 0, rfl, Own.nil _ _, Below.refl _ _⟩
  | some ad =>
    by_cases h0 : l = []
    · subst h0
      refine (Try.slices_Clone_int_zero ad c w).mono ?_
      rintro e w' ⟨v, rfl, hown, _, hb⟩
      obtain ⟨A', c', hv, ho⟩ := own_of_row (l := []) rfl hown
      exact ⟨A', c', by rw [hv], ho, hb⟩
    · obtain ⟨B, off, hB⟩ : ∃ B off, ad = ⟨B, off, none⟩ := by
        rcases hA with h | ⟨B, off, h, _⟩
        · exact absurd (by simpa [intsV] using h) h0
        · exact ⟨B, off, by injection h⟩
      subst hB
      refine (Try.slices_Clone_int B off l.length c l w (Nat.le_refl _) (by omega) (ints_zs hA)).mono ?_
      rintro e w' ⟨v, rfl, hown, _, hb⟩
      rw [List.take_length] at hown
      obtain ⟨A', c', hv, ho⟩ := own_of_row (l := l) rfl hown
      exact ⟨A', c', by rw [hv], ho, hb⟩

set_option maxHeartbeats 2000000 in
theorem rways_any (x : FX) (F : Fn) (R : Option Addr) (rs : List Bool) (rc : Nat) (a : Int) (w : World) (hF : FnAt w x F) (hR : Row w 0 R (boolsV rs)) (hm : F.hs.length ≤ 1000) (hn : F.code.length ≤ 1000) :
    Calls Try.prog 55 #[x.val F, .slice R rs.length rc, .int .i64 a] w fun e w' => ∃ A c, e = .returned (.slice A (F.ways rs a).length c) ∧ Own w' w.heap.size A c (F.ways rs a) ∧ Below w.heap.size w w' := by
  by_cases hp : F.place a = true
  · obtain ⟨p, rfl, hpk⟩ := Fn.place_nat hp
    go_enter Try.func55, Try.ntmps55
    go_wp2_with (first | go_skip | ((with_reducible refine at_box 30 rfl ?_); refine bx30 _ rfl x F rfl rfl ?_; intro w1 hbx hb1 hs1; have st := St.new hbx hb1; have ho := st.old; have h14 := st.c14; have h15 := st.c15; clear hbx hb1 hs1))
    go_loopg [7, 8] F.code.length (fun g s i wr => ∃ (k : Nat) (A : Option Addr) (c : Nat) (l : List Int), k ≤ F.code.length ∧ g = F.code.length - k ∧ i = .int .i64 k ∧ s = .slice A l.length c ∧ l = waysTo F rs p k ∧ Own wr (w.heap.size + 1) A c l ∧ St w wr w.heap.size x F)
    case atStart => exact ⟨0, none, 0, [], Nat.zero_le _, rfl, rfl, rfl, rfl, Own.nil _ _, st⟩
    case round =>
      obtain ⟨k, A, c, l, hk, rfl, rfl, rfl, hl, hown, st⟩ := hrel
      have ho := st.old
      have h14 := st.c14
      have hz0 := st.bx.lt
      have hll : l.length ≤ k := by rw [hl]; exact waysTo_length _ _ _ _
      have HL := Lib.hid hl
      clear hl
      by_cases hlt : k < F.code.length
      · by_cases hw : F.way rs p k = true
        · have H1 := Lib.hid (waysTo_yes hw)
          go_wp2_with (first | go_skip | ((with_reducible refine at_load 30 rfl ?_); refine ld30 _ rfl _ rfl x F (St.bx (by assumption)) rfl ?_) | (go_at_call 35; refine (place_any x F _ _).mono ?_; rintro e wn ⟨rfl, hbn⟩; have st := St.next (by assumption) hbn; have ho := st.old; have h14 := st.c14; have hown := Own.stay (by assumption) hbn; have hz := hbn.size; clear hbn) | (go_at_call 36; refine (way_any x F R rs rc p _ _ (St.fn (by assumption) hF) (St.row (by assumption) hR) hm hn hpk).mono ?_; rintro e wn ⟨rfl, hbn⟩; have st := St.next (by assumption) hbn; have ho := st.old; have h14 := st.c14; have hown := Own.stay (by assumption) hbn; have hz := hbn.size; clear hbn) | (at_builtin; refine wp_app1 _ _ rfl rfl (base := w.heap.size + 1) rfl rfl (by assumption) (by omega) (by omega) ?_; intro A2 c2 l2 w2 HL2 hown2 hb2; have st := St.low (by assumption) hb2 (by omega)))
          go_roundg (F.code.length - (k + 1))
          case measure => omega
          case rel => exact ⟨k + 1, A2, c2, l2, by omega, rfl, by go_num, rfl, by rw [HL2.out, HL.out, H1.out], hown2, st⟩
        · have hw : F.way rs p k = false := by simpa using hw
          have H1 := Lib.hid (waysTo_no hw)
          go_wp2_with (first | go_skip | ((with_reducible refine at_load 30 rfl ?_); refine ld30 _ rfl _ rfl x F (St.bx (by assumption)) rfl ?_) | (go_at_call 35; refine (place_any x F _ _).mono ?_; rintro e wn ⟨rfl, hbn⟩; have st := St.next (by assumption) hbn; have ho := st.old; have h14 := st.c14; have hown := Own.stay (by assumption) hbn; have hz := hbn.size; clear hbn) | (go_at_call 36; refine (way_any x F R rs rc p _ _ (St.fn (by assumption) hF) (St.row (by assumption) hR) hm hn hpk).mono ?_; rintro e wn ⟨rfl, hbn⟩; have st := St.next (by assumption) hbn; have ho := st.old; have h14 := st.c14; have hown := Own.stay (by assumption) hbn; have hz := hbn.size; clear hbn))
          go_roundg (F.code.length - (k + 1))
          case measure => omega
          case rel => exact ⟨k + 1, A, c, l, by omega, rfl, by go_num, rfl, by rw [HL.out, H1.out], hown, st⟩
      · have e1 : l = F.ways rs p := by rw [HL.out, show k = F.code.length by omega]; exact waysTo_all hp
        subst e1
        go_wp2
        go_ret
        exact ⟨A, c, rfl, hown.lower (by omega), st.hb⟩
  · have hp : F.place a = false := by simpa using hp
    rw [Fn.ways_out rs hp]
    go_enter Try.func55, Try.ntmps55
    go_wp2_with (first | go_skip | ((with_reducible refine at_box 30 rfl ?_); refine bx30 _ rfl x F rfl rfl ?_; intro w1 hbx hb1 hs1; have st := St.new hbx hb1; have ho := st.old; have h14 := st.c14; have h15 := st.c15; clear hbx hb1 hs1))
    refine wp_loop_rounds 1 ?_
    rw [rounds_succ]
    by_cases h0 : 0 < F.code.length
    · go_wp2_with (first | go_skip | ((with_reducible refine at_load 30 rfl ?_); refine ld30 _ rfl _ rfl x F (St.bx (by assumption)) rfl ?_) | (go_at_call 35; refine (place_any x F _ _).mono ?_; rintro e wn ⟨rfl, hbn⟩; have st := St.next (by assumption) hbn; clear hbn))
      go_ret
      exact ⟨none, 0, rfl, Own.nil _ _, st.hb⟩
    · go_wp2
      go_ret
      exact ⟨none, 0, rfl, Own.nil _ _, st.hb⟩
end Go.Proofs.Ytnnhlnefhndpdaa
