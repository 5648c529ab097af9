/- The walk of flow's Reach: it gives all that is come to. -/
import Derived.Test.YtnnhlnefhndpdaaWalkG
namespace Go.Proofs.Ytnnhlnefhndpdaa
open Go.RowKit

theorem snoc_of_ne {l : List Int} (h : l ≠ []) : ∃ t z, l = t ++ [z] := ⟨l.dropLast, l.getLast h, (List.dropLast_concat_getLast h).symm⟩
theorem snoc_get (t : List Int) (z : Int) : (t ++ [z]).getD t.length 0 = z := by simp

set_option maxHeartbeats 4000000 in
set_option maxRecDepth 100000 in
theorem reach_any (x : FX) (F : Fn) (R A : Option Addr) (rs : List Bool) (rc : Nat) (from_ : List Int) (ac : Nat) (stop : Int) (w : World) (hF : FnAt w x F) (hR : Row w 0 R (boolsV rs)) (hA : Row w 0 A (intsV from_)) (hm : F.hs.length ≤ 1000) (hn : F.code.length ≤ 1000) (hfl : from_.length ≤ 1000) :
    Calls Try.prog 16 #[x.val F, .slice R rs.length rc, .slice A from_.length ac, .int .i64 stop] w fun e w' => ∃ A' c', e = .returned (.slice A' (reachL F rs from_ stop).length c') ∧ Own w' w.heap.size A' c' (reachL F rs from_ stop) ∧ Below w.heap.size w w' := by
  go_enter Try.func16, Try.ntmps16
  go_wp2_with (first | go_skip | ((with_reducible refine at_box 30 rfl ?_); refine bx30 _ rfl x F rfl rfl ?_; intro w1 hbx hb1 hs1; have st := St.new hbx hb1; have ho := st.old; have h14 := st.c14; have h15 := st.c15; clear hbx hb1 hs1) | (at_make; refine mk31 _ _ rfl rfl F.code.length rfl rfl (by omega) ?_; intro w2 hbs hb2 hs2; have st := St.next (by assumption) hb2; have ho := st.old; have h14 := st.c14; have h15 := st.c15; clear hb2) | (go_at_call 34; refine (clone_any A from_ ac _ (St.row (by assumption) hA) (by omega)).mono ?_; rintro e w3 ⟨A', c', rfl, hown, hb3⟩; have st := St.next (by assumption) hb3; have ho := st.old; have h14 := st.c14; have h15 := st.c15; have hbs := Bk.stay (by assumption) hb3; have hz3 := hb3.size; clear hb3))
  have hs1 : w.heap.size < w1.heap.size := (‹St w w1 w.heap.size x F›).bx.lt
  have hu0 := unseen_replicate F.code.length
  go_loopg [10] (from_.length + 4 * F.code.length) (fun g s wr => ∃ (A : Option Addr) (c : Nat) (todo : List Int) (seen : List Bool), g = todo.length + 4 * unseen seen ∧ g ≤ 10000 ∧ s = .slice A todo.length c ∧ Inv F rs from_ stop seen todo ∧ BoolsBk wr w1.heap.size seen ∧ Own wr w2.heap.size A c todo ∧ w2.heap.size ≤ wr.heap.size ∧ St w wr w.heap.size x F)
  case atStart => exact ⟨A', c', from_, List.replicate F.code.length false, by rw [hu0], by omega, rfl, Inv.begin F rs from_ stop, hbs, hown, hz3, st⟩
  case round =>
    clear hu0
    obtain ⟨A, c, todo, seen, rfl, hg, rfl, hinv, hbs, hown, hz, st⟩ := hrel
    have ho := st.old
    have h14 := st.c14
    by_cases hne : todo = []
    · subst hne
      have hdone := Lib.hid hinv.done
      have hlen := Lib.hid hinv.len
      clear hinv
      go_wp2
      go_loopg [12, 65] F.code.length (fun g s i wr => ∃ (k : Nat) (A : Option Addr) (c : Nat) (l : List Int), k ≤ F.code.length ∧ g = F.code.length - k ∧ i = .int .i64 k ∧ s = .slice A l.length c ∧ l = told seen k ∧ BoolsBk wr w1.heap.size seen ∧ Own wr w2.heap.size A c l ∧ w2.heap.size ≤ wr.heap.size ∧ St w wr w.heap.size x F)
      case atStart => exact ⟨0, none, 0, [], Nat.zero_le _, rfl, rfl, rfl, rfl, hbs, Own.nil _ _, hz, st⟩
      case round =>
        clear hbs hown hz st ho h14
        obtain ⟨k, A, c, l, hk, rfl, rfl, rfl, hl, hbs, hown, hz, st⟩ := hrel
        have hll : l.length ≤ k := by rw [hl]; exact told_length _ _
        have HL := Lib.hid hl
        clear hl
        by_cases hlt : k < F.code.length
        · have hc0 := bools_at hbs (by rw [hlen.out]; exact hlt)
          by_cases hb : seen.getD k false = true
          · rw [hb] at hc0
            have H1 := Lib.hid (told_yes hb)
            clear hb
            go_wp2_with (at_builtin; refine wp_app1 _ _ rfl rfl (base := w2.heap.size) rfl rfl hown (by omega) (by omega) ?_; intro A4 c4 l4 w4 HL4 hown4 hb4; have st := St.low (by assumption) hb4 (by omega); have hbs4 := Bk.below hbs hb4 (by omega))
            go_roundg (F.code.length - (k + 1))
            case measure => omega
            case rel => exact ⟨k + 1, A4, c4, l4, by omega, rfl, by go_num, rfl, by rw [HL4.out, HL.out, H1.out], hbs4, hown4, by have := hb4.size; omega, st⟩
          · have hb : seen.getD k false = false := by simpa using hb
            rw [hb] at hc0
            have H1 := Lib.hid (told_no hb)
            clear hb
            go_wp2
            go_roundg (F.code.length - (k + 1))
            case measure => omega
            case rel => exact ⟨k + 1, A, c, l, by omega, rfl, by go_num, rfl, by rw [HL.out, H1.out], hbs, hown, hz, st⟩
        · have e1 : l = reachL F rs from_ stop := by rw [HL.out, show k = F.code.length by omega]; exact hdone.out
          subst e1
          go_wp2
          go_ret
          exact ⟨A, c, rfl, hown.lower (by omega), st.hb⟩
    · obtain ⟨t, z, rfl⟩ := snoc_of_ne hne
      obtain ⟨g, cap, hv, hg1, hg2⟩ := World.ownsRow.form hown (by simp)
      injection hv with hA1 _ hc1
      subst hA1; subst hc1
      have hz1 : wr.cell? ⟨g, t.length, none⟩ = some (.int .i64 z) := by
        obtain ⟨B, off, hA1, _, _, hc1⟩ := hown.row.int_at (k := t.length) (by simp)
        injection hA1 with hA1
        injection hA1 with h1 h2
        subst h1; subst h2
        rw [snoc_get] at hc1
        simpa using hc1
      have hcap : t.length + 1 ≤ c := by have := hown.cap; simpa using this
      have hown' := hown.cut
      have Hinv := Lib.hid hinv
      have hlen := Lib.hid hinv.len
      have e1 : (t ++ [z]).length = t.length + 1 := by simp
      rw [e1] at hg ⊢
      clear hown hne e1 hinv
      by_cases c1 : (z == stop) = true
      · have hn' := Hinv.out.skip (.inl (by simpa using c1))
        go_wp2
        go_roundg (t.length + 4 * unseen seen)
        case measure => omega
        case rel => exact ⟨_, _, t, seen, rfl, by omega, rfl, hn', hbs, hown', hz, st⟩
      · have c1 : (z == stop) = false := by simpa using c1
        by_cases c2 : z < 0
        · have hn' := Hinv.out.skip (.inr (.inl (by simp [Fn.place]; omega)))
          go_wp2
          go_roundg (t.length + 4 * unseen seen)
          case measure => omega
          case rel => exact ⟨_, _, t, seen, rfl, by omega, rfl, hn', hbs, hown', hz, st⟩
        · by_cases c3 : (F.code.length : Int) ≤ z
          · have hn' := Hinv.out.skip (.inr (.inl (by simp [Fn.place]; omega)))
            go_wp2
            go_roundg (t.length + 4 * unseen seen)
            case measure => omega
            case rel => exact ⟨_, _, t, seen, rfl, by omega, rfl, hn', hbs, hown', hz, st⟩
          · obtain ⟨k, rfl⟩ := Int.eq_ofNat_of_zero_le (show 0 ≤ z by omega)
            have hk : k < F.code.length := by omega
            have hc0 := bools_at hbs (by rw [hlen.out]; exact hk)
            by_cases c4 : seen.getD k false = true
            · have hn' := Hinv.out.skip (.inr (.inr ⟨k, rfl, c4⟩))
              rw [c4] at hc0
              clear c4
              go_wp2
              go_roundg (t.length + 4 * unseen seen)
              case measure => omega
              case rel => exact ⟨_, _, t, seen, rfl, by omega, rfl, hn', hbs, hown', hz, st⟩
            · have c4 : seen.getD k false = false := by simpa using c4
              have hu := unseen_set (by rw [hlen.out]; exact hk) c4
              rw [c4] at hc0
              clear c4
              have hn' := Hinv.out.mark (by simpa using c1) hk
              have hfr := hbs.free k
              have hbs := bools_set (k := k) hbs true
              have st := st.set (p := ⟨w1.heap.size, k, none⟩) (by show w.heap.size ≤ w1.heap.size; omega) (by show w.heap.size ≠ w1.heap.size; omega) (.bool true)
              have hown := hown'.set_low (p := ⟨w1.heap.size, k, none⟩) (by show w1.heap.size < w2.heap.size; omega) (.bool true)
              have hzs : wr.heap.size ≤ (wr.setCell ⟨w1.heap.size, k, none⟩ (.bool true)).heap.size := by simp
              have hwl := F.ways_length rs k
              have HU := Lib.hid hu
              clear hu hown'
              go_wp2_with (first | go_skip | ((with_reducible refine at_load 30 rfl ?_); refine ld30 _ rfl _ rfl x F (St.bx (by assumption)) rfl ?_) | (go_at_call 19; refine (ways_any x F R rs rc _ _ (St.fn (by assumption) hF) (St.row (by assumption) hR) hm hn).mono ?_; rintro e wn ⟨A2, c2, rfl, hown2, hbn⟩; have st := St.next (by assumption) hbn; have hown := Own.stay (by assumption) hbn; have hbs := Bk.stay (by assumption) hbn; have hz := hbn.size; clear hbn) | (at_builtin; refine wp_app _ _ rfl rfl (base := w2.heap.size) rfl rfl hown hown2.row (by omega) (by omega) ?_; intro A4 c4 l4 w4 HL4 hown4 hb4; have st := St.low (by assumption) hb4 (by omega); have hbs4 := Bk.below hbs hb4 (by omega)))
              go_roundg (l4.length + 4 * unseen (seen.set k true))
              case measure => have := HU.out; have := HL4.out; subst this; simp only [List.length_append] at *; omega
              case rel => exact ⟨_, _, l4, seen.set k true, rfl, by have := HU.out; have := HL4.out; subst this; simp only [List.length_append] at *; omega, rfl, by rw [HL4.out]; exact hn', hbs4, hown4, by have := hb4.size; omega, st⟩
end Go.Proofs.Ytnnhlnefhndpdaa
