/- The walk of the reference's Make. -/
import Derived.Test.YtnnhlnefhndpdaaRegs2
import Derived.Test.YtnnhlnefhndpdaaWalkX
namespace Go.Proofs.Ytnnhlnefhndpdaa
open Go.RowKit
set_option linter.unusedSimpArgs false
set_option linter.unusedVariables false

theorem OwnR.lower {w : World} {base b : Nat} {A : Option Addr} {c : Nat} {es : List RE} (h : OwnR w base A c es) (hb : b ≤ base) : OwnR w b A c es := by
  refine ⟨⟨h.own.1, ?_⟩, fun e he => ?_⟩
  · rcases h.own.2 with hn | ⟨g, cap, cur, hv, hg, r⟩
    · exact .inl hn
    · exact .inr ⟨g, cap, cur, hv, by omega, r⟩
  · rcases h.pl e he with h | ⟨B', off, h1, h2, h3⟩
    · exact .inl h
    · exact .inr ⟨B', off, h1, by omega, h3⟩

set_option maxHeartbeats 4000000 in
set_option maxRecDepth 100000 in
theorem rmake_any (x : FX) (F : Fn) (R : Option Addr) (rs : List Bool) (rc : Nat) (w : World) (hF : FnAt w x F) (hR : Row w 0 R (boolsV rs)) (hm : F.hs.length ≤ 1000) (hn : F.code.length ≤ 1000) :
    Calls Try.prog 32 #[x.val F, .slice R rs.length rc] w fun e w' => ∃ A c es, e = .returned (.slice A es.length c) ∧ Hid (es.map RE.r = makeF F rs) ∧ OwnR w' w.heap.size A c es ∧ Below w.heap.size w w' := by
  have hah := fun (W : World) (h : FnAt W x F) => rahead_any x F W h hm hn
  cases hA : F.ahead
  · rw [hA] at hah
    have Hah := Lib.hid hah
    have HM := Lib.hid (makeF_no (rs := rs) hA)
    clear hah hA
    go_enter Try.func32, Try.ntmps32
    go_wp2_with (first | go_skip | ((with_reducible refine at_box 30 rfl ?_); refine bx30 _ rfl x F rfl rfl ?_; intro w1 hbx hb1 hs1; have st := St.new hbx hb1; have ho := st.old; have h14 := st.c14; have h15 := st.c15; clear hbx hb1 hs1))
    go_loopg [5, 6] 1 (fun g t s wr => g = 1 ∧ t = .slice none 0 0 ∧ s = .int .i64 0 ∧ St w wr w.heap.size x F)
    case atStart => exact ⟨rfl, rfl, rfl, st⟩
    case round =>
      clear st h14 ho h15
      obtain ⟨rfl, rfl, rfl, st⟩ := hrel
      have h14 := st.c14
      by_cases h0 : 0 < F.code.length
      · go_wp2_with (first | ((with_reducible refine at_load 30 rfl ?_); refine ld30 _ rfl _ rfl x F (St.bx (by assumption)) rfl ?_) | (go_at_call 24; refine (Hah.out _ (St.fn (by assumption) hF)).mono ?_; rintro e wn ⟨rfl, hbn⟩; have st := St.next (by assumption) hbn; have h14 := st.c14; clear hbn))
        go_ret
        exact ⟨none, 0, [], rfl, Lib.hid HM.out.symm, OwnR.nil _ _, st.hb⟩
      · go_wp2
        go_ret
        exact ⟨none, 0, [], rfl, Lib.hid HM.out.symm, OwnR.nil _ _, st.hb⟩
  · rw [hA] at hah
    have Hah := Lib.hid hah
    have HM := Lib.hid (makeF_yes (rs := rs) hA)
    have HA := Lib.hid hA
    clear hah hA
    go_enter Try.func32, Try.ntmps32
    go_wp2_with (first | go_skip | ((with_reducible refine at_box 30 rfl ?_); refine bx30 _ rfl x F rfl rfl ?_; intro w1 hbx hb1 hs1; have st := St.new hbx hb1; have ho := st.old; have h14 := st.c14; have h15 := st.c15; clear hbx hb1 hs1))
    have hxj := st.bx.lt
    go_loopg [5, 6] F.code.length (fun g t s wr => ∃ (k : Nat) (A : Option Addr) (c : Nat) (es : List RE), k ≤ F.code.length ∧ g = F.code.length - k ∧ s = .int .i64 k ∧ t = .slice A es.length c ∧ Hid (es.map RE.r = mkTo F rs k) ∧ OwnR wr w1.heap.size A c es ∧ w1.heap.size ≤ wr.heap.size ∧ St w wr w.heap.size x F)
    case atStart => exact ⟨0, none, 0, [], Nat.zero_le _, rfl, rfl, rfl, rfl, OwnR.nil _ _, Nat.le_refl _, st⟩
    case round =>
      clear st h14 ho h15
      obtain ⟨k, A, c, es, hk, rfl, rfl, rfl, HE, hown, hz, st⟩ := hrel
      have ho := st.old
      have h14 := st.c14
      have hel : es.length ≤ k := by
        have := congrArg List.length HE.out
        rw [List.length_map] at this
        have := mkTo_length F rs k
        omega
      by_cases hlt : k < F.code.length
      · have hbr := fun W h1 h2 => rbranches_any x F R rs rc k W h1 h2
        cases hb : F.branches rs k
        · rw [hb] at hbr
          have Hbr := Lib.hid hbr
          have HN := Lib.hid (mkTo_no hb)
          clear hbr hb
          go_wp2_with (first | ((with_reducible refine at_load 30 rfl ?_); refine ld30 _ rfl _ rfl x F (St.bx (by assumption)) rfl ?_) | (go_at_call 24; refine (Hah.out _ (St.fn (by assumption) hF)).mono ?_; rintro e wn ⟨rfl, hbn⟩; have st := St.next (by assumption) hbn; have h14 := st.c14; have hown := OwnR.stay hown hbn; have hz := Nat.le_trans hz hbn.size; clear hbn) | (go_at_call 56; refine (Hbr.out _ (St.fn (by assumption) hF) (St.row (by assumption) hR)).mono ?_; rintro e wb ⟨rfl, hbn⟩; have st := St.next (by assumption) hbn; have h14 := st.c14; have hown := OwnR.stay hown hbn; have hz := Nat.le_trans hz hbn.size; clear hbn))
          go_roundg (F.code.length - (k + 1))
          case measure => omega
          case rel => exact ⟨k + 1, A, c, es, by omega, rfl, by go_num, rfl, Lib.hid (by rw [HE.out, HN.out]), hown, hz, st⟩
        · rw [hb] at hbr
          have Hbr := Lib.hid hbr
          have HN := Lib.hid (mkTo_yes hb)
          have hof : ∀ W, FnAt W x F → Row W 0 R (boolsV rs) → Calls Try.prog 30 #[x.val F, .slice R rs.length rc, .int .i64 k] W fun e w' => ∃ A c, e = .returned ((made F rs k).val A c) ∧ Own w' W.heap.size A c (made F rs k).pl ∧ Below W.heap.size W w' := by
            intro W h1 h2
            have := rof_any x F R rs rc k W h1 h2 hm hn
            rwa [ofF_yes (Fn.place_of_nat hlt) HA.out] at this
          have Hof := Lib.hid hof
          clear hbr hb hof
          go_wp2_with (first | ((with_reducible refine at_load 30 rfl ?_); refine ld30 _ rfl _ rfl x F (St.bx (by assumption)) rfl ?_) | (go_at_call 24; refine (Hah.out _ (St.fn (by assumption) hF)).mono ?_; rintro e wn ⟨rfl, hbn⟩; have st := St.next (by assumption) hbn; have h14 := st.c14; have hown := OwnR.stay hown hbn; have hz := Nat.le_trans hz hbn.size; clear hbn) | (go_at_call 56; refine (Hbr.out _ (St.fn (by assumption) hF) (St.row (by assumption) hR)).mono ?_; rintro e wb ⟨rfl, hbn⟩; have st := St.next (by assumption) hbn; have h14 := st.c14; have hown := OwnR.stay hown hbn; have hz := Nat.le_trans hz hbn.size; clear hbn) | (go_at_call 30; refine (Hof.out _ (St.fn (by assumption) hF) (St.row (by assumption) hR)).mono ?_; rintro e wo ⟨A3, c3, rfl, hown3, hbn⟩; have he := PlOk.of_own (r := made F rs k) hown3 hown (Nat.le_refl _) hz; have st := St.next (by assumption) hbn; have h14 := st.c14; have hown := OwnR.stay hown hbn; have hz := Nat.le_trans hz hbn.size; clear hbn) | (at_builtin; refine wp_appR _ _ rfl ⟨made F rs k, A3, c3⟩ rfl rfl rfl hown he (by omega) hz ?_; intro A4 c4 es4 w4 HL4 hown4 hb4; have st := St.low (by assumption) hb4 hxj; have hz4 := hb4.size))
          go_roundg (F.code.length - (k + 1))
          case measure => omega
          case rel => exact ⟨k + 1, A4, c4, es4, by omega, rfl, by go_num, rfl, Lib.hid (by rw [HL4.out, List.map_append, HE.out, HN.out]; rfl), hown4, by omega, st⟩
      · have hkn : k = F.code.length := by omega
        have HK := Lib.hid hkn
        clear hkn
        go_wp2
        go_ret
        exact ⟨A, c, es, rfl, Lib.hid (by rw [HE.out, HM.out, HK.out]), hown.lower (by omega), st.hb⟩
end Go.Proofs.Ytnnhlnefhndpdaa
