/- The walk of regions' joins: it gives each place's join. -/
import Derived.Test.YtnnhlnefhndpdaaWalkL
import Derived.Test.YtnnhlnefhndpdaaWalkG
import Derived.StillTailTactics
namespace Go.Proofs.Ytnnhlnefhndpdaa
open Go.RowKit

theorem allM_spot {F : Fn} {rs : List Bool} {ws : List Int} {i : Nat} (ha : F.ahead = true) (hne : ws ≠ []) (hw : ∀ w ∈ ws, (i : Int) < w) : Spot (i + 1) F.code.length (allM F rs ws) := by
  unfold allM
  rcases least_cases F.code.length fun m => ∀ w ∈ ws, Meets F rs m w with ⟨h, _⟩ | ⟨k, h, h2, h3, _⟩
  · exact .inl h
  · obtain ⟨u, hu⟩ := List.exists_mem_of_ne_nil _ hne
    have h4 := (h3 u hu).le ha
    have h5 := hw u hu
    exact .inr ⟨k, h, by omega, h2⟩
theorem getD_set_self {l : List Int} {i : Nat} {v : Int} (hi : i < l.length) : (l.set i v).getD i 0 = v := by simp [hi]
theorem getD_set_far {l : List Int} {i k : Nat} {v : Int} (hk : i ≠ k) : (l.set i v).getD k 0 = l.getD k 0 := by simp [List.getElem?_set_ne hk]
theorem take_succ_snoc {l : List Int} {k : Nat} (hk : k < l.length) : l.take (k + 1) = l.take k ++ [l.getD k 0] := by
  rw [List.take_succ_eq_append_getElem hk]
  simp [List.getElem?_eq_getElem hk]

theorem World.drew_below (w : World) : Below w.heap.size w w.drew := (Below.refl _ _).drew
theorem Own.set_far {w : World} {base c : Nat} {A : Option Addr} {l : List Int} (h : Own w base A c l) {p : Addr} (hp : A ≠ some ⟨p.block, 0, none⟩) (u : Value) : Own (w.setCell p u) base A c l := by
  refine ⟨h.1, ?_⟩
  rcases h.2 with hn | ⟨g, cap, cur, hv, hg, hh, r⟩
  · exact .inl hn
  · refine .inr ⟨g, cap, cur, hv, hg, ?_, r⟩
    have hgp : g ≠ p.block := by
      rintro rfl
      injection hv with hA
      exact hp hA
    exact (Below.heap_setCell w p u g hgp).trans hh

set_option maxHeartbeats 4000000 in
set_option maxRecDepth 100000 in
theorem joins_any (x : FX) (F : Fn) (R : Option Addr) (rs : List Bool) (rc : Nat) (w : World) (hF : FnX w x F) (hR : Row w 0 R (boolsV rs)) (hm : F.hs.length ≤ 1000) (hn : F.code.length ≤ 1000) (ha : F.ahead = true) :
    Calls Try.prog 53 #[x.val F, .slice R rs.length rc] w fun e w' => ∃ (B : Nat) (l : List Int), e = .returned (.slice (some ⟨B, 0, none⟩) F.code.length F.code.length) ∧ Hid (l.length = F.code.length ∧ ∀ k : Nat, k < F.code.length → l.getD k 0 = jn F rs k) ∧
      IntsBk w' B l ∧ w.heap.size ≤ B ∧ Below w.heap.size w w' := by
  go_enter Try.func53, Try.ntmps53
  go_wp2_with (first | go_skip | ((with_reducible refine at_box 30 rfl ?_); refine bx30 _ rfl x F rfl rfl ?_; intro w1 hbx hb1 hs1; have st := St.new hbx hb1; have ho := st.old; have h14 := st.c14; have h15 := st.c15; clear hbx hb1 hs1) | (at_make; refine mk32 _ _ rfl rfl F.code.length rfl rfl (by omega) ?_; intro w2 hs hb2 hs2; have st := St.next (by assumption) hb2; have ho := st.old; have h14 := st.c14; have h15 := st.c15; clear hb2) | ((with_reducible refine at_alloc 32 rfl ?_); refine al32 rfl rfl ?_; intro w3 hbl hb3 hs3; have st := St.next (by assumption) hb3; have hs := Bk.stay hs hb3; have ho := st.old; have h14 := st.c14; have h15 := st.c15; have hc0 := hbl.c0; have hf0 := hbl.free 0; clear hb3))
  have hxl : w.heap.size < w1.heap.size := (‹St w w1 w.heap.size x F›).bx.lt
  have hbl := Bk.set_ hbl 0 (Value.slice (some ⟨w1.heap.size, 0, none⟩) F.code.length F.code.length)
  have hs := Bk.far hs (p := ⟨w2.heap.size, 0, none⟩) (by show w1.heap.size ≠ w2.heap.size; omega) (Value.slice (some ⟨w1.heap.size, 0, none⟩) F.code.length F.code.length)
  have st := St.set st (p := ⟨w2.heap.size, 0, none⟩) (by show w.heap.size ≤ w2.heap.size; omega) (by show w.heap.size ≠ w2.heap.size; omega) (Value.slice (some ⟨w1.heap.size, 0, none⟩) F.code.length F.code.length)
  go_loopg [7] (F.code.length + 1) (fun g s wr => ∃ (k : Nat) (j : Int) (l : List Int), k ≤ F.code.length ∧ g = k + 1 ∧ s = .int .i64 j ∧ j = (k : Int) - 1 ∧ Hid (l.length = F.code.length) ∧ Hid (∀ m : Nat, k ≤ m → m < F.code.length → l.getD m 0 = jn F rs m) ∧
    IntsBk wr w1.heap.size l ∧ Bk wr w2.heap.size 32 #[.slice (some ⟨w1.heap.size, 0, none⟩) F.code.length F.code.length] ∧ St w wr w.heap.size x F)
  case atStart => exact ⟨F.code.length, _, List.replicate F.code.length 0, Nat.le_refl _, rfl, rfl, by go_num, Lib.hid (by simp), Lib.hid (fun m h1 h2 => by omega), hs, hbl, st⟩
  case round =>
    clear st hs hbl ho h14 h15 hc0 hf0
    obtain ⟨k, j, l, hk, rfl, rfl, hj, HL, HJ, hs, hbl, st⟩ := hrel
    have hz1 := hbl.lt
    have hcl := hbl.c0
    rcases k with _ | i
    · obtain rfl : j = -1 := by omega
      clear hj
      go_wp2
      go_ret
      exact ⟨_, l, rfl, Lib.hid ⟨HL.out, fun m h => HJ.out m (Nat.zero_le _) h⟩, hs, by omega, st.hb⟩
    · obtain rfl : j = (i : Int) := by omega
      clear hj
      have hil : i < l.length := by rw [HL.out]; omega
      have hin : i < F.code.length := by omega
      have hix := ix32 (A := some ⟨w1.heap.size, 0, none⟩) rfl hin F.code.length
      simp only [Nat.zero_add] at hix
      have hcall := fun W h1 h2 => ways_any x F R rs rc (i : Int) W h1 h2 hm hn
      have hlv := fun W h1 h2 => leaves_any x F R rs rc (i : Int) W h1 h2 hm
      have Hlo := Lib.hid (fun w h => @Fn.ways_ahead F rs i w ha h)
      have Hpl := Lib.hid (fun w h => @Fn.ways_place F rs i w h)
      have hws3 := Fn.ways_length F rs i
      have hj1 := @jn_leaves F rs i
      have hj2 := @jn_all F rs i
      generalize F.ways rs i = ws at *
      generalize F.leaves rs i = lv at *
      have Hcall := Lib.hid hcall
      clear hcall
      by_cases hw0 : ws = []
      · have Hj := Lib.hid (hj1 (.inr hw0))
        subst hw0
        clear hlv hj1 hj2
        go_wp2_with (first | go_skip | ((with_reducible refine at_load 30 rfl ?_); refine ld30 _ rfl _ rfl x F (St.bx (by assumption)) rfl ?_) | (go_at_call 19; refine (Hcall.out _ (St.fn (by assumption) hF.fn) (St.row (by assumption) hR)).mono ?_; rintro e wn ⟨A2, c2, rfl, hown, hbn⟩; have st := St.next (by assumption) hbn; have hs := Bk.stay hs hbn; have hbl := Bk.stay hbl hbn; have hcl := hbl.c0; have hc0 := ints_at hs hil; have hf0 := Bk.free hs i; have stS := St.set st (p := ⟨w1.heap.size, i, none⟩) (by show w.heap.size ≤ w1.heap.size; omega) (by show w.heap.size ≠ w1.heap.size; omega) (Value.int .i64 (-1)); have hsS := ints_set (k := i) hs (-1); have hblS := Bk.far hbl (p := ⟨w1.heap.size, i, none⟩) (by show w2.heap.size ≠ w1.heap.size; omega) (Value.int .i64 (-1)); have hownS := Own.set_low hown (p := ⟨w1.heap.size, i, none⟩) (by show w1.heap.size < wr.heap.size; omega) (Value.int .i64 (-1)); clear hbn))
        have st := stS
        have hs := hsS
        have hbl := hblS
        go_roundg (i + 1)
        case measure => omega
        case rel =>
          refine ⟨i, _, l.set i (-1), by omega, rfl, by go_num, by omega, Lib.hid (by rw [List.length_set, HL.out]), Lib.hid (fun m h1 h2 => ?_), hs, hbl, st⟩
          by_cases hmi : i = m
          · subst hmi
            rw [getD_set_self (by omega), Hj.out]
          · rw [getD_set_far hmi]
            exact HJ.out m (by omega) h2
      · have hne : ((ws.length : Int) == 0) = false := by simpa using hw0
        cases lv with
        | true =>
          have Hj := Lib.hid (hj1 (.inl rfl))
          have Hlv := Lib.hid hlv
          clear hlv hj1 hj2
          go_wp2_with (first | go_skip | ((with_reducible refine at_load 30 rfl ?_); refine ld30 _ rfl _ rfl x F (St.bx (by assumption)) rfl ?_) | (go_at_call 19; refine (Hcall.out _ (St.fn (by assumption) hF.fn) (St.row (by assumption) hR)).mono ?_; rintro e wn ⟨A2, c2, rfl, hown, hbn⟩; have st := St.next (by assumption) hbn; have hs := Bk.stay hs hbn; have hbl := Bk.stay hbl hbn; have hcl := hbl.c0; have hc0 := ints_at hs hil; have hf0 := Bk.free hs i; have stS := St.set st (p := ⟨w1.heap.size, i, none⟩) (by show w.heap.size ≤ w1.heap.size; omega) (by show w.heap.size ≠ w1.heap.size; omega) (Value.int .i64 (-1)); have hsS := ints_set (k := i) hs (-1); have hblS := Bk.far hbl (p := ⟨w1.heap.size, i, none⟩) (by show w2.heap.size ≠ w1.heap.size; omega) (Value.int .i64 (-1)); have hownS := Own.set_low hown (p := ⟨w1.heap.size, i, none⟩) (by show w1.heap.size < wr.heap.size; omega) (Value.int .i64 (-1)); clear hbn) | (go_at_call 27; refine (Hlv.out _ (St.fn (by assumption) hF.fn) (St.row (by assumption) hR)).mono ?_; rintro e wl ⟨rfl, hbn⟩; have st := St.next stS hbn; have hs := Bk.stay hsS hbn; have hbl := Bk.stay hblS hbn; have hown := Own.stay hownS hbn; clear hbn stS hsS hblS hownS))
          go_roundg (i + 1)
          case measure => omega
          case rel =>
            refine ⟨i, _, l.set i (-1), by omega, rfl, by go_num, by omega, Lib.hid (by rw [List.length_set, HL.out]), Lib.hid (fun m h1 h2 => ?_), hs, hbl, st⟩
            by_cases hmi : i = m
            · subst hmi
              rw [getD_set_self (by omega), Hj.out]
            · rw [getD_set_far hmi]
              exact HJ.out m (by omega) h2
        | false =>
          have Hj := Lib.hid (hj2 rfl hw0)
          have Hlv := Lib.hid hlv
          clear hlv hj1 hj2
          go_wp2_with (first | go_skip | ((with_reducible refine at_load 30 rfl ?_); refine ld30 _ rfl _ rfl x F (St.bx (by assumption)) rfl ?_) | (go_at_call 19; refine (Hcall.out _ (St.fn (by assumption) hF.fn) (St.row (by assumption) hR)).mono ?_; rintro e wn ⟨A2, c2, rfl, hown, hbn⟩; have st := St.next (by assumption) hbn; have hs := Bk.stay hs hbn; have hbl := Bk.stay hbl hbn; have hcl := hbl.c0; have hc0 := ints_at hs hil; have hf0 := Bk.free hs i; have stS := St.set st (p := ⟨w1.heap.size, i, none⟩) (by show w.heap.size ≤ w1.heap.size; omega) (by show w.heap.size ≠ w1.heap.size; omega) (Value.int .i64 (-1)); have hsS := ints_set (k := i) hs (-1); have hblS := Bk.far hbl (p := ⟨w1.heap.size, i, none⟩) (by show w2.heap.size ≠ w1.heap.size; omega) (Value.int .i64 (-1)); have hownS := Own.set_low hown (p := ⟨w1.heap.size, i, none⟩) (by show w1.heap.size < wr.heap.size; omega) (Value.int .i64 (-1)); clear hbn) | (go_at_call 27; refine (Hlv.out _ (St.fn (by assumption) hF.fn) (St.row (by assumption) hR)).mono ?_; rintro e wl ⟨rfl, hbn⟩; have st := St.next stS hbn; have hs := Bk.stay hsS hbn; have hbl := Bk.stay hblS hbn; have hown := Own.stay hownS hbn; clear hbn stS hsS hblS hownS))
          obtain ⟨y, t, rfl⟩ : ∃ y t, ws = y :: t := List.exists_cons_of_ne_nil hw0
          obtain ⟨g, cap, hv, hg1, hg2⟩ := World.ownsRow.form hown (by simp)
          injection hv with hA1 _ hc1
          subst hA1; subst hc1
          have hgne : g ≠ w1.heap.size := by omega
          have hown := hown.lower (Nat.zero_le _)
          have hy0 : wl.cell? ⟨g, 0, none⟩ = some (.int .i64 y) := by
            obtain ⟨B, off, hA1, _, _, hc1⟩ := hown.row.int_at (k := 0) (by simp)
            injection hA1 with hA1
            injection hA1 with h1 h2
            subst h1; subst h2
            exact hc1
          have hcl := hbl.c0
          have hc0 := ints_at hs (show i < (l.set i (-1)).length by rw [List.length_set]; exact hil)
          have hf0 := Bk.free hs i
          have hiy : ∀ W, (Instr.indexAt 32 (.slice (some ⟨g, 0, none⟩) (y :: t).length c2) (.int .i64 0)).run Try.prog W = .ok (.pointer (some ⟨g, 0, none⟩)) W := ix32 (A := some ⟨g, 0, none⟩) (k := 0) rfl (by simp) c2
          have hlen1 : (y :: t).length = t.length + 1 := rfl
          rw [hlen1] at hiy hne hws3
          rw [hlen1]
          refine wp_region_still_tail 5 (by kernel_rfl) (by kernel_rfl) ?_
          simp only [List.take_succ_cons, List.take_zero, List.drop_succ_cons, List.drop_zero]
          repeat (refine wpStill_step (fun K hK => ?_); go_simp; refine hK _ ?_; clear hK K)
          try refine wpStill_nil ?_
          change wpList _ _ _ _ _ wl.drew
          have st := st.drew
          have hs := hs.drew
          have hbl := hbl.drew
          have hown := Own.stay hown (World.drew_below wl)
          have hcl := hbl.c0
          have hc0 := ints_at hs (show i < (l.set i (-1)).length by rw [List.length_set]; exact hil)
          have hf0 := Bk.free hs i
          generalize wl.drew = w9 at *
          have ht1 : t.length + 1 ≤ c2 := by have := hown.cap; simpa using this
          have hzs := hs.lt
          have hlen1 : (y :: t).length = t.length + 1 := rfl
          have stS := St.set st (p := ⟨w1.heap.size, i, none⟩) (by show w.heap.size ≤ w1.heap.size; omega) (by show w.heap.size ≠ w1.heap.size; omega) (Value.int .i64 y)
          have hsS := ints_set (k := i) hs y
          have hblS := Bk.far hbl (p := ⟨w1.heap.size, i, none⟩) (by show w2.heap.size ≠ w1.heap.size; omega) (Value.int .i64 y)
          have hownS := Own.set_far hown (p := ⟨w1.heap.size, i, none⟩) (fun e => by injection e with e; injection e with e; exact hgne e) (Value.int .i64 y)
          have HJ1 : Hid (∀ m : Nat, i + 1 ≤ m → m < F.code.length → ((l.set i (-1)).set i y).getD m 0 = jn F rs m) := Lib.hid (fun m h1 h2 => by rw [getD_set_far (by omega), getD_set_far (by omega)]; exact HJ.out m h1 h2)
          have HV : Hid (((l.set i (-1)).set i y).getD i 0 = allM F rs ((y :: t).take 1)) := Lib.hid (by rw [getD_set_self (by rw [List.length_set]; exact hil)]; exact (allM_one ha (Hpl.out y (List.mem_cons_self ..))).symm)
          have HL1 : Hid (((l.set i (-1)).set i y).length = F.code.length) := Lib.hid (by rw [List.length_set, List.length_set]; exact HL.out)
          have hpos : ∀ k, k < t.length → (Instr.indexAt 32 (.slice (some ⟨g, 1, none⟩) t.length (c2 - 1)) (.int .i64 (k : Int))).run Try.prog = (fun W => .ok (.pointer (some ⟨g, 1 + k, none⟩)) W) := fun k hk => funext fun W => ix32 (A := some ⟨g, 1, none⟩) rfl hk (c2 - 1) W
          have Hpos := Lib.hid hpos
          clear hpos
          have Hs2 := Lib.hid hsS
          have Hbl2 := Lib.hid hblS
          have Hown2 := Lib.hid hownS
          have HW := Lib.hid hs
          clear hbl hown hsS hblS hownS hw0 hz1 hk
          go_wp2
          case inl =>
            have hs := Hs2.out
            have hbl := Hbl2.out
            have hown := Hown2.out
            clear Hs2 Hbl2 Hown2 HW hcl hc0 hf0 hy0 hiy
            generalize (l.set i (-1)).set i y = l1 at *
            go_loopg [48] (t.length + 1) (fun gg s wr => ∃ (k : Nat) (l : List Int), k ≤ t.length ∧ gg = t.length + 1 - k ∧ s = .int .i64 k ∧ Hid (l.length = F.code.length) ∧ Hid (∀ m : Nat, i + 1 ≤ m → m < F.code.length → l.getD m 0 = jn F rs m) ∧ Hid (l.getD i 0 = allM F rs ((y :: t).take (k + 1))) ∧
              IntsBk wr w1.heap.size l ∧ Bk wr w2.heap.size 32 #[.slice (some ⟨w1.heap.size, 0, none⟩) F.code.length F.code.length] ∧ Own wr 0 (some ⟨g, 0, none⟩) c2 (y :: t) ∧ St w wr w.heap.size x F)
            case atStart => exact ⟨0, l1, Nat.zero_le _, rfl, rfl, HL1, HJ1, HV, hs, hbl, hown, stS⟩
            case round =>
              clear st hs hbl hown HV HJ1 HL1 stS
              obtain ⟨k, l, hk2, rfl, rfl, HL, HJ, HV, hs, hbl, hown, st⟩ := hrel
              have hzs := hbl.lt
              have hcl := hbl.c0
              have hil : i < l.length := by rw [HL.out]; exact hin
              have hc0 := ints_at hs hil
              have hf0 := Bk.free hs i
              by_cases hlt : k < t.length
              · omega
              · go_wp2
                go_roundg (i + 1)
                case measure => omega
                case rel =>
                  refine ⟨i, _, l, by omega, rfl, by go_num, by omega, HL, Lib.hid (fun m h1 h2 => ?_), hs, hbl, st⟩
                  by_cases hmi : i = m
                  · subst hmi
                    rw [HV.out, Hj.out, List.take_of_length_le (by simp; omega)]
                  · exact HJ.out m (by omega) h2
          case inr =>
            have hs := Hs2.out
            have hbl := Hbl2.out
            have hown := Hown2.out
            clear Hs2 Hbl2 Hown2 HW hcl hc0 hf0 hy0 hiy
            generalize (l.set i (-1)).set i y = l1 at *
            go_loopg [48] (t.length + 1) (fun gg s wr => ∃ (k : Nat) (l : List Int), k ≤ t.length ∧ gg = t.length + 1 - k ∧ s = .int .i64 k ∧ Hid (l.length = F.code.length) ∧ Hid (∀ m : Nat, i + 1 ≤ m → m < F.code.length → l.getD m 0 = jn F rs m) ∧ Hid (l.getD i 0 = allM F rs ((y :: t).take (k + 1))) ∧
              IntsBk wr w1.heap.size l ∧ Bk wr w2.heap.size 32 #[.slice (some ⟨w1.heap.size, 0, none⟩) F.code.length F.code.length] ∧ Own wr 0 (some ⟨g, 0, none⟩) c2 (y :: t) ∧ St w wr w.heap.size x F)
            case atStart => exact ⟨0, l1, Nat.zero_le _, rfl, rfl, HL1, HJ1, HV, hs, hbl, hown, stS⟩
            case round =>
              clear st hs hbl hown HV HJ1 HL1 stS
              obtain ⟨k, l, hk2, rfl, rfl, HL, HJ, HV, hs, hbl, hown, st⟩ := hrel
              have hzs := hbl.lt
              have hcl := hbl.c0
              have hil : i < l.length := by rw [HL.out]; exact hin
              have hc0 := ints_at hs hil
              have hf0 := Bk.free hs i
              by_cases hlt : k < t.length
              · have hix2 := congrFun (Hpos.out k hlt)
                have hyk : wr.cell? ⟨g, 1 + k, none⟩ = some (.int .i64 ((y :: t).getD (k + 1) 0)) := by
                  obtain ⟨B, off, hA1, _, _, hc1⟩ := hown.row.int_at (k := k + 1) (by simp; omega)
                  injection hA1 with hA1
                  injection hA1 with h1 h2
                  subst h1; subst h2
                  rw [show 1 + k = 0 + (k + 1) by omega]
                  exact hc1
                have hix2' : ∀ W, (Instr.indexAt 32 (.slice (some ⟨g, 1, none⟩) t.length (c2 - 1)) (.int .i64 (k : Int))).run Try.prog W = .ok (.pointer (some ⟨g, 1 + k, none⟩)) W := hix2
                have hkl : k + 1 < (y :: t).length := by simp; omega
                have hmem := getD_mem hkl
                have hu1 := Hlo.out _ hmem
                obtain ⟨u, hu, hun⟩ := Fn.place_nat (Hpl.out _ hmem)
                rw [hu] at hyk hu1
                have Hu := Lib.hid hu
                rw [HV.out] at hc0
                have HSp := Lib.hid (allM_spot (rs := rs) (ws := (y :: t).take (k + 1)) ha (by simp) (fun z hz => Hlo.out z (List.mem_of_mem_take hz)))
                have Hnext := Lib.hid (allM_add (rs := rs) (w := (u : Int)) ha (show (y :: t).take (k + 1) ≠ [] by simp))
                clear hix2 hu hmem
                generalize allM F rs ((y :: t).take (k + 1)) = v at *
                have Hhs := Lib.hid hs
                have Hhown := Lib.hid hown
                clear hs hown
                go_wp2_with fail
                refine wp_region_still_tail 9 (by kernel_rfl) (by kernel_rfl) ?_
                simp only [List.take_succ_cons, List.take_zero, List.drop_succ_cons, List.drop_zero]
                repeat (refine wpStill_step (fun K hK => ?_); go_simp; refine hK _ ?_; clear hK K)
                try refine wpStill_nil ?_
                refine wpStill_step (fun K hK => ?_)
                go_simp
                refine ⟨_, (meet_any F rs l (i + 1) w1.heap.size w2.heap.size v u _ ha HL.out (fun m h1 h2 => HJ.out m h1 h2) Hhs.out.drew hbl.drew HSp.out (.inr ⟨u, rfl, by omega, hun⟩)), hK _ ?_⟩
                clear hK K
                refine wpStill_nil ?_
                change wpList _ _ _ _ _ wr.drew
                have st := st.drew
                have hs := Hhs.out.drew
                have hbl := hbl.drew
                have hown := Own.stay Hhown.out (World.drew_below wr)
                have hcl := hbl.c0
                have hc0 := ints_at hs hil
                have hf0 := Bk.free hs i
                clear Hhs Hhown
                generalize wr.drew = w9 at *
                have st := St.set st (p := ⟨w1.heap.size, i, none⟩) (by show w.heap.size ≤ w1.heap.size; omega) (by show w.heap.size ≠ w1.heap.size; omega) (Value.int .i64 (meetF F rs v u))
                have hsS := Lib.hid (ints_set (k := i) hs (meetF F rs v u))
                have hblS := Lib.hid (Bk.far hbl (p := ⟨w1.heap.size, i, none⟩) (by show w2.heap.size ≠ w1.heap.size; omega) (Value.int .i64 (meetF F rs v u)))
                have hownS := Lib.hid (Own.set_far hown (p := ⟨w1.heap.size, i, none⟩) (fun e => by injection e with e; injection e with e; exact hgne e) (Value.int .i64 (meetF F rs v u)))
                clear hs hbl hown
                go_wp2
                go_roundg (t.length + 1 - (k + 1))
                case measure => omega
                case rel =>
                  refine ⟨k + 1, l.set i (meetF F rs v u), by omega, by omega, by go_num, Lib.hid (by rw [List.length_set]; exact HL.out), Lib.hid (fun m h1 h2 => by rw [getD_set_far (by omega)]; exact HJ.out m h1 h2), Lib.hid ?_, hsS.out, hblS.out, hownS.out, st⟩
                  rw [getD_set_self hil, Hnext.out, take_succ_snoc hkl, Hu.out]
              · go_wp2
                go_roundg (i + 1)
                case measure => omega
                case rel =>
                  refine ⟨i, _, l, by omega, rfl, by go_num, by omega, HL, Lib.hid (fun m h1 h2 => ?_), hs, hbl, st⟩
                  by_cases hmi : i = m
                  · subst hmi
                    rw [HV.out, Hj.out, List.take_of_length_le (by simp; omega)]
                  · exact HJ.out m (by omega) h2
end Go.Proofs.Ytnnhlnefhndpdaa
