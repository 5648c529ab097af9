/- The walk of regions' Of. -/
import Derived.Test.YtnnhlnefhndpdaaWalkN
import Derived.Test.YtnnhlnefhndpdaaWalkH
import Derived.Test.YtnnhlnefhndpdaaRegion
import Derived.Deep.DeepCutAuto
namespace Go.Proofs.Ytnnhlnefhndpdaa
open Go.RowKit
set_option linter.unusedSimpArgs false
set_option linter.unusedVariables false

def Rg.cells (r : Rg) (A : Option Addr) (c : Nat) : Array Value := #[.int .i64 r.at_, .int .i64 r.join, .slice A r.pl.length c]
abbrev Rg.val (r : Rg) (A : Option Addr) (c : Nat) : Value := .agg #[.int .i64 r.at_, .int .i64 r.join, .slice A r.pl.length c]

theorem of_zero_case (x : FX) (F : Fn) (R : Option Addr) (rs : List Bool) (rc : Nat) (a : Int) (w : World) (hF : FnX w x F) (hm : F.hs.length ≤ 1000) (hn : F.code.length ≤ 1000) (h : F.place a = false ∨ F.ahead = false) :
    Calls Try.prog 25 #[x.val F, .slice R rs.length rc, .int .i64 a] w fun e w' => e = .returned (.agg zero44) ∧ Below w.heap.size w w' := by
  have hah := fun (W : World) (h : FnX W x F) => ahead_any x F R rs.length rc W h hm hn
  by_cases h0 : a < 0
  · clear hah h
    go_enter Try.func25, Try.ntmps25
    go_wp2_with (first | go_skip | ((with_reducible refine at_box 30 rfl ?_); refine bx30 _ rfl x F rfl rfl ?_; intro w1 hbx hb1 hs1; have st := St.new hbx hb1; have ho := st.old; have h14 := st.c14; have h15 := st.c15; clear hbx hb1 hs1) | ((with_reducible refine at_alloc 44 rfl ?_); have hxl := (‹St w w1 w.heap.size x F›).bx.lt; refine al44 rfl rfl ?_; intro wq hq hbq hsq; have st := St.next (by assumption) hbq; have ho := st.old; have h14 := st.c14; have h15 := st.c15; clear hbq) | ((with_reducible refine at_store 44 rfl ?_); refine wp_storebox 44 _ _ rfl rfl _ zero44 rfl rfl hq (by kernel_rfl) rfl (by kernel_rfl) ?_; intro ws hq hbs hss hks; have st := St.low (by assumption) hbs (by omega); clear hbs hks))
    (try simp only [Exit.inBlock, Exit.then]); refine bodyPost_ret (results_cell_row rfl _ _ w1.heap.size 44 _ (0, 0) _ rfl hq Try.underlying44 rfl (by kernel_rfl)) rfl ?_
    exact ⟨rfl, st.hb⟩
  · by_cases h1 : (F.code.length : Int) ≤ a
    · clear hah h
      go_enter Try.func25, Try.ntmps25
      go_wp2_with (first | go_skip | ((with_reducible refine at_box 30 rfl ?_); refine bx30 _ rfl x F rfl rfl ?_; intro w1 hbx hb1 hs1; have st := St.new hbx hb1; have ho := st.old; have h14 := st.c14; have h15 := st.c15; clear hbx hb1 hs1) | ((with_reducible refine at_alloc 44 rfl ?_); have hxl := (‹St w w1 w.heap.size x F›).bx.lt; refine al44 rfl rfl ?_; intro wq hq hbq hsq; have st := St.next (by assumption) hbq; have ho := st.old; have h14 := st.c14; have h15 := st.c15; clear hbq) | ((with_reducible refine at_store 44 rfl ?_); refine wp_storebox 44 _ _ rfl rfl _ zero44 rfl rfl hq (by kernel_rfl) rfl (by kernel_rfl) ?_; intro ws hq hbs hss hks; have st := St.low (by assumption) hbs (by omega); clear hbs hks))
      (try simp only [Exit.inBlock, Exit.then]); refine bodyPost_ret (results_cell_row rfl _ _ w1.heap.size 44 _ (0, 0) _ rfl hq Try.underlying44 rfl (by kernel_rfl)) rfl ?_
      exact ⟨rfl, st.hb⟩
    · obtain ⟨k, rfl⟩ := Int.eq_ofNat_of_zero_le (show 0 ≤ a by omega)
      have hk : k < F.code.length := by omega
      have hA := h.resolve_left (by rw [Fn.place_of_nat hk]; simp)
      rw [hA] at hah
      have Hah := Lib.hid hah
      clear hah hA h
      go_enter Try.func25, Try.ntmps25
      go_wp2_with (first | go_skip | ((with_reducible refine at_box 30 rfl ?_); refine bx30 _ rfl x F rfl rfl ?_; intro w1 hbx hb1 hs1; have st := St.new hbx hb1; have ho := st.old; have h14 := st.c14; have h15 := st.c15; clear hbx hb1 hs1) | ((with_reducible refine at_load 30 rfl ?_); refine ld30 _ rfl _ rfl x F (St.bx (by assumption)) rfl ?_) | ((with_reducible refine at_alloc 44 rfl ?_); have hxl := (‹St w w1 w.heap.size x F›).bx.lt; refine al44 rfl rfl ?_; intro wq hq hbq hsq; have st := St.next (by assumption) hbq; have ho := st.old; have h14 := st.c14; have h15 := st.c15; clear hbq) | ((with_reducible refine at_store 44 rfl ?_); refine wp_storebox 44 _ _ rfl rfl _ zero44 rfl rfl hq (by kernel_rfl) rfl (by kernel_rfl) ?_; intro ws hq hbs hss hks; have st := St.low (by assumption) hbs (by omega); clear hbs hks) | (go_at_call 44; refine (Hah.out _ (St.fnx (by assumption) hF)).mono ?_; rintro e wn ⟨rfl, hbn⟩; have st := St.next (by assumption) hbn; have hq := Bk.stay hq hbn; clear hbn))
      (try simp only [Exit.inBlock, Exit.then]); refine bodyPost_ret (results_cell_row rfl _ _ w1.heap.size 44 _ (0, 0) _ rfl hq Try.underlying44 rfl (by kernel_rfl)) rfl ?_
      exact ⟨rfl, st.hb⟩
/-- Where Of stands while it asks for its places: its region lies at block B. -/
def SR (w wr : World) (B : Nat) (x : FX) (F : Fn) (a j : Int) (w' : World) : Prop := St w w' w.heap.size x F ∧ Below B wr w' ∧ ∃ v, Bk w' B 44 #[.int .i64 a, .int .i64 j, v]
theorem SR.next {w wr w' w'' : World} {B : Nat} {x : FX} {F : Fn} {a j : Int} (h : SR w wr B x F a j w') (hb : Below w'.heap.size w' w'') : SR w wr B x F a j w'' := by
  obtain ⟨h1, h2, v, h3⟩ := h
  exact ⟨h1.next hb, h2.trans (hb.mono (Nat.le_of_lt h3.lt)), v, h3.stay hb⟩

theorem slice_one (A : Option Addr) (n c : Nat) : (Value.slice A n c).oneCell' = true := rfl
theorem all3 (a j : Int) (A : Option Addr) (n c : Nat) : (#[.int .i64 a, .int .i64 j, .slice A n c] : Array Value).all (·.oneCell') = true := by
  simp [int_one, slice_one]
theorem Own.same {w w' : World} {base c : Nat} {A : Option Addr} {l : List Int} (h : Own w base A c l) (hk : ∀ k, base ≤ k → w'.heap[k]? = w.heap[k]?) : Own w' base A c l := by
  refine ⟨h.1, ?_⟩
  rcases h.2 with hn | ⟨g, cap, cur, hv, hg, hh, r⟩
  · exact .inl hn
  · exact .inr ⟨g, cap, cur, hv, hg, (hk g hg).trans hh, r⟩

set_option maxHeartbeats 4000000 in
set_option maxRecDepth 100000 in
theorem of_place_case (x : FX) (F : Fn) (R : Option Addr) (rs : List Bool) (rc : Nat) (k : Nat) (w : World) (hF : FnX w x F) (hR : Row w 0 R (boolsV rs)) (hm : F.hs.length ≤ 1000) (hn : F.code.length ≤ 1000) (hk : k < F.code.length) (hA : F.ahead = true) :
    Calls Try.prog 25 #[x.val F, .slice R rs.length rc, .int .i64 k] w fun e w' => ∃ A c, e = .returned ((made F rs k).val A c) ∧ Own w' w.heap.size A c (made F rs k).pl ∧ Below w.heap.size w w' := by
  have hah := fun (W : World) (h : FnX W x F) => ahead_any x F R rs.length rc W h hm hn
  have hjn := fun (W : World) (h1 : FnX W x F) (h2 : Row W 0 R (boolsV rs)) => join_any x F R rs rc k W h1 h2 hm hn
  rw [hA] at hah
  rw [joinF_yes (rs := rs) (Fn.place_of_nat hk) hA] at hjn
  have Hah := Lib.hid hah
  have Hjn := Lib.hid hjn
  have hwl := Fn.ways_length F rs k
  clear hah hjn hA
  have h0 : ¬(k : Int) < 0 := by omega
  have h1 : ¬(F.code.length : Int) ≤ k := by omega
  go_enter Try.func25, Try.ntmps25
  go_upto_region 3 with (first | go_skip | ((with_reducible refine at_box 30 rfl ?_); refine bx30 _ rfl x F rfl rfl ?_; intro w1 hbx hb1 hs1; have st := St.new hbx hb1; have ho := st.old; have h14 := st.c14; have h15 := st.c15; clear hbx hb1 hs1) | ((with_reducible refine at_load 30 rfl ?_); refine ld30 _ rfl _ rfl x F (St.bx (by assumption)) rfl ?_) | ((with_reducible refine at_alloc 44 rfl ?_); have hxl := (‹St w w1 w.heap.size x F›).bx.lt; refine al44 rfl rfl ?_; intro wq hq hbq hsq; have st := St.next (by assumption) hbq; have ho := st.old; have h14 := st.c14; have h15 := st.c15; clear hbq) | (go_at_call 44; refine (Hah.out _ (St.fnx (by assumption) hF)).mono ?_; rintro e wn ⟨rfl, hbn⟩; have st := St.next (by assumption) hbn; have hq := Bk.stay hq hbn; clear hbn))
  go_upto_region 4 with (first | go_skip | ((with_reducible refine at_load 30 rfl ?_); refine ld30 _ rfl _ rfl x F (St.bx (by assumption)) rfl ?_) | (go_at_call 26; refine (Hjn.out _ (St.fnx (by assumption) hF) (St.row (by assumption) hR)).mono ?_; rintro e wj ⟨rfl, hbn⟩; have st := St.next (by assumption) hbn; have hq := Bk.stay hq hbn; have hqz := hq.lt; clear hbn) | ((with_reducible refine at_alloc 44 rfl ?_); refine al44 rfl rfl ?_; intro wa hr hbr hsr; have st := St.next (by assumption) hbr; have hq := Bk.stay hq hbr; clear hbr) | ((with_reducible refine at_store 44 rfl ?_); refine wp_storebox 44 _ _ rfl rfl _ #[.int .i64 (k : Int), .int .i64 (jn F rs k), .slice none 0 0] rfl rfl hr (by kernel_rfl) rfl (all3 _ _ _ _ _) ?_; intro wr hr hbs hss hks; have st := St.low (by assumption) hbs (by omega); have hq : Bk wr w1.heap.size 44 zero44 := (hks _ (by omega)).trans hq; clear hbs hks))
  have hBw := hr.lt
  generalize hBe : wj.heap.size = B at *
  have hwB : w.heap.size < B := by omega
  have hS : SR w wr B x F k (jn F rs k) wr.drew := ⟨st.drew, (Below.refl _ _).drew, _, hr.drew⟩
  refine h_begin (S := (SR w wr B x F k (jn F rs k))) 11 #[false, false, false, false, false, false, false, false, false, false, false] rfl rfl ?_
  refine h_take (v := ?_) 0 (some 30) rfl rfl (by kernel_rfl) (by kernel_rfl) (by kernel_rfl) (fun _ _ _ h => h) (by rfl) hS (fun wS hSw => ?_) #[true, false, false, false, false, false, false, false, false, false, false] rfl ?_; rotate_left
  · refine run_ld30 _ (.tmp 3) ?_ ?_ hSw.1.bx <;> rfl
  (try simp only [Act.put, List.setIfInBounds_toArray, List.set_cons_zero, List.set_cons_succ])
  refine h_take (v := ?_) 1 (some 31) rfl rfl (by kernel_rfl) (by kernel_rfl) (by kernel_rfl) (fun _ _ _ h => h) (by rfl) hS (fun wS hSw => ?_) #[true, true, false, false, false, false, false, false, false, false, false] rfl ?_; rotate_left
  · clear hSw; go_simp; first | done | with_reducible rfl
  (try simp only [Act.put, List.setIfInBounds_toArray, List.set_cons_zero, List.set_cons_succ])
  refine h_take (v := ?_) 2 (some 32) rfl rfl (by kernel_rfl) (by kernel_rfl) (by kernel_rfl) (fun _ _ _ h => h) (by rfl) hS (fun wS hSw => ?_) #[true, true, true, false, false, false, false, false, false, false, false] rfl ?_; rotate_left
  · refine run_ld30 _ (.tmp 3) ?_ ?_ hSw.1.bx <;> rfl
  (try simp only [Act.put, List.setIfInBounds_toArray, List.set_cons_zero, List.set_cons_succ])
  refine h_take (v := ?_) 3 (some 33) rfl rfl (by kernel_rfl) (by kernel_rfl) (by kernel_rfl) (fun _ _ _ h => h) (by rfl) hS (fun wS hSw => ?_) #[true, true, true, true, false, false, false, false, false, false, false] rfl ?_; rotate_left
  · clear hSw; go_simp; first | done | with_reducible rfl
  (try simp only [Act.put, List.setIfInBounds_toArray, List.set_cons_zero, List.set_cons_succ])
  refine h_take (v := ?_) 4 (some 34) rfl rfl (by kernel_rfl) (by kernel_rfl) (by kernel_rfl) (fun _ _ _ h => h) (by rfl) hS (fun wS hSw => ?_) #[true, true, true, true, true, false, false, false, false, false, false] rfl ?_; rotate_left
  · clear hSw; go_simp; first | done | with_reducible rfl
  (try simp only [Act.put, List.setIfInBounds_toArray, List.set_cons_zero, List.set_cons_succ])
  refine h_take (v := ?_) 6 (some 36) rfl rfl (by kernel_rfl) (by kernel_rfl) (by kernel_rfl) (fun _ _ _ h => h) (by rfl) hS (fun wS hSw => ?_) #[true, true, true, true, true, false, true, false, false, false, false] rfl ?_; rotate_left
  · clear hSw; go_simp; first | done | with_reducible rfl
  (try simp only [Act.put, List.setIfInBounds_toArray, List.set_cons_zero, List.set_cons_succ])
  refine h_take (v := ?_) 7 (some 37) rfl rfl (by kernel_rfl) (by kernel_rfl) (by kernel_rfl) (fun _ _ _ h => h) (by rfl) hS (fun wS hSw => ?_) #[true, true, true, true, true, false, true, true, false, false, false] rfl ?_; rotate_left
  · obtain ⟨v, hv⟩ := hSw.2.2; have q1 := (hv.cell 1).trans rfl; go_simp; first | done | with_reducible rfl
  (try simp only [Act.put, List.setIfInBounds_toArray, List.set_cons_zero, List.set_cons_succ])
  refine h_call 5 (some 35) (by kernel_rfl) rfl rfl (by rfl) #[true, true, true, true, true, true, true, true, false, false, false] rfl (by go_simp; exact ⟨rfl, rfl⟩) ?_
  refine (ways_any x F R rs rc k _ (St.fn hS.1 hF.fn) (St.row hS.1 hR) hm hn).mono ?_
  rintro e wn ⟨A2, c2, rfl, hown2, hbn⟩
  refine ⟨_, rfl, ?_, ?_⟩
  · exact SR.next hS hbn
  have hS : _ ∧ _ := SR.next hS hbn
  obtain ⟨v0, hv0⟩ := hS.2.2
  have hBn := hv0.lt
  clear hv0
  (try simp only [Act.put, List.setIfInBounds_toArray, List.set_cons_zero, List.set_cons_succ])
  refine h_call 8 (some 38) (by kernel_rfl) rfl rfl (by rfl) #[true, true, true, true, true, true, true, true, true, false, false] rfl (by go_simp; exact ⟨rfl, rfl⟩) ?_
  refine (reach_any x F R A2 rs rc (F.ways rs k) c2 (jn F rs k) _ (St.fn hS.1 hF.fn) (St.row hS.1 hR) (hown2.row.lower (Nat.zero_le _)) hm hn (by omega)).mono ?_
  rintro e wn ⟨A3, c3, rfl, hown3, hbn⟩
  refine ⟨_, rfl, ?_, ?_⟩
  · exact SR.next hS hbn
  have hS : _ ∧ _ := SR.next hS hbn
  (try simp only [Act.put, List.setIfInBounds_toArray, List.set_cons_zero, List.set_cons_succ])
  refine h_take (v := ?_) 9 (some 39) rfl rfl (by kernel_rfl) (by kernel_rfl) (by kernel_rfl) (fun _ _ _ h => h) (by rfl) hS (fun wS hSw => ?_) #[true, true, true, true, true, true, true, true, true, true, false] rfl ?_; rotate_left
  · clear hSw; go_simp; first | done | with_reducible rfl
  (try simp only [Act.put, List.setIfInBounds_toArray, List.set_cons_zero, List.set_cons_succ])
  obtain ⟨v, hv⟩ := hS.2.2
  have q2 := (hv.cell 2).trans rfl
  have f2 := hv.free 2
  have hS' : St w (wn.setCell ⟨B, 2, none⟩ (.slice A3 (reachL F rs (F.ways rs k) (jn F rs k)).length c3)) w.heap.size x F ∧ Below B wr (wn.setCell ⟨B, 2, none⟩ (.slice A3 (reachL F rs (F.ways rs k) (jn F rs k)).length c3)) ∧ Bk (wn.setCell ⟨B, 2, none⟩ (.slice A3 (reachL F rs (F.ways rs k) (jn F rs k)).length c3)) B 44 #[.int .i64 (k : Int), .int .i64 (jn F rs k), .slice A3 (reachL F rs (F.ways rs k) (jn F rs k)).length c3] := ⟨St.set hS.1 (p := ⟨B, 2, none⟩) (by show w.heap.size ≤ B; omega) (by show w.heap.size ≠ B; omega) _, hS.2.1.setCell (Nat.le_refl _) _, hv.set_ 2 _⟩
  have hown3 := Own.set_low hown3 (p := ⟨B, 2, none⟩) (by show B < _; assumption) (Value.slice A3 (reachL F rs (F.ways rs k) (jn F rs k)).length c3)
  refine h_store (w1 := wn.setCell ⟨B, 2, none⟩ (.slice A3 (reachL F rs (F.ways rs k) (jn F rs k)).length c3)) 10 none (by kernel_rfl) rfl rfl (by rfl) (by go_simp) ⟨hS'.1, hS'.2.1, _, hS'.2.2⟩ #[true, true, true, true, true, true, true, true, true, true, true] rfl ?_
  (try simp only [Act.put, List.setIfInBounds_toArray, List.set_cons_zero, List.set_cons_succ])
  refine wpAnyH_done (by kernel_rfl) ?_ _
  have st := hS'.1
  have hq := hq.below hS'.2.1 hqz
  have hr := hS'.2.2
  clear hS hS'
  go_wp2_with (first | ((with_reducible refine at_load 44 rfl ?_); refine wp_loadbox 44 _ rfl _ rfl _ hr _ Try.underlying44 rfl (by kernel_rfl) rfl ?_) | ((with_reducible refine at_store 44 rfl ?_); refine wp_storebox 44 _ _ rfl rfl _ (Rg.cells (made F rs k) A3 c3) rfl rfl hq (by kernel_rfl) rfl (all3 _ _ _ _ _) ?_; intro wf hq hbs hss hks))
  (try simp only [Exit.inBlock, Exit.then]); refine bodyPost_ret (results_cell_row rfl _ _ w1.heap.size 44 _ (0, 0) _ rfl hq Try.underlying44 rfl (by kernel_rfl)) rfl ?_
  refine ⟨A3, c3, rfl, (hown3.same (fun i hi => hks i (by omega))).lower ?_, st.hb.trans (hbs.mono (by omega))⟩
  omega

theorem of_any (x : FX) (F : Fn) (R : Option Addr) (rs : List Bool) (rc : Nat) (a : Int) (w : World) (hF : FnX w x F) (hR : Row w 0 R (boolsV rs)) (hm : F.hs.length ≤ 1000) (hn : F.code.length ≤ 1000) :
    Calls Try.prog 25 #[x.val F, .slice R rs.length rc, .int .i64 a] w fun e w' => ∃ A c, e = .returned ((ofF F rs a).val A c) ∧ Own w' w.heap.size A c (ofF F rs a).pl ∧ Below w.heap.size w w' := by
  by_cases h : F.place a = false ∨ F.ahead = false
  · rw [ofF_no h]
    refine (of_zero_case x F R rs rc a w hF hm hn h).mono ?_
    rintro e w' ⟨rfl, hb⟩
    exact ⟨none, 0, rfl, Own.nil _ _, hb⟩
  · have h1 : F.place a = true := by
      cases hp : F.place a
      · exact absurd (.inl hp) h
      · rfl
    have h2 : F.ahead = true := by
      cases hp : F.ahead
      · exact absurd (.inr hp) h
      · rfl
    rw [ofF_yes h1 h2]
    obtain ⟨k, rfl, hk⟩ := Fn.place_nat h1
    exact of_place_case x F R rs rc k w hF hR hm hn hk h2
end Go.Proofs.Ytnnhlnefhndpdaa
