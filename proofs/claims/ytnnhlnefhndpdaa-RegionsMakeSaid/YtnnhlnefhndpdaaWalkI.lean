/- The walk of the reference's Reach: it gives all that is come to. -/
import Derived.Test.YtnnhlnefhndpdaaPlain4
import Derived.Test.YtnnhlnefhndpdaaWalkG
import Derived.Test.YtnnhlnefhndpdaaRegion
namespace Go.Proofs.Ytnnhlnefhndpdaa
open Go.RowKit
set_option linter.unusedSimpArgs false

set_option maxHeartbeats 8000000 in
set_option maxRecDepth 100000 in
theorem rreach_any (x : FX) (F : Fn) (R A : Option Addr) (rs : List Bool) (rc : Nat) (from_ : List Int) (ac : Nat) (stop : Int) (w : World) (hF : FnAt w x F) (hR : Row w 0 R (boolsV rs)) (hA : Row w 0 A (intsV from_)) (hm : F.hs.length ≤ 1000) (hn : F.code.length ≤ 1000) (hfl : from_.length ≤ 1000) :
    Calls Try.prog 17 #[x.val F, .slice R rs.length rc, .slice A from_.length ac, .int .i64 stop] w fun e w' => ∃ A' c', e = .returned (.slice A' (reachL F rs from_ stop).length c') ∧ Own w' w.heap.size A' c' (reachL F rs from_ stop) ∧ Below w.heap.size w w' := by
  go_enter Try.func17, Try.ntmps17
  go_wp2_with (first | go_skip | ((with_reducible refine at_box 30 rfl ?_); refine bx30 _ rfl x F rfl rfl ?_; intro w1 hbx hb1 hs1; have st := St.new hbx hb1; have ho := st.old; have h14 := st.c14; have h15 := st.c15; clear hbx hb1 hs1) | (at_make; refine mk31 _ _ rfl rfl F.code.length rfl rfl (by omega) ?_; intro w2 hbs hb2 hs2; have st := St.next (by assumption) hb2; have ho := st.old; have h14 := st.c14; have h15 := st.c15; clear hb2))
  have hs1 : w.heap.size < w1.heap.size := (‹St w w1 w.heap.size x F›).bx.lt
  go_loopg [10] from_.length (fun g s wr => ∃ (k : Nat) (seen : List Bool), k ≤ from_.length ∧ g = from_.length - k ∧ s = .int .i64 k ∧ Snd F rs from_ stop seen k ∧ BoolsBk wr w1.heap.size seen ∧ w1.heap.size < wr.heap.size ∧ St w wr w.heap.size x F)
  case atStart => exact ⟨0, List.replicate F.code.length false, Nat.zero_le _, rfl, rfl, Snd.begin F rs from_ stop, hbs, hs2, st⟩
  case round =>
    obtain ⟨k, seen, hk, rfl, rfl, hsnd, hbs, hz, st⟩ := hrel
    have ho := st.old
    have h14 := st.c14
    by_cases hlt : k < from_.length
    · obtain ⟨B, off, hA', -, hB, h0⟩ := hA.int_at hlt
      have hix := ix32 hA' hlt ac
      clear hA'
      have hBr : B < wr.heap.size := by omega
      have Hsnd := Lib.hid hsnd
      by_cases hp : F.place (from_.getD k 0) = true
      · obtain ⟨p, hpe, hpk⟩ := Fn.place_nat hp
        rw [hpe] at h0 hp
        have Hpe := Lib.hid hpe
        clear hpe
        by_cases hst : ((p : Int) != stop) = true
        · have hn' := hsnd.put hlt hpk Hpe.out (by simpa using hst)
          have hlen := Lib.hid hsnd.len
          clear hsnd
          have hpl : p < seen.length := by rw [hlen.out]; exact hpk
          go_wp2_with fail
          have hS : St w wr.drew w.heap.size x F ∧ Below wr.heap.size wr wr.drew := ⟨st.drew, (Below.refl _ _).drew⟩
          refine h_begin (S := fun w' => St w w' w.heap.size x F ∧ Below wr.heap.size wr w') 14 #[false, false, false, false, false, false, false, false, false, false, false, false, false, false] rfl rfl ?_
          refine h_take (v := ?_) 0 (some 26) rfl rfl (by kernel_rfl) (by kernel_rfl) (by kernel_rfl) (fun _ _ _ h => h) (by rfl) hS (fun wS hSw => ?_) #[true, false, false, false, false, false, false, false, false, false, false, false, false, false] rfl ?_; rotate_left
          · refine run_ld30 _ (.tmp 4) ?_ ?_ hSw.1.bx <;> rfl
          (try simp only [Act.put, List.setIfInBounds_toArray, List.set_cons_zero, List.set_cons_succ])
          refine h_take (v := ?_) 1 (some 27) rfl rfl (by kernel_rfl) (by kernel_rfl) (by kernel_rfl) (fun _ _ _ h => h) (by rfl) hS (fun wS hSw => ?_) #[true, true, false, false, false, false, false, false, false, false, false, false, false, false] rfl ?_; rotate_left
          · clear hSw; go_simp; first | done | with_reducible rfl
          (try simp only [Act.put, List.setIfInBounds_toArray, List.set_cons_zero, List.set_cons_succ])
          refine h_take (v := ?_) 2 (some 28) rfl rfl (by kernel_rfl) (by kernel_rfl) (by kernel_rfl) (fun _ _ _ h => h) (by rfl) hS (fun wS hSw => ?_) #[true, true, true, false, false, false, false, false, false, false, false, false, false, false] rfl ?_; rotate_left
          · clear hSw; go_simp; first | done | with_reducible rfl
          (try simp only [Act.put, List.setIfInBounds_toArray, List.set_cons_zero, List.set_cons_succ])
          refine h_take (v := ?_) 3 (some 29) rfl rfl (by kernel_rfl) (by kernel_rfl) (by kernel_rfl) (fun _ _ _ h => h) (by rfl) hS (fun wS hSw => ?_) #[true, true, true, true, false, false, false, false, false, false, false, false, false, false] rfl ?_; rotate_left
          · have hc := cells_of hSw.2; go_simp; first | done | with_reducible rfl
          (try simp only [Act.put, List.setIfInBounds_toArray, List.set_cons_zero, List.set_cons_succ])
          refine h_take (v := ?_) 4 (some 30) rfl rfl (by kernel_rfl) (by kernel_rfl) (by kernel_rfl) (fun _ _ _ h => h) (by rfl) hS (fun wS hSw => ?_) #[true, true, true, true, true, false, false, false, false, false, false, false, false, false] rfl ?_; rotate_left
          · have hc := cells_of hSw.2; go_simp; first | done | with_reducible rfl
          (try simp only [Act.put, List.setIfInBounds_toArray, List.set_cons_zero, List.set_cons_succ])
          refine h_call 5 (some 31) (by kernel_rfl) rfl rfl (by rfl) #[true, true, true, true, true, true, false, false, false, false, false, false, false, false] rfl (by go_simp; exact ⟨rfl, rfl⟩) ?_
          refine (place_any x F _ _).mono ?_
          rintro e wn ⟨rfl, hbn⟩
          refine ⟨_, rfl, ?_, ?_⟩
          · exact ⟨St.next hS.1 hbn, hS.2.trans (hbn.mono hS.2.size)⟩
          have hS : _ ∧ _ := ⟨St.next hS.1 hbn, hS.2.trans (hbn.mono hS.2.size)⟩
          (try simp only [Act.put, List.setIfInBounds_toArray, List.set_cons_zero, List.set_cons_succ, hp])
          refine h_take (v := ?_) 6 (some 32) rfl rfl (by kernel_rfl) (by kernel_rfl) (by kernel_rfl) (fun _ _ _ h => h) (by rfl) hS (fun wS hSw => ?_) #[true, true, true, true, true, true, true, false, false, false, false, false, false, false] rfl ?_; rotate_left
          · clear hSw; go_simp; first | done | with_reducible rfl
          (try simp only [Act.put, List.setIfInBounds_toArray, List.set_cons_zero, List.set_cons_succ])
          refine h_take (v := ?_) 7 (some 33) rfl rfl (by kernel_rfl) (by kernel_rfl) (by kernel_rfl) (fun _ _ _ h => h) (by rfl) hS (fun wS hSw => ?_) #[true, true, true, true, true, true, true, true, false, false, false, false, false, false] rfl ?_; rotate_left
          · clear hSw; go_simp; first | done | with_reducible rfl
          (try simp only [Act.put, List.setIfInBounds_toArray, List.set_cons_zero, List.set_cons_succ])
          refine h_take (v := ?_) 8 (some 34) rfl rfl (by kernel_rfl) (by kernel_rfl) (by kernel_rfl) (fun _ _ _ h => h) (by rfl) hS (fun wS hSw => ?_) #[true, true, true, true, true, true, true, true, true, false, false, false, false, false] rfl ?_; rotate_left
          · clear hSw; go_simp; first | done | with_reducible rfl
          (try simp only [Act.put, List.setIfInBounds_toArray, List.set_cons_zero, List.set_cons_succ])
          refine h_take (v := ?_) 9 (some 35) rfl rfl (by kernel_rfl) (by kernel_rfl) (by kernel_rfl) (fun _ _ _ h => h) (by rfl) hS (fun wS hSw => ?_) #[true, true, true, true, true, true, true, true, true, true, false, false, false, false] rfl ?_; rotate_left
          · have hc := cells_of hSw.2; go_simp; first | done | with_reducible rfl
          (try simp only [Act.put, List.setIfInBounds_toArray, List.set_cons_zero, List.set_cons_succ])
          refine h_take (v := ?_) 10 (some 36) rfl rfl (by kernel_rfl) (by kernel_rfl) (by kernel_rfl) (fun _ _ _ h => h) (by rfl) hS (fun wS hSw => ?_) #[true, true, true, true, true, true, true, true, true, true, true, false, false, false] rfl ?_; rotate_left
          · have hc := cells_of hSw.2; go_simp; first | done | with_reducible rfl
          (try simp only [Act.put, List.setIfInBounds_toArray, List.set_cons_zero, List.set_cons_succ])
          refine h_take (v := ?_) 11 (some 37) rfl rfl (by kernel_rfl) (by kernel_rfl) (by kernel_rfl) (fun _ _ _ h => h) (by rfl) hS (fun wS hSw => ?_) #[true, true, true, true, true, true, true, true, true, true, true, true, false, false] rfl ?_; rotate_left
          · clear hSw; go_simp; first | done | with_reducible rfl
          (try simp only [Act.put, List.setIfInBounds_toArray, List.set_cons_zero, List.set_cons_succ])
          refine h_take (v := ?_) 12 (some 38) rfl rfl (by kernel_rfl) (by kernel_rfl) (by kernel_rfl) (fun _ _ _ h => h) (by rfl) hS (fun wS hSw => ?_) #[true, true, true, true, true, true, true, true, true, true, true, true, true, false] rfl ?_; rotate_left
          · clear hSw; go_simp; first | done | with_reducible rfl
          (try simp only [Act.put, List.setIfInBounds_toArray, List.set_cons_zero, List.set_cons_succ])
          refine h_take (v := ?_) 13 (some 39) rfl rfl (by kernel_rfl) (by kernel_rfl) (by kernel_rfl) (fun _ _ _ h => h) (by rfl) hS (fun wS hSw => ?_) #[true, true, true, true, true, true, true, true, true, true, true, true, true, true] rfl ?_; rotate_left
          · clear hSw; go_simp; first | done | with_reducible rfl
          (try simp only [Act.put, List.setIfInBounds_toArray, List.set_cons_zero, List.set_cons_succ])
          refine wpAnyH_done (by kernel_rfl) ?_ _
          have st := hS.1
          have hbs := hbs.below hS.2 (by omega)
          have ho := st.old
          have hc0 := bools_at hbs hpl
          have hfr := hbs.free p
          have hbs := bools_set (k := p) hbs true
          have hz2 := hS.2.size
          clear hS
          go_wp2
          go_roundg (from_.length - (k + 1))
          case measure => omega
          case rel => exact ⟨k + 1, seen.set p true, by omega, rfl, by go_num, hn', hbs, by simp; omega, st.set (p := ⟨w1.heap.size, p, none⟩) (by show w.heap.size ≤ w1.heap.size; omega) (by show w.heap.size ≠ w1.heap.size; omega) _⟩
        · have hst : ((p : Int) != stop) = false := by simpa using hst
          have hn' := hsnd.pass (.inr (by rw [Hpe.out]; simpa using hst))
          clear hsnd
          go_wp2_with fail
          have hS : St w wr.drew w.heap.size x F ∧ Below wr.heap.size wr wr.drew := ⟨st.drew, (Below.refl _ _).drew⟩
          refine h_begin (S := fun w' => St w w' w.heap.size x F ∧ Below wr.heap.size wr w') 14 #[false, false, false, false, false, false, false, false, false, false, false, false, false, false] rfl rfl ?_
          refine h_take (v := ?_) 0 (some 26) rfl rfl (by kernel_rfl) (by kernel_rfl) (by kernel_rfl) (fun _ _ _ h => h) (by rfl) hS (fun wS hSw => ?_) #[true, false, false, false, false, false, false, false, false, false, false, false, false, false] rfl ?_; rotate_left
          · refine run_ld30 _ (.tmp 4) ?_ ?_ hSw.1.bx <;> rfl
          (try simp only [Act.put, List.setIfInBounds_toArray, List.set_cons_zero, List.set_cons_succ])
          refine h_take (v := ?_) 1 (some 27) rfl rfl (by kernel_rfl) (by kernel_rfl) (by kernel_rfl) (fun _ _ _ h => h) (by rfl) hS (fun wS hSw => ?_) #[true, true, false, false, false, false, false, false, false, false, false, false, false, false] rfl ?_; rotate_left
          · clear hSw; go_simp; first | done | with_reducible rfl
          (try simp only [Act.put, List.setIfInBounds_toArray, List.set_cons_zero, List.set_cons_succ])
          refine h_take (v := ?_) 2 (some 28) rfl rfl (by kernel_rfl) (by kernel_rfl) (by kernel_rfl) (fun _ _ _ h => h) (by rfl) hS (fun wS hSw => ?_) #[true, true, true, false, false, false, false, false, false, false, false, false, false, false] rfl ?_; rotate_left
          · clear hSw; go_simp; first | done | with_reducible rfl
          (try simp only [Act.put, List.setIfInBounds_toArray, List.set_cons_zero, List.set_cons_succ])
          refine h_take (v := ?_) 3 (some 29) rfl rfl (by kernel_rfl) (by kernel_rfl) (by kernel_rfl) (fun _ _ _ h => h) (by rfl) hS (fun wS hSw => ?_) #[true, true, true, true, false, false, false, false, false, false, false, false, false, false] rfl ?_; rotate_left
          · have hc := cells_of hSw.2; go_simp; first | done | with_reducible rfl
          (try simp only [Act.put, List.setIfInBounds_toArray, List.set_cons_zero, List.set_cons_succ])
          refine h_take (v := ?_) 4 (some 30) rfl rfl (by kernel_rfl) (by kernel_rfl) (by kernel_rfl) (fun _ _ _ h => h) (by rfl) hS (fun wS hSw => ?_) #[true, true, true, true, true, false, false, false, false, false, false, false, false, false] rfl ?_; rotate_left
          · have hc := cells_of hSw.2; go_simp; first | done | with_reducible rfl
          (try simp only [Act.put, List.setIfInBounds_toArray, List.set_cons_zero, List.set_cons_succ])
          refine h_call 5 (some 31) (by kernel_rfl) rfl rfl (by rfl) #[true, true, true, true, true, true, false, false, false, false, false, false, false, false] rfl (by go_simp; exact ⟨rfl, rfl⟩) ?_
          refine (place_any x F _ _).mono ?_
          rintro e wn ⟨rfl, hbn⟩
          refine ⟨_, rfl, ?_, ?_⟩
          · exact ⟨St.next hS.1 hbn, hS.2.trans (hbn.mono hS.2.size)⟩
          have hS : _ ∧ _ := ⟨St.next hS.1 hbn, hS.2.trans (hbn.mono hS.2.size)⟩
          (try simp only [Act.put, List.setIfInBounds_toArray, List.set_cons_zero, List.set_cons_succ, hp])
          refine h_take (v := ?_) 6 (some 32) rfl rfl (by kernel_rfl) (by kernel_rfl) (by kernel_rfl) (fun _ _ _ h => h) (by rfl) hS (fun wS hSw => ?_) #[true, true, true, true, true, true, true, false, false, false, false, false, false, false] rfl ?_; rotate_left
          · clear hSw; go_simp; first | done | with_reducible rfl
          (try simp only [Act.put, List.setIfInBounds_toArray, List.set_cons_zero, List.set_cons_succ])
          refine h_take (v := ?_) 7 (some 33) rfl rfl (by kernel_rfl) (by kernel_rfl) (by kernel_rfl) (fun _ _ _ h => h) (by rfl) hS (fun wS hSw => ?_) #[true, true, true, true, true, true, true, true, false, false, false, false, false, false] rfl ?_; rotate_left
          · clear hSw; go_simp; first | done | with_reducible rfl
          (try simp only [Act.put, List.setIfInBounds_toArray, List.set_cons_zero, List.set_cons_succ])
          refine h_take (v := ?_) 8 (some 34) rfl rfl (by kernel_rfl) (by kernel_rfl) (by kernel_rfl) (fun _ _ _ h => h) (by rfl) hS (fun wS hSw => ?_) #[true, true, true, true, true, true, true, true, true, false, false, false, false, false] rfl ?_; rotate_left
          · clear hSw; go_simp; first | done | with_reducible rfl
          (try simp only [Act.put, List.setIfInBounds_toArray, List.set_cons_zero, List.set_cons_succ])
          refine h_take (v := ?_) 9 (some 35) rfl rfl (by kernel_rfl) (by kernel_rfl) (by kernel_rfl) (fun _ _ _ h => h) (by rfl) hS (fun wS hSw => ?_) #[true, true, true, true, true, true, true, true, true, true, false, false, false, false] rfl ?_; rotate_left
          · have hc := cells_of hSw.2; go_simp; first | done | with_reducible rfl
          (try simp only [Act.put, List.setIfInBounds_toArray, List.set_cons_zero, List.set_cons_succ])
          refine h_take (v := ?_) 10 (some 36) rfl rfl (by kernel_rfl) (by kernel_rfl) (by kernel_rfl) (fun _ _ _ h => h) (by rfl) hS (fun wS hSw => ?_) #[true, true, true, true, true, true, true, true, true, true, true, false, false, false] rfl ?_; rotate_left
          · have hc := cells_of hSw.2; go_simp; first | done | with_reducible rfl
          (try simp only [Act.put, List.setIfInBounds_toArray, List.set_cons_zero, List.set_cons_succ])
          refine h_take (v := ?_) 11 (some 37) rfl rfl (by kernel_rfl) (by kernel_rfl) (by kernel_rfl) (fun _ _ _ h => h) (by rfl) hS (fun wS hSw => ?_) #[true, true, true, true, true, true, true, true, true, true, true, true, false, false] rfl ?_; rotate_left
          · clear hSw; go_simp; first | done | with_reducible rfl
          (try simp only [Act.put, List.setIfInBounds_toArray, List.set_cons_zero, List.set_cons_succ])
          refine h_take (v := ?_) 12 (some 38) rfl rfl (by kernel_rfl) (by kernel_rfl) (by kernel_rfl) (fun _ _ _ h => h) (by rfl) hS (fun wS hSw => ?_) #[true, true, true, true, true, true, true, true, true, true, true, true, true, false] rfl ?_; rotate_left
          · clear hSw; go_simp; first | done | with_reducible rfl
          (try simp only [Act.put, List.setIfInBounds_toArray, List.set_cons_zero, List.set_cons_succ])
          refine h_take (v := ?_) 13 (some 39) rfl rfl (by kernel_rfl) (by kernel_rfl) (by kernel_rfl) (fun _ _ _ h => h) (by rfl) hS (fun wS hSw => ?_) #[true, true, true, true, true, true, true, true, true, true, true, true, true, true] rfl ?_; rotate_left
          · clear hSw; go_simp; first | done | with_reducible rfl
          (try simp only [Act.put, List.setIfInBounds_toArray, List.set_cons_zero, List.set_cons_succ])
          refine wpAnyH_done (by kernel_rfl) ?_ _
          have st := hS.1
          have hbs := hbs.below hS.2 (by omega)
          have hz2 := hS.2.size
          clear hS
          go_wp2
          go_roundg (from_.length - (k + 1))
          case measure => omega
          case rel => exact ⟨k + 1, seen, by omega, rfl, by go_num, hn', hbs, by omega, st⟩
      · have hp : F.place (from_.getD k 0) = false := by simpa using hp
        have hn' := hsnd.pass (.inl hp)
        clear hsnd
        generalize from_.getD k 0 = z at *
        go_wp2_with fail
        have hS : St w wr.drew w.heap.size x F ∧ Below wr.heap.size wr wr.drew := ⟨st.drew, (Below.refl _ _).drew⟩
        refine h_begin (S := fun w' => St w w' w.heap.size x F ∧ Below wr.heap.size wr w') 14 #[false, false, false, false, false, false, false, false, false, false, false, false, false, false] rfl rfl ?_
        refine h_take (v := ?_) 0 (some 26) rfl rfl (by kernel_rfl) (by kernel_rfl) (by kernel_rfl) (fun _ _ _ h => h) (by rfl) hS (fun wS hSw => ?_) #[true, false, false, false, false, false, false, false, false, false, false, false, false, false] rfl ?_; rotate_left
        · refine run_ld30 _ (.tmp 4) ?_ ?_ hSw.1.bx <;> rfl
        (try simp only [Act.put, List.setIfInBounds_toArray, List.set_cons_zero, List.set_cons_succ])
        refine h_take (v := ?_) 1 (some 27) rfl rfl (by kernel_rfl) (by kernel_rfl) (by kernel_rfl) (fun _ _ _ h => h) (by rfl) hS (fun wS hSw => ?_) #[true, true, false, false, false, false, false, false, false, false, false, false, false, false] rfl ?_; rotate_left
        · clear hSw; go_simp; first | done | with_reducible rfl
        (try simp only [Act.put, List.setIfInBounds_toArray, List.set_cons_zero, List.set_cons_succ])
        refine h_take (v := ?_) 2 (some 28) rfl rfl (by kernel_rfl) (by kernel_rfl) (by kernel_rfl) (fun _ _ _ h => h) (by rfl) hS (fun wS hSw => ?_) #[true, true, true, false, false, false, false, false, false, false, false, false, false, false] rfl ?_; rotate_left
        · clear hSw; go_simp; first | done | with_reducible rfl
        (try simp only [Act.put, List.setIfInBounds_toArray, List.set_cons_zero, List.set_cons_succ])
        refine h_take (v := ?_) 3 (some 29) rfl rfl (by kernel_rfl) (by kernel_rfl) (by kernel_rfl) (fun _ _ _ h => h) (by rfl) hS (fun wS hSw => ?_) #[true, true, true, true, false, false, false, false, false, false, false, false, false, false] rfl ?_; rotate_left
        · have hc := cells_of hSw.2; go_simp; first | done | with_reducible rfl
        (try simp only [Act.put, List.setIfInBounds_toArray, List.set_cons_zero, List.set_cons_succ])
        refine h_take (v := ?_) 4 (some 30) rfl rfl (by kernel_rfl) (by kernel_rfl) (by kernel_rfl) (fun _ _ _ h => h) (by rfl) hS (fun wS hSw => ?_) #[true, true, true, true, true, false, false, false, false, false, false, false, false, false] rfl ?_; rotate_left
        · have hc := cells_of hSw.2; go_simp; first | done | with_reducible rfl
        (try simp only [Act.put, List.setIfInBounds_toArray, List.set_cons_zero, List.set_cons_succ])
        refine h_call 5 (some 31) (by kernel_rfl) rfl rfl (by rfl) #[true, true, true, true, true, true, false, false, false, false, false, false, false, false] rfl (by go_simp; exact ⟨rfl, rfl⟩) ?_
        refine (place_any x F _ _).mono ?_
        rintro e wn ⟨rfl, hbn⟩
        refine ⟨_, rfl, ?_, ?_⟩
        · exact ⟨St.next hS.1 hbn, hS.2.trans (hbn.mono hS.2.size)⟩
        have hS : _ ∧ _ := ⟨St.next hS.1 hbn, hS.2.trans (hbn.mono hS.2.size)⟩
        (try simp only [Act.put, List.setIfInBounds_toArray, List.set_cons_zero, List.set_cons_succ, hp])
        refine h_take (v := ?_) 6 (some 32) rfl rfl (by kernel_rfl) (by kernel_rfl) (by kernel_rfl) (fun _ _ _ h => h) (by rfl) hS (fun wS hSw => ?_) #[true, true, true, true, true, true, true, false, false, false, false, false, false, false] rfl ?_; rotate_left
        · clear hSw; go_simp; first | done | with_reducible rfl
        (try simp only [Act.put, List.setIfInBounds_toArray, List.set_cons_zero, List.set_cons_succ])
        refine h_skip 7 (some 33) rfl rfl (by kernel_rfl) (by kernel_rfl) (by kernel_rfl) (fun _ _ _ h => h) (by rfl) hS #[true, true, true, true, true, true, true, true, false, false, false, false, false, false] rfl ?_
        (try simp only [Act.put, List.setIfInBounds_toArray, List.set_cons_zero, List.set_cons_succ])
        refine h_skip 8 (some 34) rfl rfl (by kernel_rfl) (by kernel_rfl) (by kernel_rfl) (fun _ _ _ h => h) (by rfl) hS #[true, true, true, true, true, true, true, true, true, false, false, false, false, false] rfl ?_
        (try simp only [Act.put, List.setIfInBounds_toArray, List.set_cons_zero, List.set_cons_succ])
        refine h_skip 9 (some 35) rfl rfl (by kernel_rfl) (by kernel_rfl) (by kernel_rfl) (fun _ _ _ h => h) (by rfl) hS #[true, true, true, true, true, true, true, true, true, true, false, false, false, false] rfl ?_
        (try simp only [Act.put, List.setIfInBounds_toArray, List.set_cons_zero, List.set_cons_succ])
        refine h_skip 10 (some 36) rfl rfl (by kernel_rfl) (by kernel_rfl) (by kernel_rfl) (fun _ _ _ h => h) (by rfl) hS #[true, true, true, true, true, true, true, true, true, true, true, false, false, false] rfl ?_
        (try simp only [Act.put, List.setIfInBounds_toArray, List.set_cons_zero, List.set_cons_succ])
        refine h_skip 11 (some 37) rfl rfl (by kernel_rfl) (by kernel_rfl) (by kernel_rfl) (fun _ _ _ h => h) (by rfl) hS #[true, true, true, true, true, true, true, true, true, true, true, true, false, false] rfl ?_
        (try simp only [Act.put, List.setIfInBounds_toArray, List.set_cons_zero, List.set_cons_succ])
        refine h_skip 12 (some 38) rfl rfl (by kernel_rfl) (by kernel_rfl) (by kernel_rfl) (fun _ _ _ h => h) (by rfl) hS #[true, true, true, true, true, true, true, true, true, true, true, true, true, false] rfl ?_
        (try simp only [Act.put, List.setIfInBounds_toArray, List.set_cons_zero, List.set_cons_succ])
        refine h_take (v := ?_) 13 (some 39) rfl rfl (by kernel_rfl) (by kernel_rfl) (by kernel_rfl) (fun _ _ _ h => h) (by rfl) hS (fun wS hSw => ?_) #[true, true, true, true, true, true, true, true, true, true, true, true, true, true] rfl ?_; rotate_left
        · clear hSw; go_simp; first | done | with_reducible rfl
        (try simp only [Act.put, List.setIfInBounds_toArray, List.set_cons_zero, List.set_cons_succ])
        refine wpAnyH_done (by kernel_rfl) ?_ _
        have st := hS.1
        have hbs := hbs.below hS.2 (by omega)
        have hz2 := hS.2.size
        clear hS
        go_wp2
        go_roundg (from_.length - (k + 1))
        case measure => omega
        case rel => exact ⟨k + 1, seen, by omega, rfl, by go_num, hn', hbs, by omega, st⟩
    · have hsnd : Snd F rs from_ stop seen from_.length := by rwa [show k = from_.length by omega] at hsnd
      go_wp2
      go_loopg [11] (unseen seen + 1) (fun g s wr => ∃ (m : Bool) (seen : List Bool), g = unseen seen + (if m then 1 else 0) ∧ s = .bool m ∧ Snd F rs from_ stop seen from_.length ∧ (m = false → Pst F rs from_ stop (unseen seen) false seen F.code.length 0) ∧ BoolsBk wr w1.heap.size seen ∧ w1.heap.size < wr.heap.size ∧ St w wr w.heap.size x F)
      case atStart => exact ⟨true, seen, rfl, rfl, hsnd, (fun h => by cases h), hbs, hz, st⟩
      case round =>
        clear hsnd hbs hz st ho h14 hlt
        obtain ⟨m, seen, rfl, rfl, hsnd, hpst, hbs, hz, st⟩ := hrel
        have ho := st.old
        have h14 := st.c14
        cases m with
        | false =>
          have hdone := Lib.hid (hpst rfl).done
          have hlen := Lib.hid hsnd.len
          clear hpst hsnd
          go_wp2
          go_loopg [14, 15] F.code.length (fun g s i wr => ∃ (k : Nat) (A : Option Addr) (c : Nat) (l : List Int), k ≤ F.code.length ∧ g = F.code.length - k ∧ i = .int .i64 k ∧ s = .slice A l.length c ∧ l = told seen k ∧ BoolsBk wr w1.heap.size seen ∧ Own wr (w1.heap.size + 1) A c l ∧ w1.heap.size < wr.heap.size ∧ St w wr w.heap.size x F)
          case atStart => exact ⟨0, none, 0, [], Nat.zero_le _, rfl, rfl, rfl, rfl, hbs, Own.nil _ _, hz, st⟩
          case round =>
            clear hbs hz st ho h14
            obtain ⟨k, A, c, l, hk, rfl, rfl, rfl, hl, hbs, hown, hz, st⟩ := hrel
            have hll : l.length ≤ k := by rw [hl]; exact told_length _ _
            have HL := Lib.hid hl
            clear hl
            by_cases hlt : k < F.code.length
            · have hc0 := bools_at hbs (by rw [hlen.out]; exact hlt)
              by_cases hb : seen.getD k false = true
              · rw [hb] at hc0
                have H1 := Lib.hid (told_yes hb)
                clear hb
                go_wp2_with (at_builtin; refine wp_app1 _ _ rfl rfl (base := w1.heap.size + 1) rfl rfl hown (by omega) (by omega) ?_; intro A4 c4 l4 w4 HL4 hown4 hb4; have st := St.low (by assumption) hb4 (by omega); have hbs4 := Bk.below hbs hb4 (by omega))
                go_roundg (F.code.length - (k + 1))
                case measure => omega
                case rel => exact ⟨k + 1, A4, c4, l4, by omega, rfl, by go_num, rfl, by rw [HL4.out, HL.out, H1.out], hbs4, hown4, by have := hb4.size; omega, st⟩
              · have hb : seen.getD k false = false := by simpa using hb
                rw [hb] at hc0
                have H1 := Lib.hid (told_no hb)
                clear hb
                go_wp2
                go_roundg (F.code.length - (k + 1))
                case measure => omega
                case rel => exact ⟨k + 1, A, c, l, by omega, rfl, by go_num, rfl, by rw [HL.out, H1.out], hbs, hown, hz, st⟩
            · have e1 : l = reachL F rs from_ stop := by rw [HL.out, show k = F.code.length by omega]; exact hdone.out
              subst e1
              go_wp2
              go_ret
              exact ⟨A, c, rfl, hown.lower (by omega), st.hb⟩
        | true =>
          clear hpst
          have hs0 := Pst.begin hsnd
          have hlen := Lib.hid hsnd.len
          have hun : ∃ n0, n0 = unseen seen := ⟨_, rfl⟩
          obtain ⟨n0, hn0⟩ := hun
          rw [← hn0] at hs0
          have Hn0 := Lib.hid hn0
          clear hn0 hsnd
          go_wp2
          go_loopg [11, 12] F.code.length (fun g s i wr => ∃ (k : Nat) (m : Bool) (seen : List Bool), k ≤ F.code.length ∧ g = F.code.length - k ∧ i = .int .i64 k ∧ s = .bool m ∧ Pst F rs from_ stop n0 m seen k 0 ∧ BoolsBk wr w1.heap.size seen ∧ w1.heap.size < wr.heap.size ∧ St w wr w.heap.size x F)
          case atStart => exact ⟨0, false, seen, Nat.zero_le _, rfl, rfl, rfl, hs0, hbs, hz, st⟩
          case round =>
            clear hs0 hbs hz st ho h14 hlen
            obtain ⟨i, m, seen, hii, rfl, rfl, rfl, hpst, hbs, hz, st⟩ := hrel
            have ho := st.old
            have h14 := st.c14
            by_cases hi : i < F.code.length
            · go_wp2
              go_loopg [11, 13] F.code.length (fun g s j wr => ∃ (k : Nat) (m : Bool) (seen : List Bool), k ≤ F.code.length ∧ g = F.code.length - k ∧ j = .int .i64 k ∧ s = .bool m ∧ Pst F rs from_ stop n0 m seen i k ∧ BoolsBk wr w1.heap.size seen ∧ w1.heap.size < wr.heap.size ∧ St w wr w.heap.size x F)
              case atStart => exact ⟨0, m, seen, Nat.zero_le _, rfl, rfl, rfl, hpst, hbs, hz, st⟩
              case round =>
                clear hpst hbs hz st ho h14
                obtain ⟨j, m, seen, hjj, rfl, rfl, rfl, hpst, hbs, hz, st⟩ := hrel
                have ho := st.old
                have h14 := st.c14
                have hlen := Lib.hid hpst.snd.len
                have Hpst := Lib.hid hpst
                clear hpst
                by_cases hj : j < F.code.length
                · have hil : i < seen.length := by rw [hlen.out]; exact hi
                  have hjl : j < seen.length := by rw [hlen.out]; exact hj
                  have hci := bools_at hbs hil
                  have hcj := bools_at hbs hjl
                  have hfr := hbs.free j
                  by_cases hsi : seen.getD i false = true
                  · rw [hsi] at hci
                    by_cases hst : ((j : Int) != stop) = true
                    · by_cases hsj : seen.getD j false = true
                      · have hp' := Lib.hid (Hpst.out.pass (fun _ _ => hsj))
                        rw [hsj] at hcj
                        clear hsi hsj
                        go_wp2
                        go_roundg (F.code.length - (j + 1))
                        case measure => omega
                        case rel => exact ⟨j + 1, m, seen, by omega, rfl, by go_num, rfl, hp'.out, hbs, hz, st⟩
                      · have hsj : seen.getD j false = false := by simpa using hsj
                        by_cases hw : F.way rs i j = true
                        · have hp' := Lib.hid (Hpst.out.put hsi hj hsj hw (by simpa using hst))
                          rw [hsj] at hcj
                          rw [hsj] at *
                          clear hsi
                          go_wp2_with (first | go_skip | ((with_reducible refine at_load 30 rfl ?_); refine ld30 _ rfl _ rfl x F (St.bx (by assumption)) rfl ?_) | (go_at_call 36; refine (way_any x F R rs rc i _ _ (St.fn (by assumption) hF) (St.row (by assumption) hR) hm hn hi).mono ?_; rintro e wn ⟨rfl, hbn⟩; have st := St.next (by assumption) hbn; have ho := st.old; have h14 := st.c14; have hbs := Bk.stay hbs hbn; have hz4 := hbn.size; have hfr := hbs.free j; have hcj := bools_at hbs hjl; clear hbn))
                          go_roundg (F.code.length - (j + 1))
                          case measure => omega
                          case rel => exact ⟨j + 1, true, seen.set j true, by omega, rfl, by go_num, rfl, hp'.out, bools_set (k := j) hbs true, by simp; omega, st.set (p := ⟨w1.heap.size, j, none⟩) (by show w.heap.size ≤ w1.heap.size; omega) (by show w.heap.size ≠ w1.heap.size; omega) _⟩
                        · have hw : F.way rs i j = false := by simpa using hw
                          have hp' := Lib.hid (Hpst.out.pass (fun h _ => by rw [hw] at h; cases h))
                          rw [hsj] at hcj
                          clear hsi
                          go_wp2_with (first | go_skip | ((with_reducible refine at_load 30 rfl ?_); refine ld30 _ rfl _ rfl x F (St.bx (by assumption)) rfl ?_) | (go_at_call 36; refine (way_any x F R rs rc i _ _ (St.fn (by assumption) hF) (St.row (by assumption) hR) hm hn hi).mono ?_; rintro e wn ⟨rfl, hbn⟩; have st := St.next (by assumption) hbn; have ho := st.old; have h14 := st.c14; have hbs := Bk.stay hbs hbn; have hz4 := hbn.size; have hfr := hbs.free j; have hcj := bools_at hbs hjl; clear hbn))
                          go_roundg (F.code.length - (j + 1))
                          case measure => omega
                          case rel => exact ⟨j + 1, m, seen, by omega, rfl, by go_num, rfl, hp'.out, hbs, by omega, st⟩
                    · have hst : ((j : Int) != stop) = false := by simpa using hst
                      have hp' := Lib.hid (Hpst.out.pass (fun _ h => absurd (by simpa using hst) h))
                      clear hsi
                      go_wp2
                      go_roundg (F.code.length - (j + 1))
                      case measure => omega
                      case rel => exact ⟨j + 1, m, seen, by omega, rfl, by go_num, rfl, hp'.out, hbs, hz, st⟩
                  · have hsi : seen.getD i false = false := by simpa using hsi
                    have hp' := Lib.hid (Hpst.out.next (.inr hsi))
                    rw [hsi] at hci
                    clear hsi
                    go_wp2
                    go_roundg (F.code.length - (i + 1))
                    case measure => omega
                    case rel => exact ⟨i + 1, m, seen, by omega, rfl, by go_num, rfl, hp'.out, hbs, hz, st⟩
                · have hp' := Lib.hid (Hpst.out.next (.inl (by omega)))
                  go_wp2
                  go_roundg (F.code.length - (i + 1))
                  case measure => omega
                  case rel => exact ⟨i + 1, m, seen, by omega, rfl, by go_num, rfl, hp'.out, hbs, hz, st⟩
            · have e : i = F.code.length := by omega
              subst e
              have Hpst := Lib.hid hpst
              clear hpst
              go_wp2
              cases m with
              | false =>
                have hu : unseen seen = n0 := by
                  rcases Hpst.out.st with ⟨_, h, _⟩ | ⟨h, _⟩
                  · exact h
                  · cases h
                go_roundg (unseen seen)
                case measure => have := Hn0.out; simp; omega
                case rel => exact ⟨false, seen, by simp, rfl, Hpst.out.snd, fun _ => by rw [hu]; exact Hpst.out, hbs, hz, st⟩
              | true =>
                have hu : unseen seen < n0 := by
                  rcases Hpst.out.st with ⟨h, _, _⟩ | ⟨_, h⟩
                  · cases h
                  · exact h
                go_roundg (unseen seen + 1)
                case measure => have := Hn0.out; simp; omega
                case rel => exact ⟨true, seen, by simp, rfl, Hpst.out.snd, (fun h => by cases h), hbs, hz, st⟩
end Go.Proofs.Ytnnhlnefhndpdaa
