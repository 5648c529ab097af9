/- The walks of the closures of regions' Holds: is a place's every way within a region, does it leave, is it not within. -/
import Derived.Test.YtnnhlnefhndpdaaPlain8
import Derived.Test.YtnnhlnefhndpdaaWalkK
import Derived.Test.YtnnhlnefhndpdaaWalkG
namespace Go.Proofs.Ytnnhlnefhndpdaa
open Go.RowKit

theorem has_any (A : Option Addr) (l : List Int) (c : Nat) (v : Int) (w : World) (hA : Row w 0 A (intsV l)) (hl : l.length ≤ 100000) :
    Calls Try.prog 48 #[.slice A l.length c, .int .i64 v] w fun e w' => e = .returned (.bool (decide (v ∈ l))) ∧ w' = w := by
  by_cases h0 : l = []
  · subst h0
    refine (Try.slices_Contains_int_empty A c v w).mono ?_
    rintro e w' ⟨rfl, rfl⟩
    exact ⟨ret_bool (by simp), rfl⟩
  · obtain ⟨B, off, rfl⟩ : ∃ B off, A = some ⟨B, off, none⟩ := by
      rcases hA with h | ⟨B, off, h, _⟩
      · exact absurd (by simpa [intsV] using h) h0
      · exact ⟨B, off, h⟩
    refine (Try.slices_Contains_int B off l.length c l v w (Nat.le_refl _) (by omega) (ints_zs hA)).mono ?_
    rintro e w' ⟨rfl, rfl⟩
    exact ⟨ret_bool (by rw [List.take_length]; simp), rfl⟩

/-- Where Holds stands, and its closures: the function, the truths and the region lie boxed. -/
structure HS (w0 w : World) (Bf Br Bq : Nat) (x : FX) (F : Fn) (R : Option Addr) (n rc : Nat) (cq : Array Value) : Prop where
  bx : Bx w Bf x F
  br : Bk w Br 31 #[.slice R n rc]
  bq : Bk w Bq 44 cq
  hb : Below w0.heap.size w0 w

section
variable {w0 w w' : World} {Bf Br Bq : Nat} {x : FX} {F : Fn} {R : Option Addr} {n rc : Nat} {cq : Array Value}
theorem HS.next (h : HS w0 w Bf Br Bq x F R n rc cq) (hb : Below w.heap.size w w') : HS w0 w' Bf Br Bq x F R n rc cq := ⟨h.bx.stay hb, h.br.stay hb, h.bq.stay hb, h.hb.trans (hb.mono h.hb.size)⟩
end

abbrev Pt (B : Nat) : Value := .pointer (some ⟨B, 0, none⟩)

set_option maxHeartbeats 1000000 in
theorem out_any (Bq : Nat) (a j : Int) (A : Option Addr) (pl : List Int) (ac : Nat) (v : Int) (w : World) (hq : Bk w Bq 44 #[.int .i64 a, .int .i64 j, .slice A pl.length ac]) (hA : Row w 0 A (intsV pl)) (hl : pl.length ≤ 1000) :
    Calls Try.prog 47 (#[.int .i64 v] ++ #[Pt Bq]) w fun e w' => e = .returned (.bool (v != j && !decide (v ∈ pl))) ∧ Below w.heap.size w w' := by
  have q1 := (hq.cell 1).trans rfl
  have q2 := (hq.cell 2).trans rfl
  clear hq
  by_cases h : (v != j) = true
  · rw [h]
    go_enter Try.func47, Try.ntmps47
    go_wp2_with (go_at_call 48; refine (has_any A pl ac v _ hA (by omega)).mono ?_; rintro e wn ⟨rfl, rfl⟩)
    go_ret
    exact ⟨ret_bool (by simp), Below.refl _ _⟩
  · have h : (v != j) = false := by simpa using h
    rw [h]
    go_enter Try.func47, Try.ntmps47
    go_wp2
    go_ret
    exact ⟨ret_bool (by simp), Below.refl _ _⟩

theorem enters47 : ∀ args W, (callFunc 47 args).run Try.prog W = .ok (.enter 47 args) W := enters_of Try.func47 (by kernel_rfl) rfl
theorem enters49 : ∀ args W, (callFunc 49 args).run Try.prog W = .ok (.enter 49 args) W := enters_of Try.func49 (by kernel_rfl) rfl
theorem enters50 : ∀ args W, (callFunc 50 args).run Try.prog W = .ok (.enter 50 args) W := enters_of Try.func50 (by kernel_rfl) rfl

set_option maxHeartbeats 1000000 in
theorem within_any (x : FX) (F : Fn) (R A : Option Addr) (rs : List Bool) (rc : Nat) (Bf Br Bq : Nat) (a j : Int) (pl : List Int) (ac : Nat) (p : Int) (w0 w : World) (hF : FnAt w0 x F) (hR : Row w0 0 R (boolsV rs)) (hA : Row w0 0 A (intsV pl))
    (hm : F.hs.length ≤ 1000) (hn : F.code.length ≤ 1000) (hl : pl.length ≤ 1000) (hs : HS w0 w Bf Br Bq x F R rs.length rc #[.int .i64 a, .int .i64 j, .slice A pl.length ac]) :
    Calls Try.prog 45 (#[.int .i64 p] ++ #[Pt Bf, Pt Br, Pt Bq]) w fun e w' => e = .returned (.bool (withinF F rs j pl p)) ∧ Below w.heap.size w w' := by
  have c0 := hs.br.c0
  have hbx := hs.bx
  have hF := hF.stay hs.hb
  have hR := hR.stay hs.hb
  have hw3 := Fn.ways_length F rs p
  go_enter Try.func45, Try.ntmps45
  go_wp2_with (first | ((with_reducible refine at_load 30 rfl ?_); refine ld30 _ rfl _ rfl x F hbx rfl ?_) | (go_at_call 19; refine (ways_any x F R rs rc p _ hF hR hm hn).mono ?_; rintro e wn ⟨A2, c2, rfl, hown, hbn⟩) | (go_at_call 46; refine (contains_any 47 #[Pt Bq] enters47 A2 (F.ways rs p) c2 (fun v => v != j && !decide (v ∈ pl)) _ (hown.row.lower (Nat.zero_le _)) (by omega) (fun v W hb => out_any Bq a j A pl ac v W ((hs.next hbn).next hb).bq (hA.stay ((hs.next hbn).next hb).hb) hl)).mono ?_; rintro e wc ⟨rfl, hbc⟩))
  go_ret
  exact ⟨ret_bool (by unfold withinF; simp), hbn.trans (hbc.mono hbn.size)⟩

set_option maxHeartbeats 1000000 in
theorem leaves49 (x : FX) (F : Fn) (R : Option Addr) (rs : List Bool) (rc : Nat) (Bf Br Bq : Nat) (cq : Array Value) (p : Int) (w0 w : World) (hF : FnAt w0 x F) (hR : Row w0 0 R (boolsV rs))
    (hm : F.hs.length ≤ 1000) (hs : HS w0 w Bf Br Bq x F R rs.length rc cq) :
    Calls Try.prog 49 (#[.int .i64 p] ++ #[Pt Bf, Pt Br]) w fun e w' => e = .returned (.bool (F.leaves rs p)) ∧ Below w.heap.size w w' := by
  have c0 := hs.br.c0
  have hbx := hs.bx
  have hF := hF.stay hs.hb
  have hR := hR.stay hs.hb
  go_enter Try.func49, Try.ntmps49
  go_wp2_with (first | ((with_reducible refine at_load 30 rfl ?_); refine ld30 _ rfl _ rfl x F hbx rfl ?_) | (go_at_call 27; refine (leaves_any x F R rs rc p _ hF hR hm).mono ?_; rintro e wn ⟨rfl, hbn⟩))
  go_ret
  exact ⟨rfl, hbn⟩

set_option maxHeartbeats 1000000 in
theorem not50 (x : FX) (F : Fn) (R A : Option Addr) (rs : List Bool) (rc : Nat) (Bf Br Bq Bw : Nat) (a j : Int) (pl : List Int) (ac : Nat) (p : Int) (w0 w : World) (hF : FnAt w0 x F) (hR : Row w0 0 R (boolsV rs)) (hA : Row w0 0 A (intsV pl))
    (hm : F.hs.length ≤ 1000) (hn : F.code.length ≤ 1000) (hl : pl.length ≤ 1000) (hs : HS w0 w Bf Br Bq x F R rs.length rc #[.int .i64 a, .int .i64 j, .slice A pl.length ac]) (hw : Bk w Bw 63 #[.func (.func 45) #[] #[Pt Bf, Pt Br, Pt Bq]]) :
    Calls Try.prog 50 (#[.int .i64 p] ++ #[Pt Bw]) w fun e w' => e = .returned (.bool (!withinF F rs j pl p)) ∧ Below w.heap.size w w' := by
  have c0 := hw.c0
  go_enter Try.func50, Try.ntmps50
  go_wp2_with (go_at_call 45; refine (within_any x F R A rs rc Bf Br Bq a j pl ac p w0 _ hF hR hA hm hn hl hs).mono ?_; rintro e wn ⟨rfl, hbn⟩)
  go_ret
  exact ⟨rfl, hbn⟩
end Go.Proofs.Ytnnhlnefhndpdaa
