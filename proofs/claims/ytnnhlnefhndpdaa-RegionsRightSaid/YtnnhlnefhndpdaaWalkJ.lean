/- The walks of the library's IndexFunc and ContainsFunc over a predicate that may make memory, and of the two functions that tell whether all ways go ahead. -/
import Derived.Test.YtnnhlnefhndpdaaPlain6
import Derived.Test.YtnnhlnefhndpdaaBox
import Derived.Shelf.Abstract
namespace Go.Proofs.Ytnnhlnefhndpdaa
open Go.RowKit

theorem any_take_succ {α : Type} {l : List α} {k : Nat} (d : α) (p : α → Bool) (hk : k < l.length) : (l.take (k + 1)).any p = ((l.take k).any p || p (l.getD k d)) := by
  rw [List.take_succ_eq_append_getElem hk, List.any_append]
  simp [List.getElem?_eq_getElem hk]
theorem any_of_at {α : Type} {l : List α} {k : Nat} (d : α) (p : α → Bool) (hk : k < l.length) (h : p (l.getD k d) = true) : l.any p = true := by
  refine List.any_eq_true.2 ⟨l.getD k d, ?_, h⟩
  simp [List.getElem?_eq_getElem hk]

set_option maxHeartbeats 1000000 in
theorem idx_any (g : Nat) (lb : Array Value) (eg : ∀ args W, (callFunc g args).run Try.prog W = .ok (.enter g args) W) (A : Option Addr) (l : List Int) (c : Nat) (p : Int → Bool) (w : World) (hA : Row w 0 A (intsV l)) (hl : l.length ≤ 100000)
    (hp : ∀ (v : Int) (W : World), Below w.heap.size w W → Calls Try.prog g (#[.int .i64 v] ++ lb) W fun e w' => e = .returned (.bool (p v)) ∧ Below W.heap.size W w') :
    Calls Try.prog 63 #[.slice A l.length c, .func (.func g) #[] lb] w fun e w' => ∃ i : Int, e = .returned (.int .i64 i) ∧ decide (0 ≤ i) = l.any p ∧ Below w.heap.size w w' := by
  go_enter Try.func63, Try.ntmps63
  go_wp2
  go_loopg [5, 8] l.length (fun gg _ s8 wr => ∃ k : Nat, k ≤ l.length ∧ gg = l.length - k ∧ s8 = .int .i64 k ∧ Hid ((l.take k).any p = false) ∧ Below w.heap.size w wr)
  case atStart => exact ⟨0, Nat.zero_le _, rfl, rfl, rfl, Below.refl _ _⟩
  case round =>
    obtain ⟨k, hk, rfl, rfl, HD, hb⟩ := hrel
    by_cases hlt : k < l.length
    · obtain ⟨B, off, hA', -, hB, h0⟩ := (hA.stay hb).int_at hlt
      have hix := ix32 hA' hlt c
      clear hA'
      have hs := any_take_succ 0 p hlt
      have hyes := any_of_at 0 p hlt
      generalize l.getD k 0 = q at *
      have hcall := hp q _ hb
      have Hs := Lib.hid hs
      have Hyes := Lib.hid hyes
      have HB := Lib.hid hb
      clear hs hyes hb hp
      cases hq : p q with
      | true =>
        rw [hq] at hcall
        have Hq := Lib.hid hq
        clear hq
        go_wp2_with (go_at_fn g; refine hcall.mono ?_; rintro e wn ⟨rfl, hbn⟩)
        go_ret
        exact ⟨_, rfl, by rw [Hyes.out Hq.out]; simp, HB.out.trans (hbn.mono HB.out.size)⟩
      | false =>
        rw [hq] at hcall
        have Hq := Lib.hid hq
        clear hq
        go_wp2_with (go_at_fn g; refine hcall.mono ?_; rintro e wn ⟨rfl, hbn⟩)
        go_roundg (l.length - (k + 1))
        case measure => omega
        case rel => exact ⟨k + 1, by omega, rfl, by go_num, Lib.hid (by rw [Hs.out, HD.out, Hq.out]; rfl), HB.out.trans (hbn.mono HB.out.size)⟩
    · have hm : l.any p = false := by
        have := HD.out
        rwa [List.take_of_length_le (by omega)] at this
      have HM := Lib.hid hm
      clear hm
      go_wp2
      go_ret
      exact ⟨_, rfl, by rw [HM.out]; rfl, hb⟩

set_option maxHeartbeats 1000000 in
theorem contains_any (g : Nat) (lb : Array Value) (eg : ∀ args W, (callFunc g args).run Try.prog W = .ok (.enter g args) W) (A : Option Addr) (l : List Int) (c : Nat) (p : Int → Bool) (w : World) (hA : Row w 0 A (intsV l)) (hl : l.length ≤ 100000)
    (hp : ∀ (v : Int) (W : World), Below w.heap.size w W → Calls Try.prog g (#[.int .i64 v] ++ lb) W fun e w' => e = .returned (.bool (p v)) ∧ Below W.heap.size W w') :
    Calls Try.prog 46 #[.slice A l.length c, .func (.func g) #[] lb] w fun e w' => e = .returned (.bool (l.any p)) ∧ Below w.heap.size w w' := by
  go_enter Try.func46, Try.ntmps46
  go_wp2_with (go_at_call 63; refine (idx_any g lb eg A l c p _ hA hl hp).mono ?_; rintro e wn ⟨i, rfl, hi, hbn⟩)
  go_ret
  exact ⟨ret_bool (by simp), hbn⟩

/-- What ahead's closure asks of a handler. -/
def backH (h : Int × Int × Int) : Bool := decide (h.2.2 < h.2.1)

set_option maxHeartbeats 1000000 in
theorem back_any (f t a : Int) (w : World) : Calls Try.prog 62 #[.agg #[.int .i64 f, .int .i64 t, .int .i64 a]] w fun e w' => e = .returned (.bool (backH (f, t, a))) ∧ Below w.heap.size w w' := by
  unfold backH
  go_enter Try.func62, Try.ntmps62
  go_wp2
  go_ret
  exact ⟨rfl, (Below.refl _ _).alloc (Nat.le_refl _) _⟩

set_option maxHeartbeats 1000000 in
theorem idxH_any (x : FX) (F : Fn) (w : World) (hF : FnAt w x F) (hm : F.hs.length ≤ 1000) :
    Calls Try.prog 77 #[.slice x.H F.hs.length x.hc, .func (.func 62) #[] #[]] w fun e w' => ∃ i : Int, e = .returned (.int .i64 i) ∧ decide (0 ≤ i) = F.hs.any backH ∧ Below w.heap.size w w' := by
  go_enter Try.func77, Try.ntmps77
  go_wp2
  go_loopg [5, 8] F.hs.length (fun gg _ s8 wr => ∃ k : Nat, k ≤ F.hs.length ∧ gg = F.hs.length - k ∧ s8 = .int .i64 k ∧ Hid ((F.hs.take k).any backH = false) ∧ Below w.heap.size w wr)
  case atStart => exact ⟨0, Nat.zero_le _, rfl, rfl, rfl, Below.refl _ _⟩
  case round =>
    obtain ⟨k, hk, rfl, rfl, HD, hb⟩ := hrel
    by_cases hlt : k < F.hs.length
    · obtain ⟨B, off, hH, hB, h0, h1, h2⟩ := (hF.stay hb).hand_at hlt
      have hix := ix26 hH hlt x.hc
      clear hH
      have hs := any_take_succ (0, 0, 0) backH hlt
      have hyes := any_of_at (0, 0, 0) backH hlt
      generalize (F.hs.getD k (0, 0, 0)) = q at *
      obtain ⟨f, t, b⟩ := q
      have Hs := Lib.hid hs
      have Hyes := Lib.hid hyes
      have HB := Lib.hid hb
      clear hs hyes hb
      have hcall := back_any f t b
      cases hq : backH (f, t, b) with
      | true =>
        rw [hq] at hcall
        have Hq := Lib.hid hq
        clear hq
        go_wp2_with (go_at_call 62; refine (hcall _).mono ?_; rintro e wn ⟨rfl, hbn⟩)
        go_ret
        exact ⟨_, rfl, by rw [Hyes.out Hq.out]; simp, HB.out.trans (hbn.mono HB.out.size)⟩
      | false =>
        rw [hq] at hcall
        have Hq := Lib.hid hq
        clear hq
        go_wp2_with (go_at_call 62; refine (hcall _).mono ?_; rintro e wn ⟨rfl, hbn⟩)
        go_roundg (F.hs.length - (k + 1))
        case measure => omega
        case rel => exact ⟨k + 1, by omega, rfl, by go_num, Lib.hid (by rw [Hs.out, HD.out, Hq.out]; rfl), HB.out.trans (hbn.mono HB.out.size)⟩
    · have hm : F.hs.any backH = false := by
        have := HD.out
        rwa [List.take_of_length_le (by omega)] at this
      have HM := Lib.hid hm
      clear hm
      go_wp2
      go_ret
      exact ⟨_, rfl, by rw [HM.out]; rfl, hb⟩

set_option maxHeartbeats 1000000 in
theorem containsH_any (x : FX) (F : Fn) (w : World) (hF : FnAt w x F) (hm : F.hs.length ≤ 1000) :
    Calls Try.prog 61 #[.slice x.H F.hs.length x.hc, .func (.func 62) #[] #[]] w fun e w' => e = .returned (.bool (F.hs.any backH)) ∧ Below w.heap.size w w' := by
  go_enter Try.func61, Try.ntmps61
  go_wp2_with (go_at_call 77; refine (idxH_any x F _ hF hm).mono ?_; rintro e wn ⟨i, rfl, hi, hbn⟩)
  go_ret
  exact ⟨ret_bool (by simp), hbn⟩
end Go.Proofs.Ytnnhlnefhndpdaa
