/- The walks of In, of SameInts and of few. -/
import Derived.Test.YtnnhlnefhndpdaaBox
namespace Go.Proofs.Ytnnhlnefhndpdaa
open Go.RowKit

theorem not_mem_take {l : List Int} {v : Int} {k : Nat} (h : v ∉ l.take k) (hk : k < l.length) (hne : l.getD k 0 ≠ v) : v ∉ l.take (k + 1) := by
  rw [List.take_succ_eq_append_getElem hk]
  simp only [List.mem_append, List.mem_singleton, not_or]
  refine ⟨h, fun e => hne ?_⟩
  rw [e, List.getD_eq_getElem?_getD, List.getElem?_eq_getElem hk]
  rfl
theorem getD_mem {l : List Int} {k : Nat} (hk : k < l.length) : l.getD k 0 ∈ l := by
  rw [List.getD_eq_getElem?_getD, List.getElem?_eq_getElem hk]
  exact List.getElem_mem hk

set_option maxHeartbeats 1000000 in
theorem in_any (A : Option Addr) (l : List Int) (c : Nat) (v : Int) (w : World) (hA : Row w 0 A (intsV l)) (hl : l.length ≤ 100000) :
    Calls Try.prog 18 #[.slice A l.length c, .int .i64 v] w fun e w' => e = .returned (.bool (decide (v ∈ l))) ∧ Below w.heap.size w w' := by
  go_enter Try.func18, Try.ntmps18
  go_wp2
  go_loopg [5] l.length (fun g i wr => ∃ k : Nat, k ≤ l.length ∧ g = l.length - k ∧ i = .int .i64 k ∧ v ∉ l.take k ∧ w = wr)
  case atStart => exact ⟨0, Nat.zero_le _, rfl, rfl, by simp, rfl⟩
  case round =>
    obtain ⟨k, hk, rfl, rfl, hd, rfl⟩ := hrel
    have HD := Lib.hid hd
    clear hd
    by_cases hlt : k < l.length
    · obtain ⟨B, off, hA', -, hB, h0⟩ := hA.int_at hlt
      have hix := ix32 hA' hlt c
      clear hA'
      have hmem := getD_mem hlt
      have hnm := not_mem_take HD.out hlt
      generalize l.getD k 0 = q at *
      by_cases hq : (q == v) = true
      · have hm : v ∈ l := by
          rw [beq_iff_eq] at hq
          rw [← hq]
          exact hmem
        have HM := Lib.hid hm
        clear hnm hmem hm
        go_wp2
        go_ret
        exact ⟨ret_bool (decide_eq_true HM.out).symm, Below.refl _ _⟩
      · have hn := hnm (by simpa using hq)
        have hq : (q == v) = false := by simpa using hq
        have HN := Lib.hid hn
        clear hn hnm hmem
        go_wp2
        go_roundg (l.length - (k + 1))
        case measure => omega
        case rel => exact ⟨k + 1, by omega, rfl, by go_num, HN.out, rfl⟩
    · have hm : v ∉ l := by
        have := HD.out
        rwa [List.take_of_length_le (by omega)] at this
      have HM := Lib.hid hm
      clear hm
      go_wp2
      go_ret
      exact ⟨ret_bool (decide_eq_false HM.out).symm, Below.refl _ _⟩

theorem take_succ_eq {l m : List Int} {k : Nat} (h : l.take k = m.take k) (hl : k < l.length) (hm : k < m.length) (he : l.getD k 0 = m.getD k 0) : l.take (k + 1) = m.take (k + 1) := by
  rw [List.take_succ_eq_append_getElem hl, List.take_succ_eq_append_getElem hm, h]
  rw [List.getD_eq_getElem?_getD, List.getElem?_eq_getElem hl, List.getD_eq_getElem?_getD, List.getElem?_eq_getElem hm] at he
  have he : l[k] = m[k] := he
  rw [he]

set_option maxHeartbeats 1000000 in
theorem same_any (A A' : Option Addr) (l m : List Int) (c c' : Nat) (w : World) (hA : Row w 0 A (intsV l)) (hA' : Row w 0 A' (intsV m)) (hl : l.length ≤ 100000) :
    Calls Try.prog 15 #[.slice A l.length c, .slice A' m.length c'] w fun e w' => e = .returned (.bool (decide (l = m))) ∧ Below w.heap.size w w' := by
  by_cases hlen : l.length = m.length
  · have hne : ((l.length : Int) != (m.length : Int)) = false := by simp [hlen]
    have HL := Lib.hid hlen
    clear hlen
    go_enter Try.func15, Try.ntmps15
    go_wp2
    go_loopg [5] l.length (fun g i wr => ∃ k : Nat, k ≤ l.length ∧ g = l.length - k ∧ i = .int .i64 k ∧ l.take k = m.take k ∧ Below w.heap.size w wr)
    case atStart => exact ⟨0, Nat.zero_le _, rfl, rfl, by simp, Below.refl _ _⟩
    case round =>
      obtain ⟨k, hk, rfl, rfl, hd, hb⟩ := hrel
      have HD := Lib.hid hd
      clear hd
      have ho := cells_of hb
      have HB := Lib.hid hb
      clear hb
      by_cases hlt : k < l.length
      · have hlm : k < m.length := by have := HL.out; omega
        obtain ⟨B, off, hA1, -, hB, h0⟩ := hA.int_at hlt
        obtain ⟨B2, off2, hA2, -, hB2, h2⟩ := hA'.int_at hlm
        have hix := ix32 hA1 hlt c
        have hix2 := ix32 hA2 hlm c'
        clear hA1 hA2
        have hs := take_succ_eq HD.out hlt hlm
        have hdiff : l.getD k 0 ≠ m.getD k 0 → l ≠ m := fun h e => h (by rw [e])
        generalize l.getD k 0 = q at *
        generalize m.getD k 0 = r at *
        by_cases hq : (q != r) = true
        · have HM := Lib.hid (hdiff (by simpa using hq))
          clear hs hdiff
          go_wp2
          go_quiet (fail)
          go_wp2
          go_ret
          exact ⟨ret_bool (decide_eq_false HM.out).symm, below_drewN HB.out _⟩
        · have hq : (q != r) = false := by simpa using hq
          have HS := Lib.hid (hs (by simpa using hq))
          clear hs hdiff
          go_wp2
          go_quiet (fail)
          go_wp2
          go_roundg (l.length - (k + 1))
          case measure => omega
          case rel => exact ⟨k + 1, by omega, rfl, by go_num, HS.out, below_drewN HB.out _⟩
      · have hm : l = m := by
          have := HD.out
          have h2 := HL.out
          rwa [List.take_of_length_le (by omega), List.take_of_length_le (by omega)] at this
        have HM := Lib.hid hm
        clear hm
        go_wp2
        go_ret
        exact ⟨ret_bool (decide_eq_true HM.out).symm, HB.out⟩
  · have hne : ((l.length : Int) != (m.length : Int)) = true := by simp; omega
    rw [decide_eq_false (fun h => hlen (by rw [h]))]
    clear hlen
    go_enter Try.func15, Try.ntmps15
    go_wp2
    go_ret
    exact ⟨rfl, Below.refl _ _⟩

set_option maxHeartbeats 1000000 in
theorem few15 (x : FX) (F : Fn) (R : Option Addr) (r : Nat) (rc : Nat) (w : World) (b : Bool) (hb : b = (decide (F.code.length ≤ 60) && decide (F.hs.length ≤ 60) && decide (r ≤ 1000))) :
    Calls Try.prog 14 #[x.val F, .slice R r rc] w fun e w' => e = .returned (.bool b) ∧ Below w.heap.size w w' := by
  subst hb
  by_cases h1 : F.code.length ≤ 60
  · rw [decide_eq_true h1]
    have h1 : decide ((F.code.length : Int) ≤ 60) = true := by simp; omega
    by_cases h2 : F.hs.length ≤ 60
    · rw [decide_eq_true h2]
      have h2 : decide ((F.hs.length : Int) ≤ 60) = true := by simp; omega
      have h3 : decide ((r : Int) ≤ 1000) = decide (r ≤ 1000) := by rw [decide_eq_decide]; omega
      go_enter Try.func14, Try.ntmps14
      go_wp2_with (first | go_skip | ((with_reducible refine at_box 30 rfl ?_); refine bx30 _ rfl x F rfl rfl ?_; intro w1 hbx hb1 hs1; have st := St.new hbx hb1; have ho := st.old; have h14 := st.c14; have h15 := st.c15; clear hbx hb1 hs1))
      go_ret
      exact ⟨ret_bool (by simp), st.hb⟩
    · rw [decide_eq_false h2]
      have h2 : decide ((F.hs.length : Int) ≤ 60) = false := by simp; omega
      go_enter Try.func14, Try.ntmps14
      go_wp2_with (first | go_skip | ((with_reducible refine at_box 30 rfl ?_); refine bx30 _ rfl x F rfl rfl ?_; intro w1 hbx hb1 hs1; have st := St.new hbx hb1; have ho := st.old; have h14 := st.c14; have h15 := st.c15; clear hbx hb1 hs1))
      go_ret
      exact ⟨ret_bool (by simp), st.hb⟩
  · rw [decide_eq_false h1]
    have h1 : decide ((F.code.length : Int) ≤ 60) = false := by simp; omega
    go_enter Try.func14, Try.ntmps14
    go_wp2_with (first | go_skip | ((with_reducible refine at_box 30 rfl ?_); refine bx30 _ rfl x F rfl rfl ?_; intro w1 hbx hb1 hs1; have st := St.new hbx hb1; have ho := st.old; have h14 := st.c14; have h15 := st.c15; clear hbx hb1 hs1))
    go_ret
    exact ⟨ret_bool (by simp), st.hb⟩

set_option maxHeartbeats 1000000 in
theorem few16 (x : FX) (F : Fn) (R : Option Addr) (r : Nat) (rc : Nat) (w : World) (b : Bool) (hb : b = (decide (F.code.length ≤ 40) && decide (F.hs.length ≤ 40) && decide (r ≤ 1000))) :
    Calls Try.prog 21 #[x.val F, .slice R r rc] w fun e w' => e = .returned (.bool b) ∧ Below w.heap.size w w' := by
  subst hb
  by_cases h1 : F.code.length ≤ 40
  · rw [decide_eq_true h1]
    have h1 : decide ((F.code.length : Int) ≤ 40) = true := by simp; omega
    by_cases h2 : F.hs.length ≤ 40
    · rw [decide_eq_true h2]
      have h2 : decide ((F.hs.length : Int) ≤ 40) = true := by simp; omega
      have h3 : decide ((r : Int) ≤ 1000) = decide (r ≤ 1000) := by rw [decide_eq_decide]; omega
      go_enter Try.func21, Try.ntmps21
      go_wp2_with (first | go_skip | ((with_reducible refine at_box 30 rfl ?_); refine bx30 _ rfl x F rfl rfl ?_; intro w1 hbx hb1 hs1; have st := St.new hbx hb1; have ho := st.old; have h14 := st.c14; have h15 := st.c15; clear hbx hb1 hs1))
      go_ret
      exact ⟨ret_bool (by simp), st.hb⟩
    · rw [decide_eq_false h2]
      have h2 : decide ((F.hs.length : Int) ≤ 40) = false := by simp; omega
      go_enter Try.func21, Try.ntmps21
      go_wp2_with (first | go_skip | ((with_reducible refine at_box 30 rfl ?_); refine bx30 _ rfl x F rfl rfl ?_; intro w1 hbx hb1 hs1; have st := St.new hbx hb1; have ho := st.old; have h14 := st.c14; have h15 := st.c15; clear hbx hb1 hs1))
      go_ret
      exact ⟨ret_bool (by simp), st.hb⟩
  · rw [decide_eq_false h1]
    have h1 : decide ((F.code.length : Int) ≤ 40) = false := by simp; omega
    go_enter Try.func21, Try.ntmps21
    go_wp2_with (first | go_skip | ((with_reducible refine at_box 30 rfl ?_); refine bx30 _ rfl x F rfl rfl ?_; intro w1 hbx hb1 hs1; have st := St.new hbx hb1; have ho := st.old; have h14 := st.c14; have h15 := st.c15; clear hbx hb1 hs1))
    go_ret
    exact ⟨ret_bool (by simp), st.hb⟩
end Go.Proofs.Ytnnhlnefhndpdaa
