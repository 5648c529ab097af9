/- slices.Sort and slices.Compact of a list that the call owns: the same slice owns the sorted list; the slice cut owns the list without repeats. -/
import Derived.Test.YtnnhlnefhndpdaaShelf
import Derived.Test.YtnnhlnefhndpdaaOwn
import Derived.Sort.OwnSortedInts
import Derived.Lib.RowBridge
namespace Go.Proofs.Ytnnhlnefhndpdaa
open Go.RowKit Go.Sort

def srt (l : List Int) : List Int := l.mergeSort fun x y => decide (x ≤ y)
theorem srt_length (l : List Int) : (srt l).length = l.length := by simp [srt]

theorem sort_own (A : Option Addr) (c : Nat) (l : List Int) (n : Nat) (w : World) (base : Nat) (hown : Own w base A c l) (hnl : l.length = n) (hbase : base ≤ w.heap.size) (hsz : n ≤ 1000) :
    Calls Try.prog 41 #[.slice A n c] w fun e w' => e = .returned (.tuple #[]) ∧ Own w' base A c (srt l) ∧ Below base w w' := by
  subst hnl
  rcases hown.2 with ⟨hv, hn⟩ | ⟨g, cap, cur, hv, hg, hh, h1, h2, h3, h4⟩
  · have hl : l = [] := List.eq_nil_of_length_eq_zero hn
    subst hl
    refine (Try.slices_Sort_int_none A c w).mono ?_
    rintro e w' ⟨rfl, rfl⟩
    exact ⟨rfl, by simpa [srt] using hown, Below.refl _ _⟩
  · injection hv with hA _ hc
    subst hA; subst hc
    refine (Try.slices_Sort_int g 0 c l w (holds_of_blockI hh (by simpa [intsV] using h4)) (Array.getElem?_eq_some_iff.1 hh).1 (by omega)).mono ?_
    rintro e w' ⟨rfl, n, os, rfl⟩
    refine ⟨rfl, ?_, (Below.refl base w).grown (grownBy_sortedI _) hbase (fun k hk => by cases hk; exact hg)⟩
    unfold Own
    rw [srt_length]
    exact ownsRow_sortedI (srt_length l) hg hh h1 h2 h3

theorem ownsRow_take {w : World} {base g n cap m : Nat} {e : TypeId} {xs : List Value} (h : w.ownsRow base e 1 (.slice (some ⟨g, 0, none⟩) n cap) n xs) (hm : m ≤ n) :
    w.ownsRow base e 1 (.slice (some ⟨g, 0, none⟩) m cap) m (xs.take m) := by
  rcases h.2 with ⟨hv, _⟩ | ⟨g', cap', cur, hv, hg, hh, h1, h2, h3, h4⟩
  · cases hv
  · injection hv with hA _ hc
    have hg' : g' = g := by injection hA with hA; injection hA with hA; exact hA.symm
    subst hg'; subst hc
    have hl := h.1
    refine ⟨by rw [List.length_take]; omega, .inr ⟨g', cap, cur, rfl, hg, hh, by omega, h2, h3, ?_⟩⟩
    rw [← h4, List.take_take]
    congr 1
    omega

theorem compact_own (A : Option Addr) (c : Nat) (l : List Int) (n : Nat) (w : World) (base : Nat) (hown : Own w base A c l) (hnl : l.length = n) (hbase : base ≤ w.heap.size) (hsz : n ≤ 1000) :
    Calls Try.prog 42 #[.slice A n c] w fun e w' => e = .returned (.slice A (Lib.compact l).length c) ∧ Own w' base A c (Lib.compact l) ∧ Below base w w' := by
  subst hnl
  rcases hown.2 with ⟨hv, hn⟩ | ⟨g, cap, cur, hv, hg, hh, h1, h2, h3, h4⟩
  · have hl : l = [] := List.eq_nil_of_length_eq_zero hn
    subst hl
    refine (Try.slices_Compact_int_empty A c w).mono ?_
    rintro e w' ⟨rfl, rfl⟩
    exact ⟨rfl, hown, Below.refl _ _⟩
  · injection hv with hA _ hc
    subst hA; subst hc
    have hle := Lib.compact_length_le l
    refine (Try.slices_Compact_int g 0 c l w (holds_of_blockI hh (by simpa [intsV] using h4)) (by omega) h1).mono ?_
    rintro e w' ⟨rfl, q, rfl⟩
    have ho := ownsRow_sortedI (n := q) (os := #[]) (ts := Lib.compact l ++ List.replicate (l.length - (Lib.compact l).length) 0) (ss := l) (by simp; omega) hg hh h1 h2 h3
    have hgr := grownBy_sortedI (w := w) (g := g) (n := q) (os := #[]) (Lib.compact l ++ List.replicate (l.length - (Lib.compact l).length) 0).toArray
    rw [grow_empty] at ho hgr
    refine ⟨rfl, ?_, (Below.refl base w).grown hgr hbase (fun k hk => by cases hk; exact hg)⟩
    have := ownsRow_take ho hle
    rw [← List.map_take, List.take_left] at this
    exact this
end Go.Proofs.Ytnnhlnefhndpdaa
