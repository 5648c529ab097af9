/- What the functions of flow and regions come to, in plain words on lists: no program and no memory. -/
namespace Go.Proofs.Ytnnhlnefhndpdaa

/-- What of a function counts here: of each instruction its Op and A, of each handler From, To, At. -/
structure Fn where
  code : List (Int × Int)
  hs : List (Int × Int × Int)

def Fn.op (F : Fn) (at_ : Int) : Int := if 0 ≤ at_ ∧ at_ < F.code.length then (F.code.getD at_.toNat (0, 0)).1 else 0
def Fn.arg (F : Fn) (at_ : Int) : Int := (F.code.getD at_.toNat (0, 0)).2

def handFrom : List (Int × Int × Int) → Int → Int
  | [], _ => -1
  | (f, t, a) :: r, at_ => if f ≤ at_ ∧ at_ < t then a else handFrom r at_
def Fn.handler (F : Fn) (at_ : Int) : Int := handFrom F.hs at_

/-- What RAISES says of a place. -/
def tells (rs : List Bool) (at_ : Int) : Bool := decide (at_ < rs.length) && rs.getD at_.toNat false
/-- An instruction raises. -/
def Fn.raises (F : Fn) (rs : List Bool) (at_ : Int) : Bool :=
  F.op at_ == 9 || F.op at_ == 10 || F.op at_ == 26 || (F.op at_ == 19 && tells rs at_)

def Fn.leaves (F : Fn) (rs : List Bool) (at_ : Int) : Bool := F.op at_ == 27 || (F.raises rs at_ && F.handler at_ == -1)
def Fn.branches (F : Fn) (rs : List Bool) (at_ : Int) : Bool := F.op at_ == 25 || (F.op at_ != 26 && F.raises rs at_)

/-- Is there a way from a place to another number? -/
def Fn.way (F : Fn) (rs : List Bool) (at_ to : Int) : Bool :=
  (to == at_ + 1 && F.op at_ != 24 && F.op at_ != 26 && F.op at_ != 27 && F.op at_ != 0) ||
  ((F.op at_ == 24 || F.op at_ == 25) && F.arg at_ == to) ||
  (F.raises rs at_ && F.handler at_ == to)

/-- The ways from a place, rising. -/
def Fn.ways (F : Fn) (rs : List Bool) (at_ : Int) : List Int :=
  if 0 ≤ at_ ∧ at_ < F.code.length then ((List.range F.code.length).map Int.ofNat).filter (fun to => F.way rs at_ to) else []

theorem handFrom_drop {hs : List (Int × Int × Int)} {at_ : Int} {k : Nat} (hk : k < hs.length) :
    handFrom (hs.drop k) at_ = if (hs.getD k (0, 0, 0)).1 ≤ at_ ∧ at_ < (hs.getD k (0, 0, 0)).2.1 then (hs.getD k (0, 0, 0)).2.2 else handFrom (hs.drop (k + 1)) at_ := by
  rw [List.drop_eq_getElem_cons hk, List.getD_eq_getElem?_getD, List.getElem?_eq_getElem hk]
  rfl

theorem Fn.op_place {F : Fn} {at_ : Int} (h0 : 0 ≤ at_) (h1 : at_ < F.code.length) : F.op at_ = (F.code.getD at_.toNat (0, 0)).1 := if_pos ⟨h0, h1⟩
theorem Fn.op_none {F : Fn} {at_ : Int} (h : at_ < 0 ∨ (F.code.length : Int) ≤ at_) : F.op at_ = 0 := if_neg (by omega)
theorem Fn.place_of_op {F : Fn} {at_ : Int} (h : F.op at_ ≠ 0) : 0 ≤ at_ ∧ at_ < F.code.length := by
  unfold Fn.op at h
  split at h
  · assumption
  · exact absurd rfl h

/-- Is a number a place? -/
def Fn.place (F : Fn) (at_ : Int) : Bool := decide (0 ≤ at_) && decide (at_ < F.code.length)
theorem Fn.place_nat {F : Fn} {a : Int} (h : F.place a = true) : ∃ k : Nat, a = k ∧ k < F.code.length := by
  simp only [Fn.place, Bool.and_eq_true, decide_eq_true_eq] at h
  obtain ⟨k, rfl⟩ := Int.eq_ofNat_of_zero_le h.1
  exact ⟨k, rfl, by omega⟩
theorem Fn.place_of_nat {F : Fn} {k : Nat} (h : k < F.code.length) : F.place k = true := by simp [Fn.place, h]
theorem Fn.not_place {F : Fn} {a : Int} (h : F.place a = false) : a < 0 ∨ (F.code.length : Int) ≤ a := by
  simp only [Fn.place, Bool.and_eq_false_iff, decide_eq_false_iff_not] at h
  omega
theorem Fn.op_nat {F : Fn} {k : Nat} (hk : k < F.code.length) : F.op k = (F.code.getD k (0, 0)).1 := by rw [Fn.op_place (by omega) (by omega)]; simp
theorem Fn.arg_nat {F : Fn} {k : Nat} : F.arg k = (F.code.getD k (0, 0)).2 := by simp [Fn.arg]
theorem Fn.op_out {F : Fn} {a : Int} (h : F.place a = false) : F.op a = 0 := Fn.op_none (Fn.not_place h)
theorem Fn.raises_out {F : Fn} {a : Int} (rs : List Bool) (h : F.place a = false) : F.raises rs a = false := by simp [Fn.raises, Fn.op_out h]
theorem Fn.leaves_out {F : Fn} {a : Int} (rs : List Bool) (h : F.place a = false) : F.leaves rs a = false := by simp [Fn.leaves, Fn.op_out h, Fn.raises_out rs h]
theorem Fn.branches_out {F : Fn} {a : Int} (rs : List Bool) (h : F.place a = false) : F.branches rs a = false := by simp [Fn.branches, Fn.op_out h, Fn.raises_out rs h]
theorem Fn.ways_out {F : Fn} {a : Int} (rs : List Bool) (h : F.place a = false) : F.ways rs a = [] := by
  unfold Fn.ways
  rw [if_neg]
  have := Fn.not_place h
  omega

/-- What Ways' closure does to its list. -/
def Fn.add (F : Fn) (l : List Int) (n : Int) : List Int := if F.place n = true then l ++ [n] else l
theorem Fn.add_yes {F : Fn} {n : Int} (l : List Int) (h : F.place n = true) : F.add l n = l ++ [n] := if_pos h
theorem Fn.add_no {F : Fn} {n : Int} (l : List Int) (h : F.place n = false) : F.add l n = l := if_neg (by simp [h])
theorem Fn.add_length (F : Fn) (l : List Int) (n : Int) : (F.add l n).length ≤ l.length + 1 := by
  unfold Fn.add
  split <;> simp

/-- The ways as the program gathers them: in the order of the text, a place perhaps twice. -/
def Fn.raw1 (F : Fn) (at_ : Int) : List Int := if F.op at_ == 0 || F.op at_ == 24 || F.op at_ == 26 || F.op at_ == 27 then [] else F.add [] (at_ + 1)
def Fn.raw2 (F : Fn) (at_ : Int) : List Int := if F.op at_ == 24 || F.op at_ == 25 then F.add (F.raw1 at_) (F.arg at_) else F.raw1 at_
def Fn.raw (F : Fn) (rs : List Bool) (at_ : Int) : List Int := if F.raises rs at_ then F.add (F.raw2 at_) (F.handler at_) else F.raw2 at_

end Go.Proofs.Ytnnhlnefhndpdaa
