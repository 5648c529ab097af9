/- A number that comes in as an argument. -/
import Derived.Test.YtnnhlnefhndpdaaOpen2
namespace Go.Proofs.Ytnnhlnefhndpdaa
open Go.ChangeShapes Go.WideShapes Go.ChangeAt Go.RowKit Go.Deep

theorem open_int_arg {H : Type} {enc : TypeId × Value → H} {W : World} {base : Nat} {r : Reach} {b0 : Nat} {v : Value} {d : DataW H} {p : List MemPlace} (hv : Value.okWide Try.prog W r b0 3 v) (_h : DataW.Trod enc Try.prog W base (fun _ => true) true 3 v d p) :
    ∃ z : Int, v = .int .i64 z := okWide_int Try.underlying3 hv
end Go.Proofs.Ytnnhlnefhndpdaa
