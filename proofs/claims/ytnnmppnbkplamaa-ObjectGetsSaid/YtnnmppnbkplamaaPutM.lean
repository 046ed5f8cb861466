/- Put$1: a closure of bytes. -/
import Derived.Test.YtnnmppnbkplamaaPutE
namespace Go.Proofs.Ytnnmppnbkplamaa
open Go.RowKit Go.Shelf

set_option maxRecDepth 100000 in
theorem mk_any (A : Option Addr) (m k : Nat) (a1 a2 a3 a4 : Addr) (w : World) :
    Calls Try.prog 32 #[.slice A m k, .pointer (some a1), .pointer (some a2), .pointer (some a3), .pointer (some a4)] w fun e w' =>
      e = .returned (.func (.func 33) #[] #[.pointer (some a1), .pointer (some a2), .pointer (some a3), .pointer (some a4), .pointer (some ⟨w.heap.size, 0, none⟩)]) ∧ Below w.heap.size w w' ∧ Has w' w.heap.size #[.slice A m k] := by
  have B1 := Lib.hid (below_alloc1 w (.cells #[.slice A m k] 26))
  have R1 := Lib.hid (Has.newAt w #[.slice A m k] 26 (g := w.heap.size) rfl)
  go_enter Try.func32, Try.ntmps32
  go_wp2
  go_ret
  exact ⟨rfl, B1.out, R1.out⟩

end Go.Proofs.Ytnnmppnbkplamaa
