/- CacheUse of layer 16: the walk, its cases joined. -/
import Derived.Test.YthjohjijcgiogaaUseF
import Derived.Test.YthjohjijcgiogaaUseN
import Derived.Test.YthjohjijcgiogaaUseM
import Derived.Test.YthjohjijcgiogaaUseO
namespace Go.Proofs.Ythjohjijcgiogaa
open Go.RowKit


theorem use_any (cap : Int) (A : Option Addr) (n c : Nat) (l : List Hd) (name : ByteArray) (no : Int) (w : World) (hl : Hds w A n c l) :
    Calls Try.prog 8 #[.agg #[.int .i64 cap, .slice A n c], .string name, .int .i64 no] w fun e w' => e = .returned (.bool true) ∧ Below w.heap.size w w' := by
  cases hf : fewC (l.map Hd.val) with
  | false => exact use_out cap A n c l name no w hl (.inl hf)
  | true =>
    rcases check_cases cap (l.map Hd.val) with h0 | h0
    · cases hfc : findC name no (l.map Hd.val) with
      | some x => exact use_found cap A n c l name no w hl hf h0 x hfc
      | none =>
        cases hx : l.map Hd.val with
        | nil => exact use_nil cap A n c l name no w hl hf h0 hx
        | cons x r =>
          by_cases h1 : x.name = name
          · by_cases h2 : x.no = no
            · exfalso
              have := List.find?_eq_none.1 hfc x (by rw [hx]; exact List.mem_cons_self ..)
              exact this (decide_eq_true ⟨h1, h2⟩)
            · exact use_no cap A n c l name no w hl hf h0 x r hx hfc h1 h2
          · exact use_name cap A n c l name no w hl hf h0 x r hx hfc h1
    · exact use_out cap A n c l name no w hl (.inr h0)

end Go.Proofs.Ythjohjijcgiogaa
