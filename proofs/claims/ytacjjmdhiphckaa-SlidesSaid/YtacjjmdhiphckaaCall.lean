/- Slides: all of a case: its five parts joined. -/
import Derived.Test.YtacjjmdhiphckaaCallIn
import Derived.Test.YtacjjmdhiphckaaCallLow0
import Derived.Test.YtacjjmdhiphckaaCallLow1
import Derived.Test.YtacjjmdhiphckaaCallHigh0
import Derived.Test.YtacjjmdhiphckaaCallHigh1
namespace Go.Proofs.Ytacjjmdhiphckaa
open Go.RowKit

theorem call (W : World) (c p a b : Nat) (wid now n : Int) (va vb lv : Value) (l : List (Int × Int)) (hl : l.length ≤ 1073741824) (h : CaseS W c p a b wid now va vb lv l) :
    Calls Try.prog 12 #[.pointer (some ⟨c, 0, none⟩), .int .i64 n] W fun e w' => e = .returned (.bool true) ∧ Below W.heap.size W w' := by
  by_cases hin : 1 ≤ n ∧ n ≤ ((keptL wid now l).length : Int)
  · exact call_in W c p a b wid now n va vb lv l hl h hin
  · by_cases h0 : 0 < (keptL wid now l).length
    · by_cases hlow : n < 1
      · exact call_low1 W c p a b wid now n va vb lv l hl h ⟨hlow, h0⟩
      · exact call_high1 W c p a b wid now n va vb lv l hl h ⟨⟨hlow, by omega⟩, h0⟩
    · by_cases hlow : n < 1
      · exact call_low0 W c p a b wid now n va vb lv l hl h ⟨hlow, h0⟩
      · exact call_high0 W c p a b wid now n va vb lv l hl h ⟨⟨hlow, by omega⟩, h0⟩
end Go.Proofs.Ytacjjmdhiphckaa
