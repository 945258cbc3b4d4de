-- PRINTED by print.py (a twelfth state) out of the translation. Not trusted: Lean checks it.
import Derived.Test.YtmhlmbmenoihnaaDoorG0
import Derived.Test.YtmhlmbmenoihnaaDoorH6
namespace Go.Proofs.YtmhlmbmenoihnaaDoor.G
open Go.RowKit Go.Proofs.YtmhlmbmenoihnaaDoorW.PrintWords Go.Proofs.YtmhlmbmenoihnaaDoorW.PrintLast Go.Proofs.YtmhlmbmenoihnaaDoorW.PrintMore
attribute [local go_sem] max2_int min2_int max_two min_two max_three min_three max_four min_four   -- for this text's walks alone
set_option linter.unusedVariables false
set_option linter.unusedSimpArgs false

/-! ### r03_own: function 43 -/
def r03_own.f (a0_0 : Int) (a0_1 : Bool) (l0_2 : List Int) (l0_3 : List ByteArray) (l0_4 : List (S26)) : Option Bool := if fitT ⟨a0_0, a0_1, l0_2, l0_3, l0_4⟩ = true then some (ownR ⟨a0_0, a0_1, l0_2, l0_3, l0_4⟩) else none
theorem r03_own.calls (a0_0 : Int) (a0_1 : Bool) (A0_2 : Option Addr) (c0_2 : Nat) (l0_2 : List Int) (A0_3 : Option Addr) (c0_3 : Nat) (l0_3 : List ByteArray) (A0_4 : Option Addr) (c0_4 : Nat) (l0_4 : List (S26)) (r : Bool) (w : World) (hr0_2 : Kd.C (Kd.int .u8) w A0_2 l0_2.length l0_2) (hc0_2 : l0_2.length ≤ c0_2) (hr0_3 : Kd.C Kd.string w A0_3 l0_3.length l0_3) (hc0_3 : l0_3.length ≤ c0_3) (hr0_4 : Kd.C k26 w A0_4 l0_4.length l0_4) (hc0_4 : l0_4.length ≤ c0_4) (h : r03_own.f a0_0 a0_1 l0_2 l0_3 l0_4 = some r) :
    Calls Tryd.prog 43 #[.agg #[.int .u8 a0_0, .bool a0_1, .slice A0_2 l0_2.length c0_2, .slice A0_3 l0_3.length c0_3, .slice A0_4 l0_4.length c0_4]] w fun e w' => e = .returned (.bool r) ∧ Below w.heap.size w w' := by
  unfold r03_own.f at h
  by_cases hs : fitT ⟨a0_0, a0_1, l0_2, l0_3, l0_4⟩ = true
  · rw [if_pos hs] at h
    have hc := own_says ⟨a0_0, a0_1, l0_2, l0_3, l0_4⟩ hs A0_2 c0_2 A0_3 c0_3 A0_4 c0_4 w hr0_2 hc0_2 hr0_3 hc0_3 hr0_4 hc0_4
    rw [Option.some.inj h] at hc
    exact hc
  · rw [if_neg hs] at h
    cases h

end Go.Proofs.YtmhlmbmenoihnaaDoor.G
