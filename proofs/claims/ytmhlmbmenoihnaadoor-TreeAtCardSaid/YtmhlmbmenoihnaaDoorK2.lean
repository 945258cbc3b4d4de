/- What tree.Paths comes to, in the form of K1. -/
import Derived.Test.YtmhlmbmenoihnaaDoorK1
import Derived.Test.YtmhlmbmenoihnaaDoorP6
namespace Go.Proofs.YtmhlmbmenoihnaaDoor.K
open Go.RowKit Go.Proofs.YtmhlmbmenoihnaaDoor.G Go.Proofs.YtmhlmbmenoihnaaDoorW.PrintWords Go.Proofs.YtmhlmbmenoihnaaDoorW.PrintLast Go.Proofs.YtmhlmbmenoihnaaDoorW.PrintMore Go.Proofs.YtmhlmbmenoihnaaDoor.OT Go.Proofs.YtmhlmbmenoihnaaDoor.P
set_option linter.unusedVariables false
theorem paths_c {t : T} {A2 : Option Addr} {c2 : Nat} {A3 : Option Addr} {c3 : Nat} {A4 : Option Addr} {c4 : Nat} {w : World} (h : P.Ev (fun k => tree_Paths.f k t.f0 t.f1 t.f2 t.f3 t.f4) (pathsT t)) (hc : TC w t A2 c2 A3 c3 A4 c4) :
    Calls Tryd.prog 23 #[.agg #[.int .u8 t.f0, .bool t.f1, .slice A2 t.f2.length c2, .slice A3 t.f3.length c3, .slice A4 t.f4.length c4]] w fun e w' => ∃ B d, e = .returned (.slice B (pathsT t).length d) ∧ Kd.C Kd.string w' B (pathsT t).length (pathsT t) ∧ (pathsT t).length ≤ d ∧ Below w.heap.size w w' := by
  obtain ⟨k, hk⟩ := h.get
  refine (tree_Paths.calls k _ _ _ _ _ _ _ _ _ _ _ _ w hc.1.1 hc.1.2 hc.2.1.1 hc.2.1.2 hc.2.2.1 hc.2.2.2 hk).mono ?_
  rintro e w' ⟨v, rfl, h2, hb⟩
  obtain ⟨B, d, rfl⟩ := Kd.R_slice h2
  obtain ⟨_, a2, b2⟩ := Kd.R_reads' h2
  exact ⟨B, d, rfl, b2, a2, hb⟩

end Go.Proofs.YtmhlmbmenoihnaaDoor.K
