/- TreeForms: the plain law. -/
import Derived.Test.YtmhlmbmenoihnaaDoorP3
import Derived.Test.YtmhlmbmenoihnaaDoorG13
import Derived.Test.YtmhlmbmenoihnaaDoorG1
namespace Go.Proofs.YtmhlmbmenoihnaaDoor.P
open Go.Lib Go.RowKit Go.Proofs.YtmhlmbmenoihnaaDoor.G Go.Proofs.YtmhlmbmenoihnaaDoorW.PrintWords Go.Proofs.YtmhlmbmenoihnaaDoor.OT

theorem TreeForms (a0 : Int) (a1 : Bool) (a2 : List Int) (a3 : List ByteArray) (a4 : List T) (ha : okT ⟨a0, a1, a2, a3, a4⟩) : ∃ k, w03_TreeForms.f k a0 a1 a2 a3 a4 = some true := by
  obtain ⟨g1, e1⟩ := great_ev ⟨a0, a1, a2, a3, a4⟩ ha 6000 (by decide) (by decide)
  have es := size_ev ⟨a0, a1, a2, a3, a4⟩ ha
  have ep := size_prog ⟨a0, a1, a2, a3, a4⟩ ha
  simp only at e1 es ep
  have hall : Ev (fun k => w03_TreeForms.f k a0 a1 a2 a3 a4) true := by
    refine Ev.eq (fun k => by rw [w03_TreeForms.f]) (Ev.bind e1 ?_)
    cases g1 with
    | true =>
      simp only [if_true]
      exact Ev.bind awake_ev (Ev.const _)
    | false =>
      simp only [Bool.false_eq_true, if_false]
      refine Ev.bind awake_ev ?_
      simp only [if_true, tree_Form.f, ep, Option.bind_some]
      refine Ev.bind es ?_
      unfold sizeR sizeOfTree
      cases hx : addT ⟨a0, a1, a2, a3, a4⟩ 0 0 0 with
      | none => simpa [sizeRes] using Ev.const true
      | some q => simpa [sizeRes] using Ev.const true
  exact hall.get
end Go.Proofs.YtmhlmbmenoihnaaDoor.P
