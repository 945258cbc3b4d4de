/- TreeSames: the plain law. -/
import Derived.Test.YtmhlmbmenoihnaaDoorP2
import Derived.Test.YtmhlmbmenoihnaaDoorG10
namespace Go.Proofs.YtmhlmbmenoihnaaDoor.P
open Go.Lib Go.RowKit Go.Proofs.YtmhlmbmenoihnaaDoor.G Go.Proofs.YtmhlmbmenoihnaaDoorW.PrintWords Go.Proofs.YtmhlmbmenoihnaaDoor.OT

theorem TreeSames (a0 : Int) (a1 : Bool) (a2 : List Int) (a3 : List ByteArray) (a4 : List T) (b0 : Int) (b1 : Bool) (b2 : List Int) (b3 : List ByteArray) (b4 : List T) (ha : okT ⟨a0, a1, a2, a3, a4⟩) (hb : okT ⟨b0, b1, b2, b3, b4⟩) :
    ∃ k, w03_TreeSames.f k a0 a1 a2 a3 a4 b0 b1 b2 b3 b4 = some true := by
  obtain ⟨g1, e1⟩ := great_ev ⟨a0, a1, a2, a3, a4⟩ ha 1000 (by decide) (by decide)
  obtain ⟨g2, e2⟩ := great_ev ⟨b0, b1, b2, b3, b4⟩ hb 1000 (by decide) (by decide)
  have es := same_ev _ ⟨a0, a1, a2, a3, a4⟩ ⟨b0, b1, b2, b3, b4⟩ (Nat.lt_succ_self _) ha hb
  have er := same_ev _ ⟨a0, a1, a2, a3, a4⟩ ⟨a0, a1, a2, a3, a4⟩ (Nat.lt_succ_self _) ha ha
  have ec := copy_ev _ ⟨a0, a1, a2, a3, a4⟩ (Nat.lt_succ_self _) ha
  simp only at e1 e2 es er ec
  rw [sameT_refl] at er
  have j1 : Ev (fun k => w03_TreeSames.j1 k false a0 a1 a2 a3 a4) true := by
    refine Ev.succ (fun k => by rw [w03_TreeSames.j1, if_neg Bool.false_ne_true]) (Ev.bind ec (Ev.bind er ?_))
    simp only [if_true, tree_Same.f, sameT_refl, Option.bind_some]
    exact Ev.const _
  have jt : Ev (fun k => w03_TreeSames.j0 k true a0 a1 a2 a3 a4 b0 b1 b2 b3 b4) true :=
    Ev.succ (fun k => by rw [w03_TreeSames.j0, if_pos rfl]) (Ev.bind awake_ev (Ev.const _))
  have jf : Ev (fun k => w03_TreeSames.j0 k false a0 a1 a2 a3 a4 b0 b1 b2 b3 b4) true := by
    refine Ev.succ (fun k => by rw [w03_TreeSames.j0, if_neg Bool.false_ne_true]) (Ev.bind awake_ev ?_)
    simp only [if_true, tree_Same.f]
    refine Ev.bindc (Ev.bind es ?_)
    simp only [bne_self_eq_false]
    exact j1
  have hall : Ev (fun k => w03_TreeSames.f k a0 a1 a2 a3 a4 b0 b1 b2 b3 b4) true := by
    refine Ev.eq (fun k => by rw [w03_TreeSames.f]) (Ev.bind e1 ?_)
    cases g1 with
    | true => simpa only [if_true] using jt
    | false =>
      simp only [Bool.false_eq_true, if_false]
      refine Ev.bind e2 ?_
      cases g2 with
      | true => exact jt
      | false => exact jf
  exact hall.get
end Go.Proofs.YtmhlmbmenoihnaaDoor.P
