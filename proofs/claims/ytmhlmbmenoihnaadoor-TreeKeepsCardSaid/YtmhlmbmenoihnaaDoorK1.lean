/- What the functions on trees come to, each in one form: a tree that is read, the world at most grown. -/
import Derived.Test.YtmhlmbmenoihnaaDoorP4
import Derived.Test.YtmhlmbmenoihnaaDoorG14
import Derived.Test.YtmhlmbmenoihnaaDoorG3
import Derived.Test.YtmhlmbmenoihnaaDoorG8
namespace Go.Proofs.YtmhlmbmenoihnaaDoor.K
open Go.RowKit Go.Proofs.YtmhlmbmenoihnaaDoor.G Go.Proofs.YtmhlmbmenoihnaaDoorW.PrintWords Go.Proofs.YtmhlmbmenoihnaaDoorW.PrintLast Go.Proofs.YtmhlmbmenoihnaaDoorW.PrintMore Go.Proofs.YtmhlmbmenoihnaaDoor.OT Go.Proofs.YtmhlmbmenoihnaaDoor.P
set_option linter.unusedVariables false

/-- A tree is read. -/
def TC (w : World) (t : T) (A2 : Option Addr) (c2 : Nat) (A3 : Option Addr) (c3 : Nat) (A4 : Option Addr) (c4 : Nat) : Prop :=
  (Kd.C (Kd.int .u8) w A2 t.f2.length t.f2 ∧ t.f2.length ≤ c2) ∧ (Kd.C Kd.string w A3 t.f3.length t.f3 ∧ t.f3.length ≤ c3) ∧ Kd.C k26 w A4 t.f4.length t.f4 ∧ t.f4.length ≤ c4
def tv (t : T) (A2 : Option Addr) (c2 : Nat) (A3 : Option Addr) (c3 : Nat) (A4 : Option Addr) (c4 : Nat) : Array Value := #[.int .u8 t.f0, .bool t.f1, .slice A2 t.f2.length c2, .slice A3 t.f3.length c3, .slice A4 t.f4.length c4]
theorem TC.below {w w' : World} {t : T} {A2 : Option Addr} {c2 : Nat} {A3 : Option Addr} {c3 : Nat} {A4 : Option Addr} {c4 : Nat} (h : TC w t A2 c2 A3 c3 A4 c4) (hb : Below w.heap.size w w') : TC w' t A2 c2 A3 c3 A4 c4 :=
  ⟨⟨Kd.C_below h.1.1 hb, h.1.2⟩, ⟨Kd.C_below h.2.1.1 hb, h.2.1.2⟩, Kd.C_below h.2.2.1 hb, h.2.2.2⟩

section
variable {t : T} {A2 : Option Addr} {c2 : Nat} {A3 : Option Addr} {c3 : Nat} {A4 : Option Addr} {c4 : Nat} {w : World}
theorem awake_c (w : World) : Calls Tryd.prog 11 #[] w fun e w' => e = .returned (.bool true) ∧ Below w.heap.size w w' := by
  obtain ⟨k, hk⟩ := awake_ev.get
  exact w03_awake.calls k true w hk
theorem great_c {n : Int} {b : Bool} (h : P.Ev (fun k => r03_Great.f k t.f0 t.f1 t.f2 t.f3 t.f4 n) b) (hc : TC w t A2 c2 A3 c3 A4 c4) :
    Calls Tryd.prog 10 #[.agg #[.int .u8 t.f0, .bool t.f1, .slice A2 t.f2.length c2, .slice A3 t.f3.length c3, .slice A4 t.f4.length c4], .int .i64 n] w fun e w' => e = .returned (.bool b) ∧ Below w.heap.size w w' := by
  obtain ⟨k, hk⟩ := h.get
  exact r03_Great.calls k _ _ _ _ _ _ _ _ _ _ _ _ b w hc.1.1 hc.1.2 hc.2.1.1 hc.2.1.2 hc.2.2.1 hc.2.2.2 hk
theorem form_c (hok : okT t) (hc : TC w t A2 c2 A3 c3 A4 c4) :
    Calls Tryd.prog 19 #[.agg #[.int .u8 t.f0, .bool t.f1, .slice A2 t.f2.length c2, .slice A3 t.f3.length c3, .slice A4 t.f4.length c4]] w fun e w' => e = .returned (.bool (sizeR t).2.2) ∧ Below w.heap.size w w' := by
  have es := size_ev t hok
  have ef : P.Ev (fun k => r03_Form.f k t.f0 t.f1 t.f2 t.f3 t.f4) (sizeR t).2.2 := P.Ev.eq (fun k => by rw [r03_Form.f]) (P.Ev.bind es (P.Ev.const _))
  obtain ⟨k, hk⟩ := ef.get
  exact r03_Form.calls k _ _ _ _ _ _ _ _ _ _ _ _ w hc.1.1 hc.1.2 hc.2.1.1 hc.2.1.2 hc.2.2.1 hc.2.2.2 hk
theorem at_c (p : ByteArray) (hok : okT t) (hwf : wfT t) (hc : TC w t A2 c2 A3 c3 A4 c4) :
    Calls Tryd.prog 20 #[.agg #[.int .u8 t.f0, .bool t.f1, .slice A2 t.f2.length c2, .slice A3 t.f3.length c3, .slice A4 t.f4.length c4], .string p] w fun e w' => ∃ B2 d2 B3 d3 B4 d4, e = .returned (.tuple #[.agg #[.int .u8 (atOf t p).1.f0, .bool (atOf t p).1.f1, .slice B2 (atOf t p).1.f2.length d2, .slice B3 (atOf t p).1.f3.length d3, .slice B4 (atOf t p).1.f4.length d4], .int .i64 (atOf t p).2]) ∧ TC w' (atOf t p).1 B2 d2 B3 d3 B4 d4 ∧ Below w.heap.size w w' := by
  obtain ⟨k, hk⟩ := (at_ev t p hok hwf).get
  refine (tree_At.calls k t.f0 t.f1 (fun k_ => k_ < w.heap.size) A2 c2 t.f2 (fun k_ => k_ < w.heap.size) A3 c3 t.f3 (fun k_ => k_ < w.heap.size) A4 c4 t.f4 p (atOf t p).1.f0 (atOf t p).1.f1 (atOf t p).1.f2 (atOf t p).1.f3 (atOf t p).1.f4 (atOf t p).2 w
    (Kd.V_mk hc.1.2 (Kd.C_F (Kd.heap_int .u8) hc.1.1)) (Kd.V_mk hc.2.1.2 (Kd.C_F Kd.heap_string hc.2.1.1)) (Kd.V_mk hc.2.2.2 (Kd.C_F k26_heap hc.2.2.1)) hk).mono ?_
  rintro e w' ⟨v2, v3, v4, rfl, h2, h3, h4, hb⟩
  obtain ⟨B2, d2, rfl⟩ := Kd.R_slice h2
  obtain ⟨B3, d3, rfl⟩ := Kd.R_slice h3
  obtain ⟨B4, d4, rfl⟩ := Kd.R_slice h4
  obtain ⟨_, a2, b2⟩ := Kd.R_reads' h2
  obtain ⟨_, a3, b3⟩ := Kd.R_reads' h3
  obtain ⟨_, a4, b4⟩ := Kd.R_reads' h4
  exact ⟨B2, d2, B3, d3, B4, d4, rfl, ⟨⟨b2, a2⟩, ⟨b3, a3⟩, b4, a4⟩, hb⟩
theorem same_c {u : T} {B2 : Option Addr} {d2 : Nat} {B3 : Option Addr} {d3 : Nat} {B4 : Option Addr} {d4 : Nat} (h1 : okT t) (h2 : okT u) (hc : TC w t A2 c2 A3 c3 A4 c4) (hd : TC w u B2 d2 B3 d3 B4 d4) :
    Calls Tryd.prog 22 #[.agg #[.int .u8 t.f0, .bool t.f1, .slice A2 t.f2.length c2, .slice A3 t.f3.length c3, .slice A4 t.f4.length c4], .agg #[.int .u8 u.f0, .bool u.f1, .slice B2 u.f2.length d2, .slice B3 u.f3.length d3, .slice B4 u.f4.length d4]] w fun e w' => e = .returned (.bool (sameT t u)) ∧ Below w.heap.size w w' := by
  obtain ⟨k, hk⟩ := (same_ev _ t u (Nat.lt_succ_self _) h1 h2).get
  exact r03_Same.calls k _ _ _ _ _ _ _ _ _ _ _ _ _ _ _ _ _ _ _ _ _ _ _ w hc.1.1 hc.1.2 hc.2.1.1 hc.2.1.2 hc.2.2.1 hc.2.2.2 hd.1.1 hd.1.2 hd.2.1.1 hd.2.1.2 hd.2.2.1 hd.2.2.2 hk
end

/-- A new variable of the type of trees, and a tree laid into it. -/
theorem laid5 (w : World) (z0 z1 z2 z3 z4 v0 v1 v2 v3 v4 : Value) :
    (((((( w.alloc (.cells #[z0, z1, z2, z3, z4] 26)).setCell ⟨w.heap.size, 0, none⟩ v0).setCell ⟨w.heap.size, 1, none⟩ v1).setCell ⟨w.heap.size, 2, none⟩ v2).setCell ⟨w.heap.size, 3, none⟩ v3).setCell ⟨w.heap.size, 4, none⟩ v4).heap[w.heap.size]? = some (.cells #[v0, v1, v2, v3, v4] 26 (0, 0)) ∧
    Below w.heap.size w (((((( w.alloc (.cells #[z0, z1, z2, z3, z4] 26)).setCell ⟨w.heap.size, 0, none⟩ v0).setCell ⟨w.heap.size, 1, none⟩ v1).setCell ⟨w.heap.size, 2, none⟩ v2).setCell ⟨w.heap.size, 3, none⟩ v3).setCell ⟨w.heap.size, 4, none⟩ v4) := by
  constructor
  · exact blk_put (blk_put (blk_put (blk_put (blk_put (blk_new w _) 0 v0 rfl) 1 v1 rfl) 2 v2 rfl) 3 v3 rfl) 4 v4 rfl
  · exact below_set (below_set (below_set (below_set (below_set (below_alloc (Below.refl _ _) _) (Nat.le_refl _)) (Nat.le_refl _)) (Nat.le_refl _)) (Nat.le_refl _)) (Nat.le_refl _)
end Go.Proofs.YtmhlmbmenoihnaaDoor.K
