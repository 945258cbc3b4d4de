/- TreeDown: the walk of the law. -/
import Derived.Test.YtmhlmbmenoihnaaDoorK1
import Derived.Test.YtmhlmbmenoihnaaDoorH6
import Derived.Test.YtmhlmbmenoihnaaDoorP4d
namespace Go.Proofs.YtmhlmbmenoihnaaDoor.K
open Go.RowKit Go.Proofs.YtmhlmbmenoihnaaDoor.G Go.Proofs.YtmhlmbmenoihnaaDoorW.PrintWords Go.Proofs.YtmhlmbmenoihnaaDoorW.PrintLast Go.Proofs.YtmhlmbmenoihnaaDoorW.PrintMore Go.Proofs.YtmhlmbmenoihnaaDoor.OT Go.Proofs.YtmhlmbmenoihnaaDoor.P
set_option linter.unusedVariables false
set_option linter.unusedSimpArgs false

set_option maxHeartbeats 4000000 in
set_option maxRecDepth 100000 in
theorem down_walk (t : T) (p q : ByteArray) (hp : p.size ≤ 140737488351232) (hq : q.size ≤ 140737488351232) (hok : okT t) (A2 : Option Addr) (c2 : Nat) (A3 : Option Addr) (c3 : Nat) (A4 : Option Addr) (c4 : Nat) (w : World) (hc : TC w t A2 c2 A3 c3 A4 c4) :
    Calls Tryd.prog 7 #[.agg #[.int .u8 t.f0, .bool t.f1, .slice A2 t.f2.length c2, .slice A3 t.f3.length c3, .slice A4 t.f4.length c4], .string p, .string q] w fun e w' => e = .returned (.bool true) ∧ Below w.heap.size w w' := by
  obtain ⟨g1, e1⟩ := great_ev t hok 500 (by decide) (by decide)
  have GR := Aside0.mk (fun W g cs (h : Bx w W g cs) => great_c e1 (hc.below h.low))
  have FO := Aside0.mk (fun W g cs (h : Bx w W g cs) => form_c hok (hc.below h.low))
  have HC := Aside0.mk hc
  have HOK := Aside0.mk hok
  clear e1 hc hok
  have hu26 := Tryd.underlying26
  have hB0 : Below w.heap.size w (w.alloc (.cells #[.int .u8 t.f0, .bool t.f1, .slice A2 t.f2.length c2, .slice A3 t.f3.length c3, .slice A4 t.f4.length c4] 26)) := below_alloc (Below.refl _ _) _
  have hx0 := heap_alloc_new w (.cells #[.int .u8 t.f0, .bool t.f1, .slice A2 t.f2.length c2, .slice A3 t.f3.length c3, .slice A4 t.f4.length c4] 26 (0, 0))
  have BX := Aside0.mk (Bx.mk hx0 hB0)
  clear hB0 hx0
  go_enter Tryd.func7, Tryd.ntmps7
  go_upto_region 1 with fail
  generalize w.alloc (.cells #[.int .u8 t.f0, .bool t.f1, .slice A2 t.f2.length c2, .slice A3 t.f3.length c3, .slice A4 t.f4.length c4] 26) = W1 at *
  generalize w.heap.size = gb at *
  have z0 : W1.cell? ⟨gb, 0, none⟩ = some (.int .u8 t.f0) := (blk_cell BX.out.box 0).trans rfl
  have z1 : W1.cell? ⟨gb, 1, none⟩ = some (.bool t.f1) := (blk_cell BX.out.box 1).trans rfl
  have z2 : W1.cell? ⟨gb, 2, none⟩ = some (.slice A2 t.f2.length c2) := (blk_cell BX.out.box 2).trans rfl
  have z3 : W1.cell? ⟨gb, 3, none⟩ = some (.slice A3 t.f3.length c3) := (blk_cell BX.out.box 3).trans rfl
  have z4 : W1.cell? ⟨gb, 4, none⟩ = some (.slice A4 t.f4.length c4) := (blk_cell BX.out.box 4).trans rfl
  go_wp2_with fail
  refine (GR.out _ _ _ BX.out).mono ?_
  rintro e w1 ⟨rfl, hb1⟩
  have BX1 := Aside0.mk (BX.out.below hb1)
  clear hb1 BX z0 z1 z2 z3 z4
  cases g1 with
  | true =>
    go_wp2_with fail
    refine (awake_c _).mono ?_
    rintro e w2 ⟨rfl, hb2⟩
    have BX2 := Aside0.mk (BX1.out.below hb2)
    clear hb2
    go_wp2_with fail
    go_ret
    exact ⟨rfl, BX2.out.low⟩
  | false =>
    go_wp2_with fail
    refine (awake_c _).mono ?_
    rintro e w2 ⟨rfl, hb2⟩
    have BX2 := Aside0.mk (BX1.out.below hb2)
    clear hb2 BX1
    have z0 : w2.cell? ⟨gb, 0, none⟩ = some (.int .u8 t.f0) := (blk_cell BX2.out.box 0).trans rfl
    have z1 : w2.cell? ⟨gb, 1, none⟩ = some (.bool t.f1) := (blk_cell BX2.out.box 1).trans rfl
    have z2 : w2.cell? ⟨gb, 2, none⟩ = some (.slice A2 t.f2.length c2) := (blk_cell BX2.out.box 2).trans rfl
    have z3 : w2.cell? ⟨gb, 3, none⟩ = some (.slice A3 t.f3.length c3) := (blk_cell BX2.out.box 3).trans rfl
    have z4 : w2.cell? ⟨gb, 4, none⟩ = some (.slice A4 t.f4.length c4) := (blk_cell BX2.out.box 4).trans rfl
    go_wp2_with fail
    refine (FO.out _ _ _ BX2.out).mono ?_
    rintro e w3 ⟨rfl, hb3⟩
    have BX3 := Aside0.mk (BX2.out.below hb3)
    clear hb3 BX2 z0 z1 z2 z3 z4
    cases hf : (sizeR t).2.2 with
    | false =>
      go_wp2_with fail
      refine (awake_c _).mono ?_
      rintro e w4 ⟨rfl, hb4⟩
      have BX4 := Aside0.mk (BX3.out.below hb4)
      clear hb4
      go_wp2_with fail
      go_ret
      exact ⟨rfl, BX4.out.low⟩
    | true =>
      have HF := Aside0.mk hf
      clear hf
      by_cases n1 : p.toList = []
      · have k1 : (p.toList == ([] : List UInt8)) = true := beq_iff_eq.2 n1
        go_wp2_with fail
        refine (awake_c _).mono ?_
        rintro e w4 ⟨rfl, hb4⟩
        have BX4 := Aside0.mk (BX3.out.below hb4)
        clear hb4
        go_wp2_with fail
        go_ret
        exact ⟨rfl, BX4.out.low⟩
      · have k1 : (p.toList == ([] : List UInt8)) = false := beq_eq_false_iff_ne.2 n1
        by_cases n2 : q.toList = []
        · have k2 : (q.toList == ([] : List UInt8)) = true := beq_iff_eq.2 n2
          go_wp2_with fail
          refine (awake_c _).mono ?_
          rintro e w4 ⟨rfl, hb4⟩
          have BX4 := Aside0.mk (BX3.out.below hb4)
          clear hb4
          go_wp2_with fail
          go_ret
          exact ⟨rfl, BX4.out.low⟩
        · have k2 : (q.toList == ([] : List UInt8)) = false := beq_eq_false_iff_ne.2 n2
          have hsum : IntKind.i64.wrap ((p.size : Int) + (q.size : Int)) = ((p.size + q.size : Nat) : Int) := by rw [wrap_small _ (by omega) (by omega)]; omega
          by_cases n3 : 300 < p.size + q.size
          · have k3 : decide ((300 : Int) < (p.size : Int) + (q.size : Int)) = true := decide_eq_true (by omega)
            have k4 : decide (300 < p.size + q.size) = true := decide_eq_true n3
            go_wp2_with fail
            refine (awake_c _).mono ?_
            rintro e w4 ⟨rfl, hb4⟩
            have BX4 := Aside0.mk (BX3.out.below hb4)
            clear hb4
            go_wp2_with fail
            go_ret
            exact ⟨rfl, BX4.out.low⟩
          · have k3 : decide ((300 : Int) < (p.size : Int) + (q.size : Int)) = false := decide_eq_false (by omega)
            have k4 : decide (300 < p.size + q.size) = false := decide_eq_false n3
            have hwf : wfT t := form_wf t HOK.out true rfl HF.out
            have hfacts := down_eq t p q n1 n2 (by omega)
            have AT := Aside0.mk (fun W g cs s (h : Bx w W g cs) => at_c s HOK.out hwf (HC.out.below h.low))
            have HWF := Aside0.mk hwf
            have DF := Aside0.mk hfacts
            have j1 : ¬ (9223372036854775807 < p.size + 1) := by omega
            have hpq : (p ++ (⟨#[47]⟩ : ByteArray)).size = p.size + 1 := by rw [ByteArray.size_append]; rfl
            have j2 : ¬ (9223372036854775807 < (p ++ (⟨#[47]⟩ : ByteArray)).size + q.size) := by omega
            have j2' : ¬ (9223372036854775807 < p.size + 1 + q.size) := by omega
            clear hwf hfacts n1 n2 n3
            have z0 : w3.cell? ⟨gb, 0, none⟩ = some (.int .u8 t.f0) := (blk_cell BX3.out.box 0).trans rfl
            have z1 : w3.cell? ⟨gb, 1, none⟩ = some (.bool t.f1) := (blk_cell BX3.out.box 1).trans rfl
            have z2 : w3.cell? ⟨gb, 2, none⟩ = some (.slice A2 t.f2.length c2) := (blk_cell BX3.out.box 2).trans rfl
            have z3 : w3.cell? ⟨gb, 3, none⟩ = some (.slice A3 t.f3.length c3) := (blk_cell BX3.out.box 3).trans rfl
            have z4 : w3.cell? ⟨gb, 4, none⟩ = some (.slice A4 t.f4.length c4) := (blk_cell BX3.out.box 4).trans rfl
            go_wp2_with fail
            refine (AT.out _ _ _ _ BX3.out).mono ?_
            rintro e w4 ⟨B2, Bd2, B3, Bd3, B4, Bd4, rfl, ht4, hb4⟩
            have BX4 := Aside0.mk (BX3.out.below hb4)
            have TX4 := Aside0.mk ht4
            clear hb4 ht4 BX3 z0 z1 z2 z3 z4
            generalize hy : atOf t ((p ++ (⟨#[47]⟩ : ByteArray)) ++ q) = y at *
            obtain ⟨x, ee⟩ := y
            go_upto_region 6 with fail
            have hnb : Below w4.heap.size w4 (w4.alloc (.cells #[.int .u8 x.f0, .bool x.f1, .slice B2 x.f2.length Bd2, .slice B3 x.f3.length Bd3, .slice B4 x.f4.length Bd4] 26)) := below_alloc (Below.refl _ _) _
            have hnx : (w4.alloc (.cells #[.int .u8 x.f0, .bool x.f1, .slice B2 x.f2.length Bd2, .slice B3 x.f3.length Bd3, .slice B4 x.f4.length Bd4] 26)).heap[w4.heap.size]? = some (.cells #[.int .u8 x.f0, .bool x.f1, .slice B2 x.f2.length Bd2, .slice B3 x.f3.length Bd3, .slice B4 x.f4.length Bd4] 26 (0, 0)) := heap_alloc_new _ _
            have BX5 := Aside0.mk (BX4.out.below hnb)
            have TX5 := Aside0.mk (TX4.out.below hnb)
            clear hnb BX4 TX4
            generalize w4.alloc (.cells #[.int .u8 x.f0, .bool x.f1, .slice B2 x.f2.length Bd2, .slice B3 x.f3.length Bd3, .slice B4 x.f4.length Bd4] 26) = w5 at *
            generalize w4.heap.size = g7 at *
            have B7 := Aside0.mk hnx
            clear hnx
            have z0 : w5.cell? ⟨gb, 0, none⟩ = some (.int .u8 t.f0) := (blk_cell BX5.out.box 0).trans rfl
            have z1 : w5.cell? ⟨gb, 1, none⟩ = some (.bool t.f1) := (blk_cell BX5.out.box 1).trans rfl
            have z2 : w5.cell? ⟨gb, 2, none⟩ = some (.slice A2 t.f2.length c2) := (blk_cell BX5.out.box 2).trans rfl
            have z3 : w5.cell? ⟨gb, 3, none⟩ = some (.slice A3 t.f3.length c3) := (blk_cell BX5.out.box 3).trans rfl
            have z4 : w5.cell? ⟨gb, 4, none⟩ = some (.slice A4 t.f4.length c4) := (blk_cell BX5.out.box 4).trans rfl
            go_wp2_with fail
            refine (AT.out _ _ _ _ BX5.out).mono ?_
            rintro e w6 ⟨C2, Cd2, C3, Cd3, C4, Cd4, rfl, ht6, hb6⟩
            have BX6 := Aside0.mk (BX5.out.below hb6)
            have TX6 := Aside0.mk (TX5.out.below hb6)
            have TY6 := Aside0.mk ht6
            have B76 := Aside0.mk (blk_below B7.out hb6)
            clear hb6 ht6 BX5 TX5 B7 z0 z1 z2 z3 z4
            generalize hy2 : atOf t p = y2 at *
            obtain ⟨u, ff⟩ := y2
            go_upto_region 7 with fail
            have hnb : Below w6.heap.size w6 (w6.alloc (.cells #[.int .u8 u.f0, .bool u.f1, .slice C2 u.f2.length Cd2, .slice C3 u.f3.length Cd3, .slice C4 u.f4.length Cd4] 26)) := below_alloc (Below.refl _ _) _
            have hnx : (w6.alloc (.cells #[.int .u8 u.f0, .bool u.f1, .slice C2 u.f2.length Cd2, .slice C3 u.f3.length Cd3, .slice C4 u.f4.length Cd4] 26)).heap[w6.heap.size]? = some (.cells #[.int .u8 u.f0, .bool u.f1, .slice C2 u.f2.length Cd2, .slice C3 u.f3.length Cd3, .slice C4 u.f4.length Cd4] 26 (0, 0)) := heap_alloc_new _ _
            have BX7 := Aside0.mk (BX6.out.below hnb)
            have TX7 := Aside0.mk (TX6.out.below hnb)
            have TY7 := Aside0.mk (TY6.out.below hnb)
            have B77 := Aside0.mk (blk_below B76.out hnb)
            have B9 := Aside0.mk hnx
            clear hnb hnx BX6 TX6 TY6 B76
            generalize w6.alloc (.cells #[.int .u8 u.f0, .bool u.f1, .slice C2 u.f2.length Cd2, .slice C3 u.f3.length Cd3, .slice C4 u.f4.length Cd4] 26) = w7 at *
            generalize w6.heap.size = g9 at *
            have HY := Aside0.mk hy
            have HY2 := Aside0.mk hy2
            clear hy hy2
            by_cases n4 : ff = 0
            · have k5 : (ff != 0) = false := by rw [n4]; rfl
              have hu : okT u ∧ wfT u := by
                have h2 := HY2.out
                rw [n4] at h2
                exact at_okwf t p HOK.out HWF.out u h2
              have heq : atOf u q = (x, ee) := (DF.out.2 n4).symm
              have hx : okT x := by
                have := at_okz t ((p ++ (⟨#[47]⟩ : ByteArray)) ++ q) HOK.out
                rw [HY.out] at this
                exact this
              have AT2 := Aside0.mk (at_c (w := w7) q hu.1 hu.2 TY7.out)
              rw [heq] at AT2
              have HX := Aside0.mk hx
              clear hu heq hx
              have y0 : w7.cell? ⟨g9, 0, none⟩ = some (.int .u8 u.f0) := (blk_cell B9.out 0).trans rfl
              have y1 : w7.cell? ⟨g9, 1, none⟩ = some (.bool u.f1) := (blk_cell B9.out 1).trans rfl
              have y2 : w7.cell? ⟨g9, 2, none⟩ = some (.slice C2 u.f2.length Cd2) := (blk_cell B9.out 2).trans rfl
              have y3 : w7.cell? ⟨g9, 3, none⟩ = some (.slice C3 u.f3.length Cd3) := (blk_cell B9.out 3).trans rfl
              have y4 : w7.cell? ⟨g9, 4, none⟩ = some (.slice C4 u.f4.length Cd4) := (blk_cell B9.out 4).trans rfl
              go_wp2_with fail
              refine AT2.out.mono ?_
              rintro e w8 ⟨D2, Dd2, D3, Dd3, D4, Dd4, rfl, ht8, hb8⟩
              have BX8 := Aside0.mk (BX7.out.below hb8)
              have TX8 := Aside0.mk (TX7.out.below hb8)
              have B78 := Aside0.mk (blk_below B77.out hb8)
              have TZ8 := Aside0.mk ht8
              clear hb8 ht8 BX7 TX7 TY7 B77 AT2 y0 y1 y2 y3 y4
              go_upto_region 10 with fail
              have hnb : Below w8.heap.size w8 (w8.alloc (.cells #[.int .u8 x.f0, .bool x.f1, .slice D2 x.f2.length Dd2, .slice D3 x.f3.length Dd3, .slice D4 x.f4.length Dd4] 26)) := below_alloc (Below.refl _ _) _
              have hnx : (w8.alloc (.cells #[.int .u8 x.f0, .bool x.f1, .slice D2 x.f2.length Dd2, .slice D3 x.f3.length Dd3, .slice D4 x.f4.length Dd4] 26)).heap[w8.heap.size]? = some (.cells #[.int .u8 x.f0, .bool x.f1, .slice D2 x.f2.length Dd2, .slice D3 x.f3.length Dd3, .slice D4 x.f4.length Dd4] 26 (0, 0)) := heap_alloc_new _ _
              have BX9 := Aside0.mk (BX8.out.below hnb)
              have TX9 := Aside0.mk (TX8.out.below hnb)
              have TZ9 := Aside0.mk (TZ8.out.below hnb)
              have B79 := Aside0.mk (blk_below B78.out hnb)
              have B11 := Aside0.mk hnx
              clear hnb hnx BX8 TX8 TZ8 B78
              generalize w8.alloc (.cells #[.int .u8 x.f0, .bool x.f1, .slice D2 x.f2.length Dd2, .slice D3 x.f3.length Dd3, .slice D4 x.f4.length Dd4] 26) = w9 at *
              generalize w8.heap.size = g11 at *
              have SA := Aside0.mk (same_c HX.out HX.out TX9.out TZ9.out)
              rw [sameT_refl] at SA
              have k6 : (ee == ee) = true := beq_self_eq_true ee
              have y0 : w9.cell? ⟨g7, 0, none⟩ = some (.int .u8 x.f0) := (blk_cell B79.out 0).trans rfl
              have y1 : w9.cell? ⟨g7, 1, none⟩ = some (.bool x.f1) := (blk_cell B79.out 1).trans rfl
              have y2 : w9.cell? ⟨g7, 2, none⟩ = some (.slice B2 x.f2.length Bd2) := (blk_cell B79.out 2).trans rfl
              have y3 : w9.cell? ⟨g7, 3, none⟩ = some (.slice B3 x.f3.length Bd3) := (blk_cell B79.out 3).trans rfl
              have y4 : w9.cell? ⟨g7, 4, none⟩ = some (.slice B4 x.f4.length Bd4) := (blk_cell B79.out 4).trans rfl
              have x0 : w9.cell? ⟨g11, 0, none⟩ = some (.int .u8 x.f0) := (blk_cell B11.out 0).trans rfl
              have x1 : w9.cell? ⟨g11, 1, none⟩ = some (.bool x.f1) := (blk_cell B11.out 1).trans rfl
              have x2 : w9.cell? ⟨g11, 2, none⟩ = some (.slice D2 x.f2.length Dd2) := (blk_cell B11.out 2).trans rfl
              have x3 : w9.cell? ⟨g11, 3, none⟩ = some (.slice D3 x.f3.length Dd3) := (blk_cell B11.out 3).trans rfl
              have x4 : w9.cell? ⟨g11, 4, none⟩ = some (.slice D4 x.f4.length Dd4) := (blk_cell B11.out 4).trans rfl
              go_wp2_with fail
              refine SA.out.mono ?_
              rintro e w10 ⟨rfl, hb10⟩
              have BX10 := Aside0.mk (BX9.out.below hb10)
              clear hb10
              go_wp2_with fail
              go_ret
              exact ⟨rfl, BX10.out.low⟩
            · have k5 : (ff != 0) = true := bne_iff_ne.2 n4
              have k7 : (ee != 0) = true := bne_iff_ne.2 (DF.out.1 n4)
              go_wp2_with fail
              go_ret
              exact ⟨rfl, BX7.out.low⟩
end Go.Proofs.YtmhlmbmenoihnaaDoor.K
