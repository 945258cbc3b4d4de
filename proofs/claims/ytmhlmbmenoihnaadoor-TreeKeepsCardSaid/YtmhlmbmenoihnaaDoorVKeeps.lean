/- TreeKeeps: the walk of the law. -/
import Derived.Test.YtmhlmbmenoihnaaDoorS1
import Derived.Test.YtmhlmbmenoihnaaDoorWAt3
import Derived.Test.YtmhlmbmenoihnaaDoorG2
namespace Go.Proofs.YtmhlmbmenoihnaaDoor.K
open Go.RowKit Go.Proofs.YtmhlmbmenoihnaaDoor.G Go.Proofs.YtmhlmbmenoihnaaDoorW.PrintWords Go.Proofs.YtmhlmbmenoihnaaDoorW.PrintLast Go.Proofs.YtmhlmbmenoihnaaDoorW.PrintMore Go.Proofs.YtmhlmbmenoihnaaDoor.OT Go.Proofs.YtmhlmbmenoihnaaDoor.P
set_option linter.unusedVariables false
set_option linter.unusedSimpArgs false

section
variable {t : T} {A2 : Option Addr} {c2 : Nat} {A3 : Option Addr} {c3 : Nat} {A4 : Option Addr} {c4 : Nat} {w : World}
theorem copy_c (hok : okT t) (hc : TC w t A2 c2 A3 c3 A4 c4) :
    Calls Tryd.prog 25 #[.agg #[.int .u8 t.f0, .bool t.f1, .slice A2 t.f2.length c2, .slice A3 t.f3.length c3, .slice A4 t.f4.length c4]] w fun e w' => ∃ B2 d2 B3 d3 B4 d4, e = .returned (.agg #[.int .u8 t.f0, .bool t.f1, .slice B2 t.f2.length d2, .slice B3 t.f3.length d3, .slice B4 t.f4.length d4]) ∧ TC w' t B2 d2 B3 d3 B4 d4 ∧ SpT w' w.heap.size t (.slice B2 t.f2.length d2) (.slice B3 t.f3.length d3) (.slice B4 t.f4.length d4) ∧ Below w.heap.size w w' := by
  obtain ⟨k, hk⟩ := (copy_ev _ t (Nat.lt_succ_self _) hok).get
  refine (tree_Copy.calls k _ _ _ _ _ _ _ _ _ _ _ t.f0 t.f1 t.f2 t.f3 t.f4 w hc.1.1 hc.1.2 hc.2.1.1 hc.2.1.2 hc.2.2.1 hc.2.2.2 hk).mono ?_
  rintro e w' ⟨v2, v3, v4, rfl, h2, h3, h4, hb⟩
  have hsp := SpT.of_R _ t (Nat.lt_succ_self _) _ _ _ v2 v3 v4 h2 h3 h4
  obtain ⟨B2, d2, rfl⟩ := Kd.R_slice h2
  obtain ⟨B3, d3, rfl⟩ := Kd.R_slice h3
  obtain ⟨B4, d4, rfl⟩ := Kd.R_slice h4
  obtain ⟨_, a2, b2⟩ := Kd.R_reads' h2
  obtain ⟨_, a3, b3⟩ := Kd.R_reads' h3
  obtain ⟨_, a4, b4⟩ := Kd.R_reads' h4
  exact ⟨B2, d2, B3, d3, B4, d4, rfl, ⟨⟨b2, a2⟩, ⟨b3, a3⟩, b4, a4⟩, hsp, hb⟩
theorem at_own (p : ByteArray) (hok : okT t) (hwf : wfT t) (hc : TC w t A2 c2 A3 c3 A4 c4) :
    Calls Tryd.prog 20 #[.agg #[.int .u8 t.f0, .bool t.f1, .slice A2 t.f2.length c2, .slice A3 t.f3.length c3, .slice A4 t.f4.length c4], .string p] w fun e w' => ∃ B2 d2 B3 d3 B4 d4, e = .returned (.tuple #[.agg #[.int .u8 (atOf t p).1.f0, .bool (atOf t p).1.f1, .slice B2 (atOf t p).1.f2.length d2, .slice B3 (atOf t p).1.f3.length d3, .slice B4 (atOf t p).1.f4.length d4], .int .i64 (atOf t p).2]) ∧ TC w' (atOf t p).1 B2 d2 B3 d3 B4 d4 ∧ SpT w' w.heap.size (atOf t p).1 (.slice B2 (atOf t p).1.f2.length d2) (.slice B3 (atOf t p).1.f3.length d3) (.slice B4 (atOf t p).1.f4.length d4) ∧ Below w.heap.size w w' := by
  obtain ⟨k, hk⟩ := (at_ev t p hok hwf).get
  refine (tree_At.calls k t.f0 t.f1 (fun k_ => k_ < w.heap.size) A2 c2 t.f2 (fun k_ => k_ < w.heap.size) A3 c3 t.f3 (fun k_ => k_ < w.heap.size) A4 c4 t.f4 p (atOf t p).1.f0 (atOf t p).1.f1 (atOf t p).1.f2 (atOf t p).1.f3 (atOf t p).1.f4 (atOf t p).2 w
    (Kd.V_mk hc.1.2 (Kd.C_F (Kd.heap_int .u8) hc.1.1)) (Kd.V_mk hc.2.1.2 (Kd.C_F Kd.heap_string hc.2.1.1)) (Kd.V_mk hc.2.2.2 (Kd.C_F k26_heap hc.2.2.1)) hk).mono ?_
  rintro e w' ⟨v2, v3, v4, rfl, h2, h3, h4, hb⟩
  have hsp := SpT.of_R _ (atOf t p).1 (Nat.lt_succ_self _) _ _ _ v2 v3 v4 h2 h3 h4
  obtain ⟨B2, d2, rfl⟩ := Kd.R_slice h2
  obtain ⟨B3, d3, rfl⟩ := Kd.R_slice h3
  obtain ⟨B4, d4, rfl⟩ := Kd.R_slice h4
  obtain ⟨_, a2, b2⟩ := Kd.R_reads' h2
  obtain ⟨_, a3, b3⟩ := Kd.R_reads' h3
  obtain ⟨_, a4, b4⟩ := Kd.R_reads' h4
  exact ⟨B2, d2, B3, d3, B4, d4, rfl, ⟨⟨b2, a2⟩, ⟨b3, a3⟩, b4, a4⟩, hsp, hb⟩
end

theorem at_okz2 (t : T) (p : ByteArray) (h1 : okT t) : okT (atOf t p).1 := by
  unfold atOf
  by_cases hs : (H.splitOf p).2 = 0
  · rw [if_pos hs]; exact walkT_okz _ _ h1
  · rw [if_neg hs]; exact okT_z
set_option maxHeartbeats 4000000 in
set_option maxRecDepth 100000 in
theorem keeps_walk (t : T) (path : ByteArray) (hpath : path.size ≤ 140737488351232) (hok : okT t) (A2 : Option Addr) (c2 : Nat) (A3 : Option Addr) (c3 : Nat) (A4 : Option Addr) (c4 : Nat) (w : World) (hc : TC w t A2 c2 A3 c3 A4 c4) :
    Calls Tryd.prog 6 #[.agg #[.int .u8 t.f0, .bool t.f1, .slice A2 t.f2.length c2, .slice A3 t.f3.length c3, .slice A4 t.f4.length c4], .string path] w fun e w' => e = .returned (.bool true) ∧ Below w.heap.size w w' := by
  obtain ⟨g1, e1⟩ := great_ev t hok 500 (by decide) (by decide)
  have GR := Aside0.mk (fun W g cs (h : Bx w W g cs) => great_c e1 (hc.below h.low))
  have FO := Aside0.mk (fun W g cs (h : Bx w W g cs) => form_c hok (hc.below h.low))
  have HC := Aside0.mk hc
  have HOK := Aside0.mk hok
  clear e1 hc hok
  have hu26 := Tryd.underlying26
  have hB0 : Below w.heap.size w (w.alloc (.cells #[.int .u8 t.f0, .bool t.f1, .slice A2 t.f2.length c2, .slice A3 t.f3.length c3, .slice A4 t.f4.length c4] 26)) := below_alloc (Below.refl _ _) _
  have hx0 := heap_alloc_new w (.cells #[.int .u8 t.f0, .bool t.f1, .slice A2 t.f2.length c2, .slice A3 t.f3.length c3, .slice A4 t.f4.length c4] 26 (0, 0))
  have BX := Aside0.mk (Bx.mk hx0 hB0)
  clear hB0 hx0
  go_enter Tryd.func6, Tryd.ntmps6
  go_upto_region 1 with fail
  generalize w.alloc (.cells #[.int .u8 t.f0, .bool t.f1, .slice A2 t.f2.length c2, .slice A3 t.f3.length c3, .slice A4 t.f4.length c4] 26) = W1 at *
  generalize w.heap.size = gb at *
  have z0 : W1.cell? ⟨gb, 0, none⟩ = some (.int .u8 t.f0) := (blk_cell BX.out.box 0).trans rfl
  have z1 : W1.cell? ⟨gb, 1, none⟩ = some (.bool t.f1) := (blk_cell BX.out.box 1).trans rfl
  have z2 : W1.cell? ⟨gb, 2, none⟩ = some (.slice A2 t.f2.length c2) := (blk_cell BX.out.box 2).trans rfl
  have z3 : W1.cell? ⟨gb, 3, none⟩ = some (.slice A3 t.f3.length c3) := (blk_cell BX.out.box 3).trans rfl
  have z4 : W1.cell? ⟨gb, 4, none⟩ = some (.slice A4 t.f4.length c4) := (blk_cell BX.out.box 4).trans rfl
  go_wp2_with fail
  refine (GR.out _ _ _ BX.out).mono ?_
  rintro e w1 ⟨rfl, hb1⟩
  have BX1 := Aside0.mk (BX.out.below hb1)
  clear hb1 BX z0 z1 z2 z3 z4
  cases g1 with
  | true =>
    go_wp2_with fail
    refine (awake_c _).mono ?_
    rintro e w4 ⟨rfl, hb4⟩
    have BX4 := Aside0.mk (BX1.out.below hb4)
    clear hb4
    go_wp2_with fail
    go_ret
    exact ⟨rfl, BX4.out.low⟩
  | false =>
    go_wp2_with fail
    refine (awake_c _).mono ?_
    rintro e w2 ⟨rfl, hb2⟩
    have BX2 := Aside0.mk (BX1.out.below hb2)
    clear hb2 BX1
    have z0 : w2.cell? ⟨gb, 0, none⟩ = some (.int .u8 t.f0) := (blk_cell BX2.out.box 0).trans rfl
    have z1 : w2.cell? ⟨gb, 1, none⟩ = some (.bool t.f1) := (blk_cell BX2.out.box 1).trans rfl
    have z2 : w2.cell? ⟨gb, 2, none⟩ = some (.slice A2 t.f2.length c2) := (blk_cell BX2.out.box 2).trans rfl
    have z3 : w2.cell? ⟨gb, 3, none⟩ = some (.slice A3 t.f3.length c3) := (blk_cell BX2.out.box 3).trans rfl
    have z4 : w2.cell? ⟨gb, 4, none⟩ = some (.slice A4 t.f4.length c4) := (blk_cell BX2.out.box 4).trans rfl
    go_wp2_with fail
    refine (FO.out _ _ _ BX2.out).mono ?_
    rintro e w3 ⟨rfl, hb3⟩
    have BX3 := Aside0.mk (BX2.out.below hb3)
    clear hb3 BX2 z0 z1 z2 z3 z4
    cases hf : (sizeR t).2.2 with
    | false =>
      go_wp2_with fail
      refine (awake_c _).mono ?_
      rintro e w4 ⟨rfl, hb4⟩
      have BX4 := Aside0.mk (BX3.out.below hb4)
      clear hb4
      go_wp2_with fail
      go_ret
      exact ⟨rfl, BX4.out.low⟩
    | true =>
      have HWF := Aside0.mk (form_wf t HOK.out true rfl hf)
      have HX := Aside0.mk (at_okz2 t path HOK.out)
      clear hf GR FO
      have z0 : w3.cell? ⟨gb, 0, none⟩ = some (.int .u8 t.f0) := (blk_cell BX3.out.box 0).trans rfl
      have z1 : w3.cell? ⟨gb, 1, none⟩ = some (.bool t.f1) := (blk_cell BX3.out.box 1).trans rfl
      have z2 : w3.cell? ⟨gb, 2, none⟩ = some (.slice A2 t.f2.length c2) := (blk_cell BX3.out.box 2).trans rfl
      have z3 : w3.cell? ⟨gb, 3, none⟩ = some (.slice A3 t.f3.length c3) := (blk_cell BX3.out.box 3).trans rfl
      have z4 : w3.cell? ⟨gb, 4, none⟩ = some (.slice A4 t.f4.length c4) := (blk_cell BX3.out.box 4).trans rfl
      go_wp2_with fail
      refine (copy_c HOK.out (HC.out.below BX3.out.low)).mono ?_
      rintro e w4 ⟨B2, Bd2, B3, Bd3, B4, Bd4, rfl, ta4, sa4, hb4⟩
      have BX4 := Aside0.mk (BX3.out.below hb4)
      clear sa4 hb4 BX3 z0 z1 z2 z3 z4
      go_upto_region 6 with fail
      have hnb : Below w4.heap.size w4 (w4.alloc (.cells #[.int .u8 t.f0, .bool t.f1, .slice B2 t.f2.length Bd2, .slice B3 t.f3.length Bd3, .slice B4 t.f4.length Bd4] 26)) := below_alloc (Below.refl _ _) _
      have hnx : (w4.alloc (.cells #[.int .u8 t.f0, .bool t.f1, .slice B2 t.f2.length Bd2, .slice B3 t.f3.length Bd3, .slice B4 t.f4.length Bd4] 26)).heap[w4.heap.size]? = some (.cells #[.int .u8 t.f0, .bool t.f1, .slice B2 t.f2.length Bd2, .slice B3 t.f3.length Bd3, .slice B4 t.f4.length Bd4] 26 (0, 0)) := heap_alloc_new _ _
      have BX5 := Aside0.mk (BX4.out.below hnb)
      have TA5 := Aside0.mk (ta4.below hnb)
      clear hnb BX4 ta4
      generalize w4.alloc (.cells #[.int .u8 t.f0, .bool t.f1, .slice B2 t.f2.length Bd2, .slice B3 t.f3.length Bd3, .slice B4 t.f4.length Bd4] 26) = w5 at *
      generalize hgs : w4.heap.size = g5 at *
      clear hgs
      have A5 := Aside0.mk hnx
      clear hnx
      have z0 : w5.cell? ⟨gb, 0, none⟩ = some (.int .u8 t.f0) := (blk_cell BX5.out.box 0).trans rfl
      have z1 : w5.cell? ⟨gb, 1, none⟩ = some (.bool t.f1) := (blk_cell BX5.out.box 1).trans rfl
      have z2 : w5.cell? ⟨gb, 2, none⟩ = some (.slice A2 t.f2.length c2) := (blk_cell BX5.out.box 2).trans rfl
      have z3 : w5.cell? ⟨gb, 3, none⟩ = some (.slice A3 t.f3.length c3) := (blk_cell BX5.out.box 3).trans rfl
      have z4 : w5.cell? ⟨gb, 4, none⟩ = some (.slice A4 t.f4.length c4) := (blk_cell BX5.out.box 4).trans rfl
      go_wp2_with fail
      refine (copy_c HOK.out (HC.out.below BX5.out.low)).mono ?_
      rintro e w6 ⟨C2, Cd2, C3, Cd3, C4, Cd4, rfl, tb6, sb6, hb6⟩
      have D56 := Aside0.mk hb6
      have SB6 := Aside0.mk sb6
      clear sb6 hb6 z0 z1 z2 z3 z4
      go_upto_region 7 with fail
      have hnb : Below w6.heap.size w6 (w6.alloc (.cells #[.int .u8 t.f0, .bool t.f1, .slice C2 t.f2.length Cd2, .slice C3 t.f3.length Cd3, .slice C4 t.f4.length Cd4] 26)) := below_alloc (Below.refl _ _) _
      have hnx : (w6.alloc (.cells #[.int .u8 t.f0, .bool t.f1, .slice C2 t.f2.length Cd2, .slice C3 t.f3.length Cd3, .slice C4 t.f4.length Cd4] 26)).heap[w6.heap.size]? = some (.cells #[.int .u8 t.f0, .bool t.f1, .slice C2 t.f2.length Cd2, .slice C3 t.f3.length Cd3, .slice C4 t.f4.length Cd4] 26 (0, 0)) := heap_alloc_new _ _
      have D57 := Aside0.mk (below_then D56.out D56.out.size hnb)
      have TB7 := Aside0.mk (tb6.below hnb)
      have SB7 := Aside0.mk (SpT.keep (Kw.of_below hnb) _ _ _ _ SB6.out)
      clear hnb tb6 D56 SB6
      generalize w6.alloc (.cells #[.int .u8 t.f0, .bool t.f1, .slice C2 t.f2.length Cd2, .slice C3 t.f3.length Cd3, .slice C4 t.f4.length Cd4] 26) = w7 at *
      generalize hgs : w6.heap.size = g6 at *
      clear hgs
      have B7 := Aside0.mk hnx
      clear hnx
      have y57 := blk_below A5.out D57.out
      have y0 : w7.cell? ⟨g5, 0, none⟩ = some (.int .u8 t.f0) := (blk_cell y57 0).trans rfl
      have y1 : w7.cell? ⟨g5, 1, none⟩ = some (.bool t.f1) := (blk_cell y57 1).trans rfl
      have y2 : w7.cell? ⟨g5, 2, none⟩ = some (.slice B2 t.f2.length Bd2) := (blk_cell y57 2).trans rfl
      have y3 : w7.cell? ⟨g5, 3, none⟩ = some (.slice B3 t.f3.length Bd3) := (blk_cell y57 3).trans rfl
      have y4 : w7.cell? ⟨g5, 4, none⟩ = some (.slice B4 t.f4.length Bd4) := (blk_cell y57 4).trans rfl
      go_wp2_with fail
      refine (at_own path HOK.out HWF.out (TA5.out.below D57.out)).mono ?_
      rintro e w8 ⟨E2, Ed2, E3, Ed3, E4, Ed4, rfl, tc8, sc8, hb8⟩
      generalize hat : atOf t path = y at *
      obtain ⟨x, ee⟩ := y
      have HAT := Aside0.mk hat
      have D78 := Aside0.mk hb8
      have SC8 := Aside0.mk sc8
      clear hat hb8 sc8 tc8 y57 y0 y1 y2 y3 y4
      go_upto_region 8 with fail
      have hnb : Below w8.heap.size w8 (w8.alloc (.cells #[.int .u8 x.f0, .bool x.f1, .slice E2 x.f2.length Ed2, .slice E3 x.f3.length Ed3, .slice E4 x.f4.length Ed4] 26)) := below_alloc (Below.refl _ _) _
      have hnx : (w8.alloc (.cells #[.int .u8 x.f0, .bool x.f1, .slice E2 x.f2.length Ed2, .slice E3 x.f3.length Ed3, .slice E4 x.f4.length Ed4] 26)).heap[w8.heap.size]? = some (.cells #[.int .u8 x.f0, .bool x.f1, .slice E2 x.f2.length Ed2, .slice E3 x.f3.length Ed3, .slice E4 x.f4.length Ed4] 26 (0, 0)) := heap_alloc_new _ _
      have D79 := Aside0.mk (below_then D78.out D78.out.size hnb)
      have SC9 := Aside0.mk (SpT.keep (Kw.of_below hnb) _ _ _ _ SC8.out)
      have KB9 := Aside0.mk (Kw.trans (Kw.of_below D78.out) (Kw.of_below hnb))
      have HSZ := Aside0.mk (Nat.le_trans D78.out.size hnb.size)
      clear hnb D78 SC8
      generalize w8.alloc (.cells #[.int .u8 x.f0, .bool x.f1, .slice E2 x.f2.length Ed2, .slice E3 x.f3.length Ed3, .slice E4 x.f4.length Ed4] 26) = w9 at *
      generalize hgs : w8.heap.size = g7 at *
      clear hgs
      have C9 := hnx
      clear hnx
      have y0 : w9.cell? ⟨g7, 0, none⟩ = some (.int .u8 x.f0) := (blk_cell C9 0).trans rfl
      have y1 : w9.cell? ⟨g7, 1, none⟩ = some (.bool x.f1) := (blk_cell C9 1).trans rfl
      have y2 : w9.cell? ⟨g7, 2, none⟩ = some (.slice E2 x.f2.length Ed2) := (blk_cell C9 2).trans rfl
      have y3 : w9.cell? ⟨g7, 3, none⟩ = some (.slice E3 x.f3.length Ed3) := (blk_cell C9 3).trans rfl
      have y4 : w9.cell? ⟨g7, 4, none⟩ = some (.slice E4 x.f4.length Ed4) := (blk_cell C9 4).trans rfl
      have SPC := Aside0.mk (spoil_c _ x (Nat.lt_succ_self _) w9 w7.heap.size x.f0 x.f1 _ _ _ HSZ.out SC9.out)
      go_wp2_with fail
      refine SPC.out.mono ?_
      rintro e w10 ⟨rfl, hb10, hk10⟩
      have D710 := Aside0.mk (D79.out.trans hb10)
      have SB10 := Aside0.mk (SpT.keep (Kw.trans KB9.out hk10) _ _ _ _ SB7.out)
      have D510 := Aside0.mk (below_then D57.out D57.out.size D710.out)
      have SA := Aside0.mk (same_c HOK.out HOK.out (TA5.out.below D510.out) (TB7.out.below D710.out))
      rw [sameT_refl] at SA
      have y510 := blk_below A5.out D510.out
      have x710 := blk_below B7.out D710.out
      clear hb10 hk10 C9 SPC D79 SC9 KB9 HSZ SB7 TB7 y0 y1 y2 y3 y4
      have y0 : w10.cell? ⟨g5, 0, none⟩ = some (.int .u8 t.f0) := (blk_cell y510 0).trans rfl
      have y1 : w10.cell? ⟨g5, 1, none⟩ = some (.bool t.f1) := (blk_cell y510 1).trans rfl
      have y2 : w10.cell? ⟨g5, 2, none⟩ = some (.slice B2 t.f2.length Bd2) := (blk_cell y510 2).trans rfl
      have y3 : w10.cell? ⟨g5, 3, none⟩ = some (.slice B3 t.f3.length Bd3) := (blk_cell y510 3).trans rfl
      have y4 : w10.cell? ⟨g5, 4, none⟩ = some (.slice B4 t.f4.length Bd4) := (blk_cell y510 4).trans rfl
      have x0 : w10.cell? ⟨g6, 0, none⟩ = some (.int .u8 t.f0) := (blk_cell x710 0).trans rfl
      have x1 : w10.cell? ⟨g6, 1, none⟩ = some (.bool t.f1) := (blk_cell x710 1).trans rfl
      have x2 : w10.cell? ⟨g6, 2, none⟩ = some (.slice C2 t.f2.length Cd2) := (blk_cell x710 2).trans rfl
      have x3 : w10.cell? ⟨g6, 3, none⟩ = some (.slice C3 t.f3.length Cd3) := (blk_cell x710 3).trans rfl
      have x4 : w10.cell? ⟨g6, 4, none⟩ = some (.slice C4 t.f4.length Cd4) := (blk_cell x710 4).trans rfl
      go_wp2_with fail
      refine SA.out.mono ?_
      rintro e w11 ⟨rfl, hb11⟩
      have D511 := Aside0.mk (below_then D510.out D510.out.size hb11)
      have SB11 := Aside0.mk (SpT.keep (Kw.of_below hb11) _ _ _ _ SB10.out)
      have x711 := blk_below x710 hb11
      have HSZ := Aside0.mk D511.out.size
      clear hb11 SA x710 y510 D510 D710 SB10 y0 y1 y2 y3 y4 x0 x1 x2 x3 x4
      have x0 : w11.cell? ⟨g6, 0, none⟩ = some (.int .u8 t.f0) := (blk_cell x711 0).trans rfl
      have x1 : w11.cell? ⟨g6, 1, none⟩ = some (.bool t.f1) := (blk_cell x711 1).trans rfl
      have x2 : w11.cell? ⟨g6, 2, none⟩ = some (.slice C2 t.f2.length Cd2) := (blk_cell x711 2).trans rfl
      have x3 : w11.cell? ⟨g6, 3, none⟩ = some (.slice C3 t.f3.length Cd3) := (blk_cell x711 3).trans rfl
      have x4 : w11.cell? ⟨g6, 4, none⟩ = some (.slice C4 t.f4.length Cd4) := (blk_cell x711 4).trans rfl
      have SPB := Aside0.mk (spoil_c _ t (Nat.lt_succ_self _) w11 w5.heap.size t.f0 t.f1 _ _ _ HSZ.out SB11.out)
      go_wp2_with fail
      refine SPB.out.mono ?_
      rintro e w12 ⟨rfl, hb12, hk12⟩
      have D512 := Aside0.mk (D511.out.trans hb12)
      have y512 := blk_below A5.out D512.out
      clear hb12 hk12 SPB D511 SB11 x711 HSZ x0 x1 x2 x3 x4
      have y0 : w12.cell? ⟨g5, 0, none⟩ = some (.int .u8 t.f0) := (blk_cell y512 0).trans rfl
      have y1 : w12.cell? ⟨g5, 1, none⟩ = some (.bool t.f1) := (blk_cell y512 1).trans rfl
      have y2 : w12.cell? ⟨g5, 2, none⟩ = some (.slice B2 t.f2.length Bd2) := (blk_cell y512 2).trans rfl
      have y3 : w12.cell? ⟨g5, 3, none⟩ = some (.slice B3 t.f3.length Bd3) := (blk_cell y512 3).trans rfl
      have y4 : w12.cell? ⟨g5, 4, none⟩ = some (.slice B4 t.f4.length Bd4) := (blk_cell y512 4).trans rfl
      have ATO := Aside0.mk (at_c path HOK.out HWF.out (TA5.out.below D512.out))
      rw [HAT.out] at ATO
      go_wp2_with fail
      refine ATO.out.mono ?_
      rintro e w13 ⟨F2, Fd2, F3, Fd3, F4, Fd4, rfl, td13, hb13⟩
      have D513 := Aside0.mk (below_then D512.out D512.out.size hb13)
      clear hb13 y512 D512 ATO y0 y1 y2 y3 y4
      go_upto_region 13 with fail
      have hnb : Below w13.heap.size w13 (w13.alloc (.cells #[.int .u8 x.f0, .bool x.f1, .slice F2 x.f2.length Fd2, .slice F3 x.f3.length Fd3, .slice F4 x.f4.length Fd4] 26)) := below_alloc (Below.refl _ _) _
      have hnx : (w13.alloc (.cells #[.int .u8 x.f0, .bool x.f1, .slice F2 x.f2.length Fd2, .slice F3 x.f3.length Fd3, .slice F4 x.f4.length Fd4] 26)).heap[w13.heap.size]? = some (.cells #[.int .u8 x.f0, .bool x.f1, .slice F2 x.f2.length Fd2, .slice F3 x.f3.length Fd3, .slice F4 x.f4.length Fd4] 26 (0, 0)) := heap_alloc_new _ _
      have D514 := Aside0.mk (below_then D513.out D513.out.size hnb)
      have TD14 := Aside0.mk (td13.below hnb)
      clear hnb td13 D513
      generalize w13.alloc (.cells #[.int .u8 x.f0, .bool x.f1, .slice F2 x.f2.length Fd2, .slice F3 x.f3.length Fd3, .slice F4 x.f4.length Fd4] 26) = w14 at *
      generalize hgs : w13.heap.size = g9 at *
      clear hgs
      have F14 := Aside0.mk hnx
      have L14 := Aside0.mk (below_then BX5.out.low BX5.out.low.size D514.out)
      have z514 := blk_below BX5.out.box D514.out
      clear hnx
      have z0 : w14.cell? ⟨gb, 0, none⟩ = some (.int .u8 t.f0) := (blk_cell z514 0).trans rfl
      have z1 : w14.cell? ⟨gb, 1, none⟩ = some (.bool t.f1) := (blk_cell z514 1).trans rfl
      have z2 : w14.cell? ⟨gb, 2, none⟩ = some (.slice A2 t.f2.length c2) := (blk_cell z514 2).trans rfl
      have z3 : w14.cell? ⟨gb, 3, none⟩ = some (.slice A3 t.f3.length c3) := (blk_cell z514 3).trans rfl
      have z4 : w14.cell? ⟨gb, 4, none⟩ = some (.slice A4 t.f4.length c4) := (blk_cell z514 4).trans rfl
      have AT3 := Aside0.mk (at3_walk t path HOK.out HWF.out A2 c2 A3 c3 A4 c4 w14 (HC.out.below L14.out))
      rw [HAT.out] at AT3
      go_wp2_with fail
      refine AT3.out.mono ?_
      rintro e w15 ⟨G2, Gd2, G3, Gd3, G4, Gd4, rfl, tg15, hb15⟩
      have D515 := Aside0.mk (below_then D514.out D514.out.size hb15)
      have TD15 := Aside0.mk (TD14.out.below hb15)
      have F15 := Aside0.mk (blk_below F14.out hb15)
      clear hb15 AT3 L14 z514 D514 TD14 F14 z0 z1 z2 z3 z4
      go_upto_region 14 with fail
      have hnb : Below w15.heap.size w15 (w15.alloc (.cells #[.int .u8 x.f0, .bool x.f1, .slice G2 x.f2.length Gd2, .slice G3 x.f3.length Gd3, .slice G4 x.f4.length Gd4] 26)) := below_alloc (Below.refl _ _) _
      have hnx : (w15.alloc (.cells #[.int .u8 x.f0, .bool x.f1, .slice G2 x.f2.length Gd2, .slice G3 x.f3.length Gd3, .slice G4 x.f4.length Gd4] 26)).heap[w15.heap.size]? = some (.cells #[.int .u8 x.f0, .bool x.f1, .slice G2 x.f2.length Gd2, .slice G3 x.f3.length Gd3, .slice G4 x.f4.length Gd4] 26 (0, 0)) := heap_alloc_new _ _
      have D516 := Aside0.mk (below_then D515.out D515.out.size hnb)
      have TD16 := Aside0.mk (TD15.out.below hnb)
      have TG16 := Aside0.mk (tg15.below hnb)
      have F16 := blk_below F15.out hnb
      clear hnb tg15 D515 TD15 F15
      generalize w15.alloc (.cells #[.int .u8 x.f0, .bool x.f1, .slice G2 x.f2.length Gd2, .slice G3 x.f3.length Gd3, .slice G4 x.f4.length Gd4] 26) = w16 at *
      generalize hgs : w15.heap.size = g11 at *
      clear hgs
      have G16 := hnx
      have L16 := Aside0.mk (below_then BX5.out.low BX5.out.low.size D516.out)
      have z516 := blk_below BX5.out.box D516.out
      have y516 := blk_below A5.out D516.out
      have hx := HX.out
      have SA := Aside0.mk (same_c HOK.out HOK.out (TA5.out.below D516.out) (HC.out.below L16.out))
      rw [sameT_refl] at SA
      have SD := Aside0.mk (fun W (h : Below w16.heap.size w16 W) => same_c hx hx (TD16.out.below h) (TG16.out.below h))
      simp only [sameT_refl] at SD
      have k6 : (ee == ee) = true := beq_self_eq_true ee
      clear hx
      have z0 : w16.cell? ⟨gb, 0, none⟩ = some (.int .u8 t.f0) := (blk_cell z516 0).trans rfl
      have z1 : w16.cell? ⟨gb, 1, none⟩ = some (.bool t.f1) := (blk_cell z516 1).trans rfl
      have z2 : w16.cell? ⟨gb, 2, none⟩ = some (.slice A2 t.f2.length c2) := (blk_cell z516 2).trans rfl
      have z3 : w16.cell? ⟨gb, 3, none⟩ = some (.slice A3 t.f3.length c3) := (blk_cell z516 3).trans rfl
      have z4 : w16.cell? ⟨gb, 4, none⟩ = some (.slice A4 t.f4.length c4) := (blk_cell z516 4).trans rfl
      have y0 : w16.cell? ⟨g5, 0, none⟩ = some (.int .u8 t.f0) := (blk_cell y516 0).trans rfl
      have y1 : w16.cell? ⟨g5, 1, none⟩ = some (.bool t.f1) := (blk_cell y516 1).trans rfl
      have y2 : w16.cell? ⟨g5, 2, none⟩ = some (.slice B2 t.f2.length Bd2) := (blk_cell y516 2).trans rfl
      have y3 : w16.cell? ⟨g5, 3, none⟩ = some (.slice B3 t.f3.length Bd3) := (blk_cell y516 3).trans rfl
      have y4 : w16.cell? ⟨g5, 4, none⟩ = some (.slice B4 t.f4.length Bd4) := (blk_cell y516 4).trans rfl
      go_wp2_with fail
      refine SA.out.mono ?_
      rintro e w17 ⟨rfl, hb17⟩
      have F17 := blk_below F16 hb17
      have G17 := blk_below G16 hb17
      have D517 := Aside0.mk hb17
      have L17 := Aside0.mk (below_then L16.out L16.out.size hb17)
      clear hb17 z0 z1 z2 z3 z4 y0 y1 y2 y3 y4
      have y0 : w17.cell? ⟨g9, 0, none⟩ = some (.int .u8 x.f0) := (blk_cell F17 0).trans rfl
      have y1 : w17.cell? ⟨g9, 1, none⟩ = some (.bool x.f1) := (blk_cell F17 1).trans rfl
      have y2 : w17.cell? ⟨g9, 2, none⟩ = some (.slice F2 x.f2.length Fd2) := (blk_cell F17 2).trans rfl
      have y3 : w17.cell? ⟨g9, 3, none⟩ = some (.slice F3 x.f3.length Fd3) := (blk_cell F17 3).trans rfl
      have y4 : w17.cell? ⟨g9, 4, none⟩ = some (.slice F4 x.f4.length Fd4) := (blk_cell F17 4).trans rfl
      have x0 : w17.cell? ⟨g11, 0, none⟩ = some (.int .u8 x.f0) := (blk_cell G17 0).trans rfl
      have x1 : w17.cell? ⟨g11, 1, none⟩ = some (.bool x.f1) := (blk_cell G17 1).trans rfl
      have x2 : w17.cell? ⟨g11, 2, none⟩ = some (.slice G2 x.f2.length Gd2) := (blk_cell G17 2).trans rfl
      have x3 : w17.cell? ⟨g11, 3, none⟩ = some (.slice G3 x.f3.length Gd3) := (blk_cell G17 3).trans rfl
      have x4 : w17.cell? ⟨g11, 4, none⟩ = some (.slice G4 x.f4.length Gd4) := (blk_cell G17 4).trans rfl
      go_wp2_with fail
      refine (SD.out _ D517.out).mono ?_
      rintro e w18 ⟨rfl, hb18⟩
      have L18 := Aside0.mk (below_then L17.out L17.out.size hb18)
      clear hb18
      go_wp2_with fail
      go_ret
      exact ⟨rfl, L18.out⟩
end Go.Proofs.YtmhlmbmenoihnaaDoor.K
