/- TreeAt: the walk of the law. -/
import Derived.Test.YtmhlmbmenoihnaaDoorP7
import Derived.Test.YtmhlmbmenoihnaaDoorWAt3
namespace Go.Proofs.YtmhlmbmenoihnaaDoor.K
open Go.RowKit Go.Proofs.YtmhlmbmenoihnaaDoor.G Go.Proofs.YtmhlmbmenoihnaaDoorW.PrintWords Go.Proofs.YtmhlmbmenoihnaaDoorW.PrintLast Go.Proofs.YtmhlmbmenoihnaaDoorW.PrintMore Go.Proofs.YtmhlmbmenoihnaaDoor.OT Go.Proofs.YtmhlmbmenoihnaaDoor.P
set_option linter.unusedVariables false
set_option linter.unusedSimpArgs false

theorem size3_c {t : T} {A2 : Option Addr} {c2 : Nat} {A3 : Option Addr} {c3 : Nat} {A4 : Option Addr} {c4 : Nat} {w : World} (hok : okT t) (hc : TC w t A2 c2 A3 c3 A4 c4) :
    Calls Tryd.prog 13 #[.agg #[.int .u8 t.f0, .bool t.f1, .slice A2 t.f2.length c2, .slice A3 t.f3.length c3, .slice A4 t.f4.length c4]] w fun e w' => e = .returned (.tuple #[.int .i64 (sizeR t).1, .int .i64 (sizeR t).2.1, .bool (sizeR t).2.2]) ∧ Below w.heap.size w w' := by
  obtain ⟨k, hk⟩ := (size_ev t hok).get
  exact r03_Size.calls k _ _ _ _ _ _ _ _ _ _ _ (sizeR t).1 (sizeR t).2.1 (sizeR t).2.2 w hc.1.1 hc.1.2 hc.2.1.1 hc.2.1.2 hc.2.2.1 hc.2.2.2 hk
theorem size_paths (t : T) (h : (sizeR t).2.2 = true) : (sizeR t).1 = ((pathsT t).length : Int) + 1 := by
  unfold sizeR at h ⊢
  cases ha : addT t 0 0 0 with
  | none => rw [ha] at h; cases h
  | some q =>
    obtain ⟨b1, b2⟩ := paths_bound t 0 0 0 q ha
    show q.1 = _
    omega

theorem at_okz' (t : T) (p : ByteArray) (h1 : okT t) : okT (atOf t p).1 := by
  unfold atOf
  by_cases hs : (H.splitOf p).2 = 0
  · rw [if_pos hs]; exact walkT_okz _ _ h1
  · rw [if_neg hs]; exact okT_z
set_option maxHeartbeats 4000000 in
set_option maxRecDepth 100000 in
theorem treeAt_walk (t : T) (path : ByteArray) (hpath : path.size ≤ 140737488351232) (hok : okT t) (A2 : Option Addr) (c2 : Nat) (A3 : Option Addr) (c3 : Nat) (A4 : Option Addr) (c4 : Nat) (w : World) (hc : TC w t A2 c2 A3 c3 A4 c4) :
    Calls Tryd.prog 5 #[.agg #[.int .u8 t.f0, .bool t.f1, .slice A2 t.f2.length c2, .slice A3 t.f3.length c3, .slice A4 t.f4.length c4], .string path] w fun e w' => e = .returned (.bool true) ∧ Below w.heap.size w w' := by
  obtain ⟨g1, e1⟩ := great_ev t hok 1000 (by decide) (by decide)
  have GR := Aside0.mk (fun W g cs (h : Bx w W g cs) => great_c e1 (hc.below h.low))
  have FO := Aside0.mk (fun W g cs (h : Bx w W g cs) => form_c hok (hc.below h.low))
  have SZ := Aside0.mk (fun W g cs (h : Bx w W g cs) => size3_c hok (hc.below h.low))
  have HC := Aside0.mk hc
  have HOK := Aside0.mk hok
  clear e1 hc hok
  have hu26 := Tryd.underlying26
  have hB0 : Below w.heap.size w (w.alloc (.cells #[.int .u8 t.f0, .bool t.f1, .slice A2 t.f2.length c2, .slice A3 t.f3.length c3, .slice A4 t.f4.length c4] 26)) := below_alloc (Below.refl _ _) _
  have hx0 := heap_alloc_new w (.cells #[.int .u8 t.f0, .bool t.f1, .slice A2 t.f2.length c2, .slice A3 t.f3.length c3, .slice A4 t.f4.length c4] 26 (0, 0))
  have BX := Aside0.mk (Bx.mk hx0 hB0)
  clear hB0 hx0
  go_enter Tryd.func5, Tryd.ntmps5
  go_upto_region 1 with fail
  generalize w.alloc (.cells #[.int .u8 t.f0, .bool t.f1, .slice A2 t.f2.length c2, .slice A3 t.f3.length c3, .slice A4 t.f4.length c4] 26) = W1 at *
  generalize w.heap.size = gb at *
  have z0 : W1.cell? ⟨gb, 0, none⟩ = some (.int .u8 t.f0) := (blk_cell BX.out.box 0).trans rfl
  have z1 : W1.cell? ⟨gb, 1, none⟩ = some (.bool t.f1) := (blk_cell BX.out.box 1).trans rfl
  have z2 : W1.cell? ⟨gb, 2, none⟩ = some (.slice A2 t.f2.length c2) := (blk_cell BX.out.box 2).trans rfl
  have z3 : W1.cell? ⟨gb, 3, none⟩ = some (.slice A3 t.f3.length c3) := (blk_cell BX.out.box 3).trans rfl
  have z4 : W1.cell? ⟨gb, 4, none⟩ = some (.slice A4 t.f4.length c4) := (blk_cell BX.out.box 4).trans rfl
  go_wp2_with fail
  refine (GR.out _ _ _ BX.out).mono ?_
  rintro e w1 ⟨rfl, hb1⟩
  have BX1 := Aside0.mk (BX.out.below hb1)
  clear hb1 BX z0 z1 z2 z3 z4
  cases g1 with
  | true =>
    go_wp2_with fail
    refine (awake_c _).mono ?_
    rintro e w4 ⟨rfl, hb4⟩
    have BX4 := Aside0.mk (BX1.out.below hb4)
    clear hb4
    go_wp2_with fail
    go_ret
    exact ⟨rfl, BX4.out.low⟩
  | false =>
    go_wp2_with fail
    refine (awake_c _).mono ?_
    rintro e w2 ⟨rfl, hb2⟩
    have BX2 := Aside0.mk (BX1.out.below hb2)
    clear hb2 BX1
    have z0 : w2.cell? ⟨gb, 0, none⟩ = some (.int .u8 t.f0) := (blk_cell BX2.out.box 0).trans rfl
    have z1 : w2.cell? ⟨gb, 1, none⟩ = some (.bool t.f1) := (blk_cell BX2.out.box 1).trans rfl
    have z2 : w2.cell? ⟨gb, 2, none⟩ = some (.slice A2 t.f2.length c2) := (blk_cell BX2.out.box 2).trans rfl
    have z3 : w2.cell? ⟨gb, 3, none⟩ = some (.slice A3 t.f3.length c3) := (blk_cell BX2.out.box 3).trans rfl
    have z4 : w2.cell? ⟨gb, 4, none⟩ = some (.slice A4 t.f4.length c4) := (blk_cell BX2.out.box 4).trans rfl
    go_wp2_with fail
    refine (FO.out _ _ _ BX2.out).mono ?_
    rintro e w3 ⟨rfl, hb3⟩
    have BX3 := Aside0.mk (BX2.out.below hb3)
    clear hb3 BX2 z0 z1 z2 z3 z4
    cases hf : (sizeR t).2.2 with
    | false =>
      go_wp2_with fail
      refine (awake_c _).mono ?_
      rintro e w4 ⟨rfl, hb4⟩
      have BX4 := Aside0.mk (BX3.out.below hb4)
      clear hb4
      go_wp2_with fail
      go_ret
      exact ⟨rfl, BX4.out.low⟩
    | true =>
      have HSP := Aside0.mk (size_paths t hf)
      obtain ⟨hwf, hcnt, hsz⟩ := form_paths t HOK.out hf
      have AT := Aside0.mk (fun W g cs (h : Bx w W g cs) => at_c path HOK.out hwf (HC.out.below h.low))
      have AT3 := Aside0.mk (fun W g cs (h : Bx w W g cs) => at3_walk t path HOK.out hwf A2 c2 A3 c3 A4 c4 W (HC.out.below h.low))
      have PA := Aside0.mk (fun W g cs (h : Bx w W g cs) => paths_c (paths_ev _ t (Nat.lt_succ_self _) HOK.out (ownB_len _ (wfT_parts hwf).1) (wfL_mem (wfT_parts hwf).2.2) hcnt hsz) (HC.out.below h.low))
      have PA3 := Aside0.mk (fun W g cs (h : Bx w W g cs) => paths3_c (paths3_ev _ t (Nat.lt_succ_self _) HOK.out (ownB_len _ (wfT_parts hwf).1) (wfL_mem (wfT_parts hwf).2.2) hcnt hsz) (HC.out.below h.low))
      have HCN := Aside0.mk hcnt
      have hxok := at_okz' t path HOK.out
      have HX := Aside0.mk hxok
      clear hwf hcnt hsz hf hxok GR FO
      have z0 : w3.cell? ⟨gb, 0, none⟩ = some (.int .u8 t.f0) := (blk_cell BX3.out.box 0).trans rfl
      have z1 : w3.cell? ⟨gb, 1, none⟩ = some (.bool t.f1) := (blk_cell BX3.out.box 1).trans rfl
      have z2 : w3.cell? ⟨gb, 2, none⟩ = some (.slice A2 t.f2.length c2) := (blk_cell BX3.out.box 2).trans rfl
      have z3 : w3.cell? ⟨gb, 3, none⟩ = some (.slice A3 t.f3.length c3) := (blk_cell BX3.out.box 3).trans rfl
      have z4 : w3.cell? ⟨gb, 4, none⟩ = some (.slice A4 t.f4.length c4) := (blk_cell BX3.out.box 4).trans rfl
      go_wp2_with fail
      refine (AT.out _ _ _ BX3.out).mono ?_
      rintro e w4 ⟨B2, Bd2, B3, Bd3, B4, Bd4, rfl, ht4, hb4⟩
      have BX4 := Aside0.mk (BX3.out.below hb4)
      have TX4 := Aside0.mk ht4
      clear hb4 ht4 BX3 z0 z1 z2 z3 z4 AT
      generalize atOf t path = y at *
      obtain ⟨x, ee⟩ := y
      go_upto_region 6 with fail
      have hnb : Below w4.heap.size w4 (w4.alloc (.cells #[.int .u8 x.f0, .bool x.f1, .slice B2 x.f2.length Bd2, .slice B3 x.f3.length Bd3, .slice B4 x.f4.length Bd4] 26)) := below_alloc (Below.refl _ _) _
      have hnx : (w4.alloc (.cells #[.int .u8 x.f0, .bool x.f1, .slice B2 x.f2.length Bd2, .slice B3 x.f3.length Bd3, .slice B4 x.f4.length Bd4] 26)).heap[w4.heap.size]? = some (.cells #[.int .u8 x.f0, .bool x.f1, .slice B2 x.f2.length Bd2, .slice B3 x.f3.length Bd3, .slice B4 x.f4.length Bd4] 26 (0, 0)) := heap_alloc_new _ _
      have BX5 := Aside0.mk (BX4.out.below hnb)
      have TX5 := Aside0.mk (TX4.out.below hnb)
      clear hnb BX4 TX4
      generalize w4.alloc (.cells #[.int .u8 x.f0, .bool x.f1, .slice B2 x.f2.length Bd2, .slice B3 x.f3.length Bd3, .slice B4 x.f4.length Bd4] 26) = w5 at *
      generalize w4.heap.size = g7 at *
      have B7 := Aside0.mk hnx
      clear hnx
      have z0 : w5.cell? ⟨gb, 0, none⟩ = some (.int .u8 t.f0) := (blk_cell BX5.out.box 0).trans rfl
      have z1 : w5.cell? ⟨gb, 1, none⟩ = some (.bool t.f1) := (blk_cell BX5.out.box 1).trans rfl
      have z2 : w5.cell? ⟨gb, 2, none⟩ = some (.slice A2 t.f2.length c2) := (blk_cell BX5.out.box 2).trans rfl
      have z3 : w5.cell? ⟨gb, 3, none⟩ = some (.slice A3 t.f3.length c3) := (blk_cell BX5.out.box 3).trans rfl
      have z4 : w5.cell? ⟨gb, 4, none⟩ = some (.slice A4 t.f4.length c4) := (blk_cell BX5.out.box 4).trans rfl
      go_wp2_with fail
      refine (AT3.out _ _ _ BX5.out).mono ?_
      rintro e w6 ⟨C2, Cd2, C3, Cd3, C4, Cd4, rfl, ht6, hb6⟩
      have BX6 := Aside0.mk (BX5.out.below hb6)
      have TX6 := Aside0.mk (TX5.out.below hb6)
      have TY6 := Aside0.mk ht6
      have B76 := Aside0.mk (blk_below B7.out hb6)
      clear hb6 ht6 BX5 TX5 B7 z0 z1 z2 z3 z4 AT3
      go_upto_region 7 with fail
      have hnb : Below w6.heap.size w6 (w6.alloc (.cells #[.int .u8 x.f0, .bool x.f1, .slice C2 x.f2.length Cd2, .slice C3 x.f3.length Cd3, .slice C4 x.f4.length Cd4] 26)) := below_alloc (Below.refl _ _) _
      have hnx : (w6.alloc (.cells #[.int .u8 x.f0, .bool x.f1, .slice C2 x.f2.length Cd2, .slice C3 x.f3.length Cd3, .slice C4 x.f4.length Cd4] 26)).heap[w6.heap.size]? = some (.cells #[.int .u8 x.f0, .bool x.f1, .slice C2 x.f2.length Cd2, .slice C3 x.f3.length Cd3, .slice C4 x.f4.length Cd4] 26 (0, 0)) := heap_alloc_new _ _
      have BX7 := Aside0.mk (BX6.out.below hnb)
      have TX7 := Aside0.mk (TX6.out.below hnb)
      have TY7 := Aside0.mk (TY6.out.below hnb)
      have B77 := Aside0.mk (blk_below B76.out hnb)
      have B9 := Aside0.mk hnx
      clear hnb hnx BX6 TX6 TY6 B76
      generalize w6.alloc (.cells #[.int .u8 x.f0, .bool x.f1, .slice C2 x.f2.length Cd2, .slice C3 x.f3.length Cd3, .slice C4 x.f4.length Cd4] 26) = w7 at *
      generalize w6.heap.size = g9 at *
      have SA := Aside0.mk (same_c HX.out HX.out TX7.out TY7.out)
      rw [sameT_refl] at SA
      have k6 : (ee != ee) = false := bne_self_eq_false ee
      have y0 : w7.cell? ⟨g7, 0, none⟩ = some (.int .u8 x.f0) := (blk_cell B77.out 0).trans rfl
      have y1 : w7.cell? ⟨g7, 1, none⟩ = some (.bool x.f1) := (blk_cell B77.out 1).trans rfl
      have y2 : w7.cell? ⟨g7, 2, none⟩ = some (.slice B2 x.f2.length Bd2) := (blk_cell B77.out 2).trans rfl
      have y3 : w7.cell? ⟨g7, 3, none⟩ = some (.slice B3 x.f3.length Bd3) := (blk_cell B77.out 3).trans rfl
      have y4 : w7.cell? ⟨g7, 4, none⟩ = some (.slice B4 x.f4.length Bd4) := (blk_cell B77.out 4).trans rfl
      have x0 : w7.cell? ⟨g9, 0, none⟩ = some (.int .u8 x.f0) := (blk_cell B9.out 0).trans rfl
      have x1 : w7.cell? ⟨g9, 1, none⟩ = some (.bool x.f1) := (blk_cell B9.out 1).trans rfl
      have x2 : w7.cell? ⟨g9, 2, none⟩ = some (.slice C2 x.f2.length Cd2) := (blk_cell B9.out 2).trans rfl
      have x3 : w7.cell? ⟨g9, 3, none⟩ = some (.slice C3 x.f3.length Cd3) := (blk_cell B9.out 3).trans rfl
      have x4 : w7.cell? ⟨g9, 4, none⟩ = some (.slice C4 x.f4.length Cd4) := (blk_cell B9.out 4).trans rfl
      go_wp2_with fail
      refine SA.out.mono ?_
      rintro e w8 ⟨rfl, hb8⟩
      have BX8 := Aside0.mk (BX7.out.below hb8)
      clear hb8 BX7 TX7 TY7 B77 B9 SA x0 x1 x2 x3 x4 y0 y1 y2 y3 y4
      have z0 : w8.cell? ⟨gb, 0, none⟩ = some (.int .u8 t.f0) := (blk_cell BX8.out.box 0).trans rfl
      have z1 : w8.cell? ⟨gb, 1, none⟩ = some (.bool t.f1) := (blk_cell BX8.out.box 1).trans rfl
      have z2 : w8.cell? ⟨gb, 2, none⟩ = some (.slice A2 t.f2.length c2) := (blk_cell BX8.out.box 2).trans rfl
      have z3 : w8.cell? ⟨gb, 3, none⟩ = some (.slice A3 t.f3.length c3) := (blk_cell BX8.out.box 3).trans rfl
      have z4 : w8.cell? ⟨gb, 4, none⟩ = some (.slice A4 t.f4.length c4) := (blk_cell BX8.out.box 4).trans rfl
      go_wp2_with fail
      refine (PA.out _ _ _ BX8.out).mono ?_
      rintro e w9 ⟨B, Bd, rfl, hl9, hd9, hb9⟩
      have BX9 := Aside0.mk (BX8.out.below hb9)
      have HL9 := Aside0.mk hl9
      clear hb9 hl9 BX8 z0 z1 z2 z3 z4 PA
      have z0 : w9.cell? ⟨gb, 0, none⟩ = some (.int .u8 t.f0) := (blk_cell BX9.out.box 0).trans rfl
      have z1 : w9.cell? ⟨gb, 1, none⟩ = some (.bool t.f1) := (blk_cell BX9.out.box 1).trans rfl
      have z2 : w9.cell? ⟨gb, 2, none⟩ = some (.slice A2 t.f2.length c2) := (blk_cell BX9.out.box 2).trans rfl
      have z3 : w9.cell? ⟨gb, 3, none⟩ = some (.slice A3 t.f3.length c3) := (blk_cell BX9.out.box 3).trans rfl
      have z4 : w9.cell? ⟨gb, 4, none⟩ = some (.slice A4 t.f4.length c4) := (blk_cell BX9.out.box 4).trans rfl
      go_wp2_with fail
      refine (PA3.out _ _ _ BX9.out).mono ?_
      rintro e w10 ⟨C, Cd, rfl, hl10, hd10, hb10⟩
      have BX10 := Aside0.mk (BX9.out.below hb10)
      have HL10 := Aside0.mk (Kd.C_below HL9.out hb10)
      have HM10 := Aside0.mk hl10
      clear hb10 hl10 BX9 HL9 z0 z1 z2 z3 z4 PA3
      have z0 : w10.cell? ⟨gb, 0, none⟩ = some (.int .u8 t.f0) := (blk_cell BX10.out.box 0).trans rfl
      have z1 : w10.cell? ⟨gb, 1, none⟩ = some (.bool t.f1) := (blk_cell BX10.out.box 1).trans rfl
      have z2 : w10.cell? ⟨gb, 2, none⟩ = some (.slice A2 t.f2.length c2) := (blk_cell BX10.out.box 2).trans rfl
      have z3 : w10.cell? ⟨gb, 3, none⟩ = some (.slice A3 t.f3.length c3) := (blk_cell BX10.out.box 3).trans rfl
      have z4 : w10.cell? ⟨gb, 4, none⟩ = some (.slice A4 t.f4.length c4) := (blk_cell BX10.out.box 4).trans rfl
      go_wp2_with fail
      refine (SZ.out _ _ _ BX10.out).mono ?_
      rintro e w11 ⟨rfl, hb11⟩
      have BX11 := BX10.out.below hb11
      have HL11 := Kd.C_below HL10.out hb11
      have HM11 := Kd.C_below HM10.out hb11
      rw [HSP.out]
      clear hb11 BX10 HL10 HM10 z0 z1 z2 z3 z4 SZ
      have hcnt := HCN.out
      generalize pathsT t = l at *
      have k7 : ((l.length : Int) != (l.length : Int)) = false := bne_self_eq_false _
      have k8 : IntKind.i64.wrap ((l.length : Int) + 1 - 1) = (l.length : Int) := by rw [wrap_small _ (by omega) (by omega)]; omega
      have k9 : IntKind.i64.wrap ((l.length : Int)) = (l.length : Int) := by rw [wrap_small _ (by omega) (by omega)]
      go_wp2_with fail
      go_loopg [14] l.length (fun g v14 wx => ∃ i : Nat, i + g = l.length ∧ v14 = .int .i64 i ∧ Bx w wx gb #[.int .u8 t.f0, .bool t.f1, .slice A2 t.f2.length c2, .slice A3 t.f3.length c3, .slice A4 t.f4.length c4] ∧ Kd.C Kd.string wx B l.length l ∧ Kd.C Kd.string wx C l.length l)
      case atStart => exact ⟨0, by omega, rfl, BX11, HL11, HM11⟩
      case round =>
        clear BX11 HL11 HM11
        obtain ⟨i, hig, rfl, hbx, hl, hm⟩ := hrel
        have BX := Aside0.mk hbx
        have HL := Aside0.mk hl
        have HM := Aside0.mk hm
        clear hbx hl hm
        cases gk with
        | zero =>
          obtain rfl : i = l.length := by omega
          go_wp2_with fail
          go_ret
          exact ⟨rfl, BX.out.low⟩
        | succ gk =>
          have hi : i < l.length := by omega
          obtain ⟨adl, el, hxl⟩ := Kd.at_string HL.out (i : Int) (by omega) (by omega)
          cases el
          rw [Int.toNat_natCast, rdB _ _ hi] at hxl
          obtain ⟨adm, el, hxm⟩ := Kd.at_string HM.out (i : Int) (by omega) (by omega)
          cases el
          rw [Int.toNat_natCast, rdB _ _ hi] at hxm
          obtain ⟨s, hs⟩ : ∃ s, l[i] = s := ⟨_, rfl⟩
          rw [hs] at hxl hxm
          clear hs
          have j0 : (0 : Int) ≤ (i : Int) := by omega
          have j1 : (i : Int) < (l.length : Int) := by omega
          have k5 : (s.toList == s.toList) = true := beq_self_eq_true _
          have k6 : (s.toList != s.toList) = false := bne_self_eq_false _
          have BXo := Aside0.mk BX.out.drew
          have HLo := Aside0.mk (Kd.C_below HL.out (below_drew (Below.refl _ _)))
          have HMo := Aside0.mk (Kd.C_below HM.out (below_drew (Below.refl _ _)))
          have HIG := Aside0.mk (show i + 1 + gk = l.length by omega)
          have hcnt := HCN.out
          clear BX HL HM
          go_wp2_with fail
          refine start_ (n := 9) (S := fun w' => w'.cell? (adl.add i) = some (.string s) ∧ w'.cell? (adm.add i) = some (.string s)) (ds := []) #[false, false, false, false, false, false, false, false, false] (by kernel_rfl) rfl rfl ⟨hxl, hxm⟩ (fun hHeld => ?_)
          refine pure_ (i := 0) (N := some 75) (v := ?_) (a' := ?_) #[true, false, false, false, false, false, false, false, false] rfl rfl (by kernel_rfl) (fun _ _ _ h => h) (Or.inl ⟨by rfl, ?_⟩) ?_ ?_
          rotate_left
          · intro w'
            go_simp
            with_reducible rfl
          rotate_left
          · simp only [Act.put, List.setIfInBounds_toArray, List.set_cons_zero, List.set_cons_succ, i64_w, i32_w]
            rfl
          refine pure_ (i := 1) (N := some 76) (v := ?_) (a' := ?_) #[true, true, false, false, false, false, false, false, false] rfl rfl (by kernel_rfl) (fun _ _ _ h => h) (Or.inl ⟨by rfl, ?_⟩) ?_ ?_
          rotate_left
          · intro w'
            go_simp
            with_reducible rfl
          rotate_left
          · simp only [Act.put, List.setIfInBounds_toArray, List.set_cons_zero, List.set_cons_succ, i64_w, i32_w]
            rfl
          refine pure_ (i := 2) (N := some 77) (v := ?_) (a' := ?_) #[true, true, true, false, false, false, false, false, false] rfl rfl (by kernel_rfl) (fun _ _ _ h => h) (Or.inl ⟨by rfl, ?_⟩) ?_ ?_
          rotate_left
          · intro w'
            go_simp
            with_reducible rfl
          rotate_left
          · simp only [Act.put, List.setIfInBounds_toArray, List.set_cons_zero, List.set_cons_succ, i64_w, i32_w]
            rfl
          refine pure_ (i := 4) (N := some 79) (v := ?_) (a' := ?_) #[true, true, true, false, true, false, false, false, false] rfl rfl (by kernel_rfl) (fun _ _ _ h => h) (Or.inl ⟨by rfl, ?_⟩) ?_ ?_
          rotate_left
          · intro w'
            go_simp
            with_reducible rfl
          rotate_left
          · simp only [Act.put, List.setIfInBounds_toArray, List.set_cons_zero, List.set_cons_succ, i64_w, i32_w]
            rfl
          refine pure_ (i := 5) (N := some 80) (v := ?_) (a' := ?_) #[true, true, true, false, true, true, false, false, false] rfl rfl (by kernel_rfl) (fun _ _ _ h => h) (Or.inl ⟨by rfl, ?_⟩) ?_ ?_
          rotate_left
          · intro w'
            go_simp
            with_reducible rfl
          rotate_left
          · simp only [Act.put, List.setIfInBounds_toArray, List.set_cons_zero, List.set_cons_succ, i64_w, i32_w]
            rfl
          refine pure_ (i := 6) (N := some 81) (v := ?_) (a' := ?_) #[true, true, true, false, true, true, true, false, false] rfl rfl (by kernel_rfl) (fun _ _ _ h => h) (Or.inl ⟨by rfl, ?_⟩) ?_ ?_
          rotate_left
          · intro w'
            go_simp
            with_reducible rfl
          rotate_left
          · simp only [Act.put, List.setIfInBounds_toArray, List.set_cons_zero, List.set_cons_succ, i64_w, i32_w]
            rfl
          refine take_ (i := 3) (N := some 78) (v := ?_) (a' := ?_) #[true, true, true, true, true, true, true, false, false] rfl rfl (by kernel_rfl) (fun _ _ _ h => h) (Or.inl ⟨by rfl, ?_⟩) hHeld ?_ ?_
          rotate_left
          · rintro w' ⟨s0, s1⟩
            go_simp
            with_reducible rfl
          rotate_left
          · simp only [Act.put, List.setIfInBounds_toArray, List.set_cons_zero, List.set_cons_succ, i64_w, i32_w]
            rfl
          refine take_ (i := 7) (N := some 82) (v := ?_) (a' := ?_) #[true, true, true, true, true, true, true, true, false] rfl rfl (by kernel_rfl) (fun _ _ _ h => h) (Or.inl ⟨by rfl, ?_⟩) hHeld ?_ ?_
          rotate_left
          · rintro w' ⟨s0, s1⟩
            go_simp
            with_reducible rfl
          rotate_left
          · simp only [Act.put, List.setIfInBounds_toArray, List.set_cons_zero, List.set_cons_succ, i64_w, i32_w]
            rfl
          refine pure_ (i := 8) (N := some 83) (v := ?_) (a' := ?_) #[true, true, true, true, true, true, true, true, true] rfl rfl (by kernel_rfl) (fun _ _ _ h => h) (Or.inl ⟨by rfl, ?_⟩) ?_ ?_
          rotate_left
          · intro w'
            go_simp
            with_reducible rfl
          rotate_left
          · simp only [Act.put, List.setIfInBounds_toArray, List.set_cons_zero, List.set_cons_succ, i64_w, i32_w]
            rfl
          refine done_ (by kernel_rfl) ?_
          go_wp2_with fail
          go_roundg gk
          case measure => omega
          case rel => exact ⟨i + 1, HIG.out, by go_num, BXo.out, HLo.out, HMo.out⟩
end Go.Proofs.YtmhlmbmenoihnaaDoor.K
