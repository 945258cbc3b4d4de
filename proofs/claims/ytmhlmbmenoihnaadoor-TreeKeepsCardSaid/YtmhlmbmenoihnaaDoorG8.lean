-- PRINTED by print.py (a twelfth state) out of the translation. Not trusted: Lean checks it.
import Derived.Test.YtmhlmbmenoihnaaDoorG0
namespace Go.Proofs.YtmhlmbmenoihnaaDoor.G
open Go.RowKit Go.Proofs.YtmhlmbmenoihnaaDoorW.PrintWords Go.Proofs.YtmhlmbmenoihnaaDoorW.PrintLast Go.Proofs.YtmhlmbmenoihnaaDoorW.PrintMore
attribute [local go_sem] max2_int min2_int max_two min_two max_three min_three max_four min_four   -- for this text's walks alone
set_option linter.unusedVariables false
set_option linter.unusedSimpArgs false

/-! ### r03_Same: function 22 -/
mutual
def r03_Same.j0 : Nat → Bool → Int → Bool → List Int → List ByteArray → List (S26) → Int → Bool → List Int → List ByteArray → List (S26) → Option (Bool)
 | 0, _, _, _, _, _, _, _, _, _, _, _ => none
 | k + 1, x45, x226000, x226001, x226002, x226003, x226004, x227000, x227001, x227002, x227003, x227004 => if x45 = true then (some false) else (r03_Same.l0 k 0 x226000 x226001 x226002 x226003 x226004 x227000 x227001 x227002 x227003 x227004)
def r03_Same.l0 : Nat → Int → Int → Bool → List Int → List ByteArray → List (S26) → Int → Bool → List Int → List ByteArray → List (S26) → Option (Bool)
 | 0, _, _, _, _, _, _, _, _, _, _, _ => none
 | k + 1, x5, x226000, x226001, x226002, x226003, x226004, x227000, x227001, x227002, x227003, x227004 => if x5 < (x226003.length : Int) then (if 0 ≤ x5 then (if x5 < (x227003.length : Int) then (if (rdOf ByteArray.empty x226003 x5).toList = (rdOf ByteArray.empty x227003 x5).toList then (r03_Same.l0 k (wrap64 (x5 + 1)) x226000 x226001 x226002 x226003 x226004 x227000 x227001 x227002 x227003 x227004) else (some false)) else (none)) else (none)) else (r03_Same.l1 k 0 x226000 x226001 x226002 x226003 x226004 x227000 x227001 x227002 x227003 x227004)
def r03_Same.l1 : Nat → Int → Int → Bool → List Int → List ByteArray → List (S26) → Int → Bool → List Int → List ByteArray → List (S26) → Option (Bool)
 | 0, _, _, _, _, _, _, _, _, _, _, _ => none
 | k + 1, x6, x226000, x226001, x226002, x226003, x226004, x227000, x227001, x227002, x227003, x227004 => if x6 < (x226004.length : Int) then (if 0 ≤ x6 then (if x6 < (x227004.length : Int) then ((r03_Same.f k ((rd_T26 x226004 x6).f0) ((rd_T26 x226004 x6).f1) ((rd_T26 x226004 x6).f2) ((rd_T26 x226004 x6).f3) ((rd_T26 x226004 x6).f4) ((rd_T26 x227004 x6).f0) ((rd_T26 x227004 x6).f1) ((rd_T26 x227004 x6).f2) ((rd_T26 x227004 x6).f3) ((rd_T26 x227004 x6).f4)).bind fun t231 => (if t231 = true then (r03_Same.l1 k (wrap64 (x6 + 1)) x226000 x226001 x226002 x226003 x226004 x227000 x227001 x227002 x227003 x227004) else (some false))) else (none)) else (none)) else (some true)
def r03_Same.f : Nat → Int → Bool → List Int → List ByteArray → List (S26) → Int → Bool → List Int → List ByteArray → List (S26) → Option (Bool)
 | 0, _, _, _, _, _, _, _, _, _, _ => none
 | k + 1, a0_0, a0_1, l0_2, l0_3, l0_4, a1_0, a1_1, l1_2, l1_3, l1_4 => if a0_0 = a1_0 then (if (a0_1 != a1_1) = true then (r03_Same.j0 k true a0_0 a0_1 l0_2 l0_3 l0_4 a1_0 a1_1 l1_2 l1_3 l1_4) else (if (strOfNums l0_2).toList = (strOfNums l1_2).toList then (if (l0_3.length : Int) = (l1_3.length : Int) then (r03_Same.j0 k ((l0_4.length : Int) != (l1_4.length : Int)) a0_0 a0_1 l0_2 l0_3 l0_4 a1_0 a1_1 l1_2 l1_3 l1_4) else (r03_Same.j0 k true a0_0 a0_1 l0_2 l0_3 l0_4 a1_0 a1_1 l1_2 l1_3 l1_4)) else (r03_Same.j0 k true a0_0 a0_1 l0_2 l0_3 l0_4 a1_0 a1_1 l1_2 l1_3 l1_4))) else (r03_Same.j0 k true a0_0 a0_1 l0_2 l0_3 l0_4 a1_0 a1_1 l1_2 l1_3 l1_4)
end
theorem r03_Same.mono_l : ∀ k, (∀ y0 y1 y2 y3 y4 y5 y6 y7 y8 y9, LeO (r03_Same.f k y0 y1 y2 y3 y4 y5 y6 y7 y8 y9) (r03_Same.f (k + 1) y0 y1 y2 y3 y4 y5 y6 y7 y8 y9)) ∧ (∀ y0 y1 y2 y3 y4 y5 y6 y7 y8 y9 y10, LeO (r03_Same.j0 k y0 y1 y2 y3 y4 y5 y6 y7 y8 y9 y10) (r03_Same.j0 (k + 1) y0 y1 y2 y3 y4 y5 y6 y7 y8 y9 y10)) ∧ (∀ y0 y1 y2 y3 y4 y5 y6 y7 y8 y9 y10, LeO (r03_Same.l0 k y0 y1 y2 y3 y4 y5 y6 y7 y8 y9 y10) (r03_Same.l0 (k + 1) y0 y1 y2 y3 y4 y5 y6 y7 y8 y9 y10)) ∧ (∀ y0 y1 y2 y3 y4 y5 y6 y7 y8 y9 y10, LeO (r03_Same.l1 k y0 y1 y2 y3 y4 y5 y6 y7 y8 y9 y10) (r03_Same.l1 (k + 1) y0 y1 y2 y3 y4 y5 y6 y7 y8 y9 y10))
 | 0 => ⟨fun _ _ _ _ _ _ _ _ _ _ r h => by simp [r03_Same.f] at h, fun _ _ _ _ _ _ _ _ _ _ _ r h => by simp [r03_Same.j0] at h, fun _ _ _ _ _ _ _ _ _ _ _ r h => by simp [r03_Same.l0] at h, fun _ _ _ _ _ _ _ _ _ _ _ r h => by simp [r03_Same.l1] at h⟩
 | k + 1 => by
  obtain ⟨ih0, ih1, ih2, ih3⟩ := r03_Same.mono_l k
  refine ⟨?_, ?_, ?_, ?_⟩
  ·intro y0 y1 y2 y3 y4 y5 y6 y7 y8 y9
   unfold r03_Same.f
   repeat' first
   | (with_reducible exact ih0 _ _ _ _ _ _ _ _ _ _)
   | (with_reducible exact ih1 _ _ _ _ _ _ _ _ _ _ _)
   | (with_reducible exact ih2 _ _ _ _ _ _ _ _ _ _ _)
   | (with_reducible exact ih3 _ _ _ _ _ _ _ _ _ _ _)
   | (with_reducible exact LeO.refl _)
   | (with_reducible exact LeO.none _)
   | (with_reducible refine LeO.ite ?_ ?_)
   | (with_reducible refine LeO.bind ?_ (fun _ => ?_))
   | exact ih0 _ _ _ _ _ _ _ _ _ _
   | exact ih1 _ _ _ _ _ _ _ _ _ _ _
   | exact ih2 _ _ _ _ _ _ _ _ _ _ _
   | exact ih3 _ _ _ _ _ _ _ _ _ _ _
   | exact LeO.none _
   | refine LeO.ite ?_ ?_
   | refine LeO.bind ?_ (fun _ => ?_)
  ·intro y0 y1 y2 y3 y4 y5 y6 y7 y8 y9 y10
   unfold r03_Same.j0
   repeat' first
   | (with_reducible exact ih0 _ _ _ _ _ _ _ _ _ _)
   | (with_reducible exact ih1 _ _ _ _ _ _ _ _ _ _ _)
   | (with_reducible exact ih2 _ _ _ _ _ _ _ _ _ _ _)
   | (with_reducible exact ih3 _ _ _ _ _ _ _ _ _ _ _)
   | (with_reducible exact LeO.refl _)
   | (with_reducible exact LeO.none _)
   | (with_reducible refine LeO.ite ?_ ?_)
   | (with_reducible refine LeO.bind ?_ (fun _ => ?_))
   | exact ih0 _ _ _ _ _ _ _ _ _ _
   | exact ih1 _ _ _ _ _ _ _ _ _ _ _
   | exact ih2 _ _ _ _ _ _ _ _ _ _ _
   | exact ih3 _ _ _ _ _ _ _ _ _ _ _
   | exact LeO.none _
   | refine LeO.ite ?_ ?_
   | refine LeO.bind ?_ (fun _ => ?_)
  ·intro y0 y1 y2 y3 y4 y5 y6 y7 y8 y9 y10
   unfold r03_Same.l0
   repeat' first
   | (with_reducible exact ih0 _ _ _ _ _ _ _ _ _ _)
   | (with_reducible exact ih1 _ _ _ _ _ _ _ _ _ _ _)
   | (with_reducible exact ih2 _ _ _ _ _ _ _ _ _ _ _)
   | (with_reducible exact ih3 _ _ _ _ _ _ _ _ _ _ _)
   | (with_reducible exact LeO.refl _)
   | (with_reducible exact LeO.none _)
   | (with_reducible refine LeO.ite ?_ ?_)
   | (with_reducible refine LeO.bind ?_ (fun _ => ?_))
   | exact ih0 _ _ _ _ _ _ _ _ _ _
   | exact ih1 _ _ _ _ _ _ _ _ _ _ _
   | exact ih2 _ _ _ _ _ _ _ _ _ _ _
   | exact ih3 _ _ _ _ _ _ _ _ _ _ _
   | exact LeO.none _
   | refine LeO.ite ?_ ?_
   | refine LeO.bind ?_ (fun _ => ?_)
  ·intro y0 y1 y2 y3 y4 y5 y6 y7 y8 y9 y10
   unfold r03_Same.l1
   repeat' first
   | (with_reducible exact ih0 _ _ _ _ _ _ _ _ _ _)
   | (with_reducible exact ih1 _ _ _ _ _ _ _ _ _ _ _)
   | (with_reducible exact ih2 _ _ _ _ _ _ _ _ _ _ _)
   | (with_reducible exact ih3 _ _ _ _ _ _ _ _ _ _ _)
   | (with_reducible exact LeO.refl _)
   | (with_reducible exact LeO.none _)
   | (with_reducible refine LeO.ite ?_ ?_)
   | (with_reducible refine LeO.bind ?_ (fun _ => ?_))
   | exact ih0 _ _ _ _ _ _ _ _ _ _
   | exact ih1 _ _ _ _ _ _ _ _ _ _ _
   | exact ih2 _ _ _ _ _ _ _ _ _ _ _
   | exact ih3 _ _ _ _ _ _ _ _ _ _ _
   | exact LeO.none _
   | refine LeO.ite ?_ ?_
   | refine LeO.bind ?_ (fun _ => ?_)
theorem r03_Same.mono : ∀ a0 a1 a2 a3 a4 a5 a6 a7 a8 a9 k, LeO (r03_Same.f k a0 a1 a2 a3 a4 a5 a6 a7 a8 a9) (r03_Same.f (k + 1) a0 a1 a2 a3 a4 a5 a6 a7 a8 a9) := by
 intro a0 a1 a2 a3 a4 a5 a6 a7 a8 a9 k
 obtain ⟨ih0, ih1, ih2, ih3⟩ := r03_Same.mono_l k
 exact ih0 a0 a1 a2 a3 a4 a5 a6 a7 a8 a9
def r03_Same.T6 : Bool × List (List Nat × List Nat) := (true, [([], []), ([0], [0]), ([], []), ([1, 2], [1, 2]), ([3], [3]), ([], []), ([5], [5]), ([], []), ([6, 7], [6, 7]), ([8], [8]), ([4, 9], [4, 9])])
def r03_Same.B6 : List Nat := [0, 1, 0, 7, 15, 0, 32, 0, 224, 480, 1023]
theorem r03_Same.tab6 : rtab .any (opsOf Tryd.f22 6) = r03_Same.T6 := by kernel_rfl
theorem r03_Same.bits6 : waitsOk r03_Same.T6.2 r03_Same.B6 = true := by kernel_rfl
def r03_Same.T11 : Bool × List (List Nat × List Nat) := (true, [([], []), ([0], [0]), ([], []), ([1, 2], [1, 2]), ([3], [3]), ([], []), ([5], [5]), ([], []), ([6, 7], [6, 7]), ([8], [8]), ([4, 9], [4, 9]), ([10], [10])])
def r03_Same.B11 : List Nat := [0, 1, 0, 7, 15, 0, 32, 0, 224, 480, 1023, 2047]
theorem r03_Same.tab11 : rtab .any (opsOf Tryd.f22 11) = r03_Same.T11 := by kernel_rfl
theorem r03_Same.bits11 : waitsOk r03_Same.T11.2 r03_Same.B11 = true := by kernel_rfl
set_option maxHeartbeats 8000000 in
set_option maxRecDepth 100000 in
theorem r03_Same.calls (k : Nat) : ∀ (a0_0 : Int) (a0_1 : Bool) (A0_2 : Option Addr) (c0_2 : Nat) (l0_2 : List Int) (A0_3 : Option Addr) (c0_3 : Nat) (l0_3 : List ByteArray) (A0_4 : Option Addr) (c0_4 : Nat) (l0_4 : List (S26)) (a1_0 : Int) (a1_1 : Bool) (A1_2 : Option Addr) (c1_2 : Nat) (l1_2 : List Int) (A1_3 : Option Addr) (c1_3 : Nat) (l1_3 : List ByteArray) (A1_4 : Option Addr) (c1_4 : Nat) (l1_4 : List (S26)) (r : Bool) (w : World) (hr0_2 : Kd.C (Kd.int .u8) w A0_2 l0_2.length l0_2) (hc0_2 : l0_2.length ≤ c0_2) (hr0_3 : Kd.C Kd.string w A0_3 l0_3.length l0_3) (hc0_3 : l0_3.length ≤ c0_3) (hr0_4 : Kd.C k26 w A0_4 l0_4.length l0_4) (hc0_4 : l0_4.length ≤ c0_4) (hr1_2 : Kd.C (Kd.int .u8) w A1_2 l1_2.length l1_2) (hc1_2 : l1_2.length ≤ c1_2) (hr1_3 : Kd.C Kd.string w A1_3 l1_3.length l1_3) (hc1_3 : l1_3.length ≤ c1_3) (hr1_4 : Kd.C k26 w A1_4 l1_4.length l1_4) (hc1_4 : l1_4.length ≤ c1_4) (h : r03_Same.f k a0_0 a0_1 l0_2 l0_3 l0_4 a1_0 a1_1 l1_2 l1_3 l1_4 = some r),
  Calls Tryd.prog 22 #[.agg #[.int .u8 a0_0, .bool a0_1, .slice A0_2 l0_2.length c0_2, .slice A0_3 l0_3.length c0_3, .slice A0_4 l0_4.length c0_4], .agg #[.int .u8 a1_0, .bool a1_1, .slice A1_2 l1_2.length c1_2, .slice A1_3 l1_3.length c1_3, .slice A1_4 l1_4.length c1_4]] w fun e w' => e = .returned (.bool r) ∧ Below w.heap.size w w' := by
 induction k using Nat.strongRecOn with
 | _ k ih =>
 intro a0_0 a0_1 A0_2 c0_2 l0_2 A0_3 c0_3 l0_3 A0_4 c0_4 l0_4 a1_0 a1_1 A1_2 c1_2 l1_2 A1_3 c1_3 l1_3 A1_4 c1_4 l1_4 r w hr0_2 hc0_2 hr0_3 hc0_3 hr0_4 hc0_4 hr1_2 hc1_2 hr1_3 hc1_3 hr1_4 hc1_4 h
 cases k with
 | zero => exact absurd h (by simp [r03_Same.f])
 | succ k =>
 simp only [r03_Same.f] at h
 have hu26 := Tryd.underlying26
 have HR0_2 := Aside0.mk hr0_2
 have HC0_2 := Aside0.mk hc0_2
 clear hr0_2 hc0_2
 have HR0_3 := Aside0.mk hr0_3
 have HC0_3 := Aside0.mk hc0_3
 clear hr0_3 hc0_3
 have HR0_4 := Aside0.mk hr0_4
 have HC0_4 := Aside0.mk hc0_4
 clear hr0_4 hc0_4
 have HR1_2 := Aside0.mk hr1_2
 have HC1_2 := Aside0.mk hc1_2
 clear hr1_2 hc1_2
 have HR1_3 := Aside0.mk hr1_3
 have HC1_3 := Aside0.mk hc1_3
 clear hr1_3 hc1_3
 have HR1_4 := Aside0.mk hr1_4
 have HC1_4 := Aside0.mk hc1_4
 clear hr1_4 hc1_4
 have HB := Aside0.mk (Below.refl w.heap.size w)
 have H : (if a0_0 = a1_0 then (if (a0_1 != a1_1) = true then (r03_Same.j0 k true a0_0 a0_1 l0_2 l0_3 l0_4 a1_0 a1_1 l1_2 l1_3 l1_4) else (if (strOfNums l0_2).toList = (strOfNums l1_2).toList then (if (l0_3.length : Int) = (l1_3.length : Int) then (r03_Same.j0 k ((l0_4.length : Int) != (l1_4.length : Int)) a0_0 a0_1 l0_2 l0_3 l0_4 a1_0 a1_1 l1_2 l1_3 l1_4) else (r03_Same.j0 k true a0_0 a0_1 l0_2 l0_3 l0_4 a1_0 a1_1 l1_2 l1_3 l1_4)) else (r03_Same.j0 k true a0_0 a0_1 l0_2 l0_3 l0_4 a1_0 a1_1 l1_2 l1_3 l1_4))) else (r03_Same.j0 k true a0_0 a0_1 l0_2 l0_3 l0_4 a1_0 a1_1 l1_2 l1_3 l1_4)) = some r := h
 clear h
 have HC3 := Aside0.mk H
 clear H
 go_enter Tryd.func22, Tryd.ntmps22
 go_upto_region 1 with (first | ((with_reducible refine gate_dst (N := 2) rfl ?_); (try (refine gate_guard (by rfl) ?_; dsimp only)); refine box_event ?hg (N := 2) ?hd (cs := #[.int .u8 a0_0, .bool a0_1, .slice A0_2 l0_2.length c0_2, .slice A0_3 l0_3.length c0_3, .slice A0_4 l0_4.length c0_4]) (t := 26) ?hr ?_; (case hd => rfl); (case hg => rfl); (case hr => first | (go_simp; done) | (go_simp; rfl)); intro gb225 hg w4 hbox hb; have n0_ := Aside0.mk (below_step (by repeat (first | (with_reducible first | exact HB.out | apply below_alloc | apply pw_below_drewN | apply below_drew1) | exact HB.out)) hb); have n1_ := Aside0.mk (hbox); have n2_ := Aside0.mk ((by rw [hg]; exact (below_size (by repeat (first | (with_reducible first | exact HB.out | apply below_alloc | apply pw_below_drewN | apply below_drew1) | exact HB.out))) : w.heap.size ≤ gb225)); have n3_ := Aside0.mk ((by rw [hg]; exact (below_size (by repeat (first | (with_reducible first | exact HB.out | apply below_alloc | apply pw_below_drewN | apply below_drew1) | exact HB.out))) : w.heap.size ≤ gb225)); clear HB; have HB := n0_; have BK225 := n1_; have GW225 := n2_; have GE225 := n3_; clear n0_ n1_ n2_ n3_; clear hb hbox hg) | ((with_reducible refine gate_dst (N := 3) rfl ?_); (try (refine gate_guard (by rfl) ?_; dsimp only)); refine box_event ?hg (N := 3) ?hd (cs := #[.int .u8 a1_0, .bool a1_1, .slice A1_2 l1_2.length c1_2, .slice A1_3 l1_3.length c1_3, .slice A1_4 l1_4.length c1_4]) (t := 26) ?hr ?_; (case hd => rfl); (case hg => rfl); (case hr => first | (go_simp; done) | (go_simp; rfl)); intro gb226 hg w5 hbox hb; have n0_ := Aside0.mk (blk_below (g := gb225) (o := .cells #[.int .u8 a0_0, .bool a0_1, .slice A0_2 l0_2.length c0_2, .slice A0_3 l0_3.length c0_3, .slice A0_4 l0_4.length c0_4] 26 (0, 0)) (by (with_reducible repeat (first | refine blk_drewN ?_ _ | refine blk_drew ?_ | refine blk_alloc ?_ _)); exact BK225.out) hb); have n1_ := Aside0.mk (below_step (by repeat (first | (with_reducible first | exact HB.out | apply below_alloc | apply pw_below_drewN | apply below_drew1 | refine below_set ?_ GE225.out) | exact HB.out)) hb); have n2_ := Aside0.mk (hbox); have n3_ := Aside0.mk ((by rw [hg]; exact (below_size (by repeat (first | (with_reducible first | exact HB.out | apply below_alloc | apply pw_below_drewN | apply below_drew1 | refine below_set ?_ GE225.out) | exact HB.out))) : w.heap.size ≤ gb226)); have n4_ := Aside0.mk ((by rw [hg]; exact (below_size (by repeat (first | (with_reducible first | exact HB.out | apply below_alloc | apply pw_below_drewN | apply below_drew1 | refine below_set ?_ GE225.out) | exact HB.out))) : w.heap.size ≤ gb226)); have n5_ := Aside0.mk ((by rw [hg]; exact Nat.ne_of_lt (blk_lt (g := gb225) (o := .cells #[.int .u8 a0_0, .bool a0_1, .slice A0_2 l0_2.length c0_2, .slice A0_3 l0_3.length c0_3, .slice A0_4 l0_4.length c0_4] 26 (0, 0)) (by (with_reducible repeat (first | refine blk_drewN ?_ _ | refine blk_drew ?_ | refine blk_alloc ?_ _)); exact BK225.out)) : gb225 ≠ gb226)); have n6_ := Aside0.mk ((by rw [hg]; exact Nat.ne_of_gt (blk_lt (g := gb225) (o := .cells #[.int .u8 a0_0, .bool a0_1, .slice A0_2 l0_2.length c0_2, .slice A0_3 l0_3.length c0_3, .slice A0_4 l0_4.length c0_4] 26 (0, 0)) (by (with_reducible repeat (first | refine blk_drewN ?_ _ | refine blk_drew ?_ | refine blk_alloc ?_ _)); exact BK225.out)) : gb226 ≠ gb225)); clear BK225; clear HB; have BK225 := n0_; have HB := n1_; have BK226 := n2_; have GW226 := n3_; have GE226 := n4_; have NB225_226 := n5_; have NB226_225 := n6_; clear n0_ n1_ n2_ n3_ n4_ n5_ n6_; clear hb hbox hg))
 (try simp only [Act.put, List.setIfInBounds_toArray, List.set_cons_zero, List.set_cons_succ])
 go_cut [45] (fun v45 wc => ∃ (kq : Nat) (x45_2 : Bool), v45 = .bool x45_2 ∧ Aside0 (r03_Same.j0 kq x45_2 a0_0 a0_1 l0_2 l0_3 l0_4 a1_0 a1_1 l1_2 l1_3 l1_4 = some r) ∧ Aside0 (kq ≤ k) ∧ Aside0 (wc.heap[gb225]? = some (.cells #[.int .u8 a0_0, .bool a0_1, (.slice A0_2 l0_2.length c0_2), (.slice A0_3 l0_3.length c0_3), (.slice A0_4 l0_4.length c0_4)] 26 (0, 0))) ∧ Aside0 (wc.heap[gb226]? = some (.cells #[.int .u8 a1_0, .bool a1_1, (.slice A1_2 l1_2.length c1_2), (.slice A1_3 l1_3.length c1_3), (.slice A1_4 l1_4.length c1_4)] 26 (0, 0))) ∧ Aside0 (Below w.heap.size w wc))
 case first =>
  have H := HC3.out
  clear HC3
  by_cases c6 : a0_0 = a1_0
  ·rw [if_pos c6] at H
   have c6b0 : (a0_0 == a1_0) = true := beq_iff_eq.mpr c6
   have c6b1 : (a0_0 != a1_0) = false := bne_eq_false_iff_eq.mpr c6
   clear c6
   (first | rw [c6b0] | (simp only [i64_w, i32_w]; rw [c6b0]) | skip)
   by_cases c7 : (a0_1 != a1_1) = true
   ·rw [if_pos c7] at H
    have c7b0 : (a0_1 != a1_1) = true := c7
    (try (have c7b1 : decide (a0_1 = a1_1) = false := by simpa using c7))
    (try (have c7b2 : (a0_1 == a1_1) = false := by simpa using c7))
    (try (have c7b3 : ¬ (a0_1 = a1_1) := by simpa using c7))
    clear c7
    have H' := Aside0.mk H
    clear H
    have hnb8 := NB225_226.out
    have hnc8 := NB226_225.out
    have hcz9_0 : w5.cell? ⟨gb225, 0, none⟩ = some (.int .u8 a0_0) := (blk_cell BK225.out 0).trans rfl
    have hcz9_1 : w5.cell? ⟨gb225, 1, none⟩ = some (.bool a0_1) := (blk_cell BK225.out 1).trans rfl
    have hcz9_2 : w5.cell? ⟨gb225, 2, none⟩ = some (.slice A0_2 l0_2.length c0_2) := (blk_cell BK225.out 2).trans rfl
    have hcz9_3 : w5.cell? ⟨gb225, 3, none⟩ = some (.slice A0_3 l0_3.length c0_3) := (blk_cell BK225.out 3).trans rfl
    have hcz9_4 : w5.cell? ⟨gb225, 4, none⟩ = some (.slice A0_4 l0_4.length c0_4) := (blk_cell BK225.out 4).trans rfl
    have hfz9_0 := blk_frozen BK225.out 0
    have hfz9_1 := blk_frozen BK225.out 1
    have hfz9_2 := blk_frozen BK225.out 2
    have hfz9_3 := blk_frozen BK225.out 3
    have hfz9_4 := blk_frozen BK225.out 4
    have hcz10_0 : w5.cell? ⟨gb226, 0, none⟩ = some (.int .u8 a1_0) := (blk_cell BK226.out 0).trans rfl
    have hcz10_1 : w5.cell? ⟨gb226, 1, none⟩ = some (.bool a1_1) := (blk_cell BK226.out 1).trans rfl
    have hcz10_2 : w5.cell? ⟨gb226, 2, none⟩ = some (.slice A1_2 l1_2.length c1_2) := (blk_cell BK226.out 2).trans rfl
    have hcz10_3 : w5.cell? ⟨gb226, 3, none⟩ = some (.slice A1_3 l1_3.length c1_3) := (blk_cell BK226.out 3).trans rfl
    have hcz10_4 : w5.cell? ⟨gb226, 4, none⟩ = some (.slice A1_4 l1_4.length c1_4) := (blk_cell BK226.out 4).trans rfl
    have hfz10_0 := blk_frozen BK226.out 0
    have hfz10_1 := blk_frozen BK226.out 1
    have hfz10_2 := blk_frozen BK226.out 2
    have hfz10_3 := blk_frozen BK226.out 3
    have hfz10_4 := blk_frozen BK226.out 4
    go_wp2
    go_meet
    case rel => exact ⟨_, (true), (by first | rfl | (simp; done) | (simp [*]; done)), H', ⟨by first | omega | exact Nat.le_refl _⟩, ⟨by (with_reducible repeat (first | refine blk_drewN ?_ _ | refine blk_drew ?_ | refine blk_alloc ?_ _)); exact BK225.out⟩, ⟨by (with_reducible repeat (first | refine blk_drewN ?_ _ | refine blk_drew ?_ | refine blk_alloc ?_ _)); exact BK226.out⟩, ⟨by repeat (first | (with_reducible first | exact HB.out | apply below_alloc | apply pw_below_drewN | apply below_drew1 | refine below_set ?_ GE225.out | refine below_set ?_ GE226.out) | exact HB.out)⟩⟩
   ·rw [if_neg c7] at H
    have c7b0 : (a0_1 != a1_1) = false := by simpa using c7
    (try (have c7b1 : decide (a0_1 = a1_1) = true := by simpa using c7))
    (try (have c7b2 : (a0_1 == a1_1) = true := by simpa using c7))
    clear c7
    by_cases c11 : (strOfNums l0_2).toList = (strOfNums l1_2).toList
    ·rw [if_pos c11] at H
     have c11b0 : ((strOfNums l0_2).toList == (strOfNums l1_2).toList) = true := beq_iff_eq.mpr c11
     have c11b1 : ((strOfNums l0_2).toList != (strOfNums l1_2).toList) = false := bne_eq_false_iff_eq.mpr c11
     clear c11
     by_cases c12 : (l0_3.length : Int) = (l1_3.length : Int)
     ·rw [if_pos c12] at H
      have c12b0 : ((l0_3.length : Int) == (l1_3.length : Int)) = true := beq_iff_eq.mpr c12
      have c12b1 : ((l0_3.length : Int) != (l1_3.length : Int)) = false := bne_eq_false_iff_eq.mpr c12
      have c12b2 : (l0_3.length == l1_3.length) = true := by first | simpa using c12 | (simp at c12 ⊢; omega)
      clear c12
      have H' := Aside0.mk H
      clear H
      have hnb13 := NB225_226.out
      have hnc13 := NB226_225.out
      have hcz14_0 : w5.cell? ⟨gb225, 0, none⟩ = some (.int .u8 a0_0) := (blk_cell BK225.out 0).trans rfl
      have hcz14_1 : w5.cell? ⟨gb225, 1, none⟩ = some (.bool a0_1) := (blk_cell BK225.out 1).trans rfl
      have hcz14_2 : w5.cell? ⟨gb225, 2, none⟩ = some (.slice A0_2 l0_2.length c0_2) := (blk_cell BK225.out 2).trans rfl
      have hcz14_3 : w5.cell? ⟨gb225, 3, none⟩ = some (.slice A0_3 l0_3.length c0_3) := (blk_cell BK225.out 3).trans rfl
      have hcz14_4 : w5.cell? ⟨gb225, 4, none⟩ = some (.slice A0_4 l0_4.length c0_4) := (blk_cell BK225.out 4).trans rfl
      have hfz14_0 := blk_frozen BK225.out 0
      have hfz14_1 := blk_frozen BK225.out 1
      have hfz14_2 := blk_frozen BK225.out 2
      have hfz14_3 := blk_frozen BK225.out 3
      have hfz14_4 := blk_frozen BK225.out 4
      have hcz15_0 : w5.cell? ⟨gb226, 0, none⟩ = some (.int .u8 a1_0) := (blk_cell BK226.out 0).trans rfl
      have hcz15_1 : w5.cell? ⟨gb226, 1, none⟩ = some (.bool a1_1) := (blk_cell BK226.out 1).trans rfl
      have hcz15_2 : w5.cell? ⟨gb226, 2, none⟩ = some (.slice A1_2 l1_2.length c1_2) := (blk_cell BK226.out 2).trans rfl
      have hcz15_3 : w5.cell? ⟨gb226, 3, none⟩ = some (.slice A1_3 l1_3.length c1_3) := (blk_cell BK226.out 3).trans rfl
      have hcz15_4 : w5.cell? ⟨gb226, 4, none⟩ = some (.slice A1_4 l1_4.length c1_4) := (blk_cell BK226.out 4).trans rfl
      have hfz15_0 := blk_frozen BK226.out 0
      have hfz15_1 := blk_frozen BK226.out 1
      have hfz15_2 := blk_frozen BK226.out 2
      have hfz15_3 := blk_frozen BK226.out 3
      have hfz15_4 := blk_frozen BK226.out 4
      have hcv16 := Kd.C_string (P := Tryd.prog) (A := A0_2) (c := c0_2) Tryd.underlying22 Tryd.underlying5 Tryd.underlying9 (Kd.C_below HR0_2.out HB.out)
      have hcv17 := Kd.C_string (P := Tryd.prog) (A := A1_2) (c := c1_2) Tryd.underlying22 Tryd.underlying5 Tryd.underlying9 (Kd.C_below HR1_2.out HB.out)
      go_wp2
      go_meet
      case rel => exact ⟨_, (((l0_4.length : Int) != (l1_4.length : Int))), (by first | rfl | (simp; done) | (simp [*]; done)), H', ⟨by first | omega | exact Nat.le_refl _⟩, ⟨by (with_reducible repeat (first | refine blk_drewN ?_ _ | refine blk_drew ?_ | refine blk_alloc ?_ _)); exact BK225.out⟩, ⟨by (with_reducible repeat (first | refine blk_drewN ?_ _ | refine blk_drew ?_ | refine blk_alloc ?_ _)); exact BK226.out⟩, ⟨by repeat (first | (with_reducible first | exact HB.out | apply below_alloc | apply pw_below_drewN | apply below_drew1 | refine below_set ?_ GE225.out | refine below_set ?_ GE226.out) | exact HB.out)⟩⟩
     ·rw [if_neg c12] at H
      have c12b0 : ((l0_3.length : Int) == (l1_3.length : Int)) = false := beq_eq_false_iff_ne.mpr c12
      have c12b1 : ((l0_3.length : Int) != (l1_3.length : Int)) = true := bne_iff_ne.mpr c12
      have c12b2 : (l0_3.length == l1_3.length) = false := by first | simpa using c12 | (simp at c12 ⊢; omega)
      have H' := Aside0.mk H
      clear H
      have hnb18 := NB225_226.out
      have hnc18 := NB226_225.out
      have hcz19_0 : w5.cell? ⟨gb225, 0, none⟩ = some (.int .u8 a0_0) := (blk_cell BK225.out 0).trans rfl
      have hcz19_1 : w5.cell? ⟨gb225, 1, none⟩ = some (.bool a0_1) := (blk_cell BK225.out 1).trans rfl
      have hcz19_2 : w5.cell? ⟨gb225, 2, none⟩ = some (.slice A0_2 l0_2.length c0_2) := (blk_cell BK225.out 2).trans rfl
      have hcz19_3 : w5.cell? ⟨gb225, 3, none⟩ = some (.slice A0_3 l0_3.length c0_3) := (blk_cell BK225.out 3).trans rfl
      have hcz19_4 : w5.cell? ⟨gb225, 4, none⟩ = some (.slice A0_4 l0_4.length c0_4) := (blk_cell BK225.out 4).trans rfl
      have hfz19_0 := blk_frozen BK225.out 0
      have hfz19_1 := blk_frozen BK225.out 1
      have hfz19_2 := blk_frozen BK225.out 2
      have hfz19_3 := blk_frozen BK225.out 3
      have hfz19_4 := blk_frozen BK225.out 4
      have hcz20_0 : w5.cell? ⟨gb226, 0, none⟩ = some (.int .u8 a1_0) := (blk_cell BK226.out 0).trans rfl
      have hcz20_1 : w5.cell? ⟨gb226, 1, none⟩ = some (.bool a1_1) := (blk_cell BK226.out 1).trans rfl
      have hcz20_2 : w5.cell? ⟨gb226, 2, none⟩ = some (.slice A1_2 l1_2.length c1_2) := (blk_cell BK226.out 2).trans rfl
      have hcz20_3 : w5.cell? ⟨gb226, 3, none⟩ = some (.slice A1_3 l1_3.length c1_3) := (blk_cell BK226.out 3).trans rfl
      have hcz20_4 : w5.cell? ⟨gb226, 4, none⟩ = some (.slice A1_4 l1_4.length c1_4) := (blk_cell BK226.out 4).trans rfl
      have hfz20_0 := blk_frozen BK226.out 0
      have hfz20_1 := blk_frozen BK226.out 1
      have hfz20_2 := blk_frozen BK226.out 2
      have hfz20_3 := blk_frozen BK226.out 3
      have hfz20_4 := blk_frozen BK226.out 4
      have hcv21 := Kd.C_string (P := Tryd.prog) (A := A0_2) (c := c0_2) Tryd.underlying22 Tryd.underlying5 Tryd.underlying9 (Kd.C_below HR0_2.out HB.out)
      have hcv22 := Kd.C_string (P := Tryd.prog) (A := A1_2) (c := c1_2) Tryd.underlying22 Tryd.underlying5 Tryd.underlying9 (Kd.C_below HR1_2.out HB.out)
      go_wp2
      go_meet
      case rel => exact ⟨_, (true), (by first | rfl | (simp; done) | (simp [*]; done)), H', ⟨by first | omega | exact Nat.le_refl _⟩, ⟨by (with_reducible repeat (first | refine blk_drewN ?_ _ | refine blk_drew ?_ | refine blk_alloc ?_ _)); exact BK225.out⟩, ⟨by (with_reducible repeat (first | refine blk_drewN ?_ _ | refine blk_drew ?_ | refine blk_alloc ?_ _)); exact BK226.out⟩, ⟨by repeat (first | (with_reducible first | exact HB.out | apply below_alloc | apply pw_below_drewN | apply below_drew1 | refine below_set ?_ GE225.out | refine below_set ?_ GE226.out) | exact HB.out)⟩⟩
    ·rw [if_neg c11] at H
     have c11b0 : ((strOfNums l0_2).toList == (strOfNums l1_2).toList) = false := beq_eq_false_iff_ne.mpr c11
     have c11b1 : ((strOfNums l0_2).toList != (strOfNums l1_2).toList) = true := bne_iff_ne.mpr c11
     have H' := Aside0.mk H
     clear H
     have hnb23 := NB225_226.out
     have hnc23 := NB226_225.out
     have hcz24_0 : w5.cell? ⟨gb225, 0, none⟩ = some (.int .u8 a0_0) := (blk_cell BK225.out 0).trans rfl
     have hcz24_1 : w5.cell? ⟨gb225, 1, none⟩ = some (.bool a0_1) := (blk_cell BK225.out 1).trans rfl
     have hcz24_2 : w5.cell? ⟨gb225, 2, none⟩ = some (.slice A0_2 l0_2.length c0_2) := (blk_cell BK225.out 2).trans rfl
     have hcz24_3 : w5.cell? ⟨gb225, 3, none⟩ = some (.slice A0_3 l0_3.length c0_3) := (blk_cell BK225.out 3).trans rfl
     have hcz24_4 : w5.cell? ⟨gb225, 4, none⟩ = some (.slice A0_4 l0_4.length c0_4) := (blk_cell BK225.out 4).trans rfl
     have hfz24_0 := blk_frozen BK225.out 0
     have hfz24_1 := blk_frozen BK225.out 1
     have hfz24_2 := blk_frozen BK225.out 2
     have hfz24_3 := blk_frozen BK225.out 3
     have hfz24_4 := blk_frozen BK225.out 4
     have hcz25_0 : w5.cell? ⟨gb226, 0, none⟩ = some (.int .u8 a1_0) := (blk_cell BK226.out 0).trans rfl
     have hcz25_1 : w5.cell? ⟨gb226, 1, none⟩ = some (.bool a1_1) := (blk_cell BK226.out 1).trans rfl
     have hcz25_2 : w5.cell? ⟨gb226, 2, none⟩ = some (.slice A1_2 l1_2.length c1_2) := (blk_cell BK226.out 2).trans rfl
     have hcz25_3 : w5.cell? ⟨gb226, 3, none⟩ = some (.slice A1_3 l1_3.length c1_3) := (blk_cell BK226.out 3).trans rfl
     have hcz25_4 : w5.cell? ⟨gb226, 4, none⟩ = some (.slice A1_4 l1_4.length c1_4) := (blk_cell BK226.out 4).trans rfl
     have hfz25_0 := blk_frozen BK226.out 0
     have hfz25_1 := blk_frozen BK226.out 1
     have hfz25_2 := blk_frozen BK226.out 2
     have hfz25_3 := blk_frozen BK226.out 3
     have hfz25_4 := blk_frozen BK226.out 4
     have hcv26 := Kd.C_string (P := Tryd.prog) (A := A0_2) (c := c0_2) Tryd.underlying22 Tryd.underlying5 Tryd.underlying9 (Kd.C_below HR0_2.out HB.out)
     have hcv27 := Kd.C_string (P := Tryd.prog) (A := A1_2) (c := c1_2) Tryd.underlying22 Tryd.underlying5 Tryd.underlying9 (Kd.C_below HR1_2.out HB.out)
     go_wp2
     go_meet
     case rel => exact ⟨_, (true), (by first | rfl | (simp; done) | (simp [*]; done)), H', ⟨by first | omega | exact Nat.le_refl _⟩, ⟨by (with_reducible repeat (first | refine blk_drewN ?_ _ | refine blk_drew ?_ | refine blk_alloc ?_ _)); exact BK225.out⟩, ⟨by (with_reducible repeat (first | refine blk_drewN ?_ _ | refine blk_drew ?_ | refine blk_alloc ?_ _)); exact BK226.out⟩, ⟨by repeat (first | (with_reducible first | exact HB.out | apply below_alloc | apply pw_below_drewN | apply below_drew1 | refine below_set ?_ GE225.out | refine below_set ?_ GE226.out) | exact HB.out)⟩⟩
  ·rw [if_neg c6] at H
   have c6b0 : (a0_0 == a1_0) = false := beq_eq_false_iff_ne.mpr c6
   have c6b1 : (a0_0 != a1_0) = true := bne_iff_ne.mpr c6
   (first | rw [c6b0] | (simp only [i64_w, i32_w]; rw [c6b0]) | skip)
   have H' := Aside0.mk H
   clear H
   have hnb28 := NB225_226.out
   have hnc28 := NB226_225.out
   have hcz29_0 : w5.cell? ⟨gb225, 0, none⟩ = some (.int .u8 a0_0) := (blk_cell BK225.out 0).trans rfl
   have hcz29_1 : w5.cell? ⟨gb225, 1, none⟩ = some (.bool a0_1) := (blk_cell BK225.out 1).trans rfl
   have hcz29_2 : w5.cell? ⟨gb225, 2, none⟩ = some (.slice A0_2 l0_2.length c0_2) := (blk_cell BK225.out 2).trans rfl
   have hcz29_3 : w5.cell? ⟨gb225, 3, none⟩ = some (.slice A0_3 l0_3.length c0_3) := (blk_cell BK225.out 3).trans rfl
   have hcz29_4 : w5.cell? ⟨gb225, 4, none⟩ = some (.slice A0_4 l0_4.length c0_4) := (blk_cell BK225.out 4).trans rfl
   have hfz29_0 := blk_frozen BK225.out 0
   have hfz29_1 := blk_frozen BK225.out 1
   have hfz29_2 := blk_frozen BK225.out 2
   have hfz29_3 := blk_frozen BK225.out 3
   have hfz29_4 := blk_frozen BK225.out 4
   have hcz30_0 : w5.cell? ⟨gb226, 0, none⟩ = some (.int .u8 a1_0) := (blk_cell BK226.out 0).trans rfl
   have hcz30_1 : w5.cell? ⟨gb226, 1, none⟩ = some (.bool a1_1) := (blk_cell BK226.out 1).trans rfl
   have hcz30_2 : w5.cell? ⟨gb226, 2, none⟩ = some (.slice A1_2 l1_2.length c1_2) := (blk_cell BK226.out 2).trans rfl
   have hcz30_3 : w5.cell? ⟨gb226, 3, none⟩ = some (.slice A1_3 l1_3.length c1_3) := (blk_cell BK226.out 3).trans rfl
   have hcz30_4 : w5.cell? ⟨gb226, 4, none⟩ = some (.slice A1_4 l1_4.length c1_4) := (blk_cell BK226.out 4).trans rfl
   have hfz30_0 := blk_frozen BK226.out 0
   have hfz30_1 := blk_frozen BK226.out 1
   have hfz30_2 := blk_frozen BK226.out 2
   have hfz30_3 := blk_frozen BK226.out 3
   have hfz30_4 := blk_frozen BK226.out 4
   go_wp2
   go_meet
   case rel => exact ⟨_, (true), (by first | rfl | (simp; done) | (simp [*]; done)), H', ⟨by first | omega | exact Nat.le_refl _⟩, ⟨by (with_reducible repeat (first | refine blk_drewN ?_ _ | refine blk_drew ?_ | refine blk_alloc ?_ _)); exact BK225.out⟩, ⟨by (with_reducible repeat (first | refine blk_drewN ?_ _ | refine blk_drew ?_ | refine blk_alloc ?_ _)); exact BK226.out⟩, ⟨by repeat (first | (with_reducible first | exact HB.out | apply below_alloc | apply pw_below_drewN | apply below_drew1 | refine below_set ?_ GE225.out | refine below_set ?_ GE226.out) | exact HB.out)⟩⟩
 case rest =>
  clear HC3
  try clear c1
  try clear hcv1
  try clear c2
  try clear p2
  try clear hcv2
  try clear c6
  try clear c6b0
  try clear c6b1
  try clear c7
  try clear c7b0
  try clear c7b1
  try clear c7b2
  try clear c8
  try clear c11
  try clear c11b0
  try clear c11b1
  try clear c12
  try clear c12b0
  try clear c12b1
  try clear c12b2
  try clear c13
  try clear hcv16
  try clear hcv17
  try clear c18
  try clear hcv21
  try clear c22
  try clear hcv22
  try clear c23
  try clear hcv26
  try clear hcv27
  try clear c28
  try clear hcz10_0
  try clear hcz10_1
  try clear hcz10_2
  try clear hcz10_3
  try clear hcz10_4
  try clear hcz14_0
  try clear hcz14_1
  try clear hcz14_2
  try clear hcz14_3
  try clear hcz14_4
  try clear hcz15_0
  try clear hcz15_1
  try clear hcz15_2
  try clear hcz15_3
  try clear hcz15_4
  try clear hcz19_0
  try clear hcz19_1
  try clear hcz19_2
  try clear hcz19_3
  try clear hcz19_4
  try clear hcz20_0
  try clear hcz20_1
  try clear hcz20_2
  try clear hcz20_3
  try clear hcz20_4
  try clear hcz24_0
  try clear hcz24_1
  try clear hcz24_2
  try clear hcz24_3
  try clear hcz24_4
  try clear hcz25_0
  try clear hcz25_1
  try clear hcz25_2
  try clear hcz25_3
  try clear hcz25_4
  try clear hcz29_0
  try clear hcz29_1
  try clear hcz29_2
  try clear hcz29_3
  try clear hcz29_4
  try clear hcz30_0
  try clear hcz30_1
  try clear hcz30_2
  try clear hcz30_3
  try clear hcz30_4
  try clear hcz9_0
  try clear hcz9_1
  try clear hcz9_2
  try clear hcz9_3
  try clear hcz9_4
  try clear hfz10_0
  try clear hfz10_1
  try clear hfz10_2
  try clear hfz10_3
  try clear hfz10_4
  try clear hfz14_0
  try clear hfz14_1
  try clear hfz14_2
  try clear hfz14_3
  try clear hfz14_4
  try clear hfz15_0
  try clear hfz15_1
  try clear hfz15_2
  try clear hfz15_3
  try clear hfz15_4
  try clear hfz19_0
  try clear hfz19_1
  try clear hfz19_2
  try clear hfz19_3
  try clear hfz19_4
  try clear hfz20_0
  try clear hfz20_1
  try clear hfz20_2
  try clear hfz20_3
  try clear hfz20_4
  try clear hfz24_0
  try clear hfz24_1
  try clear hfz24_2
  try clear hfz24_3
  try clear hfz24_4
  try clear hfz25_0
  try clear hfz25_1
  try clear hfz25_2
  try clear hfz25_3
  try clear hfz25_4
  try clear hfz29_0
  try clear hfz29_1
  try clear hfz29_2
  try clear hfz29_3
  try clear hfz29_4
  try clear hfz30_0
  try clear hfz30_1
  try clear hfz30_2
  try clear hfz30_3
  try clear hfz30_4
  try clear hfz9_0
  try clear hfz9_1
  try clear hfz9_2
  try clear hfz9_3
  try clear hfz9_4
  obtain ⟨kq, x45_2, rfl, HA, HJ2, BK225, BK226, HB⟩ := hcut
  cases kq with
  | zero => exact absurd HA.out (by simp [r03_Same.j0])
  | succ kj2 =>
   have H := HA.out
   clear HA
   simp only [r03_Same.j0] at H
   by_cases c31 : x45_2 = true
   ·subst c31
    have H1 : (some false) = some r := by rw [if_pos rfl] at H; exact H
    clear H
    have H := H1
    clear H1
    obtain rfl := Option.some.inj H
    go_wp2
    go_ret
    exact ⟨by first | rfl | (simp [errW_none, errW_some] <;> rfl) | (simp [*, errW_none, errW_some] <;> rfl), by repeat (first | (with_reducible first | exact HB.out | apply below_alloc | apply pw_below_drewN | apply below_drew1 | refine below_set ?_ GE225.out | refine below_set ?_ GE226.out) | exact HB.out)⟩
   ·replace c31 := Bool.eq_false_iff.mpr c31
    subst c31
    have H1 : (r03_Same.l0 kj2 0 a0_0 a0_1 l0_2 l0_3 l0_4 a1_0 a1_1 l1_2 l1_3 l1_4) = some r := by rw [if_neg (show ¬ (false = true) by decide)] at H; exact H
    clear H
    have H := H1
    clear H1
    have H' := Aside0.mk H
    clear H
    go_wp2
    go_loopg [5] kj2 (fun kq v5 w' => ∃ (x5_2 : Int), v5 = .int .i64 x5_2 ∧ Aside0 (r03_Same.l0 kq x5_2 a0_0 a0_1 l0_2 l0_3 l0_4 a1_0 a1_1 l1_2 l1_3 l1_4 = some r) ∧ Aside0 (kq ≤ kj2) ∧ Aside0 (w'.heap[gb225]? = some (.cells #[.int .u8 a0_0, .bool a0_1, (.slice A0_2 l0_2.length c0_2), (.slice A0_3 l0_3.length c0_3), (.slice A0_4 l0_4.length c0_4)] 26 (0, 0))) ∧ Aside0 (w'.heap[gb226]? = some (.cells #[.int .u8 a1_0, .bool a1_1, (.slice A1_2 l1_2.length c1_2), (.slice A1_3 l1_3.length c1_3), (.slice A1_4 l1_4.length c1_4)] 26 (0, 0))) ∧ Aside0 (Below w.heap.size w w'))
    case atStart => exact ⟨(0), (by first | rfl | (simp; done) | (simp [*]; done)), H', ⟨Nat.le_refl _⟩, ⟨by (with_reducible repeat (first | refine blk_drewN ?_ _ | refine blk_drew ?_ | refine blk_alloc ?_ _)); exact BK225.out⟩, ⟨by (with_reducible repeat (first | refine blk_drewN ?_ _ | refine blk_drew ?_ | refine blk_alloc ?_ _)); exact BK226.out⟩, ⟨by repeat (first | (with_reducible first | exact HB.out | apply below_alloc | apply pw_below_drewN | apply below_drew1 | refine below_set ?_ GE225.out | refine below_set ?_ GE226.out) | exact HB.out)⟩⟩
    case round =>
     clear H'
     try clear c1
     try clear hcv1
     try clear c2
     try clear p2
     try clear hcv2
     try clear c3
     try clear c6
     try clear c6b0
     try clear c6b1
     try clear c7
     try clear c7b0
     try clear c7b1
     try clear c7b2
     try clear c8
     try clear c11
     try clear c11b0
     try clear c11b1
     try clear c12
     try clear c12b0
     try clear c12b1
     try clear c12b2
     try clear c13
     try clear hcv16
     try clear hcv17
     try clear c18
     try clear hcv21
     try clear c22
     try clear hcv22
     try clear c23
     try clear hcv26
     try clear hcv27
     try clear c28
     try clear c31
     try clear hcz10_0
     try clear hcz10_1
     try clear hcz10_2
     try clear hcz10_3
     try clear hcz10_4
     try clear hcz14_0
     try clear hcz14_1
     try clear hcz14_2
     try clear hcz14_3
     try clear hcz14_4
     try clear hcz15_0
     try clear hcz15_1
     try clear hcz15_2
     try clear hcz15_3
     try clear hcz15_4
     try clear hcz19_0
     try clear hcz19_1
     try clear hcz19_2
     try clear hcz19_3
     try clear hcz19_4
     try clear hcz20_0
     try clear hcz20_1
     try clear hcz20_2
     try clear hcz20_3
     try clear hcz20_4
     try clear hcz24_0
     try clear hcz24_1
     try clear hcz24_2
     try clear hcz24_3
     try clear hcz24_4
     try clear hcz25_0
     try clear hcz25_1
     try clear hcz25_2
     try clear hcz25_3
     try clear hcz25_4
     try clear hcz29_0
     try clear hcz29_1
     try clear hcz29_2
     try clear hcz29_3
     try clear hcz29_4
     try clear hcz30_0
     try clear hcz30_1
     try clear hcz30_2
     try clear hcz30_3
     try clear hcz30_4
     try clear hcz9_0
     try clear hcz9_1
     try clear hcz9_2
     try clear hcz9_3
     try clear hcz9_4
     try clear hfz10_0
     try clear hfz10_1
     try clear hfz10_2
     try clear hfz10_3
     try clear hfz10_4
     try clear hfz14_0
     try clear hfz14_1
     try clear hfz14_2
     try clear hfz14_3
     try clear hfz14_4
     try clear hfz15_0
     try clear hfz15_1
     try clear hfz15_2
     try clear hfz15_3
     try clear hfz15_4
     try clear hfz19_0
     try clear hfz19_1
     try clear hfz19_2
     try clear hfz19_3
     try clear hfz19_4
     try clear hfz20_0
     try clear hfz20_1
     try clear hfz20_2
     try clear hfz20_3
     try clear hfz20_4
     try clear hfz24_0
     try clear hfz24_1
     try clear hfz24_2
     try clear hfz24_3
     try clear hfz24_4
     try clear hfz25_0
     try clear hfz25_1
     try clear hfz25_2
     try clear hfz25_3
     try clear hfz25_4
     try clear hfz29_0
     try clear hfz29_1
     try clear hfz29_2
     try clear hfz29_3
     try clear hfz29_4
     try clear hfz30_0
     try clear hfz30_1
     try clear hfz30_2
     try clear hfz30_3
     try clear hfz30_4
     try clear hfz9_0
     try clear hfz9_1
     try clear hfz9_2
     try clear hfz9_3
     try clear hfz9_4
     try clear p2
     obtain ⟨x5_2, rfl, HA, HK2, BK225, BK226, HB⟩ := hrel
     cases gk with
     | zero => exact absurd HA.out (by simp [r03_Same.l0])
     | succ k2 =>
      have H := HA.out
      clear HA
      simp only [r03_Same.l0] at H
      by_cases c32 : x5_2 < (l0_3.length : Int)
      ·rw [if_pos c32] at H
       have c32b0 : decide (x5_2 < (l0_3.length : Int)) = true := decide_eq_true c32
       clear c32
       by_cases c33 : 0 ≤ x5_2
       ·rw [if_pos c33] at H
        have c33b0 : decide (0 ≤ x5_2) = true := decide_eq_true c33
        clear c33
        by_cases c34 : x5_2 < (l1_3.length : Int)
        ·rw [if_pos c34] at H
         have c34b0 : decide (x5_2 < (l1_3.length : Int)) = true := decide_eq_true c34
         clear c34
         by_cases c35 : (rdOf ByteArray.empty l0_3 x5_2).toList = (rdOf ByteArray.empty l1_3 x5_2).toList
         ·rw [if_pos c35] at H
          have c35b0 : ((rdOf ByteArray.empty l0_3 x5_2).toList == (rdOf ByteArray.empty l1_3 x5_2).toList) = true := beq_iff_eq.mpr c35
          have c35b1 : ((rdOf ByteArray.empty l0_3 x5_2).toList != (rdOf ByteArray.empty l1_3 x5_2).toList) = false := bne_eq_false_iff_eq.mpr c35
          clear c35
          have H' := Aside0.mk H
          clear H
          have hnb36 := NB225_226.out
          have hnc36 := NB226_225.out
          have hcz37_0 : wr.cell? ⟨gb225, 0, none⟩ = some (.int .u8 a0_0) := (blk_cell BK225.out 0).trans rfl
          have hcz37_1 : wr.cell? ⟨gb225, 1, none⟩ = some (.bool a0_1) := (blk_cell BK225.out 1).trans rfl
          have hcz37_2 : wr.cell? ⟨gb225, 2, none⟩ = some (.slice A0_2 l0_2.length c0_2) := (blk_cell BK225.out 2).trans rfl
          have hcz37_3 : wr.cell? ⟨gb225, 3, none⟩ = some (.slice A0_3 l0_3.length c0_3) := (blk_cell BK225.out 3).trans rfl
          have hcz37_4 : wr.cell? ⟨gb225, 4, none⟩ = some (.slice A0_4 l0_4.length c0_4) := (blk_cell BK225.out 4).trans rfl
          have hfz37_0 := blk_frozen BK225.out 0
          have hfz37_1 := blk_frozen BK225.out 1
          have hfz37_2 := blk_frozen BK225.out 2
          have hfz37_3 := blk_frozen BK225.out 3
          have hfz37_4 := blk_frozen BK225.out 4
          try go_wp2
          have n0_ := Aside0.mk (blk_drew BK225.out)
          have n1_ := Aside0.mk (blk_drew BK226.out)
          have n2_ := Aside0.mk (below_drew1 HB.out)
          clear BK225
          clear BK226
          clear HB
          have BK225 := n0_
          have BK226 := n1_
          have HB := n2_
          clear n0_ n1_ n2_
          have p227 : 0 ≤ (x5_2 : Int) := of_decide_eq_true (by first | (with_reducible assumption) | assumption)
          have q227 : x5_2 < (l0_3.length : Int) := of_decide_eq_true (by first | (with_reducible assumption) | assumption)
          obtain ⟨ad227, e227, hx227_0⟩ := Kd.at_string HR0_3.out x5_2 p227 q227
          have hw227_0 := hx227_0
          cases e227
          replace hx227_0 := (HB.out.cell (World.block_lt_of_cell? w _ hx227_0)).trans hx227_0
          replace p227 := eq_true p227
          replace q227 := eq_true q227
          have p228 : 0 ≤ (x5_2 : Int) := of_decide_eq_true (by first | (with_reducible assumption) | assumption)
          have q228 : x5_2 < (l1_3.length : Int) := of_decide_eq_true (by first | (with_reducible assumption) | assumption)
          obtain ⟨ad228, e228, hx228_0⟩ := Kd.at_string HR1_3.out x5_2 p228 q228
          have hw228_0 := hx228_0
          cases e228
          replace hx228_0 := (HB.out.cell (World.block_lt_of_cell? w _ hx228_0)).trans hx228_0
          replace p228 := eq_true p228
          replace q228 := eq_true q228
          refine start_ (n := 11) (S := fun w' => w'.cell? ⟨gb225, 0, none⟩ = some (.int .u8 a0_0) ∧ w'.cell? ⟨gb225, 1, none⟩ = some (.bool a0_1) ∧ w'.cell? ⟨gb225, 2, none⟩ = some (.slice A0_2 l0_2.length c0_2) ∧ w'.cell? ⟨gb225, 3, none⟩ = some (.slice (some ad227) l0_3.length c0_3) ∧ w'.cell? ⟨gb225, 4, none⟩ = some (.slice A0_4 l0_4.length c0_4) ∧ w'.cell? ⟨gb226, 0, none⟩ = some (.int .u8 a1_0) ∧ w'.cell? ⟨gb226, 1, none⟩ = some (.bool a1_1) ∧ w'.cell? ⟨gb226, 2, none⟩ = some (.slice A1_2 l1_2.length c1_2) ∧ w'.cell? ⟨gb226, 3, none⟩ = some (.slice (some ad228) l1_3.length c1_3) ∧ w'.cell? ⟨gb226, 4, none⟩ = some (.slice A1_4 l1_4.length c1_4) ∧ w'.cell? (ad227.add (x5_2).toNat) = some (.string (rdOf ByteArray.empty l0_3 x5_2)) ∧ w'.cell? (ad228.add (x5_2).toNat) = some (.string (rdOf ByteArray.empty l1_3 x5_2))) (ds := []) #[false, false, false, false, false, false, false, false, false, false, false] (by kernel_rfl) rfl rfl ⟨(blk_cell BK225.out 0).trans rfl, (blk_cell BK225.out 1).trans rfl, (blk_cell BK225.out 2).trans rfl, (blk_cell BK225.out 3).trans rfl, (blk_cell BK225.out 4).trans rfl, (blk_cell BK226.out 0).trans rfl, (blk_cell BK226.out 1).trans rfl, (blk_cell BK226.out 2).trans rfl, (blk_cell BK226.out 3).trans rfl, (blk_cell BK226.out 4).trans rfl, ((HB.out.cell (World.block_lt_of_cell? w _ hw227_0)).trans hw227_0), ((HB.out.cell (World.block_lt_of_cell? w _ hw228_0)).trans hw228_0)⟩ (fun hHeld => ?_); refine with_tabW r03_Same.tab6 r03_Same.bits6 (fun HT_ HW_ => ?_)
          generalize wr.drew = w38 at BK225 BK226 HB hx227_0 hx228_0 hHeld ⊢
          refine pure_ (i := 0) (N := some 53) (v := ?_) (a' := ?_) #[true, false, false, false, false, false, false, false, false, false, false] rfl rfl (any_of HT_.out (by kernel_rfl)) (fun _ _ _ h => h) (Or.inl ⟨by rfl, ?_⟩) ?_ ?_
          rotate_left
          ·intro w'
           go_simp
           with_reducible rfl
          rotate_left
          ·simp only [Act.put, List.setIfInBounds_toArray, List.set_cons_zero, List.set_cons_succ, i64_w, i32_w]
           rfl
          refine pure_ (i := 2) (N := some 55) (v := ?_) (a' := ?_) #[true, false, true, false, false, false, false, false, false, false, false] rfl rfl (any_of HT_.out (by kernel_rfl)) (fun _ _ _ h => h) (Or.inl ⟨by rfl, ?_⟩) ?_ ?_
          rotate_left
          ·intro w'
           go_simp
           with_reducible rfl
          rotate_left
          ·simp only [Act.put, List.setIfInBounds_toArray, List.set_cons_zero, List.set_cons_succ, i64_w, i32_w]
           rfl
          refine pure_ (i := 5) (N := some 58) (v := ?_) (a' := ?_) #[true, false, true, false, false, true, false, false, false, false, false] rfl rfl (any_of HT_.out (by kernel_rfl)) (fun _ _ _ h => h) (Or.inl ⟨by rfl, ?_⟩) ?_ ?_
          rotate_left
          ·intro w'
           go_simp
           with_reducible rfl
          rotate_left
          ·simp only [Act.put, List.setIfInBounds_toArray, List.set_cons_zero, List.set_cons_succ, i64_w, i32_w]
           rfl
          refine pure_ (i := 7) (N := some 60) (v := ?_) (a' := ?_) #[true, false, true, false, false, true, false, true, false, false, false] rfl rfl (any_of HT_.out (by kernel_rfl)) (fun _ _ _ h => h) (Or.inl ⟨by rfl, ?_⟩) ?_ ?_
          rotate_left
          ·intro w'
           go_simp
           with_reducible rfl
          rotate_left
          ·simp only [Act.put, List.setIfInBounds_toArray, List.set_cons_zero, List.set_cons_succ, i64_w, i32_w]
           rfl
          refine take_ (i := 1) (N := some 54) (v := ?_) (a' := ?_) #[true, true, true, false, false, true, false, true, false, false, false] rfl rfl (take_ofW HT_.out HW_.out (by kernel_rfl)) (fun _ _ _ h => h) (Or.inl ⟨by rfl, ?_⟩) hHeld ?_ ?_
          rotate_left
          ·rintro w' ⟨s0, s1, s2, s3, s4, s5, s6, s7, s8, s9, s10, s11⟩
           go_simp
           with_reducible rfl
          rotate_left
          ·simp only [Act.put, List.setIfInBounds_toArray, List.set_cons_zero, List.set_cons_succ, i64_w, i32_w]
           rfl
          refine pure_ (i := 3) (N := some 56) (v := ?_) (a' := ?_) #[true, true, true, true, false, true, false, true, false, false, false] rfl rfl (any_of HT_.out (by kernel_rfl)) (fun _ _ _ h => h) (Or.inl ⟨by rfl, ?_⟩) ?_ ?_
          rotate_left
          ·intro w'
           go_simp
           with_reducible rfl
          rotate_left
          ·simp only [Act.put, List.setIfInBounds_toArray, List.set_cons_zero, List.set_cons_succ, i64_w, i32_w]
           rfl
          refine take_ (i := 4) (N := some 57) (v := ?_) (a' := ?_) #[true, true, true, true, true, true, false, true, false, false, false] rfl rfl (take_ofW HT_.out HW_.out (by kernel_rfl)) (fun _ _ _ h => h) (Or.inl ⟨by rfl, ?_⟩) hHeld ?_ ?_
          rotate_left
          ·rintro w' ⟨s0, s1, s2, s3, s4, s5, s6, s7, s8, s9, s10, s11⟩
           go_simp
           with_reducible rfl
          rotate_left
          ·simp only [Act.put, List.setIfInBounds_toArray, List.set_cons_zero, List.set_cons_succ, i64_w, i32_w]
           rfl
          refine take_ (i := 6) (N := some 59) (v := ?_) (a' := ?_) #[true, true, true, true, true, true, true, true, false, false, false] rfl rfl (take_ofW HT_.out HW_.out (by kernel_rfl)) (fun _ _ _ h => h) (Or.inl ⟨by rfl, ?_⟩) hHeld ?_ ?_
          rotate_left
          ·rintro w' ⟨s0, s1, s2, s3, s4, s5, s6, s7, s8, s9, s10, s11⟩
           go_simp
           with_reducible rfl
          rotate_left
          ·simp only [Act.put, List.setIfInBounds_toArray, List.set_cons_zero, List.set_cons_succ, i64_w, i32_w]
           rfl
          refine pure_ (i := 8) (N := some 61) (v := ?_) (a' := ?_) #[true, true, true, true, true, true, true, true, true, false, false] rfl rfl (any_of HT_.out (by kernel_rfl)) (fun _ _ _ h => h) (Or.inl ⟨by rfl, ?_⟩) ?_ ?_
          rotate_left
          ·intro w'
           go_simp
           with_reducible rfl
          rotate_left
          ·simp only [Act.put, List.setIfInBounds_toArray, List.set_cons_zero, List.set_cons_succ, i64_w, i32_w]
           rfl
          refine take_ (i := 9) (N := some 62) (v := ?_) (a' := ?_) #[true, true, true, true, true, true, true, true, true, true, false] rfl rfl (take_ofW HT_.out HW_.out (by kernel_rfl)) (fun _ _ _ h => h) (Or.inl ⟨by rfl, ?_⟩) hHeld ?_ ?_
          rotate_left
          ·rintro w' ⟨s0, s1, s2, s3, s4, s5, s6, s7, s8, s9, s10, s11⟩
           go_simp
           with_reducible rfl
          rotate_left
          ·simp only [Act.put, List.setIfInBounds_toArray, List.set_cons_zero, List.set_cons_succ, i64_w, i32_w]
           rfl
          refine pure_ (i := 10) (N := some 63) (v := ?_) (a' := ?_) #[true, true, true, true, true, true, true, true, true, true, true] rfl rfl (any_of HT_.out (by kernel_rfl)) (fun _ _ _ h => h) (Or.inl ⟨by rfl, ?_⟩) ?_ ?_
          rotate_left
          ·intro w'
           go_simp
           with_reducible rfl
          rotate_left
          ·simp only [Act.put, List.setIfInBounds_toArray, List.set_cons_zero, List.set_cons_succ, i64_w, i32_w]
           rfl
          refine done_ (done_of HT_.out (by kernel_rfl)) ?_
          try go_wp2
          go_roundg k2
          case measure => have := HJ2.out; have := HK2.out; omega
          case rel => exact ⟨(wrap64 (x5_2 + 1)), (by first | rfl | (simp; done) | (simp [*]; done)), H', ⟨by have := HJ2.out; have := HK2.out; omega⟩, ⟨by (with_reducible repeat (first | refine blk_drewN ?_ _ | refine blk_drew ?_ | refine blk_alloc ?_ _)); exact BK225.out⟩, ⟨by (with_reducible repeat (first | refine blk_drewN ?_ _ | refine blk_drew ?_ | refine blk_alloc ?_ _)); exact BK226.out⟩, ⟨by repeat (first | (with_reducible first | exact HB.out | apply below_alloc | apply pw_below_drewN | apply below_drew1 | refine below_set ?_ GE225.out | refine below_set ?_ GE226.out) | exact HB.out)⟩⟩
         ·rw [if_neg c35] at H
          have c35b0 : ((rdOf ByteArray.empty l0_3 x5_2).toList == (rdOf ByteArray.empty l1_3 x5_2).toList) = false := beq_eq_false_iff_ne.mpr c35
          have c35b1 : ((rdOf ByteArray.empty l0_3 x5_2).toList != (rdOf ByteArray.empty l1_3 x5_2).toList) = true := bne_iff_ne.mpr c35
          obtain rfl := Option.some.inj H
          have hnb39 := NB225_226.out
          have hnc39 := NB226_225.out
          have hcz40_0 : wr.cell? ⟨gb225, 0, none⟩ = some (.int .u8 a0_0) := (blk_cell BK225.out 0).trans rfl
          have hcz40_1 : wr.cell? ⟨gb225, 1, none⟩ = some (.bool a0_1) := (blk_cell BK225.out 1).trans rfl
          have hcz40_2 : wr.cell? ⟨gb225, 2, none⟩ = some (.slice A0_2 l0_2.length c0_2) := (blk_cell BK225.out 2).trans rfl
          have hcz40_3 : wr.cell? ⟨gb225, 3, none⟩ = some (.slice A0_3 l0_3.length c0_3) := (blk_cell BK225.out 3).trans rfl
          have hcz40_4 : wr.cell? ⟨gb225, 4, none⟩ = some (.slice A0_4 l0_4.length c0_4) := (blk_cell BK225.out 4).trans rfl
          have hfz40_0 := blk_frozen BK225.out 0
          have hfz40_1 := blk_frozen BK225.out 1
          have hfz40_2 := blk_frozen BK225.out 2
          have hfz40_3 := blk_frozen BK225.out 3
          have hfz40_4 := blk_frozen BK225.out 4
          try go_wp2
          have n0_ := Aside0.mk (blk_drew BK225.out)
          have n1_ := Aside0.mk (blk_drew BK226.out)
          have n2_ := Aside0.mk (below_drew1 HB.out)
          clear BK225
          clear BK226
          clear HB
          have BK225 := n0_
          have BK226 := n1_
          have HB := n2_
          clear n0_ n1_ n2_
          have p227 : 0 ≤ (x5_2 : Int) := of_decide_eq_true (by first | (with_reducible assumption) | assumption)
          have q227 : x5_2 < (l0_3.length : Int) := of_decide_eq_true (by first | (with_reducible assumption) | assumption)
          obtain ⟨ad227, e227, hx227_0⟩ := Kd.at_string HR0_3.out x5_2 p227 q227
          have hw227_0 := hx227_0
          cases e227
          replace hx227_0 := (HB.out.cell (World.block_lt_of_cell? w _ hx227_0)).trans hx227_0
          replace p227 := eq_true p227
          replace q227 := eq_true q227
          have p228 : 0 ≤ (x5_2 : Int) := of_decide_eq_true (by first | (with_reducible assumption) | assumption)
          have q228 : x5_2 < (l1_3.length : Int) := of_decide_eq_true (by first | (with_reducible assumption) | assumption)
          obtain ⟨ad228, e228, hx228_0⟩ := Kd.at_string HR1_3.out x5_2 p228 q228
          have hw228_0 := hx228_0
          cases e228
          replace hx228_0 := (HB.out.cell (World.block_lt_of_cell? w _ hx228_0)).trans hx228_0
          replace p228 := eq_true p228
          replace q228 := eq_true q228
          refine start_ (n := 11) (S := fun w' => w'.cell? ⟨gb225, 0, none⟩ = some (.int .u8 a0_0) ∧ w'.cell? ⟨gb225, 1, none⟩ = some (.bool a0_1) ∧ w'.cell? ⟨gb225, 2, none⟩ = some (.slice A0_2 l0_2.length c0_2) ∧ w'.cell? ⟨gb225, 3, none⟩ = some (.slice (some ad227) l0_3.length c0_3) ∧ w'.cell? ⟨gb225, 4, none⟩ = some (.slice A0_4 l0_4.length c0_4) ∧ w'.cell? ⟨gb226, 0, none⟩ = some (.int .u8 a1_0) ∧ w'.cell? ⟨gb226, 1, none⟩ = some (.bool a1_1) ∧ w'.cell? ⟨gb226, 2, none⟩ = some (.slice A1_2 l1_2.length c1_2) ∧ w'.cell? ⟨gb226, 3, none⟩ = some (.slice (some ad228) l1_3.length c1_3) ∧ w'.cell? ⟨gb226, 4, none⟩ = some (.slice A1_4 l1_4.length c1_4) ∧ w'.cell? (ad227.add (x5_2).toNat) = some (.string (rdOf ByteArray.empty l0_3 x5_2)) ∧ w'.cell? (ad228.add (x5_2).toNat) = some (.string (rdOf ByteArray.empty l1_3 x5_2))) (ds := []) #[false, false, false, false, false, false, false, false, false, false, false] (by kernel_rfl) rfl rfl ⟨(blk_cell BK225.out 0).trans rfl, (blk_cell BK225.out 1).trans rfl, (blk_cell BK225.out 2).trans rfl, (blk_cell BK225.out 3).trans rfl, (blk_cell BK225.out 4).trans rfl, (blk_cell BK226.out 0).trans rfl, (blk_cell BK226.out 1).trans rfl, (blk_cell BK226.out 2).trans rfl, (blk_cell BK226.out 3).trans rfl, (blk_cell BK226.out 4).trans rfl, ((HB.out.cell (World.block_lt_of_cell? w _ hw227_0)).trans hw227_0), ((HB.out.cell (World.block_lt_of_cell? w _ hw228_0)).trans hw228_0)⟩ (fun hHeld => ?_); refine with_tabW r03_Same.tab6 r03_Same.bits6 (fun HT_ HW_ => ?_)
          generalize wr.drew = w41 at BK225 BK226 HB hx227_0 hx228_0 hHeld ⊢
          refine pure_ (i := 0) (N := some 53) (v := ?_) (a' := ?_) #[true, false, false, false, false, false, false, false, false, false, false] rfl rfl (any_of HT_.out (by kernel_rfl)) (fun _ _ _ h => h) (Or.inl ⟨by rfl, ?_⟩) ?_ ?_
          rotate_left
          ·intro w'
           go_simp
           with_reducible rfl
          rotate_left
          ·simp only [Act.put, List.setIfInBounds_toArray, List.set_cons_zero, List.set_cons_succ, i64_w, i32_w]
           rfl
          refine pure_ (i := 2) (N := some 55) (v := ?_) (a' := ?_) #[true, false, true, false, false, false, false, false, false, false, false] rfl rfl (any_of HT_.out (by kernel_rfl)) (fun _ _ _ h => h) (Or.inl ⟨by rfl, ?_⟩) ?_ ?_
          rotate_left
          ·intro w'
           go_simp
           with_reducible rfl
          rotate_left
          ·simp only [Act.put, List.setIfInBounds_toArray, List.set_cons_zero, List.set_cons_succ, i64_w, i32_w]
           rfl
          refine pure_ (i := 5) (N := some 58) (v := ?_) (a' := ?_) #[true, false, true, false, false, true, false, false, false, false, false] rfl rfl (any_of HT_.out (by kernel_rfl)) (fun _ _ _ h => h) (Or.inl ⟨by rfl, ?_⟩) ?_ ?_
          rotate_left
          ·intro w'
           go_simp
           with_reducible rfl
          rotate_left
          ·simp only [Act.put, List.setIfInBounds_toArray, List.set_cons_zero, List.set_cons_succ, i64_w, i32_w]
           rfl
          refine pure_ (i := 7) (N := some 60) (v := ?_) (a' := ?_) #[true, false, true, false, false, true, false, true, false, false, false] rfl rfl (any_of HT_.out (by kernel_rfl)) (fun _ _ _ h => h) (Or.inl ⟨by rfl, ?_⟩) ?_ ?_
          rotate_left
          ·intro w'
           go_simp
           with_reducible rfl
          rotate_left
          ·simp only [Act.put, List.setIfInBounds_toArray, List.set_cons_zero, List.set_cons_succ, i64_w, i32_w]
           rfl
          refine take_ (i := 1) (N := some 54) (v := ?_) (a' := ?_) #[true, true, true, false, false, true, false, true, false, false, false] rfl rfl (take_ofW HT_.out HW_.out (by kernel_rfl)) (fun _ _ _ h => h) (Or.inl ⟨by rfl, ?_⟩) hHeld ?_ ?_
          rotate_left
          ·rintro w' ⟨s0, s1, s2, s3, s4, s5, s6, s7, s8, s9, s10, s11⟩
           go_simp
           with_reducible rfl
          rotate_left
          ·simp only [Act.put, List.setIfInBounds_toArray, List.set_cons_zero, List.set_cons_succ, i64_w, i32_w]
           rfl
          refine pure_ (i := 3) (N := some 56) (v := ?_) (a' := ?_) #[true, true, true, true, false, true, false, true, false, false, false] rfl rfl (any_of HT_.out (by kernel_rfl)) (fun _ _ _ h => h) (Or.inl ⟨by rfl, ?_⟩) ?_ ?_
          rotate_left
          ·intro w'
           go_simp
           with_reducible rfl
          rotate_left
          ·simp only [Act.put, List.setIfInBounds_toArray, List.set_cons_zero, List.set_cons_succ, i64_w, i32_w]
           rfl
          refine take_ (i := 4) (N := some 57) (v := ?_) (a' := ?_) #[true, true, true, true, true, true, false, true, false, false, false] rfl rfl (take_ofW HT_.out HW_.out (by kernel_rfl)) (fun _ _ _ h => h) (Or.inl ⟨by rfl, ?_⟩) hHeld ?_ ?_
          rotate_left
          ·rintro w' ⟨s0, s1, s2, s3, s4, s5, s6, s7, s8, s9, s10, s11⟩
           go_simp
           with_reducible rfl
          rotate_left
          ·simp only [Act.put, List.setIfInBounds_toArray, List.set_cons_zero, List.set_cons_succ, i64_w, i32_w]
           rfl
          refine take_ (i := 6) (N := some 59) (v := ?_) (a' := ?_) #[true, true, true, true, true, true, true, true, false, false, false] rfl rfl (take_ofW HT_.out HW_.out (by kernel_rfl)) (fun _ _ _ h => h) (Or.inl ⟨by rfl, ?_⟩) hHeld ?_ ?_
          rotate_left
          ·rintro w' ⟨s0, s1, s2, s3, s4, s5, s6, s7, s8, s9, s10, s11⟩
           go_simp
           with_reducible rfl
          rotate_left
          ·simp only [Act.put, List.setIfInBounds_toArray, List.set_cons_zero, List.set_cons_succ, i64_w, i32_w]
           rfl
          refine pure_ (i := 8) (N := some 61) (v := ?_) (a' := ?_) #[true, true, true, true, true, true, true, true, true, false, false] rfl rfl (any_of HT_.out (by kernel_rfl)) (fun _ _ _ h => h) (Or.inl ⟨by rfl, ?_⟩) ?_ ?_
          rotate_left
          ·intro w'
           go_simp
           with_reducible rfl
          rotate_left
          ·simp only [Act.put, List.setIfInBounds_toArray, List.set_cons_zero, List.set_cons_succ, i64_w, i32_w]
           rfl
          refine take_ (i := 9) (N := some 62) (v := ?_) (a' := ?_) #[true, true, true, true, true, true, true, true, true, true, false] rfl rfl (take_ofW HT_.out HW_.out (by kernel_rfl)) (fun _ _ _ h => h) (Or.inl ⟨by rfl, ?_⟩) hHeld ?_ ?_
          rotate_left
          ·rintro w' ⟨s0, s1, s2, s3, s4, s5, s6, s7, s8, s9, s10, s11⟩
           go_simp
           with_reducible rfl
          rotate_left
          ·simp only [Act.put, List.setIfInBounds_toArray, List.set_cons_zero, List.set_cons_succ, i64_w, i32_w]
           rfl
          refine pure_ (i := 10) (N := some 63) (v := ?_) (a' := ?_) #[true, true, true, true, true, true, true, true, true, true, true] rfl rfl (any_of HT_.out (by kernel_rfl)) (fun _ _ _ h => h) (Or.inl ⟨by rfl, ?_⟩) ?_ ?_
          rotate_left
          ·intro w'
           go_simp
           with_reducible rfl
          rotate_left
          ·simp only [Act.put, List.setIfInBounds_toArray, List.set_cons_zero, List.set_cons_succ, i64_w, i32_w]
           rfl
          refine done_ (done_of HT_.out (by kernel_rfl)) ?_
          try go_wp2
          go_ret
          exact ⟨by first | rfl | (simp [errW_none, errW_some] <;> rfl) | (simp [*, errW_none, errW_some] <;> rfl), by repeat (first | (with_reducible first | exact HB.out | apply below_alloc | apply pw_below_drewN | apply below_drew1 | refine below_set ?_ GE225.out | refine below_set ?_ GE226.out) | exact HB.out)⟩
        ·rw [if_neg c34] at H
         exact absurd H (by simp)
       ·rw [if_neg c33] at H
        exact absurd H (by simp)
      ·rw [if_neg c32] at H
       have c32b0 : decide (x5_2 < (l0_3.length : Int)) = false := decide_eq_false c32
       clear c32
       have H' := Aside0.mk H
       clear H
       have hnb42 := NB225_226.out
       have hnc42 := NB226_225.out
       have hcz43_0 : wr.cell? ⟨gb225, 0, none⟩ = some (.int .u8 a0_0) := (blk_cell BK225.out 0).trans rfl
       have hcz43_1 : wr.cell? ⟨gb225, 1, none⟩ = some (.bool a0_1) := (blk_cell BK225.out 1).trans rfl
       have hcz43_2 : wr.cell? ⟨gb225, 2, none⟩ = some (.slice A0_2 l0_2.length c0_2) := (blk_cell BK225.out 2).trans rfl
       have hcz43_3 : wr.cell? ⟨gb225, 3, none⟩ = some (.slice A0_3 l0_3.length c0_3) := (blk_cell BK225.out 3).trans rfl
       have hcz43_4 : wr.cell? ⟨gb225, 4, none⟩ = some (.slice A0_4 l0_4.length c0_4) := (blk_cell BK225.out 4).trans rfl
       have hfz43_0 := blk_frozen BK225.out 0
       have hfz43_1 := blk_frozen BK225.out 1
       have hfz43_2 := blk_frozen BK225.out 2
       have hfz43_3 := blk_frozen BK225.out 3
       have hfz43_4 := blk_frozen BK225.out 4
       go_wp2
       go_loopg [6] k2 (fun kq v6 w' => ∃ (x6_3 : Int), v6 = .int .i64 x6_3 ∧ Aside0 (r03_Same.l1 kq x6_3 a0_0 a0_1 l0_2 l0_3 l0_4 a1_0 a1_1 l1_2 l1_3 l1_4 = some r) ∧ Aside0 (kq ≤ k2) ∧ Aside0 (w'.heap[gb225]? = some (.cells #[.int .u8 a0_0, .bool a0_1, (.slice A0_2 l0_2.length c0_2), (.slice A0_3 l0_3.length c0_3), (.slice A0_4 l0_4.length c0_4)] 26 (0, 0))) ∧ Aside0 (w'.heap[gb226]? = some (.cells #[.int .u8 a1_0, .bool a1_1, (.slice A1_2 l1_2.length c1_2), (.slice A1_3 l1_3.length c1_3), (.slice A1_4 l1_4.length c1_4)] 26 (0, 0))) ∧ Aside0 (Below w.heap.size w w'))
       case atStart => exact ⟨(0), (by first | rfl | (simp; done) | (simp [*]; done)), H', ⟨Nat.le_refl _⟩, ⟨by (with_reducible repeat (first | refine blk_drewN ?_ _ | refine blk_drew ?_ | refine blk_alloc ?_ _)); exact BK225.out⟩, ⟨by (with_reducible repeat (first | refine blk_drewN ?_ _ | refine blk_drew ?_ | refine blk_alloc ?_ _)); exact BK226.out⟩, ⟨by repeat (first | (with_reducible first | exact HB.out | apply below_alloc | apply pw_below_drewN | apply below_drew1 | refine below_set ?_ GE225.out | refine below_set ?_ GE226.out) | exact HB.out)⟩⟩
       case round =>
        clear H'
        try clear c1
        try clear hcv1
        try clear c2
        try clear p2
        try clear q2
        try clear hx2
        try clear hcv2
        try clear c3
        try clear c4
        try clear c6
        try clear c6b0
        try clear c6b1
        try clear p6
        try clear c7
        try clear c7b0
        try clear c7b1
        try clear c7b2
        try clear c8
        try clear c11
        try clear c11b0
        try clear c11b1
        try clear c12
        try clear c12b0
        try clear c12b1
        try clear c12b2
        try clear c13
        try clear hcv16
        try clear hcv17
        try clear c18
        try clear hcv21
        try clear c22
        try clear p22
        try clear q22
        try clear hx22
        try clear hcv22
        try clear c23
        try clear hcv26
        try clear hcv27
        try clear c28
        try clear c31
        try clear c32
        try clear c32b0
        try clear c33
        try clear c33b0
        try clear c34
        try clear c34b0
        try clear c35
        try clear c35b0
        try clear c35b1
        try clear c36
        try clear c39
        try clear c42
        try clear hcz10_0
        try clear hcz10_1
        try clear hcz10_2
        try clear hcz10_3
        try clear hcz10_4
        try clear hcz14_0
        try clear hcz14_1
        try clear hcz14_2
        try clear hcz14_3
        try clear hcz14_4
        try clear hcz15_0
        try clear hcz15_1
        try clear hcz15_2
        try clear hcz15_3
        try clear hcz15_4
        try clear hcz19_0
        try clear hcz19_1
        try clear hcz19_2
        try clear hcz19_3
        try clear hcz19_4
        try clear hcz20_0
        try clear hcz20_1
        try clear hcz20_2
        try clear hcz20_3
        try clear hcz20_4
        try clear hcz24_0
        try clear hcz24_1
        try clear hcz24_2
        try clear hcz24_3
        try clear hcz24_4
        try clear hcz25_0
        try clear hcz25_1
        try clear hcz25_2
        try clear hcz25_3
        try clear hcz25_4
        try clear hcz29_0
        try clear hcz29_1
        try clear hcz29_2
        try clear hcz29_3
        try clear hcz29_4
        try clear hcz30_0
        try clear hcz30_1
        try clear hcz30_2
        try clear hcz30_3
        try clear hcz30_4
        try clear hcz37_0
        try clear hcz37_1
        try clear hcz37_2
        try clear hcz37_3
        try clear hcz37_4
        try clear hcz40_0
        try clear hcz40_1
        try clear hcz40_2
        try clear hcz40_3
        try clear hcz40_4
        try clear hcz43_0
        try clear hcz43_1
        try clear hcz43_2
        try clear hcz43_3
        try clear hcz43_4
        try clear hcz9_0
        try clear hcz9_1
        try clear hcz9_2
        try clear hcz9_3
        try clear hcz9_4
        try clear hfz10_0
        try clear hfz10_1
        try clear hfz10_2
        try clear hfz10_3
        try clear hfz10_4
        try clear hfz14_0
        try clear hfz14_1
        try clear hfz14_2
        try clear hfz14_3
        try clear hfz14_4
        try clear hfz15_0
        try clear hfz15_1
        try clear hfz15_2
        try clear hfz15_3
        try clear hfz15_4
        try clear hfz19_0
        try clear hfz19_1
        try clear hfz19_2
        try clear hfz19_3
        try clear hfz19_4
        try clear hfz20_0
        try clear hfz20_1
        try clear hfz20_2
        try clear hfz20_3
        try clear hfz20_4
        try clear hfz24_0
        try clear hfz24_1
        try clear hfz24_2
        try clear hfz24_3
        try clear hfz24_4
        try clear hfz25_0
        try clear hfz25_1
        try clear hfz25_2
        try clear hfz25_3
        try clear hfz25_4
        try clear hfz29_0
        try clear hfz29_1
        try clear hfz29_2
        try clear hfz29_3
        try clear hfz29_4
        try clear hfz30_0
        try clear hfz30_1
        try clear hfz30_2
        try clear hfz30_3
        try clear hfz30_4
        try clear hfz37_0
        try clear hfz37_1
        try clear hfz37_2
        try clear hfz37_3
        try clear hfz37_4
        try clear hfz40_0
        try clear hfz40_1
        try clear hfz40_2
        try clear hfz40_3
        try clear hfz40_4
        try clear hfz43_0
        try clear hfz43_1
        try clear hfz43_2
        try clear hfz43_3
        try clear hfz43_4
        try clear hfz9_0
        try clear hfz9_1
        try clear hfz9_2
        try clear hfz9_3
        try clear hfz9_4
        try clear hx227_0
        try clear hx228_0
        try clear p2
        try clear p227
        try clear p228
        try clear q227
        try clear q228
        obtain ⟨x6_3, rfl, HA, HK3, BK225, BK226, HB⟩ := hrel
        cases gk with
        | zero => exact absurd HA.out (by simp [r03_Same.l1])
        | succ k3 =>
         have H := HA.out
         clear HA
         simp only [r03_Same.l1] at H
         by_cases c44 : x6_3 < (l0_4.length : Int)
         ·rw [if_pos c44] at H
          have c44b0 : decide (x6_3 < (l0_4.length : Int)) = true := decide_eq_true c44
          clear c44
          by_cases c45 : 0 ≤ x6_3
          ·rw [if_pos c45] at H
           have c45b0 : decide (0 ≤ x6_3) = true := decide_eq_true c45
           clear c45
           by_cases c46 : x6_3 < (l1_4.length : Int)
           ·rw [if_pos c46] at H
            have c46b0 : decide (x6_3 < (l1_4.length : Int)) = true := decide_eq_true c46
            clear c46
            replace H := Option.bind_eq_some_iff.mp H
            obtain ⟨t231, A470, H⟩ := H
            replace H : (if t231 = true then (r03_Same.l1 k3 (wrap64 (x6_3 + 1)) a0_0 a0_1 l0_2 l0_3 l0_4 a1_0 a1_1 l1_2 l1_3 l1_4) else (some false)) = some r := H
            have A47 := Aside0.mk A470
            clear A470
            by_cases c48 : t231 = true
            ·subst c48
             have H1 : (r03_Same.l1 k3 (wrap64 (x6_3 + 1)) a0_0 a0_1 l0_2 l0_3 l0_4 a1_0 a1_1 l1_2 l1_3 l1_4) = some r := by rw [if_pos rfl] at H; exact H
             clear H
             have H := H1
             clear H1
             have H' := Aside0.mk H
             clear H
             have hnb49 := NB225_226.out
             have hnc49 := NB226_225.out
             have hcz50_0 : wr.cell? ⟨gb225, 0, none⟩ = some (.int .u8 a0_0) := (blk_cell BK225.out 0).trans rfl
             have hcz50_1 : wr.cell? ⟨gb225, 1, none⟩ = some (.bool a0_1) := (blk_cell BK225.out 1).trans rfl
             have hcz50_2 : wr.cell? ⟨gb225, 2, none⟩ = some (.slice A0_2 l0_2.length c0_2) := (blk_cell BK225.out 2).trans rfl
             have hcz50_3 : wr.cell? ⟨gb225, 3, none⟩ = some (.slice A0_3 l0_3.length c0_3) := (blk_cell BK225.out 3).trans rfl
             have hcz50_4 : wr.cell? ⟨gb225, 4, none⟩ = some (.slice A0_4 l0_4.length c0_4) := (blk_cell BK225.out 4).trans rfl
             have hfz50_0 := blk_frozen BK225.out 0
             have hfz50_1 := blk_frozen BK225.out 1
             have hfz50_2 := blk_frozen BK225.out 2
             have hfz50_3 := blk_frozen BK225.out 3
             have hfz50_4 := blk_frozen BK225.out 4
             try go_wp2
             have n0_ := Aside0.mk (blk_drew BK225.out)
             have n1_ := Aside0.mk (blk_drew BK226.out)
             have n2_ := Aside0.mk (below_drew1 HB.out)
             clear BK225
             clear BK226
             clear HB
             have BK225 := n0_
             have BK226 := n1_
             have HB := n2_
             clear n0_ n1_ n2_
             have p229 : 0 ≤ (x6_3 : Int) := of_decide_eq_true (by first | (with_reducible assumption) | assumption)
             have q229 : x6_3 < (l0_4.length : Int) := of_decide_eq_true (by first | (with_reducible assumption) | assumption)
             obtain ⟨ad229, A229_2, c229_2, A229_3, c229_3, A229_4, c229_4, e229, hx229_0, hx229_1, hx229_2, hx229_3, hx229_4, hl229_2, hi229_2, hl229_3, hi229_3, hl229_4, hi229_4⟩ := at_T26 HR0_4.out x6_3 p229 q229
             have hw229_4 := hx229_4
             have hw229_3 := hx229_3
             have hw229_2 := hx229_2
             have hw229_1 := hx229_1
             have hw229_0 := hx229_0
             cases e229
             replace hx229_0 := (HB.out.cell (World.block_lt_of_cell? w _ hx229_0)).trans hx229_0
             replace hx229_1 := (HB.out.cell (World.block_lt_of_cell? w _ hx229_1)).trans hx229_1
             replace hx229_2 := (HB.out.cell (World.block_lt_of_cell? w _ hx229_2)).trans hx229_2
             replace hx229_3 := (HB.out.cell (World.block_lt_of_cell? w _ hx229_3)).trans hx229_3
             replace hx229_4 := (HB.out.cell (World.block_lt_of_cell? w _ hx229_4)).trans hx229_4
             have HR229_2 := Aside0.mk hi229_2
             have HC229_2 := Aside0.mk hl229_2
             clear hi229_2 hl229_2
             have HR229_3 := Aside0.mk hi229_3
             have HC229_3 := Aside0.mk hl229_3
             clear hi229_3 hl229_3
             have HR229_4 := Aside0.mk hi229_4
             have HC229_4 := Aside0.mk hl229_4
             clear hi229_4 hl229_4
             replace p229 := eq_true p229
             replace q229 := eq_true q229
             have p230 : 0 ≤ (x6_3 : Int) := of_decide_eq_true (by first | (with_reducible assumption) | assumption)
             have q230 : x6_3 < (l1_4.length : Int) := of_decide_eq_true (by first | (with_reducible assumption) | assumption)
             obtain ⟨ad230, A230_2, c230_2, A230_3, c230_3, A230_4, c230_4, e230, hx230_0, hx230_1, hx230_2, hx230_3, hx230_4, hl230_2, hi230_2, hl230_3, hi230_3, hl230_4, hi230_4⟩ := at_T26 HR1_4.out x6_3 p230 q230
             have hw230_4 := hx230_4
             have hw230_3 := hx230_3
             have hw230_2 := hx230_2
             have hw230_1 := hx230_1
             have hw230_0 := hx230_0
             cases e230
             replace hx230_0 := (HB.out.cell (World.block_lt_of_cell? w _ hx230_0)).trans hx230_0
             replace hx230_1 := (HB.out.cell (World.block_lt_of_cell? w _ hx230_1)).trans hx230_1
             replace hx230_2 := (HB.out.cell (World.block_lt_of_cell? w _ hx230_2)).trans hx230_2
             replace hx230_3 := (HB.out.cell (World.block_lt_of_cell? w _ hx230_3)).trans hx230_3
             replace hx230_4 := (HB.out.cell (World.block_lt_of_cell? w _ hx230_4)).trans hx230_4
             have HR230_2 := Aside0.mk hi230_2
             have HC230_2 := Aside0.mk hl230_2
             clear hi230_2 hl230_2
             have HR230_3 := Aside0.mk hi230_3
             have HC230_3 := Aside0.mk hl230_3
             clear hi230_3 hl230_3
             have HR230_4 := Aside0.mk hi230_4
             have HC230_4 := Aside0.mk hl230_4
             clear hi230_4 hl230_4
             replace p230 := eq_true p230
             replace q230 := eq_true q230
             refine start_ (n := 12) (S := fun w' => w'.cell? ⟨gb225, 0, none⟩ = some (.int .u8 a0_0) ∧ w'.cell? ⟨gb225, 1, none⟩ = some (.bool a0_1) ∧ w'.cell? ⟨gb225, 2, none⟩ = some (.slice A0_2 l0_2.length c0_2) ∧ w'.cell? ⟨gb225, 3, none⟩ = some (.slice A0_3 l0_3.length c0_3) ∧ w'.cell? ⟨gb225, 4, none⟩ = some (.slice (some ad229) l0_4.length c0_4) ∧ w'.cell? ⟨gb226, 0, none⟩ = some (.int .u8 a1_0) ∧ w'.cell? ⟨gb226, 1, none⟩ = some (.bool a1_1) ∧ w'.cell? ⟨gb226, 2, none⟩ = some (.slice A1_2 l1_2.length c1_2) ∧ w'.cell? ⟨gb226, 3, none⟩ = some (.slice A1_3 l1_3.length c1_3) ∧ w'.cell? ⟨gb226, 4, none⟩ = some (.slice (some ad230) l1_4.length c1_4) ∧ w'.cell? (ad229.add ((x6_3).toNat * 5)) = some (.int .u8 ((rd_T26 l0_4 x6_3).f0)) ∧ w'.cell? ⟨(ad229.add ((x6_3).toNat * 5)).block, (ad229.add ((x6_3).toNat * 5)).off + 1, none⟩ = some (.bool ((rd_T26 l0_4 x6_3).f1)) ∧ w'.cell? ⟨(ad229.add ((x6_3).toNat * 5)).block, (ad229.add ((x6_3).toNat * 5)).off + 2, none⟩ = some (.slice A229_2 ((rd_T26 l0_4 x6_3).f2).length c229_2) ∧ w'.cell? ⟨(ad229.add ((x6_3).toNat * 5)).block, (ad229.add ((x6_3).toNat * 5)).off + 3, none⟩ = some (.slice A229_3 ((rd_T26 l0_4 x6_3).f3).length c229_3) ∧ w'.cell? ⟨(ad229.add ((x6_3).toNat * 5)).block, (ad229.add ((x6_3).toNat * 5)).off + 4, none⟩ = some (.slice A229_4 ((rd_T26 l0_4 x6_3).f4).length c229_4) ∧ w'.cell? (ad230.add ((x6_3).toNat * 5)) = some (.int .u8 ((rd_T26 l1_4 x6_3).f0)) ∧ w'.cell? ⟨(ad230.add ((x6_3).toNat * 5)).block, (ad230.add ((x6_3).toNat * 5)).off + 1, none⟩ = some (.bool ((rd_T26 l1_4 x6_3).f1)) ∧ w'.cell? ⟨(ad230.add ((x6_3).toNat * 5)).block, (ad230.add ((x6_3).toNat * 5)).off + 2, none⟩ = some (.slice A230_2 ((rd_T26 l1_4 x6_3).f2).length c230_2) ∧ w'.cell? ⟨(ad230.add ((x6_3).toNat * 5)).block, (ad230.add ((x6_3).toNat * 5)).off + 3, none⟩ = some (.slice A230_3 ((rd_T26 l1_4 x6_3).f3).length c230_3) ∧ w'.cell? ⟨(ad230.add ((x6_3).toNat * 5)).block, (ad230.add ((x6_3).toNat * 5)).off + 4, none⟩ = some (.slice A230_4 ((rd_T26 l1_4 x6_3).f4).length c230_4)) (ds := []) #[false, false, false, false, false, false, false, false, false, false, false, false] (by kernel_rfl) rfl rfl ⟨(blk_cell BK225.out 0).trans rfl, (blk_cell BK225.out 1).trans rfl, (blk_cell BK225.out 2).trans rfl, (blk_cell BK225.out 3).trans rfl, (blk_cell BK225.out 4).trans rfl, (blk_cell BK226.out 0).trans rfl, (blk_cell BK226.out 1).trans rfl, (blk_cell BK226.out 2).trans rfl, (blk_cell BK226.out 3).trans rfl, (blk_cell BK226.out 4).trans rfl, ((HB.out.cell (World.block_lt_of_cell? w _ hw229_0)).trans hw229_0), ((HB.out.cell (World.block_lt_of_cell? w _ hw229_1)).trans hw229_1), ((HB.out.cell (World.block_lt_of_cell? w _ hw229_2)).trans hw229_2), ((HB.out.cell (World.block_lt_of_cell? w _ hw229_3)).trans hw229_3), ((HB.out.cell (World.block_lt_of_cell? w _ hw229_4)).trans hw229_4), ((HB.out.cell (World.block_lt_of_cell? w _ hw230_0)).trans hw230_0), ((HB.out.cell (World.block_lt_of_cell? w _ hw230_1)).trans hw230_1), ((HB.out.cell (World.block_lt_of_cell? w _ hw230_2)).trans hw230_2), ((HB.out.cell (World.block_lt_of_cell? w _ hw230_3)).trans hw230_3), ((HB.out.cell (World.block_lt_of_cell? w _ hw230_4)).trans hw230_4)⟩ (fun hHeld => ?_); refine with_tabW r03_Same.tab11 r03_Same.bits11 (fun HT_ HW_ => ?_)
             generalize wr.drew = w51 at BK225 BK226 HB HR229_2 HR229_3 HR229_4 HR230_2 HR230_3 HR230_4 hx229_0 hx229_1 hx229_2 hx229_3 hx229_4 hx230_0 hx230_1 hx230_2 hx230_3 hx230_4 hHeld ⊢
             refine pure_ (i := 0) (N := some 71) (v := ?_) (a' := ?_) #[true, false, false, false, false, false, false, false, false, false, false, false] rfl rfl (any_of HT_.out (by kernel_rfl)) (fun _ _ _ h => h) (Or.inl ⟨by rfl, ?_⟩) ?_ ?_
             rotate_left
             ·intro w'
              go_simp
              with_reducible rfl
             rotate_left
             ·simp only [Act.put, List.setIfInBounds_toArray, List.set_cons_zero, List.set_cons_succ, i64_w, i32_w]
              rfl
             refine pure_ (i := 2) (N := some 73) (v := ?_) (a' := ?_) #[true, false, true, false, false, false, false, false, false, false, false, false] rfl rfl (any_of HT_.out (by kernel_rfl)) (fun _ _ _ h => h) (Or.inl ⟨by rfl, ?_⟩) ?_ ?_
             rotate_left
             ·intro w'
              go_simp
              with_reducible rfl
             rotate_left
             ·simp only [Act.put, List.setIfInBounds_toArray, List.set_cons_zero, List.set_cons_succ, i64_w, i32_w]
              rfl
             refine pure_ (i := 5) (N := some 76) (v := ?_) (a' := ?_) #[true, false, true, false, false, true, false, false, false, false, false, false] rfl rfl (any_of HT_.out (by kernel_rfl)) (fun _ _ _ h => h) (Or.inl ⟨by rfl, ?_⟩) ?_ ?_
             rotate_left
             ·intro w'
              go_simp
              with_reducible rfl
             rotate_left
             ·simp only [Act.put, List.setIfInBounds_toArray, List.set_cons_zero, List.set_cons_succ, i64_w, i32_w]
              rfl
             refine pure_ (i := 7) (N := some 78) (v := ?_) (a' := ?_) #[true, false, true, false, false, true, false, true, false, false, false, false] rfl rfl (any_of HT_.out (by kernel_rfl)) (fun _ _ _ h => h) (Or.inl ⟨by rfl, ?_⟩) ?_ ?_
             rotate_left
             ·intro w'
              go_simp
              with_reducible rfl
             rotate_left
             ·simp only [Act.put, List.setIfInBounds_toArray, List.set_cons_zero, List.set_cons_succ, i64_w, i32_w]
              rfl
             refine take_ (i := 1) (N := some 72) (v := ?_) (a' := ?_) #[true, true, true, false, false, true, false, true, false, false, false, false] rfl rfl (take_ofW HT_.out HW_.out (by kernel_rfl)) (fun _ _ _ h => h) (Or.inl ⟨by rfl, ?_⟩) hHeld ?_ ?_
             rotate_left
             ·rintro w' ⟨s0, s1, s2, s3, s4, s5, s6, s7, s8, s9, s10, s11, s12, s13, s14, s15, s16, s17, s18, s19⟩
              go_simp
              with_reducible rfl
             rotate_left
             ·simp only [Act.put, List.setIfInBounds_toArray, List.set_cons_zero, List.set_cons_succ, i64_w, i32_w]
              rfl
             refine pure_ (i := 3) (N := some 74) (v := ?_) (a' := ?_) #[true, true, true, true, false, true, false, true, false, false, false, false] rfl rfl (any_of HT_.out (by kernel_rfl)) (fun _ _ _ h => h) (Or.inl ⟨by rfl, ?_⟩) ?_ ?_
             rotate_left
             ·intro w'
              go_simp
              with_reducible rfl
             rotate_left
             ·simp only [Act.put, List.setIfInBounds_toArray, List.set_cons_zero, List.set_cons_succ, i64_w, i32_w]
              rfl
             refine take_ (i := 4) (N := some 75) (v := ?_) (a' := ?_) #[true, true, true, true, true, true, false, true, false, false, false, false] rfl rfl (take_ofW HT_.out HW_.out (by kernel_rfl)) (fun _ _ _ h => h) (Or.inl ⟨by rfl, ?_⟩) hHeld ?_ ?_
             rotate_left
             ·rintro w' ⟨s0, s1, s2, s3, s4, s5, s6, s7, s8, s9, s10, s11, s12, s13, s14, s15, s16, s17, s18, s19⟩
              go_simp
              with_reducible rfl
             rotate_left
             ·simp only [Act.put, List.setIfInBounds_toArray, List.set_cons_zero, List.set_cons_succ, i64_w, i32_w]
              rfl
             refine take_ (i := 6) (N := some 77) (v := ?_) (a' := ?_) #[true, true, true, true, true, true, true, true, false, false, false, false] rfl rfl (take_ofW HT_.out HW_.out (by kernel_rfl)) (fun _ _ _ h => h) (Or.inl ⟨by rfl, ?_⟩) hHeld ?_ ?_
             rotate_left
             ·rintro w' ⟨s0, s1, s2, s3, s4, s5, s6, s7, s8, s9, s10, s11, s12, s13, s14, s15, s16, s17, s18, s19⟩
              go_simp
              with_reducible rfl
             rotate_left
             ·simp only [Act.put, List.setIfInBounds_toArray, List.set_cons_zero, List.set_cons_succ, i64_w, i32_w]
              rfl
             refine pure_ (i := 8) (N := some 79) (v := ?_) (a' := ?_) #[true, true, true, true, true, true, true, true, true, false, false, false] rfl rfl (any_of HT_.out (by kernel_rfl)) (fun _ _ _ h => h) (Or.inl ⟨by rfl, ?_⟩) ?_ ?_
             rotate_left
             ·intro w'
              go_simp
              with_reducible rfl
             rotate_left
             ·simp only [Act.put, List.setIfInBounds_toArray, List.set_cons_zero, List.set_cons_succ, i64_w, i32_w]
              rfl
             refine take_ (i := 9) (N := some 80) (v := ?_) (a' := ?_) #[true, true, true, true, true, true, true, true, true, true, false, false] rfl rfl (take_ofW HT_.out HW_.out (by kernel_rfl)) (fun _ _ _ h => h) (Or.inl ⟨by rfl, ?_⟩) hHeld ?_ ?_
             rotate_left
             ·rintro w' ⟨s0, s1, s2, s3, s4, s5, s6, s7, s8, s9, s10, s11, s12, s13, s14, s15, s16, s17, s18, s19⟩
              go_simp
              with_reducible rfl
             rotate_left
             ·simp only [Act.put, List.setIfInBounds_toArray, List.set_cons_zero, List.set_cons_succ, i64_w, i32_w]
              rfl
             refine one_ (i := 10) (N := some 81) #[true, true, true, true, true, true, true, true, true, true, true, false] rfl rfl (one_of HT_.out (by kernel_rfl)) (by decide) (fun K hK => ?_)
             refine goes_ Tryd.func22 (by kernel_rfl) rfl #[.agg #[.int .u8 ((rd_T26 l0_4 x6_3).f0), .bool ((rd_T26 l0_4 x6_3).f1), .slice A229_2 ((rd_T26 l0_4 x6_3).f2).length c229_2, .slice A229_3 ((rd_T26 l0_4 x6_3).f3).length c229_3, .slice A229_4 ((rd_T26 l0_4 x6_3).f4).length c229_4], .agg #[.int .u8 ((rd_T26 l1_4 x6_3).f0), .bool ((rd_T26 l1_4 x6_3).f1), .slice A230_2 ((rd_T26 l1_4 x6_3).f2).length c230_2, .slice A230_3 ((rd_T26 l1_4 x6_3).f3).length c230_3, .slice A230_4 ((rd_T26 l1_4 x6_3).f4).length c230_4]] (by rfl) rfl rfl (by (try simp only [List.map_toArray, List.map_cons, List.map_nil]); first | done | rfl | (simp only [List.length_drop, List.length_take]; rfl)) ?_
             with_reducible refine (ih k3 (by have := HJ2.out; have := HK2.out; have := HK3.out; omega) ((rd_T26 l0_4 x6_3).f0) ((rd_T26 l0_4 x6_3).f1) _ _ ((rd_T26 l0_4 x6_3).f2) _ _ ((rd_T26 l0_4 x6_3).f3) _ _ ((rd_T26 l0_4 x6_3).f4) ((rd_T26 l1_4 x6_3).f0) ((rd_T26 l1_4 x6_3).f1) _ _ ((rd_T26 l1_4 x6_3).f2) _ _ ((rd_T26 l1_4 x6_3).f3) _ _ ((rd_T26 l1_4 x6_3).f4) true _ ?side1 ?side2 ?side3 ?side4 ?side5 ?side6 ?side7 ?side8 ?side9 ?side10 ?side11 ?side12 A47.out).mono ?_
             (case side1 => repeat (first | exact (Kd.C_below HR229_2.out HB.out) | (with_reducible refine Kd.C_alloc ?_ _) | (with_reducible refine Kd.C_drewN ?_ _) | (with_reducible refine Kd.C_drew ?_)))
             (case side2 => exact HC229_2.out)
             (case side3 => repeat (first | exact (Kd.C_below HR229_3.out HB.out) | (with_reducible refine Kd.C_alloc ?_ _) | (with_reducible refine Kd.C_drewN ?_ _) | (with_reducible refine Kd.C_drew ?_)))
             (case side4 => exact HC229_3.out)
             (case side5 => repeat (first | exact (Kd.C_below HR229_4.out HB.out) | (with_reducible refine Kd.C_alloc ?_ _) | (with_reducible refine Kd.C_drewN ?_ _) | (with_reducible refine Kd.C_drew ?_)))
             (case side6 => exact HC229_4.out)
             (case side7 => repeat (first | exact (Kd.C_below HR230_2.out HB.out) | (with_reducible refine Kd.C_alloc ?_ _) | (with_reducible refine Kd.C_drewN ?_ _) | (with_reducible refine Kd.C_drew ?_)))
             (case side8 => exact HC230_2.out)
             (case side9 => repeat (first | exact (Kd.C_below HR230_3.out HB.out) | (with_reducible refine Kd.C_alloc ?_ _) | (with_reducible refine Kd.C_drewN ?_ _) | (with_reducible refine Kd.C_drew ?_)))
             (case side10 => exact HC230_3.out)
             (case side11 => repeat (first | exact (Kd.C_below HR230_4.out HB.out) | (with_reducible refine Kd.C_alloc ?_ _) | (with_reducible refine Kd.C_drewN ?_ _) | (with_reducible refine Kd.C_drew ?_)))
             (case side12 => exact HC230_4.out)
             rintro e w52 ⟨rfl, hb⟩
             refine ⟨_, rfl, ?_⟩
             have n0_ := Aside0.mk (blk_below (g := gb225) (o := .cells #[.int .u8 a0_0, .bool a0_1, .slice A0_2 l0_2.length c0_2, .slice A0_3 l0_3.length c0_3, .slice (some ad229) l0_4.length c0_4] 26 (0, 0)) (by (with_reducible repeat (first | refine blk_drewN ?_ _ | refine blk_drew ?_ | refine blk_alloc ?_ _)); exact BK225.out) hb)
             have n1_ := Aside0.mk (blk_below (g := gb226) (o := .cells #[.int .u8 a1_0, .bool a1_1, .slice A1_2 l1_2.length c1_2, .slice A1_3 l1_3.length c1_3, .slice (some ad230) l1_4.length c1_4] 26 (0, 0)) (by (with_reducible repeat (first | refine blk_drewN ?_ _ | refine blk_drew ?_ | refine blk_alloc ?_ _)); exact BK226.out) hb)
             have n2_ := Aside0.mk (below_step (by repeat (first | (with_reducible first | exact HB.out | apply below_alloc | apply pw_below_drewN | apply below_drew1 | refine below_set ?_ GE225.out | refine below_set ?_ GE226.out) | exact HB.out)) hb)
             clear BK225
             clear BK226
             clear HB
             have BK225 := n0_
             have BK226 := n1_
             have HB := n2_
             clear n0_ n1_ n2_
             (try clear hb)
             (try clear hb2)
             (try clear hk)
             (try clear hi)
             refine hK.out _ _ ⟨(blk_cell BK225.out 0).trans rfl, (blk_cell BK225.out 1).trans rfl, (blk_cell BK225.out 2).trans rfl, (blk_cell BK225.out 3).trans rfl, (blk_cell BK225.out 4).trans rfl, (blk_cell BK226.out 0).trans rfl, (blk_cell BK226.out 1).trans rfl, (blk_cell BK226.out 2).trans rfl, (blk_cell BK226.out 3).trans rfl, (blk_cell BK226.out 4).trans rfl, ((HB.out.cell (World.block_lt_of_cell? w _ hw229_0)).trans hw229_0), ((HB.out.cell (World.block_lt_of_cell? w _ hw229_1)).trans hw229_1), ((HB.out.cell (World.block_lt_of_cell? w _ hw229_2)).trans hw229_2), ((HB.out.cell (World.block_lt_of_cell? w _ hw229_3)).trans hw229_3), ((HB.out.cell (World.block_lt_of_cell? w _ hw229_4)).trans hw229_4), ((HB.out.cell (World.block_lt_of_cell? w _ hw230_0)).trans hw230_0), ((HB.out.cell (World.block_lt_of_cell? w _ hw230_1)).trans hw230_1), ((HB.out.cell (World.block_lt_of_cell? w _ hw230_2)).trans hw230_2), ((HB.out.cell (World.block_lt_of_cell? w _ hw230_3)).trans hw230_3), ((HB.out.cell (World.block_lt_of_cell? w _ hw230_4)).trans hw230_4)⟩ (fun hHeld => ?_)
             clear hK K
             refine norm_ (a' := ?_) ?_ ?_
             rotate_left
             ·show Act.put _ (some 81) _ = _
              simp only [Act.put, List.setIfInBounds_toArray, List.set_cons_zero, List.set_cons_succ, i64_w, i32_w]
              rfl
             refine pure_ (i := 11) (N := some 82) (v := ?_) (a' := ?_) #[true, true, true, true, true, true, true, true, true, true, true, true] rfl rfl (any_of HT_.out (by kernel_rfl)) (fun _ _ _ h => h) (Or.inl ⟨by rfl, ?_⟩) ?_ ?_
             rotate_left
             ·intro w'
              go_simp
              with_reducible rfl
             rotate_left
             ·simp only [Act.put, List.setIfInBounds_toArray, List.set_cons_zero, List.set_cons_succ, i64_w, i32_w]
              rfl
             refine done_ (done_of HT_.out (by kernel_rfl)) ?_
             try go_wp2
             go_roundg k3
             case measure => have := HJ2.out; have := HK2.out; have := HK3.out; omega
             case rel => exact ⟨(wrap64 (x6_3 + 1)), (by first | rfl | (simp; done) | (simp [*]; done)), H', ⟨by have := HJ2.out; have := HK2.out; have := HK3.out; omega⟩, ⟨by (with_reducible repeat (first | refine blk_drewN ?_ _ | refine blk_drew ?_ | refine blk_alloc ?_ _)); exact BK225.out⟩, ⟨by (with_reducible repeat (first | refine blk_drewN ?_ _ | refine blk_drew ?_ | refine blk_alloc ?_ _)); exact BK226.out⟩, ⟨by repeat (first | (with_reducible first | exact HB.out | apply below_alloc | apply pw_below_drewN | apply below_drew1 | refine below_set ?_ GE225.out | refine below_set ?_ GE226.out) | exact HB.out)⟩⟩
            ·replace c48 := Bool.eq_false_iff.mpr c48
             subst c48
             have H1 : (some false) = some r := by rw [if_neg (show ¬ (false = true) by decide)] at H; exact H
             clear H
             have H := H1
             clear H1
             obtain rfl := Option.some.inj H
             have hnb53 := NB225_226.out
             have hnc53 := NB226_225.out
             have hcz54_0 : wr.cell? ⟨gb225, 0, none⟩ = some (.int .u8 a0_0) := (blk_cell BK225.out 0).trans rfl
             have hcz54_1 : wr.cell? ⟨gb225, 1, none⟩ = some (.bool a0_1) := (blk_cell BK225.out 1).trans rfl
             have hcz54_2 : wr.cell? ⟨gb225, 2, none⟩ = some (.slice A0_2 l0_2.length c0_2) := (blk_cell BK225.out 2).trans rfl
             have hcz54_3 : wr.cell? ⟨gb225, 3, none⟩ = some (.slice A0_3 l0_3.length c0_3) := (blk_cell BK225.out 3).trans rfl
             have hcz54_4 : wr.cell? ⟨gb225, 4, none⟩ = some (.slice A0_4 l0_4.length c0_4) := (blk_cell BK225.out 4).trans rfl
             have hfz54_0 := blk_frozen BK225.out 0
             have hfz54_1 := blk_frozen BK225.out 1
             have hfz54_2 := blk_frozen BK225.out 2
             have hfz54_3 := blk_frozen BK225.out 3
             have hfz54_4 := blk_frozen BK225.out 4
             try go_wp2
             have n0_ := Aside0.mk (blk_drew BK225.out)
             have n1_ := Aside0.mk (blk_drew BK226.out)
             have n2_ := Aside0.mk (below_drew1 HB.out)
             clear BK225
             clear BK226
             clear HB
             have BK225 := n0_
             have BK226 := n1_
             have HB := n2_
             clear n0_ n1_ n2_
             have p229 : 0 ≤ (x6_3 : Int) := of_decide_eq_true (by first | (with_reducible assumption) | assumption)
             have q229 : x6_3 < (l0_4.length : Int) := of_decide_eq_true (by first | (with_reducible assumption) | assumption)
             obtain ⟨ad229, A229_2, c229_2, A229_3, c229_3, A229_4, c229_4, e229, hx229_0, hx229_1, hx229_2, hx229_3, hx229_4, hl229_2, hi229_2, hl229_3, hi229_3, hl229_4, hi229_4⟩ := at_T26 HR0_4.out x6_3 p229 q229
             have hw229_4 := hx229_4
             have hw229_3 := hx229_3
             have hw229_2 := hx229_2
             have hw229_1 := hx229_1
             have hw229_0 := hx229_0
             cases e229
             replace hx229_0 := (HB.out.cell (World.block_lt_of_cell? w _ hx229_0)).trans hx229_0
             replace hx229_1 := (HB.out.cell (World.block_lt_of_cell? w _ hx229_1)).trans hx229_1
             replace hx229_2 := (HB.out.cell (World.block_lt_of_cell? w _ hx229_2)).trans hx229_2
             replace hx229_3 := (HB.out.cell (World.block_lt_of_cell? w _ hx229_3)).trans hx229_3
             replace hx229_4 := (HB.out.cell (World.block_lt_of_cell? w _ hx229_4)).trans hx229_4
             have HR229_2 := Aside0.mk hi229_2
             have HC229_2 := Aside0.mk hl229_2
             clear hi229_2 hl229_2
             have HR229_3 := Aside0.mk hi229_3
             have HC229_3 := Aside0.mk hl229_3
             clear hi229_3 hl229_3
             have HR229_4 := Aside0.mk hi229_4
             have HC229_4 := Aside0.mk hl229_4
             clear hi229_4 hl229_4
             replace p229 := eq_true p229
             replace q229 := eq_true q229
             have p230 : 0 ≤ (x6_3 : Int) := of_decide_eq_true (by first | (with_reducible assumption) | assumption)
             have q230 : x6_3 < (l1_4.length : Int) := of_decide_eq_true (by first | (with_reducible assumption) | assumption)
             obtain ⟨ad230, A230_2, c230_2, A230_3, c230_3, A230_4, c230_4, e230, hx230_0, hx230_1, hx230_2, hx230_3, hx230_4, hl230_2, hi230_2, hl230_3, hi230_3, hl230_4, hi230_4⟩ := at_T26 HR1_4.out x6_3 p230 q230
             have hw230_4 := hx230_4
             have hw230_3 := hx230_3
             have hw230_2 := hx230_2
             have hw230_1 := hx230_1
             have hw230_0 := hx230_0
             cases e230
             replace hx230_0 := (HB.out.cell (World.block_lt_of_cell? w _ hx230_0)).trans hx230_0
             replace hx230_1 := (HB.out.cell (World.block_lt_of_cell? w _ hx230_1)).trans hx230_1
             replace hx230_2 := (HB.out.cell (World.block_lt_of_cell? w _ hx230_2)).trans hx230_2
             replace hx230_3 := (HB.out.cell (World.block_lt_of_cell? w _ hx230_3)).trans hx230_3
             replace hx230_4 := (HB.out.cell (World.block_lt_of_cell? w _ hx230_4)).trans hx230_4
             have HR230_2 := Aside0.mk hi230_2
             have HC230_2 := Aside0.mk hl230_2
             clear hi230_2 hl230_2
             have HR230_3 := Aside0.mk hi230_3
             have HC230_3 := Aside0.mk hl230_3
             clear hi230_3 hl230_3
             have HR230_4 := Aside0.mk hi230_4
             have HC230_4 := Aside0.mk hl230_4
             clear hi230_4 hl230_4
             replace p230 := eq_true p230
             replace q230 := eq_true q230
             refine start_ (n := 12) (S := fun w' => w'.cell? ⟨gb225, 0, none⟩ = some (.int .u8 a0_0) ∧ w'.cell? ⟨gb225, 1, none⟩ = some (.bool a0_1) ∧ w'.cell? ⟨gb225, 2, none⟩ = some (.slice A0_2 l0_2.length c0_2) ∧ w'.cell? ⟨gb225, 3, none⟩ = some (.slice A0_3 l0_3.length c0_3) ∧ w'.cell? ⟨gb225, 4, none⟩ = some (.slice (some ad229) l0_4.length c0_4) ∧ w'.cell? ⟨gb226, 0, none⟩ = some (.int .u8 a1_0) ∧ w'.cell? ⟨gb226, 1, none⟩ = some (.bool a1_1) ∧ w'.cell? ⟨gb226, 2, none⟩ = some (.slice A1_2 l1_2.length c1_2) ∧ w'.cell? ⟨gb226, 3, none⟩ = some (.slice A1_3 l1_3.length c1_3) ∧ w'.cell? ⟨gb226, 4, none⟩ = some (.slice (some ad230) l1_4.length c1_4) ∧ w'.cell? (ad229.add ((x6_3).toNat * 5)) = some (.int .u8 ((rd_T26 l0_4 x6_3).f0)) ∧ w'.cell? ⟨(ad229.add ((x6_3).toNat * 5)).block, (ad229.add ((x6_3).toNat * 5)).off + 1, none⟩ = some (.bool ((rd_T26 l0_4 x6_3).f1)) ∧ w'.cell? ⟨(ad229.add ((x6_3).toNat * 5)).block, (ad229.add ((x6_3).toNat * 5)).off + 2, none⟩ = some (.slice A229_2 ((rd_T26 l0_4 x6_3).f2).length c229_2) ∧ w'.cell? ⟨(ad229.add ((x6_3).toNat * 5)).block, (ad229.add ((x6_3).toNat * 5)).off + 3, none⟩ = some (.slice A229_3 ((rd_T26 l0_4 x6_3).f3).length c229_3) ∧ w'.cell? ⟨(ad229.add ((x6_3).toNat * 5)).block, (ad229.add ((x6_3).toNat * 5)).off + 4, none⟩ = some (.slice A229_4 ((rd_T26 l0_4 x6_3).f4).length c229_4) ∧ w'.cell? (ad230.add ((x6_3).toNat * 5)) = some (.int .u8 ((rd_T26 l1_4 x6_3).f0)) ∧ w'.cell? ⟨(ad230.add ((x6_3).toNat * 5)).block, (ad230.add ((x6_3).toNat * 5)).off + 1, none⟩ = some (.bool ((rd_T26 l1_4 x6_3).f1)) ∧ w'.cell? ⟨(ad230.add ((x6_3).toNat * 5)).block, (ad230.add ((x6_3).toNat * 5)).off + 2, none⟩ = some (.slice A230_2 ((rd_T26 l1_4 x6_3).f2).length c230_2) ∧ w'.cell? ⟨(ad230.add ((x6_3).toNat * 5)).block, (ad230.add ((x6_3).toNat * 5)).off + 3, none⟩ = some (.slice A230_3 ((rd_T26 l1_4 x6_3).f3).length c230_3) ∧ w'.cell? ⟨(ad230.add ((x6_3).toNat * 5)).block, (ad230.add ((x6_3).toNat * 5)).off + 4, none⟩ = some (.slice A230_4 ((rd_T26 l1_4 x6_3).f4).length c230_4)) (ds := []) #[false, false, false, false, false, false, false, false, false, false, false, false] (by kernel_rfl) rfl rfl ⟨(blk_cell BK225.out 0).trans rfl, (blk_cell BK225.out 1).trans rfl, (blk_cell BK225.out 2).trans rfl, (blk_cell BK225.out 3).trans rfl, (blk_cell BK225.out 4).trans rfl, (blk_cell BK226.out 0).trans rfl, (blk_cell BK226.out 1).trans rfl, (blk_cell BK226.out 2).trans rfl, (blk_cell BK226.out 3).trans rfl, (blk_cell BK226.out 4).trans rfl, ((HB.out.cell (World.block_lt_of_cell? w _ hw229_0)).trans hw229_0), ((HB.out.cell (World.block_lt_of_cell? w _ hw229_1)).trans hw229_1), ((HB.out.cell (World.block_lt_of_cell? w _ hw229_2)).trans hw229_2), ((HB.out.cell (World.block_lt_of_cell? w _ hw229_3)).trans hw229_3), ((HB.out.cell (World.block_lt_of_cell? w _ hw229_4)).trans hw229_4), ((HB.out.cell (World.block_lt_of_cell? w _ hw230_0)).trans hw230_0), ((HB.out.cell (World.block_lt_of_cell? w _ hw230_1)).trans hw230_1), ((HB.out.cell (World.block_lt_of_cell? w _ hw230_2)).trans hw230_2), ((HB.out.cell (World.block_lt_of_cell? w _ hw230_3)).trans hw230_3), ((HB.out.cell (World.block_lt_of_cell? w _ hw230_4)).trans hw230_4)⟩ (fun hHeld => ?_); refine with_tabW r03_Same.tab11 r03_Same.bits11 (fun HT_ HW_ => ?_)
             generalize wr.drew = w55 at BK225 BK226 HB HR229_2 HR229_3 HR229_4 HR230_2 HR230_3 HR230_4 hx229_0 hx229_1 hx229_2 hx229_3 hx229_4 hx230_0 hx230_1 hx230_2 hx230_3 hx230_4 hHeld ⊢
             refine pure_ (i := 0) (N := some 71) (v := ?_) (a' := ?_) #[true, false, false, false, false, false, false, false, false, false, false, false] rfl rfl (any_of HT_.out (by kernel_rfl)) (fun _ _ _ h => h) (Or.inl ⟨by rfl, ?_⟩) ?_ ?_
             rotate_left
             ·intro w'
              go_simp
              with_reducible rfl
             rotate_left
             ·simp only [Act.put, List.setIfInBounds_toArray, List.set_cons_zero, List.set_cons_succ, i64_w, i32_w]
              rfl
             refine pure_ (i := 2) (N := some 73) (v := ?_) (a' := ?_) #[true, false, true, false, false, false, false, false, false, false, false, false] rfl rfl (any_of HT_.out (by kernel_rfl)) (fun _ _ _ h => h) (Or.inl ⟨by rfl, ?_⟩) ?_ ?_
             rotate_left
             ·intro w'
              go_simp
              with_reducible rfl
             rotate_left
             ·simp only [Act.put, List.setIfInBounds_toArray, List.set_cons_zero, List.set_cons_succ, i64_w, i32_w]
              rfl
             refine pure_ (i := 5) (N := some 76) (v := ?_) (a' := ?_) #[true, false, true, false, false, true, false, false, false, false, false, false] rfl rfl (any_of HT_.out (by kernel_rfl)) (fun _ _ _ h => h) (Or.inl ⟨by rfl, ?_⟩) ?_ ?_
             rotate_left
             ·intro w'
              go_simp
              with_reducible rfl
             rotate_left
             ·simp only [Act.put, List.setIfInBounds_toArray, List.set_cons_zero, List.set_cons_succ, i64_w, i32_w]
              rfl
             refine pure_ (i := 7) (N := some 78) (v := ?_) (a' := ?_) #[true, false, true, false, false, true, false, true, false, false, false, false] rfl rfl (any_of HT_.out (by kernel_rfl)) (fun _ _ _ h => h) (Or.inl ⟨by rfl, ?_⟩) ?_ ?_
             rotate_left
             ·intro w'
              go_simp
              with_reducible rfl
             rotate_left
             ·simp only [Act.put, List.setIfInBounds_toArray, List.set_cons_zero, List.set_cons_succ, i64_w, i32_w]
              rfl
             refine take_ (i := 1) (N := some 72) (v := ?_) (a' := ?_) #[true, true, true, false, false, true, false, true, false, false, false, false] rfl rfl (take_ofW HT_.out HW_.out (by kernel_rfl)) (fun _ _ _ h => h) (Or.inl ⟨by rfl, ?_⟩) hHeld ?_ ?_
             rotate_left
             ·rintro w' ⟨s0, s1, s2, s3, s4, s5, s6, s7, s8, s9, s10, s11, s12, s13, s14, s15, s16, s17, s18, s19⟩
              go_simp
              with_reducible rfl
             rotate_left
             ·simp only [Act.put, List.setIfInBounds_toArray, List.set_cons_zero, List.set_cons_succ, i64_w, i32_w]
              rfl
             refine pure_ (i := 3) (N := some 74) (v := ?_) (a' := ?_) #[true, true, true, true, false, true, false, true, false, false, false, false] rfl rfl (any_of HT_.out (by kernel_rfl)) (fun _ _ _ h => h) (Or.inl ⟨by rfl, ?_⟩) ?_ ?_
             rotate_left
             ·intro w'
              go_simp
              with_reducible rfl
             rotate_left
             ·simp only [Act.put, List.setIfInBounds_toArray, List.set_cons_zero, List.set_cons_succ, i64_w, i32_w]
              rfl
             refine take_ (i := 4) (N := some 75) (v := ?_) (a' := ?_) #[true, true, true, true, true, true, false, true, false, false, false, false] rfl rfl (take_ofW HT_.out HW_.out (by kernel_rfl)) (fun _ _ _ h => h) (Or.inl ⟨by rfl, ?_⟩) hHeld ?_ ?_
             rotate_left
             ·rintro w' ⟨s0, s1, s2, s3, s4, s5, s6, s7, s8, s9, s10, s11, s12, s13, s14, s15, s16, s17, s18, s19⟩
              go_simp
              with_reducible rfl
             rotate_left
             ·simp only [Act.put, List.setIfInBounds_toArray, List.set_cons_zero, List.set_cons_succ, i64_w, i32_w]
              rfl
             refine take_ (i := 6) (N := some 77) (v := ?_) (a' := ?_) #[true, true, true, true, true, true, true, true, false, false, false, false] rfl rfl (take_ofW HT_.out HW_.out (by kernel_rfl)) (fun _ _ _ h => h) (Or.inl ⟨by rfl, ?_⟩) hHeld ?_ ?_
             rotate_left
             ·rintro w' ⟨s0, s1, s2, s3, s4, s5, s6, s7, s8, s9, s10, s11, s12, s13, s14, s15, s16, s17, s18, s19⟩
              go_simp
              with_reducible rfl
             rotate_left
             ·simp only [Act.put, List.setIfInBounds_toArray, List.set_cons_zero, List.set_cons_succ, i64_w, i32_w]
              rfl
             refine pure_ (i := 8) (N := some 79) (v := ?_) (a' := ?_) #[true, true, true, true, true, true, true, true, true, false, false, false] rfl rfl (any_of HT_.out (by kernel_rfl)) (fun _ _ _ h => h) (Or.inl ⟨by rfl, ?_⟩) ?_ ?_
             rotate_left
             ·intro w'
              go_simp
              with_reducible rfl
             rotate_left
             ·simp only [Act.put, List.setIfInBounds_toArray, List.set_cons_zero, List.set_cons_succ, i64_w, i32_w]
              rfl
             refine take_ (i := 9) (N := some 80) (v := ?_) (a' := ?_) #[true, true, true, true, true, true, true, true, true, true, false, false] rfl rfl (take_ofW HT_.out HW_.out (by kernel_rfl)) (fun _ _ _ h => h) (Or.inl ⟨by rfl, ?_⟩) hHeld ?_ ?_
             rotate_left
             ·rintro w' ⟨s0, s1, s2, s3, s4, s5, s6, s7, s8, s9, s10, s11, s12, s13, s14, s15, s16, s17, s18, s19⟩
              go_simp
              with_reducible rfl
             rotate_left
             ·simp only [Act.put, List.setIfInBounds_toArray, List.set_cons_zero, List.set_cons_succ, i64_w, i32_w]
              rfl
             refine one_ (i := 10) (N := some 81) #[true, true, true, true, true, true, true, true, true, true, true, false] rfl rfl (one_of HT_.out (by kernel_rfl)) (by decide) (fun K hK => ?_)
             refine goes_ Tryd.func22 (by kernel_rfl) rfl #[.agg #[.int .u8 ((rd_T26 l0_4 x6_3).f0), .bool ((rd_T26 l0_4 x6_3).f1), .slice A229_2 ((rd_T26 l0_4 x6_3).f2).length c229_2, .slice A229_3 ((rd_T26 l0_4 x6_3).f3).length c229_3, .slice A229_4 ((rd_T26 l0_4 x6_3).f4).length c229_4], .agg #[.int .u8 ((rd_T26 l1_4 x6_3).f0), .bool ((rd_T26 l1_4 x6_3).f1), .slice A230_2 ((rd_T26 l1_4 x6_3).f2).length c230_2, .slice A230_3 ((rd_T26 l1_4 x6_3).f3).length c230_3, .slice A230_4 ((rd_T26 l1_4 x6_3).f4).length c230_4]] (by rfl) rfl rfl (by (try simp only [List.map_toArray, List.map_cons, List.map_nil]); first | done | rfl | (simp only [List.length_drop, List.length_take]; rfl)) ?_
             with_reducible refine (ih k3 (by have := HJ2.out; have := HK2.out; have := HK3.out; omega) ((rd_T26 l0_4 x6_3).f0) ((rd_T26 l0_4 x6_3).f1) _ _ ((rd_T26 l0_4 x6_3).f2) _ _ ((rd_T26 l0_4 x6_3).f3) _ _ ((rd_T26 l0_4 x6_3).f4) ((rd_T26 l1_4 x6_3).f0) ((rd_T26 l1_4 x6_3).f1) _ _ ((rd_T26 l1_4 x6_3).f2) _ _ ((rd_T26 l1_4 x6_3).f3) _ _ ((rd_T26 l1_4 x6_3).f4) false _ ?side1 ?side2 ?side3 ?side4 ?side5 ?side6 ?side7 ?side8 ?side9 ?side10 ?side11 ?side12 A47.out).mono ?_
             (case side1 => repeat (first | exact (Kd.C_below HR229_2.out HB.out) | (with_reducible refine Kd.C_alloc ?_ _) | (with_reducible refine Kd.C_drewN ?_ _) | (with_reducible refine Kd.C_drew ?_)))
             (case side2 => exact HC229_2.out)
             (case side3 => repeat (first | exact (Kd.C_below HR229_3.out HB.out) | (with_reducible refine Kd.C_alloc ?_ _) | (with_reducible refine Kd.C_drewN ?_ _) | (with_reducible refine Kd.C_drew ?_)))
             (case side4 => exact HC229_3.out)
             (case side5 => repeat (first | exact (Kd.C_below HR229_4.out HB.out) | (with_reducible refine Kd.C_alloc ?_ _) | (with_reducible refine Kd.C_drewN ?_ _) | (with_reducible refine Kd.C_drew ?_)))
             (case side6 => exact HC229_4.out)
             (case side7 => repeat (first | exact (Kd.C_below HR230_2.out HB.out) | (with_reducible refine Kd.C_alloc ?_ _) | (with_reducible refine Kd.C_drewN ?_ _) | (with_reducible refine Kd.C_drew ?_)))
             (case side8 => exact HC230_2.out)
             (case side9 => repeat (first | exact (Kd.C_below HR230_3.out HB.out) | (with_reducible refine Kd.C_alloc ?_ _) | (with_reducible refine Kd.C_drewN ?_ _) | (with_reducible refine Kd.C_drew ?_)))
             (case side10 => exact HC230_3.out)
             (case side11 => repeat (first | exact (Kd.C_below HR230_4.out HB.out) | (with_reducible refine Kd.C_alloc ?_ _) | (with_reducible refine Kd.C_drewN ?_ _) | (with_reducible refine Kd.C_drew ?_)))
             (case side12 => exact HC230_4.out)
             rintro e w56 ⟨rfl, hb⟩
             refine ⟨_, rfl, ?_⟩
             have n0_ := Aside0.mk (blk_below (g := gb225) (o := .cells #[.int .u8 a0_0, .bool a0_1, .slice A0_2 l0_2.length c0_2, .slice A0_3 l0_3.length c0_3, .slice (some ad229) l0_4.length c0_4] 26 (0, 0)) (by (with_reducible repeat (first | refine blk_drewN ?_ _ | refine blk_drew ?_ | refine blk_alloc ?_ _)); exact BK225.out) hb)
             have n1_ := Aside0.mk (blk_below (g := gb226) (o := .cells #[.int .u8 a1_0, .bool a1_1, .slice A1_2 l1_2.length c1_2, .slice A1_3 l1_3.length c1_3, .slice (some ad230) l1_4.length c1_4] 26 (0, 0)) (by (with_reducible repeat (first | refine blk_drewN ?_ _ | refine blk_drew ?_ | refine blk_alloc ?_ _)); exact BK226.out) hb)
             have n2_ := Aside0.mk (below_step (by repeat (first | (with_reducible first | exact HB.out | apply below_alloc | apply pw_below_drewN | apply below_drew1 | refine below_set ?_ GE225.out | refine below_set ?_ GE226.out) | exact HB.out)) hb)
             clear BK225
             clear BK226
             clear HB
             have BK225 := n0_
             have BK226 := n1_
             have HB := n2_
             clear n0_ n1_ n2_
             (try clear hb)
             (try clear hb2)
             (try clear hk)
             (try clear hi)
             refine hK.out _ _ ⟨(blk_cell BK225.out 0).trans rfl, (blk_cell BK225.out 1).trans rfl, (blk_cell BK225.out 2).trans rfl, (blk_cell BK225.out 3).trans rfl, (blk_cell BK225.out 4).trans rfl, (blk_cell BK226.out 0).trans rfl, (blk_cell BK226.out 1).trans rfl, (blk_cell BK226.out 2).trans rfl, (blk_cell BK226.out 3).trans rfl, (blk_cell BK226.out 4).trans rfl, ((HB.out.cell (World.block_lt_of_cell? w _ hw229_0)).trans hw229_0), ((HB.out.cell (World.block_lt_of_cell? w _ hw229_1)).trans hw229_1), ((HB.out.cell (World.block_lt_of_cell? w _ hw229_2)).trans hw229_2), ((HB.out.cell (World.block_lt_of_cell? w _ hw229_3)).trans hw229_3), ((HB.out.cell (World.block_lt_of_cell? w _ hw229_4)).trans hw229_4), ((HB.out.cell (World.block_lt_of_cell? w _ hw230_0)).trans hw230_0), ((HB.out.cell (World.block_lt_of_cell? w _ hw230_1)).trans hw230_1), ((HB.out.cell (World.block_lt_of_cell? w _ hw230_2)).trans hw230_2), ((HB.out.cell (World.block_lt_of_cell? w _ hw230_3)).trans hw230_3), ((HB.out.cell (World.block_lt_of_cell? w _ hw230_4)).trans hw230_4)⟩ (fun hHeld => ?_)
             clear hK K
             refine norm_ (a' := ?_) ?_ ?_
             rotate_left
             ·show Act.put _ (some 81) _ = _
              simp only [Act.put, List.setIfInBounds_toArray, List.set_cons_zero, List.set_cons_succ, i64_w, i32_w]
              rfl
             refine pure_ (i := 11) (N := some 82) (v := ?_) (a' := ?_) #[true, true, true, true, true, true, true, true, true, true, true, true] rfl rfl (any_of HT_.out (by kernel_rfl)) (fun _ _ _ h => h) (Or.inl ⟨by rfl, ?_⟩) ?_ ?_
             rotate_left
             ·intro w'
              go_simp
              with_reducible rfl
             rotate_left
             ·simp only [Act.put, List.setIfInBounds_toArray, List.set_cons_zero, List.set_cons_succ, i64_w, i32_w]
              rfl
             refine done_ (done_of HT_.out (by kernel_rfl)) ?_
             try go_wp2
             go_ret
             exact ⟨by first | rfl | (simp [errW_none, errW_some] <;> rfl) | (simp [*, errW_none, errW_some] <;> rfl), by repeat (first | (with_reducible first | exact HB.out | apply below_alloc | apply pw_below_drewN | apply below_drew1 | refine below_set ?_ GE225.out | refine below_set ?_ GE226.out) | exact HB.out)⟩
           ·rw [if_neg c46] at H
            exact absurd H (by simp)
          ·rw [if_neg c45] at H
           exact absurd H (by simp)
         ·rw [if_neg c44] at H
          have c44b0 : decide (x6_3 < (l0_4.length : Int)) = false := decide_eq_false c44
          clear c44
          obtain rfl := Option.some.inj H
          have hnb57 := NB225_226.out
          have hnc57 := NB226_225.out
          have hcz58_0 : wr.cell? ⟨gb225, 0, none⟩ = some (.int .u8 a0_0) := (blk_cell BK225.out 0).trans rfl
          have hcz58_1 : wr.cell? ⟨gb225, 1, none⟩ = some (.bool a0_1) := (blk_cell BK225.out 1).trans rfl
          have hcz58_2 : wr.cell? ⟨gb225, 2, none⟩ = some (.slice A0_2 l0_2.length c0_2) := (blk_cell BK225.out 2).trans rfl
          have hcz58_3 : wr.cell? ⟨gb225, 3, none⟩ = some (.slice A0_3 l0_3.length c0_3) := (blk_cell BK225.out 3).trans rfl
          have hcz58_4 : wr.cell? ⟨gb225, 4, none⟩ = some (.slice A0_4 l0_4.length c0_4) := (blk_cell BK225.out 4).trans rfl
          have hfz58_0 := blk_frozen BK225.out 0
          have hfz58_1 := blk_frozen BK225.out 1
          have hfz58_2 := blk_frozen BK225.out 2
          have hfz58_3 := blk_frozen BK225.out 3
          have hfz58_4 := blk_frozen BK225.out 4
          go_wp2
          go_ret
          exact ⟨by first | rfl | (simp [errW_none, errW_some] <;> rfl) | (simp [*, errW_none, errW_some] <;> rfl), by repeat (first | (with_reducible first | exact HB.out | apply below_alloc | apply pw_below_drewN | apply below_drew1 | refine below_set ?_ GE225.out | refine below_set ?_ GE226.out) | exact HB.out)⟩

end Go.Proofs.YtmhlmbmenoihnaaDoor.G
