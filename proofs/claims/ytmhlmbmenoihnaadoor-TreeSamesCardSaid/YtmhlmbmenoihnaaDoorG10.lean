-- PRINTED by print.py (a twelfth state) out of the translation. Not trusted: Lean checks it.
import Derived.Test.YtmhlmbmenoihnaaDoorG0
import Derived.Test.YtmhlmbmenoihnaaDoorG2
import Derived.Test.YtmhlmbmenoihnaaDoorG4
import Derived.Test.YtmhlmbmenoihnaaDoorG7
import Derived.Test.YtmhlmbmenoihnaaDoorG8
import Derived.Test.YtmhlmbmenoihnaaDoorG9
namespace Go.Proofs.YtmhlmbmenoihnaaDoor.G
open Go.RowKit Go.Proofs.YtmhlmbmenoihnaaDoorW.PrintWords Go.Proofs.YtmhlmbmenoihnaaDoorW.PrintLast Go.Proofs.YtmhlmbmenoihnaaDoorW.PrintMore
attribute [local go_sem] max2_int min2_int max_two min_two max_three min_three max_four min_four   -- for this text's walks alone
set_option linter.unusedVariables false
set_option linter.unusedSimpArgs false

/-! ### w03_TreeSames: function 9 -/
mutual
def w03_TreeSames.j0 : Nat → Bool → Int → Bool → List Int → List ByteArray → List (S26) → Int → Bool → List Int → List ByteArray → List (S26) → Option (Bool)
 | 0, _, _, _, _, _, _, _, _, _, _, _ => none
 | k + 1, x11, x235000, x235001, x235002, x235003, x235004, x236000, x236001, x236002, x236003, x236004 => if x11 = true then ((w03_awake.f k).bind fun t238 => (some t238)) else ((w03_awake.f k).bind fun t239 => (if t239 = true then ((tree_Same.f x235000 x235001 x235002 x235003 x235004 x236000 x236001 x236002 x236003 x236004).bind fun t240 => ((r03_Same.f k x235000 x235001 x235002 x235003 x235004 x236000 x236001 x236002 x236003 x236004).bind fun t241 => (w03_TreeSames.j1 k (t240 != t241) x235000 x235001 x235002 x235003 x235004))) else (w03_TreeSames.j1 k true x235000 x235001 x235002 x235003 x235004)))
def w03_TreeSames.j1 : Nat → Bool → Int → Bool → List Int → List ByteArray → List (S26) → Option (Bool)
 | 0, _, _, _, _, _, _ => none
 | k + 1, x23, x235000, x235001, x235002, x235003, x235004 => if x23 = true then (some false) else ((tree_Copy.f k x235000 x235001 x235002 x235003 x235004).bind fun bt242 => ((r03_Same.f k bt242.1 bt242.2.1 bt242.2.2.1 bt242.2.2.2.1 bt242.2.2.2.2 x235000 x235001 x235002 x235003 x235004).bind fun t254 => (if t254 = true then ((tree_Same.f x235000 x235001 x235002 x235003 x235004 bt242.1 bt242.2.1 bt242.2.2.1 bt242.2.2.2.1 bt242.2.2.2.2).bind fun t255 => (some t255)) else (some false))))
end
def w03_TreeSames.f (k : Nat) (a0_0 : Int) (a0_1 : Bool) (l0_2 : List Int) (l0_3 : List ByteArray) (l0_4 : List (S26)) (a1_0 : Int) (a1_1 : Bool) (l1_2 : List Int) (l1_3 : List ByteArray) (l1_4 : List (S26)) : Option (Bool) := (r03_Great.f k a0_0 a0_1 l0_2 l0_3 l0_4 1000).bind fun t236 => (if t236 = true then (w03_TreeSames.j0 k true a0_0 a0_1 l0_2 l0_3 l0_4 a1_0 a1_1 l1_2 l1_3 l1_4) else ((r03_Great.f k a1_0 a1_1 l1_2 l1_3 l1_4 1000).bind fun t237 => (w03_TreeSames.j0 k t237 a0_0 a0_1 l0_2 l0_3 l0_4 a1_0 a1_1 l1_2 l1_3 l1_4)))
theorem w03_TreeSames.mono_l : ∀ k, (∀ y0 y1 y2 y3 y4 y5 y6 y7 y8 y9 y10, LeO (w03_TreeSames.j0 k y0 y1 y2 y3 y4 y5 y6 y7 y8 y9 y10) (w03_TreeSames.j0 (k + 1) y0 y1 y2 y3 y4 y5 y6 y7 y8 y9 y10)) ∧ (∀ y0 y1 y2 y3 y4 y5, LeO (w03_TreeSames.j1 k y0 y1 y2 y3 y4 y5) (w03_TreeSames.j1 (k + 1) y0 y1 y2 y3 y4 y5))
 | 0 => ⟨fun _ _ _ _ _ _ _ _ _ _ _ r h => by simp [w03_TreeSames.j0] at h, fun _ _ _ _ _ _ r h => by simp [w03_TreeSames.j1] at h⟩
 | k + 1 => by
  obtain ⟨ih0, ih1⟩ := w03_TreeSames.mono_l k
  refine ⟨?_, ?_⟩
  ·intro y0 y1 y2 y3 y4 y5 y6 y7 y8 y9 y10
   unfold w03_TreeSames.j0
   repeat' first
   | (with_reducible exact ih0 _ _ _ _ _ _ _ _ _ _ _)
   | (with_reducible exact ih1 _ _ _ _ _ _)
   | (with_reducible exact r03_Great.mono _ _ _ _ _ _ _)
   | (with_reducible exact r03_Same.mono _ _ _ _ _ _ _ _ _ _ _)
   | (with_reducible exact tree_Copy.mono _ _ _ _ _ _)
   | (with_reducible exact w03_awake.mono _)
   | (with_reducible exact LeO.refl _)
   | (with_reducible exact LeO.none _)
   | (with_reducible refine LeO.ite ?_ ?_)
   | (with_reducible refine LeO.bind ?_ (fun _ => ?_))
   | exact ih0 _ _ _ _ _ _ _ _ _ _ _
   | exact ih1 _ _ _ _ _ _
   | exact r03_Great.mono _ _ _ _ _ _ _
   | exact r03_Same.mono _ _ _ _ _ _ _ _ _ _ _
   | exact tree_Copy.mono _ _ _ _ _ _
   | exact w03_awake.mono _
   | exact LeO.none _
   | refine LeO.ite ?_ ?_
   | refine LeO.bind ?_ (fun _ => ?_)
  ·intro y0 y1 y2 y3 y4 y5
   unfold w03_TreeSames.j1
   repeat' first
   | (with_reducible exact ih0 _ _ _ _ _ _ _ _ _ _ _)
   | (with_reducible exact ih1 _ _ _ _ _ _)
   | (with_reducible exact r03_Great.mono _ _ _ _ _ _ _)
   | (with_reducible exact r03_Same.mono _ _ _ _ _ _ _ _ _ _ _)
   | (with_reducible exact tree_Copy.mono _ _ _ _ _ _)
   | (with_reducible exact w03_awake.mono _)
   | (with_reducible exact LeO.refl _)
   | (with_reducible exact LeO.none _)
   | (with_reducible refine LeO.ite ?_ ?_)
   | (with_reducible refine LeO.bind ?_ (fun _ => ?_))
   | exact ih0 _ _ _ _ _ _ _ _ _ _ _
   | exact ih1 _ _ _ _ _ _
   | exact r03_Great.mono _ _ _ _ _ _ _
   | exact r03_Same.mono _ _ _ _ _ _ _ _ _ _ _
   | exact tree_Copy.mono _ _ _ _ _ _
   | exact w03_awake.mono _
   | exact LeO.none _
   | refine LeO.ite ?_ ?_
   | refine LeO.bind ?_ (fun _ => ?_)
theorem w03_TreeSames.mono : ∀ a0 a1 a2 a3 a4 a5 a6 a7 a8 a9 k, LeO (w03_TreeSames.f k a0 a1 a2 a3 a4 a5 a6 a7 a8 a9) (w03_TreeSames.f (k + 1) a0 a1 a2 a3 a4 a5 a6 a7 a8 a9) := by
 intro a0 a1 a2 a3 a4 a5 a6 a7 a8 a9 k
 obtain ⟨ih0, ih1⟩ := w03_TreeSames.mono_l k
 unfold w03_TreeSames.f
 repeat' first
   | (with_reducible exact ih0 _ _ _ _ _ _ _ _ _ _ _)
   | (with_reducible exact ih1 _ _ _ _ _ _)
   | (with_reducible exact r03_Great.mono _ _ _ _ _ _ _)
   | (with_reducible exact r03_Same.mono _ _ _ _ _ _ _ _ _ _ _)
   | (with_reducible exact tree_Copy.mono _ _ _ _ _ _)
   | (with_reducible exact w03_awake.mono _)
   | (with_reducible exact LeO.refl _)
   | (with_reducible exact LeO.none _)
   | (with_reducible refine LeO.ite ?_ ?_)
   | (with_reducible refine LeO.bind ?_ (fun _ => ?_))
   | exact ih0 _ _ _ _ _ _ _ _ _ _ _
   | exact ih1 _ _ _ _ _ _
   | exact r03_Great.mono _ _ _ _ _ _ _
   | exact r03_Same.mono _ _ _ _ _ _ _ _ _ _ _
   | exact tree_Copy.mono _ _ _ _ _ _
   | exact w03_awake.mono _
   | exact LeO.none _
   | refine LeO.ite ?_ ?_
   | refine LeO.bind ?_ (fun _ => ?_)
def w03_TreeSames.T3 : Bool × List (List Nat × List Nat) := (true, [([], []), ([0], [0]), ([1, 0], [1]), ([2], [2]), ([2], [2]), ([3, 4, 2, 2], [2, 3, 4]), ([2], [2]), ([2], [2]), ([6, 7, 5, 2], [2, 6, 7]), ([5, 8, 2], [2, 5, 8]), ([2, 9], [2, 9])])
def w03_TreeSames.B3 : List Nat := [0, 1, 3, 7, 7, 31, 7, 7, 255, 511, 1023]
theorem w03_TreeSames.tab3 : rtab .any (opsOf Tryd.f9 3) = w03_TreeSames.T3 := by kernel_rfl
theorem w03_TreeSames.bits3 : waitsOk w03_TreeSames.T3.2 w03_TreeSames.B3 = true := by kernel_rfl
set_option maxHeartbeats 8000000 in
set_option maxRecDepth 100000 in
theorem w03_TreeSames.calls (k : Nat) (a0_0 : Int) (a0_1 : Bool) (A0_2 : Option Addr) (c0_2 : Nat) (l0_2 : List Int) (A0_3 : Option Addr) (c0_3 : Nat) (l0_3 : List ByteArray) (A0_4 : Option Addr) (c0_4 : Nat) (l0_4 : List (S26)) (a1_0 : Int) (a1_1 : Bool) (A1_2 : Option Addr) (c1_2 : Nat) (l1_2 : List Int) (A1_3 : Option Addr) (c1_3 : Nat) (l1_3 : List ByteArray) (A1_4 : Option Addr) (c1_4 : Nat) (l1_4 : List (S26)) (r : Bool) (w : World) (hr0_2 : Kd.C (Kd.int .u8) w A0_2 l0_2.length l0_2) (hc0_2 : l0_2.length ≤ c0_2) (hr0_3 : Kd.C Kd.string w A0_3 l0_3.length l0_3) (hc0_3 : l0_3.length ≤ c0_3) (hr0_4 : Kd.C k26 w A0_4 l0_4.length l0_4) (hc0_4 : l0_4.length ≤ c0_4) (hr1_2 : Kd.C (Kd.int .u8) w A1_2 l1_2.length l1_2) (hc1_2 : l1_2.length ≤ c1_2) (hr1_3 : Kd.C Kd.string w A1_3 l1_3.length l1_3) (hc1_3 : l1_3.length ≤ c1_3) (hr1_4 : Kd.C k26 w A1_4 l1_4.length l1_4) (hc1_4 : l1_4.length ≤ c1_4) (h : w03_TreeSames.f k a0_0 a0_1 l0_2 l0_3 l0_4 a1_0 a1_1 l1_2 l1_3 l1_4 = some r) :
  Calls Tryd.prog 9 #[.agg #[.int .u8 a0_0, .bool a0_1, .slice A0_2 l0_2.length c0_2, .slice A0_3 l0_3.length c0_3, .slice A0_4 l0_4.length c0_4], .agg #[.int .u8 a1_0, .bool a1_1, .slice A1_2 l1_2.length c1_2, .slice A1_3 l1_3.length c1_3, .slice A1_4 l1_4.length c1_4]] w fun e w' => e = .returned (.bool r) ∧ Below w.heap.size w w' := by
 have hu26 := Tryd.underlying26
 have HR0_2 := Aside0.mk hr0_2
 have HC0_2 := Aside0.mk hc0_2
 clear hr0_2 hc0_2
 have HR0_3 := Aside0.mk hr0_3
 have HC0_3 := Aside0.mk hc0_3
 clear hr0_3 hc0_3
 have HR0_4 := Aside0.mk hr0_4
 have HC0_4 := Aside0.mk hc0_4
 clear hr0_4 hc0_4
 have HR1_2 := Aside0.mk hr1_2
 have HC1_2 := Aside0.mk hc1_2
 clear hr1_2 hc1_2
 have HR1_3 := Aside0.mk hr1_3
 have HC1_3 := Aside0.mk hc1_3
 clear hr1_3 hc1_3
 have HR1_4 := Aside0.mk hr1_4
 have HC1_4 := Aside0.mk hc1_4
 clear hr1_4 hc1_4
 have HB := Aside0.mk (Below.refl w.heap.size w)
 have H : ((r03_Great.f k a0_0 a0_1 l0_2 l0_3 l0_4 1000).bind fun t236 => (if t236 = true then (w03_TreeSames.j0 k true a0_0 a0_1 l0_2 l0_3 l0_4 a1_0 a1_1 l1_2 l1_3 l1_4) else ((r03_Great.f k a1_0 a1_1 l1_2 l1_3 l1_4 1000).bind fun t237 => (w03_TreeSames.j0 k t237 a0_0 a0_1 l0_2 l0_3 l0_4 a1_0 a1_1 l1_2 l1_3 l1_4)))) = some r := h
 clear h
 have HC3 := Aside0.mk H
 clear H
 go_enter Tryd.func9, Tryd.ntmps9
 go_upto_region 1 with (first | ((with_reducible refine gate_dst (N := 2) rfl ?_); refine box_event ?hg (N := 2) ?hd (cs := #[.int .u8 a0_0, .bool a0_1, .slice A0_2 l0_2.length c0_2, .slice A0_3 l0_3.length c0_3, .slice A0_4 l0_4.length c0_4]) (t := 26) ?hr ?_; (case hd => rfl); (case hg => rfl); (case hr => first | (go_simp; done) | (go_simp; rfl)); intro gb234 hg w4 hbox hb; have n0_ := Aside0.mk (below_step (by repeat (first | (with_reducible first | exact HB.out | apply below_alloc | apply pw_below_drewN | apply below_drew1) | exact HB.out)) hb); have n1_ := Aside0.mk (hbox); have n2_ := Aside0.mk ((by rw [hg]; exact (below_size (by repeat (first | (with_reducible first | exact HB.out | apply below_alloc | apply pw_below_drewN | apply below_drew1) | exact HB.out))) : w.heap.size ≤ gb234)); have n3_ := Aside0.mk ((by rw [hg]; exact (below_size (by repeat (first | (with_reducible first | exact HB.out | apply below_alloc | apply pw_below_drewN | apply below_drew1) | exact HB.out))) : w.heap.size ≤ gb234)); clear HB; have HB := n0_; have BK234 := n1_; have GW234 := n2_; have GE234 := n3_; clear n0_ n1_ n2_ n3_; clear hb hbox hg) | ((with_reducible refine gate_dst (N := 3) rfl ?_); refine box_event ?hg (N := 3) ?hd (cs := #[.int .u8 a1_0, .bool a1_1, .slice A1_2 l1_2.length c1_2, .slice A1_3 l1_3.length c1_3, .slice A1_4 l1_4.length c1_4]) (t := 26) ?hr ?_; (case hd => rfl); (case hg => rfl); (case hr => first | (go_simp; done) | (go_simp; rfl)); intro gb235 hg w5 hbox hb; have n0_ := Aside0.mk (blk_below (g := gb234) (o := .cells #[.int .u8 a0_0, .bool a0_1, .slice A0_2 l0_2.length c0_2, .slice A0_3 l0_3.length c0_3, .slice A0_4 l0_4.length c0_4] 26 (0, 0)) (by (with_reducible repeat (first | refine blk_drewN ?_ _ | refine blk_drew ?_ | refine blk_alloc ?_ _)); exact BK234.out) hb); have n1_ := Aside0.mk (below_step (by repeat (first | (with_reducible first | exact HB.out | apply below_alloc | apply pw_below_drewN | apply below_drew1 | refine below_set ?_ GE234.out) | exact HB.out)) hb); have n2_ := Aside0.mk (hbox); have n3_ := Aside0.mk ((by rw [hg]; exact (below_size (by repeat (first | (with_reducible first | exact HB.out | apply below_alloc | apply pw_below_drewN | apply below_drew1 | refine below_set ?_ GE234.out) | exact HB.out))) : w.heap.size ≤ gb235)); have n4_ := Aside0.mk ((by rw [hg]; exact (below_size (by repeat (first | (with_reducible first | exact HB.out | apply below_alloc | apply pw_below_drewN | apply below_drew1 | refine below_set ?_ GE234.out) | exact HB.out))) : w.heap.size ≤ gb235)); have n5_ := Aside0.mk ((by rw [hg]; exact Nat.ne_of_lt (blk_lt (g := gb234) (o := .cells #[.int .u8 a0_0, .bool a0_1, .slice A0_2 l0_2.length c0_2, .slice A0_3 l0_3.length c0_3, .slice A0_4 l0_4.length c0_4] 26 (0, 0)) (by (with_reducible repeat (first | refine blk_drewN ?_ _ | refine blk_drew ?_ | refine blk_alloc ?_ _)); exact BK234.out)) : gb234 ≠ gb235)); have n6_ := Aside0.mk ((by rw [hg]; exact Nat.ne_of_gt (blk_lt (g := gb234) (o := .cells #[.int .u8 a0_0, .bool a0_1, .slice A0_2 l0_2.length c0_2, .slice A0_3 l0_3.length c0_3, .slice A0_4 l0_4.length c0_4] 26 (0, 0)) (by (with_reducible repeat (first | refine blk_drewN ?_ _ | refine blk_drew ?_ | refine blk_alloc ?_ _)); exact BK234.out)) : gb235 ≠ gb234)); clear BK234; clear HB; have BK234 := n0_; have HB := n1_; have BK235 := n2_; have GW235 := n3_; have GE235 := n4_; have NB234_235 := n5_; have NB235_234 := n6_; clear n0_ n1_ n2_ n3_ n4_ n5_ n6_; clear hb hbox hg))
 (try simp only [Act.put, List.setIfInBounds_toArray, List.set_cons_zero, List.set_cons_succ])
 go_cut [11] (fun v11 wc => ∃ (kq : Nat) (x11_2 : Bool), v11 = .bool x11_2 ∧ Aside0 (w03_TreeSames.j0 kq x11_2 a0_0 a0_1 l0_2 l0_3 l0_4 a1_0 a1_1 l1_2 l1_3 l1_4 = some r) ∧ Aside0 (kq ≤ k) ∧ Aside0 (wc.heap[gb234]? = some (.cells #[.int .u8 a0_0, .bool a0_1, (.slice A0_2 l0_2.length c0_2), (.slice A0_3 l0_3.length c0_3), (.slice A0_4 l0_4.length c0_4)] 26 (0, 0))) ∧ Aside0 (wc.heap[gb235]? = some (.cells #[.int .u8 a1_0, .bool a1_1, (.slice A1_2 l1_2.length c1_2), (.slice A1_3 l1_3.length c1_3), (.slice A1_4 l1_4.length c1_4)] 26 (0, 0))) ∧ Aside0 (Below w.heap.size w wc))
 case first =>
  have H := HC3.out
  clear HC3
  replace H := Option.bind_eq_some_iff.mp H
  obtain ⟨t236, A60, H⟩ := H
  replace H : (if t236 = true then (w03_TreeSames.j0 k true a0_0 a0_1 l0_2 l0_3 l0_4 a1_0 a1_1 l1_2 l1_3 l1_4) else ((r03_Great.f k a1_0 a1_1 l1_2 l1_3 l1_4 1000).bind fun t237 => (w03_TreeSames.j0 k t237 a0_0 a0_1 l0_2 l0_3 l0_4 a1_0 a1_1 l1_2 l1_3 l1_4))) = some r := H
  have A6 := Aside0.mk A60
  clear A60
  by_cases c7 : t236 = true
  ·subst c7
   have H1 : (w03_TreeSames.j0 k true a0_0 a0_1 l0_2 l0_3 l0_4 a1_0 a1_1 l1_2 l1_3 l1_4) = some r := by rw [if_pos rfl] at H; exact H
   clear H
   have H := H1
   clear H1
   have H' := Aside0.mk H
   clear H
   have hnb8 := NB234_235.out
   have hnc8 := NB235_234.out
   have hcz9_0 : w5.cell? ⟨gb234, 0, none⟩ = some (.int .u8 a0_0) := (blk_cell BK234.out 0).trans rfl
   have hcz9_1 : w5.cell? ⟨gb234, 1, none⟩ = some (.bool a0_1) := (blk_cell BK234.out 1).trans rfl
   have hcz9_2 : w5.cell? ⟨gb234, 2, none⟩ = some (.slice A0_2 l0_2.length c0_2) := (blk_cell BK234.out 2).trans rfl
   have hcz9_3 : w5.cell? ⟨gb234, 3, none⟩ = some (.slice A0_3 l0_3.length c0_3) := (blk_cell BK234.out 3).trans rfl
   have hcz9_4 : w5.cell? ⟨gb234, 4, none⟩ = some (.slice A0_4 l0_4.length c0_4) := (blk_cell BK234.out 4).trans rfl
   have hfz9_0 := blk_frozen BK234.out 0
   have hfz9_1 := blk_frozen BK234.out 1
   have hfz9_2 := blk_frozen BK234.out 2
   have hfz9_3 := blk_frozen BK234.out 3
   have hfz9_4 := blk_frozen BK234.out 4
   go_wp2_with (first | ((with_reducible refine gate_callee (f := 10) rfl ?_); refine goesL_ (some 7) rfl rfl Tryd.func10 (by kernel_rfl) rfl #[.agg #[.int .u8 a0_0, .bool a0_1, .slice A0_2 l0_2.length c0_2, .slice A0_3 l0_3.length c0_3, .slice A0_4 l0_4.length c0_4], .int .i64 1000] rfl (by (try simp only [List.map_toArray, List.map_cons, List.map_nil]); first | done | rfl | (simp only [List.length_drop, List.length_take]; rfl)) ?_; (with_reducible refine (r03_Great.calls k a0_0 a0_1 _ _ l0_2 _ _ l0_3 _ _ l0_4 1000 true _ ?side1 ?side2 ?side3 ?side4 ?side5 ?side6 A6.out).mono ?_); (case side1 => repeat (first | exact (Kd.C_below HR0_2.out HB.out) | (with_reducible refine Kd.C_alloc ?_ _) | (with_reducible refine Kd.C_drewN ?_ _) | (with_reducible refine Kd.C_drew ?_))); (case side2 => exact HC0_2.out); (case side3 => repeat (first | exact (Kd.C_below HR0_3.out HB.out) | (with_reducible refine Kd.C_alloc ?_ _) | (with_reducible refine Kd.C_drewN ?_ _) | (with_reducible refine Kd.C_drew ?_))); (case side4 => exact HC0_3.out); (case side5 => repeat (first | exact (Kd.C_below HR0_4.out HB.out) | (with_reducible refine Kd.C_alloc ?_ _) | (with_reducible refine Kd.C_drewN ?_ _) | (with_reducible refine Kd.C_drew ?_))); (case side6 => exact HC0_4.out); rintro e w10 ⟨rfl, hb⟩; refine ⟨_, rfl, ?_⟩; have n0_ := Aside0.mk (blk_below (g := gb234) (o := .cells #[.int .u8 a0_0, .bool a0_1, .slice A0_2 l0_2.length c0_2, .slice A0_3 l0_3.length c0_3, .slice A0_4 l0_4.length c0_4] 26 (0, 0)) (by (with_reducible repeat (first | refine blk_drewN ?_ _ | refine blk_drew ?_ | refine blk_alloc ?_ _)); exact BK234.out) hb); have n1_ := Aside0.mk (blk_below (g := gb235) (o := .cells #[.int .u8 a1_0, .bool a1_1, .slice A1_2 l1_2.length c1_2, .slice A1_3 l1_3.length c1_3, .slice A1_4 l1_4.length c1_4] 26 (0, 0)) (by (with_reducible repeat (first | refine blk_drewN ?_ _ | refine blk_drew ?_ | refine blk_alloc ?_ _)); exact BK235.out) hb); have n2_ := Aside0.mk (below_step (by repeat (first | (with_reducible first | exact HB.out | apply below_alloc | apply pw_below_drewN | apply below_drew1 | refine below_set ?_ GE234.out | refine below_set ?_ GE235.out) | exact HB.out)) hb); clear BK234; clear BK235; clear HB; have BK234 := n0_; have BK235 := n1_; have HB := n2_; clear n0_ n1_ n2_; (try clear hb); (try clear hb2); (try clear hk); (try clear hi)))
   go_meet
   case rel => exact ⟨_, (true), (by first | rfl | (simp; done) | (simp [*]; done)), H', ⟨by first | omega | exact Nat.le_refl _⟩, ⟨by (with_reducible repeat (first | refine blk_drewN ?_ _ | refine blk_drew ?_ | refine blk_alloc ?_ _)); exact BK234.out⟩, ⟨by (with_reducible repeat (first | refine blk_drewN ?_ _ | refine blk_drew ?_ | refine blk_alloc ?_ _)); exact BK235.out⟩, ⟨by repeat (first | (with_reducible first | exact HB.out | apply below_alloc | apply pw_below_drewN | apply below_drew1 | refine below_set ?_ GE234.out | refine below_set ?_ GE235.out) | exact HB.out)⟩⟩
  ·replace c7 := Bool.eq_false_iff.mpr c7
   subst c7
   have H1 : ((r03_Great.f k a1_0 a1_1 l1_2 l1_3 l1_4 1000).bind fun t237 => (w03_TreeSames.j0 k t237 a0_0 a0_1 l0_2 l0_3 l0_4 a1_0 a1_1 l1_2 l1_3 l1_4)) = some r := by rw [if_neg (show ¬ (false = true) by decide)] at H; exact H
   clear H
   have H := H1
   clear H1
   replace H := Option.bind_eq_some_iff.mp H
   obtain ⟨t237, A110, H⟩ := H
   replace H : (w03_TreeSames.j0 k t237 a0_0 a0_1 l0_2 l0_3 l0_4 a1_0 a1_1 l1_2 l1_3 l1_4) = some r := H
   have A11 := Aside0.mk A110
   clear A110
   have H' := Aside0.mk H
   clear H
   have hnb12 := NB234_235.out
   have hnc12 := NB235_234.out
   have hcz13_0 : w5.cell? ⟨gb234, 0, none⟩ = some (.int .u8 a0_0) := (blk_cell BK234.out 0).trans rfl
   have hcz13_1 : w5.cell? ⟨gb234, 1, none⟩ = some (.bool a0_1) := (blk_cell BK234.out 1).trans rfl
   have hcz13_2 : w5.cell? ⟨gb234, 2, none⟩ = some (.slice A0_2 l0_2.length c0_2) := (blk_cell BK234.out 2).trans rfl
   have hcz13_3 : w5.cell? ⟨gb234, 3, none⟩ = some (.slice A0_3 l0_3.length c0_3) := (blk_cell BK234.out 3).trans rfl
   have hcz13_4 : w5.cell? ⟨gb234, 4, none⟩ = some (.slice A0_4 l0_4.length c0_4) := (blk_cell BK234.out 4).trans rfl
   have hfz13_0 := blk_frozen BK234.out 0
   have hfz13_1 := blk_frozen BK234.out 1
   have hfz13_2 := blk_frozen BK234.out 2
   have hfz13_3 := blk_frozen BK234.out 3
   have hfz13_4 := blk_frozen BK234.out 4
   go_wp2_with (first | ((with_reducible refine gate_callee (f := 10) rfl ?_); refine goesL_ (some 7) rfl rfl Tryd.func10 (by kernel_rfl) rfl #[.agg #[.int .u8 a0_0, .bool a0_1, .slice A0_2 l0_2.length c0_2, .slice A0_3 l0_3.length c0_3, .slice A0_4 l0_4.length c0_4], .int .i64 1000] rfl (by (try simp only [List.map_toArray, List.map_cons, List.map_nil]); first | done | rfl | (simp only [List.length_drop, List.length_take]; rfl)) ?_; (with_reducible refine (r03_Great.calls k a0_0 a0_1 _ _ l0_2 _ _ l0_3 _ _ l0_4 1000 false _ ?side1 ?side2 ?side3 ?side4 ?side5 ?side6 A6.out).mono ?_); (case side1 => repeat (first | exact (Kd.C_below HR0_2.out HB.out) | (with_reducible refine Kd.C_alloc ?_ _) | (with_reducible refine Kd.C_drewN ?_ _) | (with_reducible refine Kd.C_drew ?_))); (case side2 => exact HC0_2.out); (case side3 => repeat (first | exact (Kd.C_below HR0_3.out HB.out) | (with_reducible refine Kd.C_alloc ?_ _) | (with_reducible refine Kd.C_drewN ?_ _) | (with_reducible refine Kd.C_drew ?_))); (case side4 => exact HC0_3.out); (case side5 => repeat (first | exact (Kd.C_below HR0_4.out HB.out) | (with_reducible refine Kd.C_alloc ?_ _) | (with_reducible refine Kd.C_drewN ?_ _) | (with_reducible refine Kd.C_drew ?_))); (case side6 => exact HC0_4.out); rintro e w14 ⟨rfl, hb⟩; refine ⟨_, rfl, ?_⟩; have n0_ := Aside0.mk (blk_below (g := gb234) (o := .cells #[.int .u8 a0_0, .bool a0_1, .slice A0_2 l0_2.length c0_2, .slice A0_3 l0_3.length c0_3, .slice A0_4 l0_4.length c0_4] 26 (0, 0)) (by (with_reducible repeat (first | refine blk_drewN ?_ _ | refine blk_drew ?_ | refine blk_alloc ?_ _)); exact BK234.out) hb); have n1_ := Aside0.mk (blk_below (g := gb235) (o := .cells #[.int .u8 a1_0, .bool a1_1, .slice A1_2 l1_2.length c1_2, .slice A1_3 l1_3.length c1_3, .slice A1_4 l1_4.length c1_4] 26 (0, 0)) (by (with_reducible repeat (first | refine blk_drewN ?_ _ | refine blk_drew ?_ | refine blk_alloc ?_ _)); exact BK235.out) hb); have n2_ := Aside0.mk (below_step (by repeat (first | (with_reducible first | exact HB.out | apply below_alloc | apply pw_below_drewN | apply below_drew1 | refine below_set ?_ GE234.out | refine below_set ?_ GE235.out) | exact HB.out)) hb); clear BK234; clear BK235; clear HB; have BK234 := n0_; have BK235 := n1_; have HB := n2_; clear n0_ n1_ n2_; (try clear hb); (try clear hb2); (try clear hk); (try clear hi); have hcz15_0 : w14.cell? ⟨gb235, 0, none⟩ = some (.int .u8 a1_0) := (blk_cell BK235.out 0).trans rfl; have hcz15_1 : w14.cell? ⟨gb235, 1, none⟩ = some (.bool a1_1) := (blk_cell BK235.out 1).trans rfl; have hcz15_2 : w14.cell? ⟨gb235, 2, none⟩ = some (.slice A1_2 l1_2.length c1_2) := (blk_cell BK235.out 2).trans rfl; have hcz15_3 : w14.cell? ⟨gb235, 3, none⟩ = some (.slice A1_3 l1_3.length c1_3) := (blk_cell BK235.out 3).trans rfl; have hcz15_4 : w14.cell? ⟨gb235, 4, none⟩ = some (.slice A1_4 l1_4.length c1_4) := (blk_cell BK235.out 4).trans rfl; have hfz15_0 := blk_frozen BK235.out 0; have hfz15_1 := blk_frozen BK235.out 1; have hfz15_2 := blk_frozen BK235.out 2; have hfz15_3 := blk_frozen BK235.out 3; have hfz15_4 := blk_frozen BK235.out 4) | (go_at_call 10; (with_reducible refine (r03_Great.calls k a1_0 a1_1 _ _ l1_2 _ _ l1_3 _ _ l1_4 1000 t237 _ ?side1 ?side2 ?side3 ?side4 ?side5 ?side6 A11.out).mono ?_); (case side1 => repeat (first | exact (Kd.C_below HR1_2.out HB.out) | (with_reducible refine Kd.C_alloc ?_ _) | (with_reducible refine Kd.C_drewN ?_ _) | (with_reducible refine Kd.C_drew ?_))); (case side2 => exact HC1_2.out); (case side3 => repeat (first | exact (Kd.C_below HR1_3.out HB.out) | (with_reducible refine Kd.C_alloc ?_ _) | (with_reducible refine Kd.C_drewN ?_ _) | (with_reducible refine Kd.C_drew ?_))); (case side4 => exact HC1_3.out); (case side5 => repeat (first | exact (Kd.C_below HR1_4.out HB.out) | (with_reducible refine Kd.C_alloc ?_ _) | (with_reducible refine Kd.C_drewN ?_ _) | (with_reducible refine Kd.C_drew ?_))); (case side6 => exact HC1_4.out); rintro e w16 ⟨rfl, hb⟩; have n0_ := Aside0.mk (blk_below (g := gb234) (o := .cells #[.int .u8 a0_0, .bool a0_1, .slice A0_2 l0_2.length c0_2, .slice A0_3 l0_3.length c0_3, .slice A0_4 l0_4.length c0_4] 26 (0, 0)) (by (with_reducible repeat (first | refine blk_drewN ?_ _ | refine blk_drew ?_ | refine blk_alloc ?_ _)); exact BK234.out) hb); have n1_ := Aside0.mk (blk_below (g := gb235) (o := .cells #[.int .u8 a1_0, .bool a1_1, .slice A1_2 l1_2.length c1_2, .slice A1_3 l1_3.length c1_3, .slice A1_4 l1_4.length c1_4] 26 (0, 0)) (by (with_reducible repeat (first | refine blk_drewN ?_ _ | refine blk_drew ?_ | refine blk_alloc ?_ _)); exact BK235.out) hb); have n2_ := Aside0.mk (below_step (by repeat (first | (with_reducible first | exact HB.out | apply below_alloc | apply pw_below_drewN | apply below_drew1 | refine below_set ?_ GE234.out | refine below_set ?_ GE235.out) | exact HB.out)) hb); clear BK234; clear BK235; clear HB; have BK234 := n0_; have BK235 := n1_; have HB := n2_; clear n0_ n1_ n2_; (try clear hb); (try clear hb2); (try clear hk); (try clear hi)))
   go_meet
   case rel => exact ⟨_, (t237), (by first | rfl | (simp; done) | (simp [*]; done)), H', ⟨by first | omega | exact Nat.le_refl _⟩, ⟨by (with_reducible repeat (first | refine blk_drewN ?_ _ | refine blk_drew ?_ | refine blk_alloc ?_ _)); exact BK234.out⟩, ⟨by (with_reducible repeat (first | refine blk_drewN ?_ _ | refine blk_drew ?_ | refine blk_alloc ?_ _)); exact BK235.out⟩, ⟨by repeat (first | (with_reducible first | exact HB.out | apply below_alloc | apply pw_below_drewN | apply below_drew1 | refine below_set ?_ GE234.out | refine below_set ?_ GE235.out) | exact HB.out)⟩⟩
 case rest =>
  clear HC3
  try clear c1
  try clear p2
  try clear c7
  try clear c8
  try clear c9
  try clear c10
  try clear c12
  try clear hcz13_0
  try clear hcz13_1
  try clear hcz13_2
  try clear hcz13_3
  try clear hcz13_4
  try clear hcz15_0
  try clear hcz15_1
  try clear hcz15_2
  try clear hcz15_3
  try clear hcz15_4
  try clear hcz9_0
  try clear hcz9_1
  try clear hcz9_2
  try clear hcz9_3
  try clear hcz9_4
  try clear hfz13_0
  try clear hfz13_1
  try clear hfz13_2
  try clear hfz13_3
  try clear hfz13_4
  try clear hfz15_0
  try clear hfz15_1
  try clear hfz15_2
  try clear hfz15_3
  try clear hfz15_4
  try clear hfz9_0
  try clear hfz9_1
  try clear hfz9_2
  try clear hfz9_3
  try clear hfz9_4
  obtain ⟨kq, x11_2, rfl, HA, HJ2, BK234, BK235, HB⟩ := hcut
  cases kq with
  | zero => exact absurd HA.out (by simp [w03_TreeSames.j0])
  | succ kj2 =>
   have H := HA.out
   clear HA
   simp only [w03_TreeSames.j0] at H
   by_cases c17 : x11_2 = true
   ·subst c17
    have H1 : ((w03_awake.f kj2).bind fun t238 => (some t238)) = some r := by rw [if_pos rfl] at H; exact H
    clear H
    have H := H1
    clear H1
    replace H := Option.bind_eq_some_iff.mp H
    obtain ⟨t238, A180, H⟩ := H
    replace H : (some t238) = some r := H
    have A18 := Aside0.mk A180
    clear A180
    obtain rfl := Option.some.inj H
    go_wp2_with (first | ((with_reducible refine gate_callee (f := 11) rfl ?_); refine goesL_ (some 12) rfl rfl Tryd.func11 (by kernel_rfl) rfl #[] rfl (by (try simp only [List.map_toArray, List.map_cons, List.map_nil]); first | done | rfl | (simp only [List.length_drop, List.length_take]; rfl)) ?_; (with_reducible refine (w03_awake.calls kj2  t238 _ A18.out).mono ?_); rintro e w19 ⟨rfl, hb⟩; refine ⟨_, rfl, ?_⟩; have n0_ := Aside0.mk (blk_below (g := gb234) (o := .cells #[.int .u8 a0_0, .bool a0_1, .slice A0_2 l0_2.length c0_2, .slice A0_3 l0_3.length c0_3, .slice A0_4 l0_4.length c0_4] 26 (0, 0)) (by (with_reducible repeat (first | refine blk_drewN ?_ _ | refine blk_drew ?_ | refine blk_alloc ?_ _)); exact BK234.out) hb); have n1_ := Aside0.mk (blk_below (g := gb235) (o := .cells #[.int .u8 a1_0, .bool a1_1, .slice A1_2 l1_2.length c1_2, .slice A1_3 l1_3.length c1_3, .slice A1_4 l1_4.length c1_4] 26 (0, 0)) (by (with_reducible repeat (first | refine blk_drewN ?_ _ | refine blk_drew ?_ | refine blk_alloc ?_ _)); exact BK235.out) hb); have n2_ := Aside0.mk (below_step (by repeat (first | (with_reducible first | exact HB.out | apply below_alloc | apply pw_below_drewN | apply below_drew1 | refine below_set ?_ GE234.out | refine below_set ?_ GE235.out) | exact HB.out)) hb); clear BK234; clear BK235; clear HB; have BK234 := n0_; have BK235 := n1_; have HB := n2_; clear n0_ n1_ n2_; (try clear hb); (try clear hb2); (try clear hk); (try clear hi)))
    go_ret
    exact ⟨by first | rfl | (simp [errW_none, errW_some] <;> rfl) | (simp [*, errW_none, errW_some] <;> rfl), by repeat (first | (with_reducible first | exact HB.out | apply below_alloc | apply pw_below_drewN | apply below_drew1 | refine below_set ?_ GE234.out | refine below_set ?_ GE235.out) | exact HB.out)⟩
   ·replace c17 := Bool.eq_false_iff.mpr c17
    subst c17
    have H1 : ((w03_awake.f kj2).bind fun t239 => (if t239 = true then ((tree_Same.f a0_0 a0_1 l0_2 l0_3 l0_4 a1_0 a1_1 l1_2 l1_3 l1_4).bind fun t240 => ((r03_Same.f kj2 a0_0 a0_1 l0_2 l0_3 l0_4 a1_0 a1_1 l1_2 l1_3 l1_4).bind fun t241 => (w03_TreeSames.j1 kj2 (t240 != t241) a0_0 a0_1 l0_2 l0_3 l0_4))) else (w03_TreeSames.j1 kj2 true a0_0 a0_1 l0_2 l0_3 l0_4))) = some r := by rw [if_neg (show ¬ (false = true) by decide)] at H; exact H
    clear H
    have H := H1
    clear H1
    have HC20 := Aside0.mk H
    clear H
    go_upto_region 3 with (fail)
    go_cut [23] (fun v23 wc => ∃ (kq : Nat) (x23_19 : Bool), v23 = .bool x23_19 ∧ Aside0 (w03_TreeSames.j1 kq x23_19 a0_0 a0_1 l0_2 l0_3 l0_4 = some r) ∧ Aside0 (kq ≤ kj2) ∧ Aside0 (wc.heap[gb234]? = some (.cells #[.int .u8 a0_0, .bool a0_1, (.slice A0_2 l0_2.length c0_2), (.slice A0_3 l0_3.length c0_3), (.slice A0_4 l0_4.length c0_4)] 26 (0, 0))) ∧ Aside0 (wc.heap[gb235]? = some (.cells #[.int .u8 a1_0, .bool a1_1, (.slice A1_2 l1_2.length c1_2), (.slice A1_3 l1_3.length c1_3), (.slice A1_4 l1_4.length c1_4)] 26 (0, 0))) ∧ Aside0 (Below w.heap.size w wc))
    case first =>
     have H := HC20.out
     clear HC20
     replace H := Option.bind_eq_some_iff.mp H
     obtain ⟨t239, A210, H⟩ := H
     replace H : (if t239 = true then ((tree_Same.f a0_0 a0_1 l0_2 l0_3 l0_4 a1_0 a1_1 l1_2 l1_3 l1_4).bind fun t240 => ((r03_Same.f kj2 a0_0 a0_1 l0_2 l0_3 l0_4 a1_0 a1_1 l1_2 l1_3 l1_4).bind fun t241 => (w03_TreeSames.j1 kj2 (t240 != t241) a0_0 a0_1 l0_2 l0_3 l0_4))) else (w03_TreeSames.j1 kj2 true a0_0 a0_1 l0_2 l0_3 l0_4)) = some r := H
     have A21 := Aside0.mk A210
     clear A210
     by_cases c22 : t239 = true
     ·subst c22
      have H1 : ((tree_Same.f a0_0 a0_1 l0_2 l0_3 l0_4 a1_0 a1_1 l1_2 l1_3 l1_4).bind fun t240 => ((r03_Same.f kj2 a0_0 a0_1 l0_2 l0_3 l0_4 a1_0 a1_1 l1_2 l1_3 l1_4).bind fun t241 => (w03_TreeSames.j1 kj2 (t240 != t241) a0_0 a0_1 l0_2 l0_3 l0_4))) = some r := by rw [if_pos rfl] at H; exact H
      clear H
      have H := H1
      clear H1
      replace H := Option.bind_eq_some_iff.mp H
      obtain ⟨t240, A230, H⟩ := H
      replace H : ((r03_Same.f kj2 a0_0 a0_1 l0_2 l0_3 l0_4 a1_0 a1_1 l1_2 l1_3 l1_4).bind fun t241 => (w03_TreeSames.j1 kj2 (t240 != t241) a0_0 a0_1 l0_2 l0_3 l0_4)) = some r := H
      have A23 := Aside0.mk A230
      clear A230
      replace H := Option.bind_eq_some_iff.mp H
      obtain ⟨t241, A240, H⟩ := H
      replace H : (w03_TreeSames.j1 kj2 (t240 != t241) a0_0 a0_1 l0_2 l0_3 l0_4) = some r := H
      have A24 := Aside0.mk A240
      clear A240
      have H' := Aside0.mk H
      clear H
      try go_wp2
      have n0_ := Aside0.mk (blk_drew BK234.out)
      have n1_ := Aside0.mk (blk_drew BK235.out)
      have n2_ := Aside0.mk (below_drew1 HB.out)
      clear BK234
      clear BK235
      clear HB
      have BK234 := n0_
      have BK235 := n1_
      have HB := n2_
      clear n0_ n1_ n2_
      refine start_ (n := 11) (S := fun w' => w'.cell? ⟨gb234, 0, none⟩ = some (.int .u8 a0_0) ∧ w'.cell? ⟨gb234, 1, none⟩ = some (.bool a0_1) ∧ w'.cell? ⟨gb234, 2, none⟩ = some (.slice A0_2 l0_2.length c0_2) ∧ w'.cell? ⟨gb234, 3, none⟩ = some (.slice A0_3 l0_3.length c0_3) ∧ w'.cell? ⟨gb234, 4, none⟩ = some (.slice A0_4 l0_4.length c0_4) ∧ w'.cell? ⟨gb235, 0, none⟩ = some (.int .u8 a1_0) ∧ w'.cell? ⟨gb235, 1, none⟩ = some (.bool a1_1) ∧ w'.cell? ⟨gb235, 2, none⟩ = some (.slice A1_2 l1_2.length c1_2) ∧ w'.cell? ⟨gb235, 3, none⟩ = some (.slice A1_3 l1_3.length c1_3) ∧ w'.cell? ⟨gb235, 4, none⟩ = some (.slice A1_4 l1_4.length c1_4)) (ds := []) #[false, false, false, false, false, false, false, false, false, false, false] (by kernel_rfl) rfl rfl ⟨(blk_cell BK234.out 0).trans rfl, (blk_cell BK234.out 1).trans rfl, (blk_cell BK234.out 2).trans rfl, (blk_cell BK234.out 3).trans rfl, (blk_cell BK234.out 4).trans rfl, (blk_cell BK235.out 0).trans rfl, (blk_cell BK235.out 1).trans rfl, (blk_cell BK235.out 2).trans rfl, (blk_cell BK235.out 3).trans rfl, (blk_cell BK235.out 4).trans rfl⟩ (fun hHeld => ?_); refine with_tabW w03_TreeSames.tab3 w03_TreeSames.bits3 (fun HT_ HW_ => ?_)
      generalize wc.drew = w25 at BK234 BK235 HB hHeld ⊢
      refine one_ (i := 0) (N := some 13) #[true, false, false, false, false, false, false, false, false, false, false] rfl rfl (one_of HT_.out (by kernel_rfl)) (by decide) (fun K hK => ?_)
      refine goes_ Tryd.func11 (by kernel_rfl) rfl #[] (by rfl) rfl rfl (by (try simp only [List.map_toArray, List.map_cons, List.map_nil]); first | done | rfl | (simp only [List.length_drop, List.length_take]; rfl)) ?_
      with_reducible refine (w03_awake.calls kj2  true _ A21.out).mono ?_
      rintro e w26 ⟨rfl, hb⟩
      refine ⟨_, rfl, ?_⟩
      have n0_ := Aside0.mk (blk_below (g := gb234) (o := .cells #[.int .u8 a0_0, .bool a0_1, .slice A0_2 l0_2.length c0_2, .slice A0_3 l0_3.length c0_3, .slice A0_4 l0_4.length c0_4] 26 (0, 0)) (by (with_reducible repeat (first | refine blk_drewN ?_ _ | refine blk_drew ?_ | refine blk_alloc ?_ _)); exact BK234.out) hb)
      have n1_ := Aside0.mk (blk_below (g := gb235) (o := .cells #[.int .u8 a1_0, .bool a1_1, .slice A1_2 l1_2.length c1_2, .slice A1_3 l1_3.length c1_3, .slice A1_4 l1_4.length c1_4] 26 (0, 0)) (by (with_reducible repeat (first | refine blk_drewN ?_ _ | refine blk_drew ?_ | refine blk_alloc ?_ _)); exact BK235.out) hb)
      have n2_ := Aside0.mk (below_step (by repeat (first | (with_reducible first | exact HB.out | apply below_alloc | apply pw_below_drewN | apply below_drew1 | refine below_set ?_ GE234.out | refine below_set ?_ GE235.out) | exact HB.out)) hb)
      clear BK234
      clear BK235
      clear HB
      have BK234 := n0_
      have BK235 := n1_
      have HB := n2_
      clear n0_ n1_ n2_
      (try clear hb)
      (try clear hb2)
      (try clear hk)
      (try clear hi)
      refine hK.out _ _ ⟨(blk_cell BK234.out 0).trans rfl, (blk_cell BK234.out 1).trans rfl, (blk_cell BK234.out 2).trans rfl, (blk_cell BK234.out 3).trans rfl, (blk_cell BK234.out 4).trans rfl, (blk_cell BK235.out 0).trans rfl, (blk_cell BK235.out 1).trans rfl, (blk_cell BK235.out 2).trans rfl, (blk_cell BK235.out 3).trans rfl, (blk_cell BK235.out 4).trans rfl⟩ (fun hHeld => ?_)
      clear hK K
      refine norm_ (a' := ?_) ?_ ?_
      rotate_left
      ·show Act.put _ (some 13) _ = _
       simp only [Act.put, List.setIfInBounds_toArray, List.set_cons_zero, List.set_cons_succ, i64_w, i32_w]
       rfl
      refine pure_ (i := 1) (N := some 14) (v := ?_) (a' := ?_) #[true, true, false, false, false, false, false, false, false, false, false] rfl rfl (any_of HT_.out (by kernel_rfl)) (fun _ _ _ h => h) (Or.inl ⟨by rfl, ?_⟩) ?_ ?_
      rotate_left
      ·intro w'
       go_simp
       with_reducible rfl
      rotate_left
      ·simp only [Act.put, List.setIfInBounds_toArray, List.set_cons_zero, List.set_cons_succ, i64_w, i32_w]
       rfl
      refine pure_ (i := 2) (N := some 15) (v := ?_) (a' := ?_) #[true, true, true, false, false, false, false, false, false, false, false] rfl rfl (any_of HT_.out (by kernel_rfl)) (fun _ _ _ h => h) (Or.inl ⟨by rfl, ?_⟩) ?_ ?_
      rotate_left
      ·intro w'
       go_simp
       with_reducible rfl
      rotate_left
      ·simp only [Act.put, List.setIfInBounds_toArray, List.set_cons_zero, List.set_cons_succ, i64_w, i32_w]
       rfl
      refine take_ (i := 3) (N := some 16) (v := ?_) (a' := ?_) #[true, true, true, true, false, false, false, false, false, false, false] rfl rfl (take_ofW HT_.out HW_.out (by kernel_rfl)) (fun _ _ _ h => h) (Or.inl ⟨by rfl, ?_⟩) hHeld ?_ ?_
      rotate_left
      ·rintro w' ⟨s0, s1, s2, s3, s4, s5, s6, s7, s8, s9⟩
       go_simp
       with_reducible rfl
      rotate_left
      ·simp only [Act.put, List.setIfInBounds_toArray, List.set_cons_zero, List.set_cons_succ, i64_w, i32_w]
       rfl
      refine take_ (i := 4) (N := some 17) (v := ?_) (a' := ?_) #[true, true, true, true, true, false, false, false, false, false, false] rfl rfl (take_ofW HT_.out HW_.out (by kernel_rfl)) (fun _ _ _ h => h) (Or.inl ⟨by rfl, ?_⟩) hHeld ?_ ?_
      rotate_left
      ·rintro w' ⟨s0, s1, s2, s3, s4, s5, s6, s7, s8, s9⟩
       go_simp
       with_reducible rfl
      rotate_left
      ·simp only [Act.put, List.setIfInBounds_toArray, List.set_cons_zero, List.set_cons_succ, i64_w, i32_w]
       rfl
      refine take_ (i := 6) (N := some 19) (v := ?_) (a' := ?_) #[true, true, true, true, true, false, true, false, false, false, false] rfl rfl (take_ofW HT_.out HW_.out (by kernel_rfl)) (fun _ _ _ h => h) (Or.inl ⟨by rfl, ?_⟩) hHeld ?_ ?_
      rotate_left
      ·rintro w' ⟨s0, s1, s2, s3, s4, s5, s6, s7, s8, s9⟩
       go_simp
       with_reducible rfl
      rotate_left
      ·simp only [Act.put, List.setIfInBounds_toArray, List.set_cons_zero, List.set_cons_succ, i64_w, i32_w]
       rfl
      refine take_ (i := 7) (N := some 20) (v := ?_) (a' := ?_) #[true, true, true, true, true, false, true, true, false, false, false] rfl rfl (take_ofW HT_.out HW_.out (by kernel_rfl)) (fun _ _ _ h => h) (Or.inl ⟨by rfl, ?_⟩) hHeld ?_ ?_
      rotate_left
      ·rintro w' ⟨s0, s1, s2, s3, s4, s5, s6, s7, s8, s9⟩
       go_simp
       with_reducible rfl
      rotate_left
      ·simp only [Act.put, List.setIfInBounds_toArray, List.set_cons_zero, List.set_cons_succ, i64_w, i32_w]
       rfl
      refine one_ (i := 5) (N := some 18) #[true, true, true, true, true, true, true, true, false, false, false] rfl rfl (one_of HT_.out (by kernel_rfl)) (by decide) (fun K hK => ?_)
      refine goes_ Tryd.func27 (by kernel_rfl) rfl #[.agg #[.int .u8 a0_0, .bool a0_1, .slice A0_2 l0_2.length c0_2, .slice A0_3 l0_3.length c0_3, .slice A0_4 l0_4.length c0_4], .agg #[.int .u8 a1_0, .bool a1_1, .slice A1_2 l1_2.length c1_2, .slice A1_3 l1_3.length c1_3, .slice A1_4 l1_4.length c1_4]] (by rfl) rfl rfl (by (try simp only [List.map_toArray, List.map_cons, List.map_nil]); first | done | rfl | (simp only [List.length_drop, List.length_take]; rfl)) ?_
      with_reducible refine (tree_Same.calls a0_0 a0_1 _ _ l0_2 _ _ l0_3 _ _ l0_4 a1_0 a1_1 _ _ l1_2 _ _ l1_3 _ _ l1_4 t240 _ ?side1 ?side2 ?side3 ?side4 ?side5 ?side6 ?side7 ?side8 ?side9 ?side10 ?side11 ?side12 A23.out).mono ?_
      (case side1 => repeat (first | exact (Kd.C_below HR0_2.out HB.out) | (with_reducible refine Kd.C_alloc ?_ _) | (with_reducible refine Kd.C_drewN ?_ _) | (with_reducible refine Kd.C_drew ?_)))
      (case side2 => exact HC0_2.out)
      (case side3 => repeat (first | exact (Kd.C_below HR0_3.out HB.out) | (with_reducible refine Kd.C_alloc ?_ _) | (with_reducible refine Kd.C_drewN ?_ _) | (with_reducible refine Kd.C_drew ?_)))
      (case side4 => exact HC0_3.out)
      (case side5 => repeat (first | exact (Kd.C_below HR0_4.out HB.out) | (with_reducible refine Kd.C_alloc ?_ _) | (with_reducible refine Kd.C_drewN ?_ _) | (with_reducible refine Kd.C_drew ?_)))
      (case side6 => exact HC0_4.out)
      (case side7 => repeat (first | exact (Kd.C_below HR1_2.out HB.out) | (with_reducible refine Kd.C_alloc ?_ _) | (with_reducible refine Kd.C_drewN ?_ _) | (with_reducible refine Kd.C_drew ?_)))
      (case side8 => exact HC1_2.out)
      (case side9 => repeat (first | exact (Kd.C_below HR1_3.out HB.out) | (with_reducible refine Kd.C_alloc ?_ _) | (with_reducible refine Kd.C_drewN ?_ _) | (with_reducible refine Kd.C_drew ?_)))
      (case side10 => exact HC1_3.out)
      (case side11 => repeat (first | exact (Kd.C_below HR1_4.out HB.out) | (with_reducible refine Kd.C_alloc ?_ _) | (with_reducible refine Kd.C_drewN ?_ _) | (with_reducible refine Kd.C_drew ?_)))
      (case side12 => exact HC1_4.out)
      rintro e w27 ⟨rfl, hb⟩
      refine ⟨_, rfl, ?_⟩
      have n0_ := Aside0.mk (blk_below (g := gb234) (o := .cells #[.int .u8 a0_0, .bool a0_1, .slice A0_2 l0_2.length c0_2, .slice A0_3 l0_3.length c0_3, .slice A0_4 l0_4.length c0_4] 26 (0, 0)) (by (with_reducible repeat (first | refine blk_drewN ?_ _ | refine blk_drew ?_ | refine blk_alloc ?_ _)); exact BK234.out) hb)
      have n1_ := Aside0.mk (blk_below (g := gb235) (o := .cells #[.int .u8 a1_0, .bool a1_1, .slice A1_2 l1_2.length c1_2, .slice A1_3 l1_3.length c1_3, .slice A1_4 l1_4.length c1_4] 26 (0, 0)) (by (with_reducible repeat (first | refine blk_drewN ?_ _ | refine blk_drew ?_ | refine blk_alloc ?_ _)); exact BK235.out) hb)
      have n2_ := Aside0.mk (below_step (by repeat (first | (with_reducible first | exact HB.out | apply below_alloc | apply pw_below_drewN | apply below_drew1 | refine below_set ?_ GE234.out | refine below_set ?_ GE235.out) | exact HB.out)) hb)
      clear BK234
      clear BK235
      clear HB
      have BK234 := n0_
      have BK235 := n1_
      have HB := n2_
      clear n0_ n1_ n2_
      (try clear hb)
      (try clear hb2)
      (try clear hk)
      (try clear hi)
      refine hK.out _ _ ⟨(blk_cell BK234.out 0).trans rfl, (blk_cell BK234.out 1).trans rfl, (blk_cell BK234.out 2).trans rfl, (blk_cell BK234.out 3).trans rfl, (blk_cell BK234.out 4).trans rfl, (blk_cell BK235.out 0).trans rfl, (blk_cell BK235.out 1).trans rfl, (blk_cell BK235.out 2).trans rfl, (blk_cell BK235.out 3).trans rfl, (blk_cell BK235.out 4).trans rfl⟩ (fun hHeld => ?_)
      clear hK K
      refine norm_ (a' := ?_) ?_ ?_
      rotate_left
      ·show Act.put _ (some 18) _ = _
       simp only [Act.put, List.setIfInBounds_toArray, List.set_cons_zero, List.set_cons_succ, i64_w, i32_w]
       rfl
      refine one_ (i := 8) (N := some 21) #[true, true, true, true, true, true, true, true, true, false, false] rfl rfl (one_of HT_.out (by kernel_rfl)) (by decide) (fun K hK => ?_)
      refine goes_ Tryd.func22 (by kernel_rfl) rfl #[.agg #[.int .u8 a0_0, .bool a0_1, .slice A0_2 l0_2.length c0_2, .slice A0_3 l0_3.length c0_3, .slice A0_4 l0_4.length c0_4], .agg #[.int .u8 a1_0, .bool a1_1, .slice A1_2 l1_2.length c1_2, .slice A1_3 l1_3.length c1_3, .slice A1_4 l1_4.length c1_4]] (by rfl) rfl rfl (by (try simp only [List.map_toArray, List.map_cons, List.map_nil]); first | done | rfl | (simp only [List.length_drop, List.length_take]; rfl)) ?_
      with_reducible refine (r03_Same.calls kj2 a0_0 a0_1 _ _ l0_2 _ _ l0_3 _ _ l0_4 a1_0 a1_1 _ _ l1_2 _ _ l1_3 _ _ l1_4 t241 _ ?side1 ?side2 ?side3 ?side4 ?side5 ?side6 ?side7 ?side8 ?side9 ?side10 ?side11 ?side12 A24.out).mono ?_
      (case side1 => repeat (first | exact (Kd.C_below HR0_2.out HB.out) | (with_reducible refine Kd.C_alloc ?_ _) | (with_reducible refine Kd.C_drewN ?_ _) | (with_reducible refine Kd.C_drew ?_)))
      (case side2 => exact HC0_2.out)
      (case side3 => repeat (first | exact (Kd.C_below HR0_3.out HB.out) | (with_reducible refine Kd.C_alloc ?_ _) | (with_reducible refine Kd.C_drewN ?_ _) | (with_reducible refine Kd.C_drew ?_)))
      (case side4 => exact HC0_3.out)
      (case side5 => repeat (first | exact (Kd.C_below HR0_4.out HB.out) | (with_reducible refine Kd.C_alloc ?_ _) | (with_reducible refine Kd.C_drewN ?_ _) | (with_reducible refine Kd.C_drew ?_)))
      (case side6 => exact HC0_4.out)
      (case side7 => repeat (first | exact (Kd.C_below HR1_2.out HB.out) | (with_reducible refine Kd.C_alloc ?_ _) | (with_reducible refine Kd.C_drewN ?_ _) | (with_reducible refine Kd.C_drew ?_)))
      (case side8 => exact HC1_2.out)
      (case side9 => repeat (first | exact (Kd.C_below HR1_3.out HB.out) | (with_reducible refine Kd.C_alloc ?_ _) | (with_reducible refine Kd.C_drewN ?_ _) | (with_reducible refine Kd.C_drew ?_)))
      (case side10 => exact HC1_3.out)
      (case side11 => repeat (first | exact (Kd.C_below HR1_4.out HB.out) | (with_reducible refine Kd.C_alloc ?_ _) | (with_reducible refine Kd.C_drewN ?_ _) | (with_reducible refine Kd.C_drew ?_)))
      (case side12 => exact HC1_4.out)
      rintro e w28 ⟨rfl, hb⟩
      refine ⟨_, rfl, ?_⟩
      have n0_ := Aside0.mk (blk_below (g := gb234) (o := .cells #[.int .u8 a0_0, .bool a0_1, .slice A0_2 l0_2.length c0_2, .slice A0_3 l0_3.length c0_3, .slice A0_4 l0_4.length c0_4] 26 (0, 0)) (by (with_reducible repeat (first | refine blk_drewN ?_ _ | refine blk_drew ?_ | refine blk_alloc ?_ _)); exact BK234.out) hb)
      have n1_ := Aside0.mk (blk_below (g := gb235) (o := .cells #[.int .u8 a1_0, .bool a1_1, .slice A1_2 l1_2.length c1_2, .slice A1_3 l1_3.length c1_3, .slice A1_4 l1_4.length c1_4] 26 (0, 0)) (by (with_reducible repeat (first | refine blk_drewN ?_ _ | refine blk_drew ?_ | refine blk_alloc ?_ _)); exact BK235.out) hb)
      have n2_ := Aside0.mk (below_step (by repeat (first | (with_reducible first | exact HB.out | apply below_alloc | apply pw_below_drewN | apply below_drew1 | refine below_set ?_ GE234.out | refine below_set ?_ GE235.out) | exact HB.out)) hb)
      clear BK234
      clear BK235
      clear HB
      have BK234 := n0_
      have BK235 := n1_
      have HB := n2_
      clear n0_ n1_ n2_
      (try clear hb)
      (try clear hb2)
      (try clear hk)
      (try clear hi)
      refine hK.out _ _ ⟨(blk_cell BK234.out 0).trans rfl, (blk_cell BK234.out 1).trans rfl, (blk_cell BK234.out 2).trans rfl, (blk_cell BK234.out 3).trans rfl, (blk_cell BK234.out 4).trans rfl, (blk_cell BK235.out 0).trans rfl, (blk_cell BK235.out 1).trans rfl, (blk_cell BK235.out 2).trans rfl, (blk_cell BK235.out 3).trans rfl, (blk_cell BK235.out 4).trans rfl⟩ (fun hHeld => ?_)
      clear hK K
      refine norm_ (a' := ?_) ?_ ?_
      rotate_left
      ·show Act.put _ (some 21) _ = _
       simp only [Act.put, List.setIfInBounds_toArray, List.set_cons_zero, List.set_cons_succ, i64_w, i32_w]
       rfl
      refine pure_ (i := 9) (N := some 22) (v := ?_) (a' := ?_) #[true, true, true, true, true, true, true, true, true, true, false] rfl rfl (any_of HT_.out (by kernel_rfl)) (fun _ _ _ h => h) (Or.inl ⟨by rfl, ?_⟩) ?_ ?_
      rotate_left
      ·intro w'
       go_simp
       with_reducible rfl
      rotate_left
      ·simp only [Act.put, List.setIfInBounds_toArray, List.set_cons_zero, List.set_cons_succ, i64_w, i32_w]
       rfl
      refine pure_ (i := 10) (N := some 23) (v := ?_) (a' := ?_) #[true, true, true, true, true, true, true, true, true, true, true] rfl rfl (any_of HT_.out (by kernel_rfl)) (fun _ _ _ h => h) (Or.inl ⟨by rfl, ?_⟩) ?_ ?_
      rotate_left
      ·intro w'
       go_simp
       with_reducible rfl
      rotate_left
      ·simp only [Act.put, List.setIfInBounds_toArray, List.set_cons_zero, List.set_cons_succ, i64_w, i32_w]
       rfl
      refine done_ (done_of HT_.out (by kernel_rfl)) ?_
      try go_wp2
      go_meet
      case rel => exact ⟨_, ((t240 != t241)), (by first | rfl | (simp; done) | (simp [*]; done)), H', ⟨by have := HJ2.out; first | omega | exact Nat.le_refl _⟩, ⟨by (with_reducible repeat (first | refine blk_drewN ?_ _ | refine blk_drew ?_ | refine blk_alloc ?_ _)); exact BK234.out⟩, ⟨by (with_reducible repeat (first | refine blk_drewN ?_ _ | refine blk_drew ?_ | refine blk_alloc ?_ _)); exact BK235.out⟩, ⟨by repeat (first | (with_reducible first | exact HB.out | apply below_alloc | apply pw_below_drewN | apply below_drew1 | refine below_set ?_ GE234.out | refine below_set ?_ GE235.out) | exact HB.out)⟩⟩
     ·replace c22 := Bool.eq_false_iff.mpr c22
      subst c22
      have H1 : (w03_TreeSames.j1 kj2 true a0_0 a0_1 l0_2 l0_3 l0_4) = some r := by rw [if_neg (show ¬ (false = true) by decide)] at H; exact H
      clear H
      have H := H1
      clear H1
      have H' := Aside0.mk H
      clear H
      try go_wp2
      have n0_ := Aside0.mk (blk_drew BK234.out)
      have n1_ := Aside0.mk (blk_drew BK235.out)
      have n2_ := Aside0.mk (below_drew1 HB.out)
      clear BK234
      clear BK235
      clear HB
      have BK234 := n0_
      have BK235 := n1_
      have HB := n2_
      clear n0_ n1_ n2_
      refine start_ (n := 11) (S := fun w' => True) (ds := []) #[false, false, false, false, false, false, false, false, false, false, false] (by kernel_rfl) rfl rfl trivial (fun hHeld => ?_); refine with_tabW w03_TreeSames.tab3 w03_TreeSames.bits3 (fun HT_ HW_ => ?_)
      generalize wc.drew = w29 at BK234 BK235 HB hHeld ⊢
      refine one_ (i := 0) (N := some 13) #[true, false, false, false, false, false, false, false, false, false, false] rfl rfl (one_of HT_.out (by kernel_rfl)) (by decide) (fun K hK => ?_)
      refine goes_ Tryd.func11 (by kernel_rfl) rfl #[] (by rfl) rfl rfl (by (try simp only [List.map_toArray, List.map_cons, List.map_nil]); first | done | rfl | (simp only [List.length_drop, List.length_take]; rfl)) ?_
      with_reducible refine (w03_awake.calls kj2  false _ A21.out).mono ?_
      rintro e w30 ⟨rfl, hb⟩
      refine ⟨_, rfl, ?_⟩
      have n0_ := Aside0.mk (blk_below (g := gb234) (o := .cells #[.int .u8 a0_0, .bool a0_1, .slice A0_2 l0_2.length c0_2, .slice A0_3 l0_3.length c0_3, .slice A0_4 l0_4.length c0_4] 26 (0, 0)) (by (with_reducible repeat (first | refine blk_drewN ?_ _ | refine blk_drew ?_ | refine blk_alloc ?_ _)); exact BK234.out) hb)
      have n1_ := Aside0.mk (blk_below (g := gb235) (o := .cells #[.int .u8 a1_0, .bool a1_1, .slice A1_2 l1_2.length c1_2, .slice A1_3 l1_3.length c1_3, .slice A1_4 l1_4.length c1_4] 26 (0, 0)) (by (with_reducible repeat (first | refine blk_drewN ?_ _ | refine blk_drew ?_ | refine blk_alloc ?_ _)); exact BK235.out) hb)
      have n2_ := Aside0.mk (below_step (by repeat (first | (with_reducible first | exact HB.out | apply below_alloc | apply pw_below_drewN | apply below_drew1 | refine below_set ?_ GE234.out | refine below_set ?_ GE235.out) | exact HB.out)) hb)
      clear BK234
      clear BK235
      clear HB
      have BK234 := n0_
      have BK235 := n1_
      have HB := n2_
      clear n0_ n1_ n2_
      (try clear hb)
      (try clear hb2)
      (try clear hk)
      (try clear hi)
      refine hK.out _ _ trivial (fun hHeld => ?_)
      clear hK K
      refine norm_ (a' := ?_) ?_ ?_
      rotate_left
      ·show Act.put _ (some 13) _ = _
       simp only [Act.put, List.setIfInBounds_toArray, List.set_cons_zero, List.set_cons_succ, i64_w, i32_w]
       rfl
      refine pure_ (i := 1) (N := some 14) (v := ?_) (a' := ?_) #[true, true, false, false, false, false, false, false, false, false, false] rfl rfl (any_of HT_.out (by kernel_rfl)) (fun _ _ _ h => h) (Or.inl ⟨by rfl, ?_⟩) ?_ ?_
      rotate_left
      ·intro w'
       go_simp
       with_reducible rfl
      rotate_left
      ·simp only [Act.put, List.setIfInBounds_toArray, List.set_cons_zero, List.set_cons_succ, i64_w, i32_w]
       rfl
      refine pure_ (i := 2) (N := some 15) (v := ?_) (a' := ?_) #[true, true, true, false, false, false, false, false, false, false, false] rfl rfl (any_of HT_.out (by kernel_rfl)) (fun _ _ _ h => h) (Or.inl ⟨by rfl, ?_⟩) ?_ ?_
      rotate_left
      ·intro w'
       go_simp
       with_reducible rfl
      rotate_left
      ·simp only [Act.put, List.setIfInBounds_toArray, List.set_cons_zero, List.set_cons_succ, i64_w, i32_w]
       rfl
      refine pure_ (i := 3) (N := some 16) (v := undef) (a' := ?_) #[true, true, true, true, false, false, false, false, false, false, false] rfl rfl (any_of HT_.out (by kernel_rfl)) (fun _ _ _ h => h) (Or.inr ⟨by rfl, rfl⟩) ?_ ?_
      rotate_left
      ·simp only [Act.put, List.setIfInBounds_toArray, List.set_cons_zero, List.set_cons_succ, i64_w, i32_w]
       rfl
      refine pure_ (i := 4) (N := some 17) (v := undef) (a' := ?_) #[true, true, true, true, true, false, false, false, false, false, false] rfl rfl (any_of HT_.out (by kernel_rfl)) (fun _ _ _ h => h) (Or.inr ⟨by rfl, rfl⟩) ?_ ?_
      rotate_left
      ·simp only [Act.put, List.setIfInBounds_toArray, List.set_cons_zero, List.set_cons_succ, i64_w, i32_w]
       rfl
      refine pure_ (i := 5) (N := some 18) (v := undef) (a' := ?_) #[true, true, true, true, true, true, false, false, false, false, false] rfl rfl (any_of HT_.out (by kernel_rfl)) (fun _ _ _ h => h) (Or.inr ⟨by rfl, rfl⟩) ?_ ?_
      rotate_left
      ·simp only [Act.put, List.setIfInBounds_toArray, List.set_cons_zero, List.set_cons_succ, i64_w, i32_w]
       rfl
      refine pure_ (i := 6) (N := some 19) (v := undef) (a' := ?_) #[true, true, true, true, true, true, true, false, false, false, false] rfl rfl (any_of HT_.out (by kernel_rfl)) (fun _ _ _ h => h) (Or.inr ⟨by rfl, rfl⟩) ?_ ?_
      rotate_left
      ·simp only [Act.put, List.setIfInBounds_toArray, List.set_cons_zero, List.set_cons_succ, i64_w, i32_w]
       rfl
      refine pure_ (i := 7) (N := some 20) (v := undef) (a' := ?_) #[true, true, true, true, true, true, true, true, false, false, false] rfl rfl (any_of HT_.out (by kernel_rfl)) (fun _ _ _ h => h) (Or.inr ⟨by rfl, rfl⟩) ?_ ?_
      rotate_left
      ·simp only [Act.put, List.setIfInBounds_toArray, List.set_cons_zero, List.set_cons_succ, i64_w, i32_w]
       rfl
      refine pure_ (i := 8) (N := some 21) (v := undef) (a' := ?_) #[true, true, true, true, true, true, true, true, true, false, false] rfl rfl (any_of HT_.out (by kernel_rfl)) (fun _ _ _ h => h) (Or.inr ⟨by rfl, rfl⟩) ?_ ?_
      rotate_left
      ·simp only [Act.put, List.setIfInBounds_toArray, List.set_cons_zero, List.set_cons_succ, i64_w, i32_w]
       rfl
      refine pure_ (i := 9) (N := some 22) (v := undef) (a' := ?_) #[true, true, true, true, true, true, true, true, true, true, false] rfl rfl (any_of HT_.out (by kernel_rfl)) (fun _ _ _ h => h) (Or.inr ⟨by rfl, rfl⟩) ?_ ?_
      rotate_left
      ·simp only [Act.put, List.setIfInBounds_toArray, List.set_cons_zero, List.set_cons_succ, i64_w, i32_w]
       rfl
      refine pure_ (i := 10) (N := some 23) (v := ?_) (a' := ?_) #[true, true, true, true, true, true, true, true, true, true, true] rfl rfl (any_of HT_.out (by kernel_rfl)) (fun _ _ _ h => h) (Or.inl ⟨by rfl, ?_⟩) ?_ ?_
      rotate_left
      ·intro w'
       go_simp
       with_reducible rfl
      rotate_left
      ·simp only [Act.put, List.setIfInBounds_toArray, List.set_cons_zero, List.set_cons_succ, i64_w, i32_w]
       rfl
      refine done_ (done_of HT_.out (by kernel_rfl)) ?_
      try go_wp2
      go_meet
      case rel => exact ⟨_, (true), (by first | rfl | (simp; done) | (simp [*]; done)), H', ⟨by have := HJ2.out; first | omega | exact Nat.le_refl _⟩, ⟨by (with_reducible repeat (first | refine blk_drewN ?_ _ | refine blk_drew ?_ | refine blk_alloc ?_ _)); exact BK234.out⟩, ⟨by (with_reducible repeat (first | refine blk_drewN ?_ _ | refine blk_drew ?_ | refine blk_alloc ?_ _)); exact BK235.out⟩, ⟨by repeat (first | (with_reducible first | exact HB.out | apply below_alloc | apply pw_below_drewN | apply below_drew1 | refine below_set ?_ GE234.out | refine below_set ?_ GE235.out) | exact HB.out)⟩⟩
    case rest =>
     clear HC20
     try clear c1
     try clear c2
     try clear p2
     try clear c7
     try clear c8
     try clear c9
     try clear c10
     try clear c11
     try clear c12
     try clear c17
     try clear c22
     try clear c27
     try clear hcz13_0
     try clear hcz13_1
     try clear hcz13_2
     try clear hcz13_3
     try clear hcz13_4
     try clear hcz15_0
     try clear hcz15_1
     try clear hcz15_2
     try clear hcz15_3
     try clear hcz15_4
     try clear hcz9_0
     try clear hcz9_1
     try clear hcz9_2
     try clear hcz9_3
     try clear hcz9_4
     try clear hfz13_0
     try clear hfz13_1
     try clear hfz13_2
     try clear hfz13_3
     try clear hfz13_4
     try clear hfz15_0
     try clear hfz15_1
     try clear hfz15_2
     try clear hfz15_3
     try clear hfz15_4
     try clear hfz9_0
     try clear hfz9_1
     try clear hfz9_2
     try clear hfz9_3
     try clear hfz9_4
     try clear p2
     obtain ⟨kq, x23_19, rfl, HA, HJ19, BK234, BK235, HB⟩ := hcut
     cases kq with
     | zero => exact absurd HA.out (by simp [w03_TreeSames.j1])
     | succ kj19 =>
      have H := HA.out
      clear HA
      simp only [w03_TreeSames.j1] at H
      by_cases c31 : x23_19 = true
      ·subst c31
       have H1 : (some false) = some r := by rw [if_pos rfl] at H; exact H
       clear H
       have H := H1
       clear H1
       obtain rfl := Option.some.inj H
       go_wp2
       go_ret
       exact ⟨by first | rfl | (simp [errW_none, errW_some] <;> rfl) | (simp [*, errW_none, errW_some] <;> rfl), by repeat (first | (with_reducible first | exact HB.out | apply below_alloc | apply pw_below_drewN | apply below_drew1 | refine below_set ?_ GE234.out | refine below_set ?_ GE235.out) | exact HB.out)⟩
      ·replace c31 := Bool.eq_false_iff.mpr c31
       subst c31
       have H1 : ((tree_Copy.f kj19 a0_0 a0_1 l0_2 l0_3 l0_4).bind fun bt242 => ((r03_Same.f kj19 bt242.1 bt242.2.1 bt242.2.2.1 bt242.2.2.2.1 bt242.2.2.2.2 a0_0 a0_1 l0_2 l0_3 l0_4).bind fun t254 => (if t254 = true then ((tree_Same.f a0_0 a0_1 l0_2 l0_3 l0_4 bt242.1 bt242.2.1 bt242.2.2.1 bt242.2.2.2.1 bt242.2.2.2.2).bind fun t255 => (some t255)) else (some false)))) = some r := by rw [if_neg (show ¬ (false = true) by decide)] at H; exact H
       clear H
       have H := H1
       clear H1
       replace H := Option.bind_eq_some_iff.mp H
       obtain ⟨⟨t242, t243, t244, t247, t250⟩, A320, H⟩ := H
       replace H : ((r03_Same.f kj19 t242 t243 t244 t247 t250 a0_0 a0_1 l0_2 l0_3 l0_4).bind fun t254 => (if t254 = true then ((tree_Same.f a0_0 a0_1 l0_2 l0_3 l0_4 t242 t243 t244 t247 t250).bind fun t255 => (some t255)) else (some false))) = some r := H
       have A32 := Aside0.mk A320
       clear A320
       replace H := Option.bind_eq_some_iff.mp H
       obtain ⟨t254, A330, H⟩ := H
       replace H : (if t254 = true then ((tree_Same.f a0_0 a0_1 l0_2 l0_3 l0_4 t242 t243 t244 t247 t250).bind fun t255 => (some t255)) else (some false)) = some r := H
       have A33 := Aside0.mk A330
       clear A330
       by_cases c34 : t254 = true
       ·subst c34
        have H1 : ((tree_Same.f a0_0 a0_1 l0_2 l0_3 l0_4 t242 t243 t244 t247 t250).bind fun t255 => (some t255)) = some r := by rw [if_pos rfl] at H; exact H
        clear H
        have H := H1
        clear H1
        replace H := Option.bind_eq_some_iff.mp H
        obtain ⟨t255, A350, H⟩ := H
        replace H : (some t255) = some r := H
        have A35 := Aside0.mk A350
        clear A350
        obtain rfl := Option.some.inj H
        have hnb36 := NB234_235.out
        have hnc36 := NB235_234.out
        have hcz37_0 : wc.cell? ⟨gb234, 0, none⟩ = some (.int .u8 a0_0) := (blk_cell BK234.out 0).trans rfl
        have hcz37_1 : wc.cell? ⟨gb234, 1, none⟩ = some (.bool a0_1) := (blk_cell BK234.out 1).trans rfl
        have hcz37_2 : wc.cell? ⟨gb234, 2, none⟩ = some (.slice A0_2 l0_2.length c0_2) := (blk_cell BK234.out 2).trans rfl
        have hcz37_3 : wc.cell? ⟨gb234, 3, none⟩ = some (.slice A0_3 l0_3.length c0_3) := (blk_cell BK234.out 3).trans rfl
        have hcz37_4 : wc.cell? ⟨gb234, 4, none⟩ = some (.slice A0_4 l0_4.length c0_4) := (blk_cell BK234.out 4).trans rfl
        have hfz37_0 := blk_frozen BK234.out 0
        have hfz37_1 := blk_frozen BK234.out 1
        have hfz37_2 := blk_frozen BK234.out 2
        have hfz37_3 := blk_frozen BK234.out 3
        have hfz37_4 := blk_frozen BK234.out 4
        go_wp2_with (first | ((with_reducible refine gate_callee (f := 25) rfl ?_); refine goesL_ (some 25) rfl rfl Tryd.func25 (by kernel_rfl) rfl #[.agg #[.int .u8 a0_0, .bool a0_1, .slice A0_2 l0_2.length c0_2, .slice A0_3 l0_3.length c0_3, .slice A0_4 l0_4.length c0_4]] rfl (by (try simp only [List.map_toArray, List.map_cons, List.map_nil]); first | done | rfl | (simp only [List.length_drop, List.length_take]; rfl)) ?_; (with_reducible refine (tree_Copy.calls kj19 a0_0 a0_1 _ _ l0_2 _ _ l0_3 _ _ l0_4 t242 t243 t244 t247 t250 _ ?side1 ?side2 ?side3 ?side4 ?side5 ?side6 A32.out).mono ?_); (case side1 => repeat (first | exact (Kd.C_below HR0_2.out HB.out) | (with_reducible refine Kd.C_alloc ?_ _) | (with_reducible refine Kd.C_drewN ?_ _) | (with_reducible refine Kd.C_drew ?_))); (case side2 => exact HC0_2.out); (case side3 => repeat (first | exact (Kd.C_below HR0_3.out HB.out) | (with_reducible refine Kd.C_alloc ?_ _) | (with_reducible refine Kd.C_drewN ?_ _) | (with_reducible refine Kd.C_drew ?_))); (case side4 => exact HC0_3.out); (case side5 => repeat (first | exact (Kd.C_below HR0_4.out HB.out) | (with_reducible refine Kd.C_alloc ?_ _) | (with_reducible refine Kd.C_drewN ?_ _) | (with_reducible refine Kd.C_drew ?_))); (case side6 => exact HC0_4.out); rintro e w38 ⟨v245, v248, v251, rfl, ho0, ho1, ho2, hb⟩; refine ⟨_, rfl, ?_⟩; have n0_ := Aside0.mk (Kd.R_lower ho0 (below_size (by repeat (first | (with_reducible first | exact HB.out | apply below_alloc | apply pw_below_drewN | apply below_drew1 | refine below_set ?_ GE234.out | refine below_set ?_ GE235.out) | exact HB.out)))); have n1_ := Aside0.mk (Kd.R_lower ho1 (below_size (by repeat (first | (with_reducible first | exact HB.out | apply below_alloc | apply pw_below_drewN | apply below_drew1 | refine below_set ?_ GE234.out | refine below_set ?_ GE235.out) | exact HB.out)))); have n2_ := Aside0.mk (Kd.R_lower (Kd.R_newB (Kd.R_newB ho2 (g := gb234) (o := .cells #[.int .u8 a0_0, .bool a0_1, .slice A0_2 l0_2.length c0_2, .slice A0_3 l0_3.length c0_3, .slice A0_4 l0_4.length c0_4] 26 (0, 0)) (by (with_reducible repeat (first | refine blk_drewN ?_ _ | refine blk_drew ?_ | refine blk_alloc ?_ _)); exact BK234.out)) (g := gb235) (o := .cells #[.int .u8 a1_0, .bool a1_1, .slice A1_2 l1_2.length c1_2, .slice A1_3 l1_3.length c1_3, .slice A1_4 l1_4.length c1_4] 26 (0, 0)) (by (with_reducible repeat (first | refine blk_drewN ?_ _ | refine blk_drew ?_ | refine blk_alloc ?_ _)); exact BK235.out)) (below_size (by repeat (first | (with_reducible first | exact HB.out | apply below_alloc | apply pw_below_drewN | apply below_drew1 | refine below_set ?_ GE234.out | refine below_set ?_ GE235.out) | exact HB.out)))); have n3_ := Aside0.mk (blk_below (g := gb234) (o := .cells #[.int .u8 a0_0, .bool a0_1, .slice A0_2 l0_2.length c0_2, .slice A0_3 l0_3.length c0_3, .slice A0_4 l0_4.length c0_4] 26 (0, 0)) (by (with_reducible repeat (first | refine blk_drewN ?_ _ | refine blk_drew ?_ | refine blk_alloc ?_ _)); exact BK234.out) hb); have n4_ := Aside0.mk (blk_below (g := gb235) (o := .cells #[.int .u8 a1_0, .bool a1_1, .slice A1_2 l1_2.length c1_2, .slice A1_3 l1_3.length c1_3, .slice A1_4 l1_4.length c1_4] 26 (0, 0)) (by (with_reducible repeat (first | refine blk_drewN ?_ _ | refine blk_drew ?_ | refine blk_alloc ?_ _)); exact BK235.out) hb); have n5_ := Aside0.mk (below_step (by repeat (first | (with_reducible first | exact HB.out | apply below_alloc | apply pw_below_drewN | apply below_drew1 | refine below_set ?_ GE234.out | refine below_set ?_ GE235.out) | exact HB.out)) hb); clear BK234; clear BK235; clear HB; have HO246 := n0_; have HO249 := n1_; have HO252 := n2_; have BK234 := n3_; have BK235 := n4_; have HB := n5_; clear n0_ n1_ n2_ n3_ n4_ n5_; (try clear hb); (try clear hb2); (try clear hk); (try clear hi); (try clear ho0); (try clear ho1); (try clear ho2)) | ((with_reducible refine gate_dst (N := 5) rfl ?_); refine box_event ?hg (N := 5) ?hd (cs := #[.int .u8 0, .bool false, .slice none 0 0, .slice none 0 0, .slice none 0 0]) (t := 26) ?hr ?_; (case hd => rfl); (case hg => rfl); (case hr => first | (go_simp; done) | (go_simp; rfl)); intro gb253 hg w39 hbox hb; have n0_ := Aside0.mk (Kd.R_below (by (with_reducible repeat (first | apply Kd.R_alloc | apply Kd.R_drewN | apply Kd.R_drew)); exact HO246.out) hb); have n1_ := Aside0.mk (Kd.R_below (by (with_reducible repeat (first | apply Kd.R_alloc | apply Kd.R_drewN | apply Kd.R_drew)); exact HO249.out) hb); have n2_ := Aside0.mk (Kd.R_below (Kd.R_elderB (by (with_reducible repeat (first | apply Kd.R_alloc | apply Kd.R_drewN | apply Kd.R_drew)); exact HO252.out) gb253 (Nat.le_of_eq hg.symm)) hb); have n3_ := Aside0.mk (blk_below (g := gb234) (o := .cells #[.int .u8 a0_0, .bool a0_1, .slice A0_2 l0_2.length c0_2, .slice A0_3 l0_3.length c0_3, .slice A0_4 l0_4.length c0_4] 26 (0, 0)) (by (with_reducible repeat (first | refine blk_drewN ?_ _ | refine blk_drew ?_ | refine blk_alloc ?_ _)); exact BK234.out) hb); have n4_ := Aside0.mk (blk_below (g := gb235) (o := .cells #[.int .u8 a1_0, .bool a1_1, .slice A1_2 l1_2.length c1_2, .slice A1_3 l1_3.length c1_3, .slice A1_4 l1_4.length c1_4] 26 (0, 0)) (by (with_reducible repeat (first | refine blk_drewN ?_ _ | refine blk_drew ?_ | refine blk_alloc ?_ _)); exact BK235.out) hb); have n5_ := Aside0.mk (below_step (by repeat (first | (with_reducible first | exact HB.out | apply below_alloc | apply pw_below_drewN | apply below_drew1 | refine below_set ?_ GE234.out | refine below_set ?_ GE235.out) | exact HB.out)) hb); have n6_ := Aside0.mk (hbox); have n7_ := Aside0.mk ((by rw [hg]; exact (below_size (by repeat (first | (with_reducible first | exact HB.out | apply below_alloc | apply pw_below_drewN | apply below_drew1 | refine below_set ?_ GE234.out | refine below_set ?_ GE235.out) | exact HB.out))) : w.heap.size ≤ gb253)); have n8_ := Aside0.mk ((by rw [hg]; exact (below_size (by repeat (first | (with_reducible first | exact HB.out | apply below_alloc | apply pw_below_drewN | apply below_drew1 | refine below_set ?_ GE234.out | refine below_set ?_ GE235.out) | exact HB.out))) : w.heap.size ≤ gb253)); have n9_ := Aside0.mk ((by rw [hg]; exact Nat.ne_of_lt (blk_lt (g := gb234) (o := .cells #[.int .u8 a0_0, .bool a0_1, .slice A0_2 l0_2.length c0_2, .slice A0_3 l0_3.length c0_3, .slice A0_4 l0_4.length c0_4] 26 (0, 0)) (by (with_reducible repeat (first | refine blk_drewN ?_ _ | refine blk_drew ?_ | refine blk_alloc ?_ _)); exact BK234.out)) : gb234 ≠ gb253)); have n10_ := Aside0.mk ((by rw [hg]; exact Nat.ne_of_gt (blk_lt (g := gb234) (o := .cells #[.int .u8 a0_0, .bool a0_1, .slice A0_2 l0_2.length c0_2, .slice A0_3 l0_3.length c0_3, .slice A0_4 l0_4.length c0_4] 26 (0, 0)) (by (with_reducible repeat (first | refine blk_drewN ?_ _ | refine blk_drew ?_ | refine blk_alloc ?_ _)); exact BK234.out)) : gb253 ≠ gb234)); have n11_ := Aside0.mk ((by rw [hg]; exact Nat.ne_of_lt (blk_lt (g := gb235) (o := .cells #[.int .u8 a1_0, .bool a1_1, .slice A1_2 l1_2.length c1_2, .slice A1_3 l1_3.length c1_3, .slice A1_4 l1_4.length c1_4] 26 (0, 0)) (by (with_reducible repeat (first | refine blk_drewN ?_ _ | refine blk_drew ?_ | refine blk_alloc ?_ _)); exact BK235.out)) : gb235 ≠ gb253)); have n12_ := Aside0.mk ((by rw [hg]; exact Nat.ne_of_gt (blk_lt (g := gb235) (o := .cells #[.int .u8 a1_0, .bool a1_1, .slice A1_2 l1_2.length c1_2, .slice A1_3 l1_3.length c1_3, .slice A1_4 l1_4.length c1_4] 26 (0, 0)) (by (with_reducible repeat (first | refine blk_drewN ?_ _ | refine blk_drew ?_ | refine blk_alloc ?_ _)); exact BK235.out)) : gb253 ≠ gb235)); clear HO246; clear HO249; clear HO252; clear BK234; clear BK235; clear HB; have HO246 := n0_; have HO249 := n1_; have HO252 := n2_; have BK234 := n3_; have BK235 := n4_; have HB := n5_; have BK253 := n6_; have GW253 := n7_; have GE253 := n8_; have NB234_253 := n9_; have NB253_234 := n10_; have NB235_253 := n11_; have NB253_235 := n12_; clear n0_ n1_ n2_ n3_ n4_ n5_ n6_ n7_ n8_ n9_ n10_ n11_ n12_; clear hb hbox hg; have hnb40 := NB253_234.out; have hnc40 := NB234_253.out; have hnb41 := NB253_235.out; have hnc41 := NB235_253.out; have hcz42_0 : w39.cell? ⟨gb253, 0, none⟩ = some (.int .u8 0) := (blk_cell BK253.out 0).trans rfl; have hcz42_1 : w39.cell? ⟨gb253, 1, none⟩ = some (.bool false) := (blk_cell BK253.out 1).trans rfl; have hcz42_2 : w39.cell? ⟨gb253, 2, none⟩ = some (.slice none 0 0) := (blk_cell BK253.out 2).trans rfl; have hcz42_3 : w39.cell? ⟨gb253, 3, none⟩ = some (.slice none 0 0) := (blk_cell BK253.out 3).trans rfl; have hcz42_4 : w39.cell? ⟨gb253, 4, none⟩ = some (.slice none 0 0) := (blk_cell BK253.out 4).trans rfl; have hfz42_0 := blk_frozen BK253.out 0; have hfz42_1 := blk_frozen BK253.out 1; have hfz42_2 := blk_frozen BK253.out 2; have hfz42_3 := blk_frozen BK253.out 3; have hfz42_4 := blk_frozen BK253.out 4; obtain ⟨Ao43, co43, eo43⟩ := Kd.R_slice HO246.out; subst eo43; obtain ⟨Ao44, co44, eo44⟩ := Kd.R_slice HO249.out; subst eo44; obtain ⟨Ao45, co45, eo45⟩ := Kd.R_slice HO252.out; subst eo45; have hcz46_0 : w39.cell? ⟨gb234, 0, none⟩ = some (.int .u8 a0_0) := (blk_cell BK234.out 0).trans rfl; have hcz46_1 : w39.cell? ⟨gb234, 1, none⟩ = some (.bool a0_1) := (blk_cell BK234.out 1).trans rfl; have hcz46_2 : w39.cell? ⟨gb234, 2, none⟩ = some (.slice A0_2 l0_2.length c0_2) := (blk_cell BK234.out 2).trans rfl; have hcz46_3 : w39.cell? ⟨gb234, 3, none⟩ = some (.slice A0_3 l0_3.length c0_3) := (blk_cell BK234.out 3).trans rfl; have hcz46_4 : w39.cell? ⟨gb234, 4, none⟩ = some (.slice A0_4 l0_4.length c0_4) := (blk_cell BK234.out 4).trans rfl; have hfz46_0 := blk_frozen BK234.out 0; have hfz46_1 := blk_frozen BK234.out 1; have hfz46_2 := blk_frozen BK234.out 2; have hfz46_3 := blk_frozen BK234.out 3; have hfz46_4 := blk_frozen BK234.out 4) | ((with_reducible refine gate_callee (f := 22) rfl ?_); refine goesL_ (some 28) rfl rfl Tryd.func22 (by kernel_rfl) rfl #[.agg #[.int .u8 t242, .bool t243, .slice Ao43 t244.length co43, .slice Ao44 t247.length co44, .slice Ao45 t250.length co45], .agg #[.int .u8 a0_0, .bool a0_1, .slice A0_2 l0_2.length c0_2, .slice A0_3 l0_3.length c0_3, .slice A0_4 l0_4.length c0_4]] rfl (by (try simp only [List.map_toArray, List.map_cons, List.map_nil]); first | done | rfl | (simp only [List.length_drop, List.length_take]; rfl)) ?_; (with_reducible refine (r03_Same.calls kj19 t242 t243 _ _ t244 _ _ t247 _ _ t250 a0_0 a0_1 _ _ l0_2 _ _ l0_3 _ _ l0_4 true _ ?side1 ?side2 ?side3 ?side4 ?side5 ?side6 ?side7 ?side8 ?side9 ?side10 ?side11 ?side12 A33.out).mono ?_); (case side1 => refine (Kd.R_reads' (e := 5) (base := w.heap.size) (ok := fun k_ => True) (n := t244.length) (c := co43) ?_).2.2; exact (by (with_reducible repeat (first | apply Kd.R_alloc | apply Kd.R_drewN | apply Kd.R_drew)); exact (Kd.R_mono (Kd.R_far (p := ⟨gb253, 4, none⟩) (Kd.R_far (p := ⟨gb253, 3, none⟩) (Kd.R_far (p := ⟨gb253, 2, none⟩) (Kd.R_far (p := ⟨gb253, 1, none⟩) (Kd.R_far (p := ⟨gb253, 0, none⟩) (Kd.R_types HO246.out BK253.out (by decide)) (fun _ hk => hk.2) (.int .u8 t242)) (fun _ hk => hk.2) (.bool t243)) (fun _ hk => hk.2) (.slice Ao43 t244.length co43)) (fun _ hk => hk.2) (.slice Ao44 t247.length co44)) (fun _ hk => hk.2) (.slice Ao45 t250.length co45)) (fun _ h_ => h_.1)))); (case side2 => exact (Kd.R_reads' HO246.out).2.1); (case side3 => refine (Kd.R_reads' (e := 9) (base := w.heap.size) (ok := fun k_ => True) (n := t247.length) (c := co44) ?_).2.2; exact (by (with_reducible repeat (first | apply Kd.R_alloc | apply Kd.R_drewN | apply Kd.R_drew)); exact (Kd.R_mono (Kd.R_far (p := ⟨gb253, 4, none⟩) (Kd.R_far (p := ⟨gb253, 3, none⟩) (Kd.R_far (p := ⟨gb253, 2, none⟩) (Kd.R_far (p := ⟨gb253, 1, none⟩) (Kd.R_far (p := ⟨gb253, 0, none⟩) (Kd.R_types HO249.out BK253.out (by decide)) (fun _ hk => hk.2) (.int .u8 t242)) (fun _ hk => hk.2) (.bool t243)) (fun _ hk => hk.2) (.slice Ao43 t244.length co43)) (fun _ hk => hk.2) (.slice Ao44 t247.length co44)) (fun _ hk => hk.2) (.slice Ao45 t250.length co45)) (fun _ h_ => h_.1)))); (case side4 => exact (Kd.R_reads' HO249.out).2.1); (case side5 => refine (Kd.R_reads' (e := 26) (base := w.heap.size) (ok := fun k_ => ((((some k_ ≠ (.slice Ao43 t244.length co43 : Value).ownBlock ∧ some k_ ≠ (.slice Ao44 t247.length co44 : Value).ownBlock) ∧ k_ ≠ gb234) ∧ k_ ≠ gb235) ∧ k_ ≠ gb253)) (n := t250.length) (c := co45) ?_).2.2; exact (by (with_reducible repeat (first | apply Kd.R_alloc | apply Kd.R_drewN | apply Kd.R_drew)); exact (Kd.R_mono (Kd.R_far (p := ⟨gb253, 4, none⟩) (Kd.R_far (p := ⟨gb253, 3, none⟩) (Kd.R_far (p := ⟨gb253, 2, none⟩) (Kd.R_far (p := ⟨gb253, 1, none⟩) (Kd.R_far (p := ⟨gb253, 0, none⟩) (Kd.R_mono HO252.out (fun k_ hk => (⟨hk, hk.2⟩ : _ ∧ k_ ≠ gb253))) (fun _ hk => hk.2) (.int .u8 t242)) (fun _ hk => hk.2) (.bool t243)) (fun _ hk => hk.2) (.slice Ao43 t244.length co43)) (fun _ hk => hk.2) (.slice Ao44 t247.length co44)) (fun _ hk => hk.2) (.slice Ao45 t250.length co45)) (fun _ h_ => h_.1)))); (case side6 => exact (Kd.R_reads' HO252.out).2.1); (case side7 => exact Kd.C_below HR0_2.out (by repeat (first | (with_reducible first | exact HB.out | apply below_alloc | apply pw_below_drewN | apply below_drew1 | refine below_set ?_ GE234.out | refine below_set ?_ GE235.out | refine below_set ?_ GE253.out) | exact HB.out))); (case side8 => exact HC0_2.out); (case side9 => exact Kd.C_below HR0_3.out (by repeat (first | (with_reducible first | exact HB.out | apply below_alloc | apply pw_below_drewN | apply below_drew1 | refine below_set ?_ GE234.out | refine below_set ?_ GE235.out | refine below_set ?_ GE253.out) | exact HB.out))); (case side10 => exact HC0_3.out); (case side11 => exact Kd.C_below HR0_4.out (by repeat (first | (with_reducible first | exact HB.out | apply below_alloc | apply pw_below_drewN | apply below_drew1 | refine below_set ?_ GE234.out | refine below_set ?_ GE235.out | refine below_set ?_ GE253.out) | exact HB.out))); (case side12 => exact HC0_4.out); rintro e w47 ⟨rfl, hb⟩; refine ⟨_, rfl, ?_⟩; have n0_ := Aside0.mk (Kd.R_below (by (with_reducible repeat (first | apply Kd.R_alloc | apply Kd.R_drewN | apply Kd.R_drew)); exact (Kd.R_mono (Kd.R_far (p := ⟨gb253, 4, none⟩) (Kd.R_far (p := ⟨gb253, 3, none⟩) (Kd.R_far (p := ⟨gb253, 2, none⟩) (Kd.R_far (p := ⟨gb253, 1, none⟩) (Kd.R_far (p := ⟨gb253, 0, none⟩) (Kd.R_types HO246.out BK253.out (by decide)) (fun _ hk => hk.2) (.int .u8 t242)) (fun _ hk => hk.2) (.bool t243)) (fun _ hk => hk.2) (.slice Ao43 t244.length co43)) (fun _ hk => hk.2) (.slice Ao44 t247.length co44)) (fun _ hk => hk.2) (.slice Ao45 t250.length co45)) (fun _ h_ => h_.1))) hb); have n1_ := Aside0.mk (Kd.R_below (by (with_reducible repeat (first | apply Kd.R_alloc | apply Kd.R_drewN | apply Kd.R_drew)); exact (Kd.R_mono (Kd.R_far (p := ⟨gb253, 4, none⟩) (Kd.R_far (p := ⟨gb253, 3, none⟩) (Kd.R_far (p := ⟨gb253, 2, none⟩) (Kd.R_far (p := ⟨gb253, 1, none⟩) (Kd.R_far (p := ⟨gb253, 0, none⟩) (Kd.R_types HO249.out BK253.out (by decide)) (fun _ hk => hk.2) (.int .u8 t242)) (fun _ hk => hk.2) (.bool t243)) (fun _ hk => hk.2) (.slice Ao43 t244.length co43)) (fun _ hk => hk.2) (.slice Ao44 t247.length co44)) (fun _ hk => hk.2) (.slice Ao45 t250.length co45)) (fun _ h_ => h_.1))) hb); have n2_ := Aside0.mk (Kd.R_below (by (with_reducible repeat (first | apply Kd.R_alloc | apply Kd.R_drewN | apply Kd.R_drew)); exact (Kd.R_mono (Kd.R_far (p := ⟨gb253, 4, none⟩) (Kd.R_far (p := ⟨gb253, 3, none⟩) (Kd.R_far (p := ⟨gb253, 2, none⟩) (Kd.R_far (p := ⟨gb253, 1, none⟩) (Kd.R_far (p := ⟨gb253, 0, none⟩) (Kd.R_mono HO252.out (fun k_ hk => (⟨hk, hk.2⟩ : _ ∧ k_ ≠ gb253))) (fun _ hk => hk.2) (.int .u8 t242)) (fun _ hk => hk.2) (.bool t243)) (fun _ hk => hk.2) (.slice Ao43 t244.length co43)) (fun _ hk => hk.2) (.slice Ao44 t247.length co44)) (fun _ hk => hk.2) (.slice Ao45 t250.length co45)) (fun _ h_ => h_.1))) hb); have n3_ := Aside0.mk (blk_below (g := gb234) (o := .cells #[.int .u8 a0_0, .bool a0_1, .slice A0_2 l0_2.length c0_2, .slice A0_3 l0_3.length c0_3, .slice A0_4 l0_4.length c0_4] 26 (0, 0)) (by (with_reducible repeat (first | refine blk_drewN ?_ _ | refine blk_drew ?_ | refine blk_alloc ?_ _)); refine blk_far ?_ NB234_253.out _; (with_reducible repeat (first | refine blk_drewN ?_ _ | refine blk_drew ?_ | refine blk_alloc ?_ _)); refine blk_far ?_ NB234_253.out _; (with_reducible repeat (first | refine blk_drewN ?_ _ | refine blk_drew ?_ | refine blk_alloc ?_ _)); refine blk_far ?_ NB234_253.out _; (with_reducible repeat (first | refine blk_drewN ?_ _ | refine blk_drew ?_ | refine blk_alloc ?_ _)); refine blk_far ?_ NB234_253.out _; (with_reducible repeat (first | refine blk_drewN ?_ _ | refine blk_drew ?_ | refine blk_alloc ?_ _)); refine blk_far ?_ NB234_253.out _; (with_reducible repeat (first | refine blk_drewN ?_ _ | refine blk_drew ?_ | refine blk_alloc ?_ _)); exact BK234.out) hb); have n4_ := Aside0.mk (blk_below (g := gb235) (o := .cells #[.int .u8 a1_0, .bool a1_1, .slice A1_2 l1_2.length c1_2, .slice A1_3 l1_3.length c1_3, .slice A1_4 l1_4.length c1_4] 26 (0, 0)) (by (with_reducible repeat (first | refine blk_drewN ?_ _ | refine blk_drew ?_ | refine blk_alloc ?_ _)); refine blk_far ?_ NB235_253.out _; (with_reducible repeat (first | refine blk_drewN ?_ _ | refine blk_drew ?_ | refine blk_alloc ?_ _)); refine blk_far ?_ NB235_253.out _; (with_reducible repeat (first | refine blk_drewN ?_ _ | refine blk_drew ?_ | refine blk_alloc ?_ _)); refine blk_far ?_ NB235_253.out _; (with_reducible repeat (first | refine blk_drewN ?_ _ | refine blk_drew ?_ | refine blk_alloc ?_ _)); refine blk_far ?_ NB235_253.out _; (with_reducible repeat (first | refine blk_drewN ?_ _ | refine blk_drew ?_ | refine blk_alloc ?_ _)); refine blk_far ?_ NB235_253.out _; (with_reducible repeat (first | refine blk_drewN ?_ _ | refine blk_drew ?_ | refine blk_alloc ?_ _)); exact BK235.out) hb); have n5_ := Aside0.mk (blk_below (g := gb253) (o := .cells #[.int .u8 t242, .bool t243, .slice Ao43 t244.length co43, .slice Ao44 t247.length co44, .slice Ao45 t250.length co45] 26 (0, 0)) (by (with_reducible repeat (first | refine blk_drewN ?_ _ | refine blk_drew ?_ | refine blk_alloc ?_ _)); refine blk_put (cs := #[.int .u8 t242, .bool t243, .slice Ao43 t244.length co43, .slice Ao44 t247.length co44, .slice none 0 0]) ?_ 4 _ rfl; (with_reducible repeat (first | refine blk_drewN ?_ _ | refine blk_drew ?_ | refine blk_alloc ?_ _)); refine blk_put (cs := #[.int .u8 t242, .bool t243, .slice Ao43 t244.length co43, .slice none 0 0, .slice none 0 0]) ?_ 3 _ rfl; (with_reducible repeat (first | refine blk_drewN ?_ _ | refine blk_drew ?_ | refine blk_alloc ?_ _)); refine blk_put (cs := #[.int .u8 t242, .bool t243, .slice none 0 0, .slice none 0 0, .slice none 0 0]) ?_ 2 _ rfl; (with_reducible repeat (first | refine blk_drewN ?_ _ | refine blk_drew ?_ | refine blk_alloc ?_ _)); refine blk_put (cs := #[.int .u8 t242, .bool false, .slice none 0 0, .slice none 0 0, .slice none 0 0]) ?_ 1 _ rfl; (with_reducible repeat (first | refine blk_drewN ?_ _ | refine blk_drew ?_ | refine blk_alloc ?_ _)); refine blk_put (cs := #[.int .u8 0, .bool false, .slice none 0 0, .slice none 0 0, .slice none 0 0]) ?_ 0 _ rfl; (with_reducible repeat (first | refine blk_drewN ?_ _ | refine blk_drew ?_ | refine blk_alloc ?_ _)); exact BK253.out) hb); have n6_ := Aside0.mk (below_step (by repeat (first | (with_reducible first | exact HB.out | apply below_alloc | apply pw_below_drewN | apply below_drew1 | refine below_set ?_ GE234.out | refine below_set ?_ GE235.out | refine below_set ?_ GE253.out) | exact HB.out)) hb); clear HO246; clear HO249; clear HO252; clear BK234; clear BK235; clear BK253; clear HB; have HO246 := n0_; have HO249 := n1_; have HO252 := n2_; have BK234 := n3_; have BK235 := n4_; have BK253 := n5_; have HB := n6_; clear n0_ n1_ n2_ n3_ n4_ n5_ n6_; (try clear hb); (try clear hb2); (try clear hk); (try clear hi); have hcz48_0 : w47.cell? ⟨gb234, 0, none⟩ = some (.int .u8 a0_0) := (blk_cell BK234.out 0).trans rfl; have hcz48_1 : w47.cell? ⟨gb234, 1, none⟩ = some (.bool a0_1) := (blk_cell BK234.out 1).trans rfl; have hcz48_2 : w47.cell? ⟨gb234, 2, none⟩ = some (.slice A0_2 l0_2.length c0_2) := (blk_cell BK234.out 2).trans rfl; have hcz48_3 : w47.cell? ⟨gb234, 3, none⟩ = some (.slice A0_3 l0_3.length c0_3) := (blk_cell BK234.out 3).trans rfl; have hcz48_4 : w47.cell? ⟨gb234, 4, none⟩ = some (.slice A0_4 l0_4.length c0_4) := (blk_cell BK234.out 4).trans rfl; have hfz48_0 := blk_frozen BK234.out 0; have hfz48_1 := blk_frozen BK234.out 1; have hfz48_2 := blk_frozen BK234.out 2; have hfz48_3 := blk_frozen BK234.out 3; have hfz48_4 := blk_frozen BK234.out 4; have hcz49_0 : w47.cell? ⟨gb253, 0, none⟩ = some (.int .u8 t242) := (blk_cell BK253.out 0).trans rfl; have hcz49_1 : w47.cell? ⟨gb253, 1, none⟩ = some (.bool t243) := (blk_cell BK253.out 1).trans rfl; have hcz49_2 : w47.cell? ⟨gb253, 2, none⟩ = some (.slice Ao43 t244.length co43) := (blk_cell BK253.out 2).trans rfl; have hcz49_3 : w47.cell? ⟨gb253, 3, none⟩ = some (.slice Ao44 t247.length co44) := (blk_cell BK253.out 3).trans rfl; have hcz49_4 : w47.cell? ⟨gb253, 4, none⟩ = some (.slice Ao45 t250.length co45) := (blk_cell BK253.out 4).trans rfl; have hfz49_0 := blk_frozen BK253.out 0; have hfz49_1 := blk_frozen BK253.out 1; have hfz49_2 := blk_frozen BK253.out 2; have hfz49_3 := blk_frozen BK253.out 3; have hfz49_4 := blk_frozen BK253.out 4) | (go_at_call 27; (with_reducible refine (tree_Same.calls a0_0 a0_1 _ _ l0_2 _ _ l0_3 _ _ l0_4 t242 t243 _ _ t244 _ _ t247 _ _ t250 t255 _ ?side1 ?side2 ?side3 ?side4 ?side5 ?side6 ?side7 ?side8 ?side9 ?side10 ?side11 ?side12 A35.out).mono ?_); (case side1 => repeat (first | exact (Kd.C_below HR0_2.out HB.out) | (with_reducible refine Kd.C_alloc ?_ _) | (with_reducible refine Kd.C_drewN ?_ _) | (with_reducible refine Kd.C_drew ?_))); (case side2 => exact HC0_2.out); (case side3 => repeat (first | exact (Kd.C_below HR0_3.out HB.out) | (with_reducible refine Kd.C_alloc ?_ _) | (with_reducible refine Kd.C_drewN ?_ _) | (with_reducible refine Kd.C_drew ?_))); (case side4 => exact HC0_3.out); (case side5 => repeat (first | exact (Kd.C_below HR0_4.out HB.out) | (with_reducible refine Kd.C_alloc ?_ _) | (with_reducible refine Kd.C_drewN ?_ _) | (with_reducible refine Kd.C_drew ?_))); (case side6 => exact HC0_4.out); (case side7 => repeat (first | exact (Kd.R_reads' HO246.out).2.2 | (with_reducible refine Kd.C_alloc ?_ _) | (with_reducible refine Kd.C_drewN ?_ _) | (with_reducible refine Kd.C_drew ?_))); (case side8 => exact (Kd.R_reads' HO246.out).2.1); (case side9 => repeat (first | exact (Kd.R_reads' HO249.out).2.2 | (with_reducible refine Kd.C_alloc ?_ _) | (with_reducible refine Kd.C_drewN ?_ _) | (with_reducible refine Kd.C_drew ?_))); (case side10 => exact (Kd.R_reads' HO249.out).2.1); (case side11 => repeat (first | exact (Kd.R_reads' HO252.out).2.2 | (with_reducible refine Kd.C_alloc ?_ _) | (with_reducible refine Kd.C_drewN ?_ _) | (with_reducible refine Kd.C_drew ?_))); (case side12 => exact (Kd.R_reads' HO252.out).2.1); rintro e w50 ⟨rfl, hb⟩; have n0_ := Aside0.mk (Kd.R_below (by (with_reducible repeat (first | apply Kd.R_alloc | apply Kd.R_drewN | apply Kd.R_drew)); exact HO246.out) hb); have n1_ := Aside0.mk (Kd.R_below (by (with_reducible repeat (first | apply Kd.R_alloc | apply Kd.R_drewN | apply Kd.R_drew)); exact HO249.out) hb); have n2_ := Aside0.mk (Kd.R_below (by (with_reducible repeat (first | apply Kd.R_alloc | apply Kd.R_drewN | apply Kd.R_drew)); exact HO252.out) hb); have n3_ := Aside0.mk (blk_below (g := gb234) (o := .cells #[.int .u8 a0_0, .bool a0_1, .slice A0_2 l0_2.length c0_2, .slice A0_3 l0_3.length c0_3, .slice A0_4 l0_4.length c0_4] 26 (0, 0)) (by (with_reducible repeat (first | refine blk_drewN ?_ _ | refine blk_drew ?_ | refine blk_alloc ?_ _)); exact BK234.out) hb); have n4_ := Aside0.mk (blk_below (g := gb235) (o := .cells #[.int .u8 a1_0, .bool a1_1, .slice A1_2 l1_2.length c1_2, .slice A1_3 l1_3.length c1_3, .slice A1_4 l1_4.length c1_4] 26 (0, 0)) (by (with_reducible repeat (first | refine blk_drewN ?_ _ | refine blk_drew ?_ | refine blk_alloc ?_ _)); exact BK235.out) hb); have n5_ := Aside0.mk (blk_below (g := gb253) (o := .cells #[.int .u8 t242, .bool t243, .slice Ao43 t244.length co43, .slice Ao44 t247.length co44, .slice Ao45 t250.length co45] 26 (0, 0)) (by (with_reducible repeat (first | refine blk_drewN ?_ _ | refine blk_drew ?_ | refine blk_alloc ?_ _)); exact BK253.out) hb); have n6_ := Aside0.mk (below_step (by repeat (first | (with_reducible first | exact HB.out | apply below_alloc | apply pw_below_drewN | apply below_drew1 | refine below_set ?_ GE234.out | refine below_set ?_ GE235.out | refine below_set ?_ GE253.out) | exact HB.out)) hb); clear HO246; clear HO249; clear HO252; clear BK234; clear BK235; clear BK253; clear HB; have HO246 := n0_; have HO249 := n1_; have HO252 := n2_; have BK234 := n3_; have BK235 := n4_; have BK253 := n5_; have HB := n6_; clear n0_ n1_ n2_ n3_ n4_ n5_ n6_; (try clear hb); (try clear hb2); (try clear hk); (try clear hi)))
        go_ret
        exact ⟨by first | rfl | (simp [errW_none, errW_some] <;> rfl) | (simp [*, errW_none, errW_some] <;> rfl), by repeat (first | (with_reducible first | exact HB.out | apply below_alloc | apply pw_below_drewN | apply below_drew1 | refine below_set ?_ GE234.out | refine below_set ?_ GE235.out | refine below_set ?_ GE253.out) | exact HB.out)⟩
       ·replace c34 := Bool.eq_false_iff.mpr c34
        subst c34
        have H1 : (some false) = some r := by rw [if_neg (show ¬ (false = true) by decide)] at H; exact H
        clear H
        have H := H1
        clear H1
        obtain rfl := Option.some.inj H
        have hnb51 := NB234_235.out
        have hnc51 := NB235_234.out
        have hcz52_0 : wc.cell? ⟨gb234, 0, none⟩ = some (.int .u8 a0_0) := (blk_cell BK234.out 0).trans rfl
        have hcz52_1 : wc.cell? ⟨gb234, 1, none⟩ = some (.bool a0_1) := (blk_cell BK234.out 1).trans rfl
        have hcz52_2 : wc.cell? ⟨gb234, 2, none⟩ = some (.slice A0_2 l0_2.length c0_2) := (blk_cell BK234.out 2).trans rfl
        have hcz52_3 : wc.cell? ⟨gb234, 3, none⟩ = some (.slice A0_3 l0_3.length c0_3) := (blk_cell BK234.out 3).trans rfl
        have hcz52_4 : wc.cell? ⟨gb234, 4, none⟩ = some (.slice A0_4 l0_4.length c0_4) := (blk_cell BK234.out 4).trans rfl
        have hfz52_0 := blk_frozen BK234.out 0
        have hfz52_1 := blk_frozen BK234.out 1
        have hfz52_2 := blk_frozen BK234.out 2
        have hfz52_3 := blk_frozen BK234.out 3
        have hfz52_4 := blk_frozen BK234.out 4
        go_wp2_with (first | ((with_reducible refine gate_callee (f := 25) rfl ?_); refine goesL_ (some 25) rfl rfl Tryd.func25 (by kernel_rfl) rfl #[.agg #[.int .u8 a0_0, .bool a0_1, .slice A0_2 l0_2.length c0_2, .slice A0_3 l0_3.length c0_3, .slice A0_4 l0_4.length c0_4]] rfl (by (try simp only [List.map_toArray, List.map_cons, List.map_nil]); first | done | rfl | (simp only [List.length_drop, List.length_take]; rfl)) ?_; (with_reducible refine (tree_Copy.calls kj19 a0_0 a0_1 _ _ l0_2 _ _ l0_3 _ _ l0_4 t242 t243 t244 t247 t250 _ ?side1 ?side2 ?side3 ?side4 ?side5 ?side6 A32.out).mono ?_); (case side1 => repeat (first | exact (Kd.C_below HR0_2.out HB.out) | (with_reducible refine Kd.C_alloc ?_ _) | (with_reducible refine Kd.C_drewN ?_ _) | (with_reducible refine Kd.C_drew ?_))); (case side2 => exact HC0_2.out); (case side3 => repeat (first | exact (Kd.C_below HR0_3.out HB.out) | (with_reducible refine Kd.C_alloc ?_ _) | (with_reducible refine Kd.C_drewN ?_ _) | (with_reducible refine Kd.C_drew ?_))); (case side4 => exact HC0_3.out); (case side5 => repeat (first | exact (Kd.C_below HR0_4.out HB.out) | (with_reducible refine Kd.C_alloc ?_ _) | (with_reducible refine Kd.C_drewN ?_ _) | (with_reducible refine Kd.C_drew ?_))); (case side6 => exact HC0_4.out); rintro e w53 ⟨v245, v248, v251, rfl, ho0, ho1, ho2, hb⟩; refine ⟨_, rfl, ?_⟩; have n0_ := Aside0.mk (Kd.R_lower ho0 (below_size (by repeat (first | (with_reducible first | exact HB.out | apply below_alloc | apply pw_below_drewN | apply below_drew1 | refine below_set ?_ GE234.out | refine below_set ?_ GE235.out) | exact HB.out)))); have n1_ := Aside0.mk (Kd.R_lower ho1 (below_size (by repeat (first | (with_reducible first | exact HB.out | apply below_alloc | apply pw_below_drewN | apply below_drew1 | refine below_set ?_ GE234.out | refine below_set ?_ GE235.out) | exact HB.out)))); have n2_ := Aside0.mk (Kd.R_lower (Kd.R_newB (Kd.R_newB ho2 (g := gb234) (o := .cells #[.int .u8 a0_0, .bool a0_1, .slice A0_2 l0_2.length c0_2, .slice A0_3 l0_3.length c0_3, .slice A0_4 l0_4.length c0_4] 26 (0, 0)) (by (with_reducible repeat (first | refine blk_drewN ?_ _ | refine blk_drew ?_ | refine blk_alloc ?_ _)); exact BK234.out)) (g := gb235) (o := .cells #[.int .u8 a1_0, .bool a1_1, .slice A1_2 l1_2.length c1_2, .slice A1_3 l1_3.length c1_3, .slice A1_4 l1_4.length c1_4] 26 (0, 0)) (by (with_reducible repeat (first | refine blk_drewN ?_ _ | refine blk_drew ?_ | refine blk_alloc ?_ _)); exact BK235.out)) (below_size (by repeat (first | (with_reducible first | exact HB.out | apply below_alloc | apply pw_below_drewN | apply below_drew1 | refine below_set ?_ GE234.out | refine below_set ?_ GE235.out) | exact HB.out)))); have n3_ := Aside0.mk (blk_below (g := gb234) (o := .cells #[.int .u8 a0_0, .bool a0_1, .slice A0_2 l0_2.length c0_2, .slice A0_3 l0_3.length c0_3, .slice A0_4 l0_4.length c0_4] 26 (0, 0)) (by (with_reducible repeat (first | refine blk_drewN ?_ _ | refine blk_drew ?_ | refine blk_alloc ?_ _)); exact BK234.out) hb); have n4_ := Aside0.mk (blk_below (g := gb235) (o := .cells #[.int .u8 a1_0, .bool a1_1, .slice A1_2 l1_2.length c1_2, .slice A1_3 l1_3.length c1_3, .slice A1_4 l1_4.length c1_4] 26 (0, 0)) (by (with_reducible repeat (first | refine blk_drewN ?_ _ | refine blk_drew ?_ | refine blk_alloc ?_ _)); exact BK235.out) hb); have n5_ := Aside0.mk (below_step (by repeat (first | (with_reducible first | exact HB.out | apply below_alloc | apply pw_below_drewN | apply below_drew1 | refine below_set ?_ GE234.out | refine below_set ?_ GE235.out) | exact HB.out)) hb); clear BK234; clear BK235; clear HB; have HO246 := n0_; have HO249 := n1_; have HO252 := n2_; have BK234 := n3_; have BK235 := n4_; have HB := n5_; clear n0_ n1_ n2_ n3_ n4_ n5_; (try clear hb); (try clear hb2); (try clear hk); (try clear hi); (try clear ho0); (try clear ho1); (try clear ho2)) | ((with_reducible refine gate_dst (N := 5) rfl ?_); refine box_event ?hg (N := 5) ?hd (cs := #[.int .u8 0, .bool false, .slice none 0 0, .slice none 0 0, .slice none 0 0]) (t := 26) ?hr ?_; (case hd => rfl); (case hg => rfl); (case hr => first | (go_simp; done) | (go_simp; rfl)); intro gb253 hg w54 hbox hb; have n0_ := Aside0.mk (Kd.R_below (by (with_reducible repeat (first | apply Kd.R_alloc | apply Kd.R_drewN | apply Kd.R_drew)); exact HO246.out) hb); have n1_ := Aside0.mk (Kd.R_below (by (with_reducible repeat (first | apply Kd.R_alloc | apply Kd.R_drewN | apply Kd.R_drew)); exact HO249.out) hb); have n2_ := Aside0.mk (Kd.R_below (Kd.R_elderB (by (with_reducible repeat (first | apply Kd.R_alloc | apply Kd.R_drewN | apply Kd.R_drew)); exact HO252.out) gb253 (Nat.le_of_eq hg.symm)) hb); have n3_ := Aside0.mk (blk_below (g := gb234) (o := .cells #[.int .u8 a0_0, .bool a0_1, .slice A0_2 l0_2.length c0_2, .slice A0_3 l0_3.length c0_3, .slice A0_4 l0_4.length c0_4] 26 (0, 0)) (by (with_reducible repeat (first | refine blk_drewN ?_ _ | refine blk_drew ?_ | refine blk_alloc ?_ _)); exact BK234.out) hb); have n4_ := Aside0.mk (blk_below (g := gb235) (o := .cells #[.int .u8 a1_0, .bool a1_1, .slice A1_2 l1_2.length c1_2, .slice A1_3 l1_3.length c1_3, .slice A1_4 l1_4.length c1_4] 26 (0, 0)) (by (with_reducible repeat (first | refine blk_drewN ?_ _ | refine blk_drew ?_ | refine blk_alloc ?_ _)); exact BK235.out) hb); have n5_ := Aside0.mk (below_step (by repeat (first | (with_reducible first | exact HB.out | apply below_alloc | apply pw_below_drewN | apply below_drew1 | refine below_set ?_ GE234.out | refine below_set ?_ GE235.out) | exact HB.out)) hb); have n6_ := Aside0.mk (hbox); have n7_ := Aside0.mk ((by rw [hg]; exact (below_size (by repeat (first | (with_reducible first | exact HB.out | apply below_alloc | apply pw_below_drewN | apply below_drew1 | refine below_set ?_ GE234.out | refine below_set ?_ GE235.out) | exact HB.out))) : w.heap.size ≤ gb253)); have n8_ := Aside0.mk ((by rw [hg]; exact (below_size (by repeat (first | (with_reducible first | exact HB.out | apply below_alloc | apply pw_below_drewN | apply below_drew1 | refine below_set ?_ GE234.out | refine below_set ?_ GE235.out) | exact HB.out))) : w.heap.size ≤ gb253)); have n9_ := Aside0.mk ((by rw [hg]; exact Nat.ne_of_lt (blk_lt (g := gb234) (o := .cells #[.int .u8 a0_0, .bool a0_1, .slice A0_2 l0_2.length c0_2, .slice A0_3 l0_3.length c0_3, .slice A0_4 l0_4.length c0_4] 26 (0, 0)) (by (with_reducible repeat (first | refine blk_drewN ?_ _ | refine blk_drew ?_ | refine blk_alloc ?_ _)); exact BK234.out)) : gb234 ≠ gb253)); have n10_ := Aside0.mk ((by rw [hg]; exact Nat.ne_of_gt (blk_lt (g := gb234) (o := .cells #[.int .u8 a0_0, .bool a0_1, .slice A0_2 l0_2.length c0_2, .slice A0_3 l0_3.length c0_3, .slice A0_4 l0_4.length c0_4] 26 (0, 0)) (by (with_reducible repeat (first | refine blk_drewN ?_ _ | refine blk_drew ?_ | refine blk_alloc ?_ _)); exact BK234.out)) : gb253 ≠ gb234)); have n11_ := Aside0.mk ((by rw [hg]; exact Nat.ne_of_lt (blk_lt (g := gb235) (o := .cells #[.int .u8 a1_0, .bool a1_1, .slice A1_2 l1_2.length c1_2, .slice A1_3 l1_3.length c1_3, .slice A1_4 l1_4.length c1_4] 26 (0, 0)) (by (with_reducible repeat (first | refine blk_drewN ?_ _ | refine blk_drew ?_ | refine blk_alloc ?_ _)); exact BK235.out)) : gb235 ≠ gb253)); have n12_ := Aside0.mk ((by rw [hg]; exact Nat.ne_of_gt (blk_lt (g := gb235) (o := .cells #[.int .u8 a1_0, .bool a1_1, .slice A1_2 l1_2.length c1_2, .slice A1_3 l1_3.length c1_3, .slice A1_4 l1_4.length c1_4] 26 (0, 0)) (by (with_reducible repeat (first | refine blk_drewN ?_ _ | refine blk_drew ?_ | refine blk_alloc ?_ _)); exact BK235.out)) : gb253 ≠ gb235)); clear HO246; clear HO249; clear HO252; clear BK234; clear BK235; clear HB; have HO246 := n0_; have HO249 := n1_; have HO252 := n2_; have BK234 := n3_; have BK235 := n4_; have HB := n5_; have BK253 := n6_; have GW253 := n7_; have GE253 := n8_; have NB234_253 := n9_; have NB253_234 := n10_; have NB235_253 := n11_; have NB253_235 := n12_; clear n0_ n1_ n2_ n3_ n4_ n5_ n6_ n7_ n8_ n9_ n10_ n11_ n12_; clear hb hbox hg; have hnb55 := NB253_234.out; have hnc55 := NB234_253.out; have hnb56 := NB253_235.out; have hnc56 := NB235_253.out; have hcz57_0 : w54.cell? ⟨gb253, 0, none⟩ = some (.int .u8 0) := (blk_cell BK253.out 0).trans rfl; have hcz57_1 : w54.cell? ⟨gb253, 1, none⟩ = some (.bool false) := (blk_cell BK253.out 1).trans rfl; have hcz57_2 : w54.cell? ⟨gb253, 2, none⟩ = some (.slice none 0 0) := (blk_cell BK253.out 2).trans rfl; have hcz57_3 : w54.cell? ⟨gb253, 3, none⟩ = some (.slice none 0 0) := (blk_cell BK253.out 3).trans rfl; have hcz57_4 : w54.cell? ⟨gb253, 4, none⟩ = some (.slice none 0 0) := (blk_cell BK253.out 4).trans rfl; have hfz57_0 := blk_frozen BK253.out 0; have hfz57_1 := blk_frozen BK253.out 1; have hfz57_2 := blk_frozen BK253.out 2; have hfz57_3 := blk_frozen BK253.out 3; have hfz57_4 := blk_frozen BK253.out 4; obtain ⟨Ao58, co58, eo58⟩ := Kd.R_slice HO246.out; subst eo58; obtain ⟨Ao59, co59, eo59⟩ := Kd.R_slice HO249.out; subst eo59; obtain ⟨Ao60, co60, eo60⟩ := Kd.R_slice HO252.out; subst eo60; have hcz61_0 : w54.cell? ⟨gb234, 0, none⟩ = some (.int .u8 a0_0) := (blk_cell BK234.out 0).trans rfl; have hcz61_1 : w54.cell? ⟨gb234, 1, none⟩ = some (.bool a0_1) := (blk_cell BK234.out 1).trans rfl; have hcz61_2 : w54.cell? ⟨gb234, 2, none⟩ = some (.slice A0_2 l0_2.length c0_2) := (blk_cell BK234.out 2).trans rfl; have hcz61_3 : w54.cell? ⟨gb234, 3, none⟩ = some (.slice A0_3 l0_3.length c0_3) := (blk_cell BK234.out 3).trans rfl; have hcz61_4 : w54.cell? ⟨gb234, 4, none⟩ = some (.slice A0_4 l0_4.length c0_4) := (blk_cell BK234.out 4).trans rfl; have hfz61_0 := blk_frozen BK234.out 0; have hfz61_1 := blk_frozen BK234.out 1; have hfz61_2 := blk_frozen BK234.out 2; have hfz61_3 := blk_frozen BK234.out 3; have hfz61_4 := blk_frozen BK234.out 4) | ((with_reducible refine gate_callee (f := 22) rfl ?_); refine goesL_ (some 28) rfl rfl Tryd.func22 (by kernel_rfl) rfl #[.agg #[.int .u8 t242, .bool t243, .slice Ao58 t244.length co58, .slice Ao59 t247.length co59, .slice Ao60 t250.length co60], .agg #[.int .u8 a0_0, .bool a0_1, .slice A0_2 l0_2.length c0_2, .slice A0_3 l0_3.length c0_3, .slice A0_4 l0_4.length c0_4]] rfl (by (try simp only [List.map_toArray, List.map_cons, List.map_nil]); first | done | rfl | (simp only [List.length_drop, List.length_take]; rfl)) ?_; (with_reducible refine (r03_Same.calls kj19 t242 t243 _ _ t244 _ _ t247 _ _ t250 a0_0 a0_1 _ _ l0_2 _ _ l0_3 _ _ l0_4 false _ ?side1 ?side2 ?side3 ?side4 ?side5 ?side6 ?side7 ?side8 ?side9 ?side10 ?side11 ?side12 A33.out).mono ?_); (case side1 => refine (Kd.R_reads' (e := 5) (base := w.heap.size) (ok := fun k_ => True) (n := t244.length) (c := co58) ?_).2.2; exact (by (with_reducible repeat (first | apply Kd.R_alloc | apply Kd.R_drewN | apply Kd.R_drew)); exact (Kd.R_mono (Kd.R_far (p := ⟨gb253, 4, none⟩) (Kd.R_far (p := ⟨gb253, 3, none⟩) (Kd.R_far (p := ⟨gb253, 2, none⟩) (Kd.R_far (p := ⟨gb253, 1, none⟩) (Kd.R_far (p := ⟨gb253, 0, none⟩) (Kd.R_types HO246.out BK253.out (by decide)) (fun _ hk => hk.2) (.int .u8 t242)) (fun _ hk => hk.2) (.bool t243)) (fun _ hk => hk.2) (.slice Ao58 t244.length co58)) (fun _ hk => hk.2) (.slice Ao59 t247.length co59)) (fun _ hk => hk.2) (.slice Ao60 t250.length co60)) (fun _ h_ => h_.1)))); (case side2 => exact (Kd.R_reads' HO246.out).2.1); (case side3 => refine (Kd.R_reads' (e := 9) (base := w.heap.size) (ok := fun k_ => True) (n := t247.length) (c := co59) ?_).2.2; exact (by (with_reducible repeat (first | apply Kd.R_alloc | apply Kd.R_drewN | apply Kd.R_drew)); exact (Kd.R_mono (Kd.R_far (p := ⟨gb253, 4, none⟩) (Kd.R_far (p := ⟨gb253, 3, none⟩) (Kd.R_far (p := ⟨gb253, 2, none⟩) (Kd.R_far (p := ⟨gb253, 1, none⟩) (Kd.R_far (p := ⟨gb253, 0, none⟩) (Kd.R_types HO249.out BK253.out (by decide)) (fun _ hk => hk.2) (.int .u8 t242)) (fun _ hk => hk.2) (.bool t243)) (fun _ hk => hk.2) (.slice Ao58 t244.length co58)) (fun _ hk => hk.2) (.slice Ao59 t247.length co59)) (fun _ hk => hk.2) (.slice Ao60 t250.length co60)) (fun _ h_ => h_.1)))); (case side4 => exact (Kd.R_reads' HO249.out).2.1); (case side5 => refine (Kd.R_reads' (e := 26) (base := w.heap.size) (ok := fun k_ => ((((some k_ ≠ (.slice Ao58 t244.length co58 : Value).ownBlock ∧ some k_ ≠ (.slice Ao59 t247.length co59 : Value).ownBlock) ∧ k_ ≠ gb234) ∧ k_ ≠ gb235) ∧ k_ ≠ gb253)) (n := t250.length) (c := co60) ?_).2.2; exact (by (with_reducible repeat (first | apply Kd.R_alloc | apply Kd.R_drewN | apply Kd.R_drew)); exact (Kd.R_mono (Kd.R_far (p := ⟨gb253, 4, none⟩) (Kd.R_far (p := ⟨gb253, 3, none⟩) (Kd.R_far (p := ⟨gb253, 2, none⟩) (Kd.R_far (p := ⟨gb253, 1, none⟩) (Kd.R_far (p := ⟨gb253, 0, none⟩) (Kd.R_mono HO252.out (fun k_ hk => (⟨hk, hk.2⟩ : _ ∧ k_ ≠ gb253))) (fun _ hk => hk.2) (.int .u8 t242)) (fun _ hk => hk.2) (.bool t243)) (fun _ hk => hk.2) (.slice Ao58 t244.length co58)) (fun _ hk => hk.2) (.slice Ao59 t247.length co59)) (fun _ hk => hk.2) (.slice Ao60 t250.length co60)) (fun _ h_ => h_.1)))); (case side6 => exact (Kd.R_reads' HO252.out).2.1); (case side7 => exact Kd.C_below HR0_2.out (by repeat (first | (with_reducible first | exact HB.out | apply below_alloc | apply pw_below_drewN | apply below_drew1 | refine below_set ?_ GE234.out | refine below_set ?_ GE235.out | refine below_set ?_ GE253.out) | exact HB.out))); (case side8 => exact HC0_2.out); (case side9 => exact Kd.C_below HR0_3.out (by repeat (first | (with_reducible first | exact HB.out | apply below_alloc | apply pw_below_drewN | apply below_drew1 | refine below_set ?_ GE234.out | refine below_set ?_ GE235.out | refine below_set ?_ GE253.out) | exact HB.out))); (case side10 => exact HC0_3.out); (case side11 => exact Kd.C_below HR0_4.out (by repeat (first | (with_reducible first | exact HB.out | apply below_alloc | apply pw_below_drewN | apply below_drew1 | refine below_set ?_ GE234.out | refine below_set ?_ GE235.out | refine below_set ?_ GE253.out) | exact HB.out))); (case side12 => exact HC0_4.out); rintro e w62 ⟨rfl, hb⟩; refine ⟨_, rfl, ?_⟩; have n0_ := Aside0.mk (Kd.R_below (by (with_reducible repeat (first | apply Kd.R_alloc | apply Kd.R_drewN | apply Kd.R_drew)); exact (Kd.R_mono (Kd.R_far (p := ⟨gb253, 4, none⟩) (Kd.R_far (p := ⟨gb253, 3, none⟩) (Kd.R_far (p := ⟨gb253, 2, none⟩) (Kd.R_far (p := ⟨gb253, 1, none⟩) (Kd.R_far (p := ⟨gb253, 0, none⟩) (Kd.R_types HO246.out BK253.out (by decide)) (fun _ hk => hk.2) (.int .u8 t242)) (fun _ hk => hk.2) (.bool t243)) (fun _ hk => hk.2) (.slice Ao58 t244.length co58)) (fun _ hk => hk.2) (.slice Ao59 t247.length co59)) (fun _ hk => hk.2) (.slice Ao60 t250.length co60)) (fun _ h_ => h_.1))) hb); have n1_ := Aside0.mk (Kd.R_below (by (with_reducible repeat (first | apply Kd.R_alloc | apply Kd.R_drewN | apply Kd.R_drew)); exact (Kd.R_mono (Kd.R_far (p := ⟨gb253, 4, none⟩) (Kd.R_far (p := ⟨gb253, 3, none⟩) (Kd.R_far (p := ⟨gb253, 2, none⟩) (Kd.R_far (p := ⟨gb253, 1, none⟩) (Kd.R_far (p := ⟨gb253, 0, none⟩) (Kd.R_types HO249.out BK253.out (by decide)) (fun _ hk => hk.2) (.int .u8 t242)) (fun _ hk => hk.2) (.bool t243)) (fun _ hk => hk.2) (.slice Ao58 t244.length co58)) (fun _ hk => hk.2) (.slice Ao59 t247.length co59)) (fun _ hk => hk.2) (.slice Ao60 t250.length co60)) (fun _ h_ => h_.1))) hb); have n2_ := Aside0.mk (Kd.R_below (by (with_reducible repeat (first | apply Kd.R_alloc | apply Kd.R_drewN | apply Kd.R_drew)); exact (Kd.R_mono (Kd.R_far (p := ⟨gb253, 4, none⟩) (Kd.R_far (p := ⟨gb253, 3, none⟩) (Kd.R_far (p := ⟨gb253, 2, none⟩) (Kd.R_far (p := ⟨gb253, 1, none⟩) (Kd.R_far (p := ⟨gb253, 0, none⟩) (Kd.R_mono HO252.out (fun k_ hk => (⟨hk, hk.2⟩ : _ ∧ k_ ≠ gb253))) (fun _ hk => hk.2) (.int .u8 t242)) (fun _ hk => hk.2) (.bool t243)) (fun _ hk => hk.2) (.slice Ao58 t244.length co58)) (fun _ hk => hk.2) (.slice Ao59 t247.length co59)) (fun _ hk => hk.2) (.slice Ao60 t250.length co60)) (fun _ h_ => h_.1))) hb); have n3_ := Aside0.mk (blk_below (g := gb234) (o := .cells #[.int .u8 a0_0, .bool a0_1, .slice A0_2 l0_2.length c0_2, .slice A0_3 l0_3.length c0_3, .slice A0_4 l0_4.length c0_4] 26 (0, 0)) (by (with_reducible repeat (first | refine blk_drewN ?_ _ | refine blk_drew ?_ | refine blk_alloc ?_ _)); refine blk_far ?_ NB234_253.out _; (with_reducible repeat (first | refine blk_drewN ?_ _ | refine blk_drew ?_ | refine blk_alloc ?_ _)); refine blk_far ?_ NB234_253.out _; (with_reducible repeat (first | refine blk_drewN ?_ _ | refine blk_drew ?_ | refine blk_alloc ?_ _)); refine blk_far ?_ NB234_253.out _; (with_reducible repeat (first | refine blk_drewN ?_ _ | refine blk_drew ?_ | refine blk_alloc ?_ _)); refine blk_far ?_ NB234_253.out _; (with_reducible repeat (first | refine blk_drewN ?_ _ | refine blk_drew ?_ | refine blk_alloc ?_ _)); refine blk_far ?_ NB234_253.out _; (with_reducible repeat (first | refine blk_drewN ?_ _ | refine blk_drew ?_ | refine blk_alloc ?_ _)); exact BK234.out) hb); have n4_ := Aside0.mk (blk_below (g := gb235) (o := .cells #[.int .u8 a1_0, .bool a1_1, .slice A1_2 l1_2.length c1_2, .slice A1_3 l1_3.length c1_3, .slice A1_4 l1_4.length c1_4] 26 (0, 0)) (by (with_reducible repeat (first | refine blk_drewN ?_ _ | refine blk_drew ?_ | refine blk_alloc ?_ _)); refine blk_far ?_ NB235_253.out _; (with_reducible repeat (first | refine blk_drewN ?_ _ | refine blk_drew ?_ | refine blk_alloc ?_ _)); refine blk_far ?_ NB235_253.out _; (with_reducible repeat (first | refine blk_drewN ?_ _ | refine blk_drew ?_ | refine blk_alloc ?_ _)); refine blk_far ?_ NB235_253.out _; (with_reducible repeat (first | refine blk_drewN ?_ _ | refine blk_drew ?_ | refine blk_alloc ?_ _)); refine blk_far ?_ NB235_253.out _; (with_reducible repeat (first | refine blk_drewN ?_ _ | refine blk_drew ?_ | refine blk_alloc ?_ _)); refine blk_far ?_ NB235_253.out _; (with_reducible repeat (first | refine blk_drewN ?_ _ | refine blk_drew ?_ | refine blk_alloc ?_ _)); exact BK235.out) hb); have n5_ := Aside0.mk (blk_below (g := gb253) (o := .cells #[.int .u8 t242, .bool t243, .slice Ao58 t244.length co58, .slice Ao59 t247.length co59, .slice Ao60 t250.length co60] 26 (0, 0)) (by (with_reducible repeat (first | refine blk_drewN ?_ _ | refine blk_drew ?_ | refine blk_alloc ?_ _)); refine blk_put (cs := #[.int .u8 t242, .bool t243, .slice Ao58 t244.length co58, .slice Ao59 t247.length co59, .slice none 0 0]) ?_ 4 _ rfl; (with_reducible repeat (first | refine blk_drewN ?_ _ | refine blk_drew ?_ | refine blk_alloc ?_ _)); refine blk_put (cs := #[.int .u8 t242, .bool t243, .slice Ao58 t244.length co58, .slice none 0 0, .slice none 0 0]) ?_ 3 _ rfl; (with_reducible repeat (first | refine blk_drewN ?_ _ | refine blk_drew ?_ | refine blk_alloc ?_ _)); refine blk_put (cs := #[.int .u8 t242, .bool t243, .slice none 0 0, .slice none 0 0, .slice none 0 0]) ?_ 2 _ rfl; (with_reducible repeat (first | refine blk_drewN ?_ _ | refine blk_drew ?_ | refine blk_alloc ?_ _)); refine blk_put (cs := #[.int .u8 t242, .bool false, .slice none 0 0, .slice none 0 0, .slice none 0 0]) ?_ 1 _ rfl; (with_reducible repeat (first | refine blk_drewN ?_ _ | refine blk_drew ?_ | refine blk_alloc ?_ _)); refine blk_put (cs := #[.int .u8 0, .bool false, .slice none 0 0, .slice none 0 0, .slice none 0 0]) ?_ 0 _ rfl; (with_reducible repeat (first | refine blk_drewN ?_ _ | refine blk_drew ?_ | refine blk_alloc ?_ _)); exact BK253.out) hb); have n6_ := Aside0.mk (below_step (by repeat (first | (with_reducible first | exact HB.out | apply below_alloc | apply pw_below_drewN | apply below_drew1 | refine below_set ?_ GE234.out | refine below_set ?_ GE235.out | refine below_set ?_ GE253.out) | exact HB.out)) hb); clear HO246; clear HO249; clear HO252; clear BK234; clear BK235; clear BK253; clear HB; have HO246 := n0_; have HO249 := n1_; have HO252 := n2_; have BK234 := n3_; have BK235 := n4_; have BK253 := n5_; have HB := n6_; clear n0_ n1_ n2_ n3_ n4_ n5_ n6_; (try clear hb); (try clear hb2); (try clear hk); (try clear hi)))
        go_ret
        exact ⟨by first | rfl | (simp [errW_none, errW_some] <;> rfl) | (simp [*, errW_none, errW_some] <;> rfl), by repeat (first | (with_reducible first | exact HB.out | apply below_alloc | apply pw_below_drewN | apply below_drew1 | refine below_set ?_ GE234.out | refine below_set ?_ GE235.out | refine below_set ?_ GE253.out) | exact HB.out)⟩

end Go.Proofs.YtmhlmbmenoihnaaDoor.G
