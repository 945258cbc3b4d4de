-- PRINTED by print.py (a twelfth state) out of the translation. Not trusted: Lean checks it.
import Derived.Test.YtmhlmbmenoihnaaDoorG0
import Derived.Test.YtmhlmbmenoihnaaDoorG1
namespace Go.Proofs.YtmhlmbmenoihnaaDoor.G
open Go.RowKit Go.Proofs.YtmhlmbmenoihnaaDoorW.PrintWords Go.Proofs.YtmhlmbmenoihnaaDoorW.PrintLast Go.Proofs.YtmhlmbmenoihnaaDoorW.PrintMore
attribute [local go_sem] max2_int min2_int max_two min_two max_three min_three max_four min_four   -- for this text's walks alone
set_option linter.unusedVariables false
set_option linter.unusedSimpArgs false

/-! ### tree_Copy: function 25 -/
mutual
def tree_Copy.l0 : Nat → List (S26) → Int → Int → Int → Bool → List Int → List ByteArray → List (S26) → Option (Int × Bool × List Int × List ByteArray × (List (S26)))
 | 0, _, _, _, _, _, _, _, _ => none
 | k + 1, x18, x19, x20, x114000, x114001, x114002, x114003, x114004 => if x20 < x19 then (if 0 ≤ x20 then (if x20 < (x18.length : Int) then ((tree_Copy.f k ((rd_T26 x18 x20).f0) ((rd_T26 x18 x20).f1) ((rd_T26 x18 x20).f2) ((rd_T26 x18 x20).f3) ((rd_T26 x18 x20).f4)).bind fun bt116 => (if x114004.length < 1759218604441 then (tree_Copy.l0 k x18 x19 (wrap64 (x20 + 1)) x114000 x114001 x114002 x114003 (x114004 ++ [(⟨bt116.1, bt116.2.1, bt116.2.2.1, bt116.2.2.2.1, bt116.2.2.2.2⟩ : S26)])) else (none))) else (none)) else (none)) else (some (x114000, x114001, x114002, x114003, x114004))
def tree_Copy.f : Nat → Int → Bool → List Int → List ByteArray → List (S26) → Option (Int × Bool × List Int × List ByteArray × (List (S26)))
 | 0, _, _, _, _, _ => none
 | k + 1, a0_0, a0_1, l0_2, l0_3, l0_4 => (bytes_Clone.f l0_2).bind fun t107 => ((sl_Clone_ss.f l0_3).bind fun t110 => (tree_Copy.l0 k l0_4 (l0_4.length : Int) 0 a0_0 a0_1 t107 t110 ([] : List (S26))))
end
theorem tree_Copy.mono_l : ∀ k, (∀ y0 y1 y2 y3 y4, LeO (tree_Copy.f k y0 y1 y2 y3 y4) (tree_Copy.f (k + 1) y0 y1 y2 y3 y4)) ∧ (∀ y0 y1 y2 y3 y4 y5 y6 y7, LeO (tree_Copy.l0 k y0 y1 y2 y3 y4 y5 y6 y7) (tree_Copy.l0 (k + 1) y0 y1 y2 y3 y4 y5 y6 y7))
 | 0 => ⟨fun _ _ _ _ _ r h => by simp [tree_Copy.f] at h, fun _ _ _ _ _ _ _ _ r h => by simp [tree_Copy.l0] at h⟩
 | k + 1 => by
  obtain ⟨ih0, ih1⟩ := tree_Copy.mono_l k
  refine ⟨?_, ?_⟩
  ·intro y0 y1 y2 y3 y4
   unfold tree_Copy.f
   repeat' first
   | (with_reducible exact ih0 _ _ _ _ _)
   | (with_reducible exact ih1 _ _ _ _ _ _ _ _)
   | (with_reducible exact LeO.refl _)
   | (with_reducible exact LeO.none _)
   | (with_reducible refine LeO.ite ?_ ?_)
   | (with_reducible refine LeO.bind ?_ (fun _ => ?_))
   | exact ih0 _ _ _ _ _
   | exact ih1 _ _ _ _ _ _ _ _
   | exact LeO.none _
   | refine LeO.ite ?_ ?_
   | refine LeO.bind ?_ (fun _ => ?_)
  ·intro y0 y1 y2 y3 y4 y5 y6 y7
   unfold tree_Copy.l0
   repeat' first
   | (with_reducible exact ih0 _ _ _ _ _)
   | (with_reducible exact ih1 _ _ _ _ _ _ _ _)
   | (with_reducible exact LeO.refl _)
   | (with_reducible exact LeO.none _)
   | (with_reducible refine LeO.ite ?_ ?_)
   | (with_reducible refine LeO.bind ?_ (fun _ => ?_))
   | exact ih0 _ _ _ _ _
   | exact ih1 _ _ _ _ _ _ _ _
   | exact LeO.none _
   | refine LeO.ite ?_ ?_
   | refine LeO.bind ?_ (fun _ => ?_)
theorem tree_Copy.mono : ∀ a0 a1 a2 a3 a4 k, LeO (tree_Copy.f k a0 a1 a2 a3 a4) (tree_Copy.f (k + 1) a0 a1 a2 a3 a4) := by
 intro a0 a1 a2 a3 a4 k
 obtain ⟨ih0, ih1⟩ := tree_Copy.mono_l k
 exact ih0 a0 a1 a2 a3 a4
def tree_Copy.T1 : Bool × List (List Nat × List Nat) := (true, [([], []), ([0], [0]), ([], []), ([2], [2]), ([], []), ([4], [4]), ([5], [5]), ([], []), ([7], [7]), ([8, 6], [8]), ([1, 3, 6, 9], [1, 3, 6, 9]), ([], []), ([11, 10, 9, 0, 1, 2, 3, 4, 5, 6, 7, 8, 9, 10, 11], [10, 11])])
def tree_Copy.B1 : List Nat := [0, 1, 0, 4, 0, 16, 48, 0, 128, 496, 1023, 0, 4095]
theorem tree_Copy.tab1 : rtab .any (opsOf Tryd.f25 1) = tree_Copy.T1 := by kernel_rfl
theorem tree_Copy.bits1 : waitsOk tree_Copy.T1.2 tree_Copy.B1 = true := by kernel_rfl
def tree_Copy.T5 : Bool × List (List Nat × List Nat) := (true, [([], []), ([0], [0]), ([], []), ([2], [2]), ([3], [3]), ([1, 4, 3], [1, 4]), ([0, 1, 2, 3, 4, 5], []), ([6, 5, 5, 0, 1, 2, 3, 4, 5], [5, 6])])
def tree_Copy.B5 : List Nat := [0, 1, 0, 4, 12, 31, 63, 127]
theorem tree_Copy.tab5 : rtab .any (opsOf Tryd.f25 5) = tree_Copy.T5 := by kernel_rfl
theorem tree_Copy.bits5 : waitsOk tree_Copy.T5.2 tree_Copy.B5 = true := by kernel_rfl
set_option maxHeartbeats 8000000 in
set_option maxRecDepth 100000 in
theorem tree_Copy.calls (k : Nat) : ∀ (a0_0 : Int) (a0_1 : Bool) (A0_2 : Option Addr) (c0_2 : Nat) (l0_2 : List Int) (A0_3 : Option Addr) (c0_3 : Nat) (l0_3 : List ByteArray) (A0_4 : Option Addr) (c0_4 : Nat) (l0_4 : List (S26)) (r1 : Int) (r2 : Bool) (r3 : List Int) (r4 : List ByteArray) (r5 : List (S26)) (w : World) (hr0_2 : Kd.C (Kd.int .u8) w A0_2 l0_2.length l0_2) (hc0_2 : l0_2.length ≤ c0_2) (hr0_3 : Kd.C Kd.string w A0_3 l0_3.length l0_3) (hc0_3 : l0_3.length ≤ c0_3) (hr0_4 : Kd.C k26 w A0_4 l0_4.length l0_4) (hc0_4 : l0_4.length ≤ c0_4) (h : tree_Copy.f k a0_0 a0_1 l0_2 l0_3 l0_4 = some (r1, r2, r3, r4, r5)),
  Calls Tryd.prog 25 #[.agg #[.int .u8 a0_0, .bool a0_1, .slice A0_2 l0_2.length c0_2, .slice A0_3 l0_3.length c0_3, .slice A0_4 l0_4.length c0_4]] w fun e w' => ∃ v2_ v3_ v4_ : Value, e = .returned (.agg #[.int .u8 r1, .bool r2, v2_, v3_, v4_]) ∧ Kd.R (Kd.int .u8) 5 w' w.heap.size (fun _ => True) v2_ r3 ∧ Kd.R Kd.string 9 w' w.heap.size (fun _ => True) v3_ r4 ∧ Kd.R k26 26 w' w.heap.size (fun k_ => some k_ ≠ (v2_ : Value).ownBlock ∧ some k_ ≠ (v3_ : Value).ownBlock) v4_ r5 ∧ Below w.heap.size w w' := by
 induction k using Nat.strongRecOn with
 | _ k ih =>
 intro a0_0 a0_1 A0_2 c0_2 l0_2 A0_3 c0_3 l0_3 A0_4 c0_4 l0_4 r1 r2 r3 r4 r5 w hr0_2 hc0_2 hr0_3 hc0_3 hr0_4 hc0_4 h
 cases k with
 | zero => exact absurd h (by simp [tree_Copy.f])
 | succ k =>
 simp only [tree_Copy.f] at h
 have hu26 := Tryd.underlying26
 have HR0_2 := Aside0.mk hr0_2
 have HC0_2 := Aside0.mk hc0_2
 clear hr0_2 hc0_2
 have HR0_3 := Aside0.mk hr0_3
 have HC0_3 := Aside0.mk hc0_3
 clear hr0_3 hc0_3
 have HR0_4 := Aside0.mk hr0_4
 have HC0_4 := Aside0.mk hc0_4
 clear hr0_4 hc0_4
 have HB := Aside0.mk (Below.refl w.heap.size w)
 have H : ((bytes_Clone.f l0_2).bind fun t107 => ((sl_Clone_ss.f l0_3).bind fun t110 => (tree_Copy.l0 k l0_4 (l0_4.length : Int) 0 a0_0 a0_1 t107 t110 ([] : List (S26))))) = some (r1, r2, r3, r4, r5) := h
 clear h
 replace H := Option.bind_eq_some_iff.mp H
 obtain ⟨t107, A20, H⟩ := H
 replace H : ((sl_Clone_ss.f l0_3).bind fun t110 => (tree_Copy.l0 k l0_4 (l0_4.length : Int) 0 a0_0 a0_1 t107 t110 ([] : List (S26)))) = some (r1, r2, r3, r4, r5) := H
 have A2 := Aside0.mk A20
 clear A20
 replace H := Option.bind_eq_some_iff.mp H
 obtain ⟨t110, A30, H⟩ := H
 replace H : (tree_Copy.l0 k l0_4 (l0_4.length : Int) 0 a0_0 a0_1 t107 t110 ([] : List (S26))) = some (r1, r2, r3, r4, r5) := H
 have A3 := Aside0.mk A30
 clear A30
 have H' := Aside0.mk H
 clear H
 go_enter Tryd.func25, Tryd.ntmps25
 try go_wp2_with (first | ((with_reducible refine gate_dst (N := 1) rfl ?_); refine box_event ?hg (N := 1) ?hd (cs := #[.int .u8 a0_0, .bool a0_1, .slice A0_2 l0_2.length c0_2, .slice A0_3 l0_3.length c0_3, .slice A0_4 l0_4.length c0_4]) (t := 26) ?hr ?_; (case hd => rfl); (case hg => rfl); (case hr => first | (go_simp; done) | (go_simp; rfl)); intro gb105 hg w4 hbox hb; have n0_ := Aside0.mk (below_step (by repeat (first | (with_reducible first | exact HB.out | apply below_alloc | apply pw_below_drewN | apply below_drew1) | exact HB.out)) hb); have n1_ := Aside0.mk (hbox); have n2_ := Aside0.mk ((by rw [hg]; exact (below_size (by repeat (first | (with_reducible first | exact HB.out | apply below_alloc | apply pw_below_drewN | apply below_drew1) | exact HB.out))) : w.heap.size ≤ gb105)); have n3_ := Aside0.mk ((by rw [hg]; exact (below_size (by repeat (first | (with_reducible first | exact HB.out | apply below_alloc | apply pw_below_drewN | apply below_drew1) | exact HB.out))) : w.heap.size ≤ gb105)); clear HB; have HB := n0_; have BK105 := n1_; have GW105 := n2_; have GE105 := n3_; clear n0_ n1_ n2_ n3_; clear hb hbox hg) | ((with_reducible refine gate_dst (N := 2) rfl ?_); refine box_event ?hg (N := 2) ?hd (cs := #[.int .u8 0, .bool false, .slice none 0 0, .slice none 0 0, .slice none 0 0]) (t := 26) ?hr ?_; (case hd => rfl); (case hg => rfl); (case hr => first | (go_simp; done) | (go_simp; rfl)); intro gb106 hg w5 hbox hb; have n0_ := Aside0.mk (blk_below (g := gb105) (o := .cells #[.int .u8 a0_0, .bool a0_1, .slice A0_2 l0_2.length c0_2, .slice A0_3 l0_3.length c0_3, .slice A0_4 l0_4.length c0_4] 26 (0, 0)) (by (with_reducible repeat (first | refine blk_drewN ?_ _ | refine blk_drew ?_ | refine blk_alloc ?_ _)); exact BK105.out) hb); have n1_ := Aside0.mk (below_step (by repeat (first | (with_reducible first | exact HB.out | apply below_alloc | apply pw_below_drewN | apply below_drew1 | refine below_set ?_ GE105.out) | exact HB.out)) hb); have n2_ := Aside0.mk (hbox); have n3_ := Aside0.mk ((by rw [hg]; exact (below_size (by repeat (first | (with_reducible first | exact HB.out | apply below_alloc | apply pw_below_drewN | apply below_drew1 | refine below_set ?_ GE105.out) | exact HB.out))) : w.heap.size ≤ gb106)); have n4_ := Aside0.mk ((by rw [hg]; exact (below_size (by repeat (first | (with_reducible first | exact HB.out | apply below_alloc | apply pw_below_drewN | apply below_drew1 | refine below_set ?_ GE105.out) | exact HB.out))) : w.heap.size ≤ gb106)); have n5_ := Aside0.mk ((by rw [hg]; exact Nat.ne_of_lt (blk_lt (g := gb105) (o := .cells #[.int .u8 a0_0, .bool a0_1, .slice A0_2 l0_2.length c0_2, .slice A0_3 l0_3.length c0_3, .slice A0_4 l0_4.length c0_4] 26 (0, 0)) (by (with_reducible repeat (first | refine blk_drewN ?_ _ | refine blk_drew ?_ | refine blk_alloc ?_ _)); exact BK105.out)) : gb105 ≠ gb106)); have n6_ := Aside0.mk ((by rw [hg]; exact Nat.ne_of_gt (blk_lt (g := gb105) (o := .cells #[.int .u8 a0_0, .bool a0_1, .slice A0_2 l0_2.length c0_2, .slice A0_3 l0_3.length c0_3, .slice A0_4 l0_4.length c0_4] 26 (0, 0)) (by (with_reducible repeat (first | refine blk_drewN ?_ _ | refine blk_drew ?_ | refine blk_alloc ?_ _)); exact BK105.out)) : gb106 ≠ gb105)); clear BK105; clear HB; have BK105 := n0_; have HB := n1_; have BK106 := n2_; have GW106 := n3_; have GE106 := n4_; have NB105_106 := n5_; have NB106_105 := n6_; clear n0_ n1_ n2_ n3_ n4_ n5_ n6_; clear hb hbox hg))
 have n0_ := Aside0.mk (blk_drew BK105.out)
 have n1_ := Aside0.mk (blk_drew BK106.out)
 have n2_ := Aside0.mk (below_drew1 HB.out)
 clear BK105
 clear BK106
 clear HB
 have BK105 := n0_
 have BK106 := n1_
 have HB := n2_
 clear n0_ n1_ n2_
 refine start_ (n := 13) (S := fun w' => w'.cell? ⟨gb105, 0, none⟩ = some (.int .u8 a0_0) ∧ w'.cell? ⟨gb105, 1, none⟩ = some (.bool a0_1) ∧ w'.cell? ⟨gb105, 2, none⟩ = some (.slice A0_2 l0_2.length c0_2) ∧ w'.cell? ⟨gb105, 3, none⟩ = some (.slice A0_3 l0_3.length c0_3) ∧ w'.cell? ⟨gb105, 4, none⟩ = some (.slice A0_4 l0_4.length c0_4)) (ds := []) #[false, false, false, false, false, false, false, false, false, false, false, false, false] (by kernel_rfl) rfl rfl ⟨(blk_cell BK105.out 0).trans rfl, (blk_cell BK105.out 1).trans rfl, (blk_cell BK105.out 2).trans rfl, (blk_cell BK105.out 3).trans rfl, (blk_cell BK105.out 4).trans rfl⟩ (fun hHeld => ?_); refine with_tabW tree_Copy.tab1 tree_Copy.bits1 (fun HT_ HW_ => ?_)
 generalize w5.drew = w6 at BK105 BK106 HB hHeld ⊢
 refine pure_ (i := 0) (N := some 6) (v := ?_) (a' := ?_) #[true, false, false, false, false, false, false, false, false, false, false, false, false] rfl rfl (any_of HT_.out (by kernel_rfl)) (fun _ _ _ h => h) (Or.inl ⟨by rfl, ?_⟩) ?_ ?_
 rotate_left
 ·intro w'
  go_simp
  with_reducible rfl
 rotate_left
 ·simp only [Act.put, List.setIfInBounds_toArray, List.set_cons_zero, List.set_cons_succ, i64_w, i32_w]
  rfl
 refine pure_ (i := 2) (N := some 8) (v := ?_) (a' := ?_) #[true, false, true, false, false, false, false, false, false, false, false, false, false] rfl rfl (any_of HT_.out (by kernel_rfl)) (fun _ _ _ h => h) (Or.inl ⟨by rfl, ?_⟩) ?_ ?_
 rotate_left
 ·intro w'
  go_simp
  with_reducible rfl
 rotate_left
 ·simp only [Act.put, List.setIfInBounds_toArray, List.set_cons_zero, List.set_cons_succ, i64_w, i32_w]
  rfl
 refine pure_ (i := 4) (N := some 10) (v := ?_) (a' := ?_) #[true, false, true, false, true, false, false, false, false, false, false, false, false] rfl rfl (any_of HT_.out (by kernel_rfl)) (fun _ _ _ h => h) (Or.inl ⟨by rfl, ?_⟩) ?_ ?_
 rotate_left
 ·intro w'
  go_simp
  with_reducible rfl
 rotate_left
 ·simp only [Act.put, List.setIfInBounds_toArray, List.set_cons_zero, List.set_cons_succ, i64_w, i32_w]
  rfl
 refine pure_ (i := 7) (N := some 13) (v := ?_) (a' := ?_) #[true, false, true, false, true, false, false, true, false, false, false, false, false] rfl rfl (any_of HT_.out (by kernel_rfl)) (fun _ _ _ h => h) (Or.inl ⟨by rfl, ?_⟩) ?_ ?_
 rotate_left
 ·intro w'
  go_simp
  with_reducible rfl
 rotate_left
 ·simp only [Act.put, List.setIfInBounds_toArray, List.set_cons_zero, List.set_cons_succ, i64_w, i32_w]
  rfl
 refine take_ (i := 1) (N := some 7) (v := ?_) (a' := ?_) #[true, true, true, false, true, false, false, true, false, false, false, false, false] rfl rfl (take_ofW HT_.out HW_.out (by kernel_rfl)) (fun _ _ _ h => h) (Or.inl ⟨by rfl, ?_⟩) hHeld ?_ ?_
 rotate_left
 ·rintro w' ⟨s0, s1, s2, s3, s4⟩
  go_simp
  with_reducible rfl
 rotate_left
 ·simp only [Act.put, List.setIfInBounds_toArray, List.set_cons_zero, List.set_cons_succ, i64_w, i32_w]
  rfl
 refine take_ (i := 3) (N := some 9) (v := ?_) (a' := ?_) #[true, true, true, true, true, false, false, true, false, false, false, false, false] rfl rfl (take_ofW HT_.out HW_.out (by kernel_rfl)) (fun _ _ _ h => h) (Or.inl ⟨by rfl, ?_⟩) hHeld ?_ ?_
 rotate_left
 ·rintro w' ⟨s0, s1, s2, s3, s4⟩
  go_simp
  with_reducible rfl
 rotate_left
 ·simp only [Act.put, List.setIfInBounds_toArray, List.set_cons_zero, List.set_cons_succ, i64_w, i32_w]
  rfl
 refine take_ (i := 5) (N := some 11) (v := ?_) (a' := ?_) #[true, true, true, true, true, true, false, true, false, false, false, false, false] rfl rfl (take_ofW HT_.out HW_.out (by kernel_rfl)) (fun _ _ _ h => h) (Or.inl ⟨by rfl, ?_⟩) hHeld ?_ ?_
 rotate_left
 ·rintro w' ⟨s0, s1, s2, s3, s4⟩
  go_simp
  with_reducible rfl
 rotate_left
 ·simp only [Act.put, List.setIfInBounds_toArray, List.set_cons_zero, List.set_cons_succ, i64_w, i32_w]
  rfl
 refine take_ (i := 8) (N := some 14) (v := ?_) (a' := ?_) #[true, true, true, true, true, true, false, true, true, false, false, false, false] rfl rfl (take_ofW HT_.out HW_.out (by kernel_rfl)) (fun _ _ _ h => h) (Or.inl ⟨by rfl, ?_⟩) hHeld ?_ ?_
 rotate_left
 ·rintro w' ⟨s0, s1, s2, s3, s4⟩
  go_simp
  with_reducible rfl
 rotate_left
 ·simp only [Act.put, List.setIfInBounds_toArray, List.set_cons_zero, List.set_cons_succ, i64_w, i32_w]
  rfl
 refine join_ (σ := Value × Value × Nat) 1 #[true, true, true, true, true, true, true, true, true, true, true, true, false] (fun s_ => [(12, s_.1), (15, s_.2.1), (3, .pointer (some ⟨s_.2.2, 0, none⟩)), (16, .agg #[.int .u8 a0_0, .bool a0_1, s_.1, s_.2.1, .slice none 0 0])]) (fun s_ w' => (w'.cell? ⟨gb105, 0, none⟩ = some (.int .u8 a0_0) ∧ w'.cell? ⟨gb105, 1, none⟩ = some (.bool a0_1) ∧ w'.cell? ⟨gb105, 2, none⟩ = some (.slice A0_2 l0_2.length c0_2) ∧ w'.cell? ⟨gb105, 3, none⟩ = some (.slice A0_3 l0_3.length c0_3) ∧ w'.cell? ⟨gb105, 4, none⟩ = some (.slice A0_4 l0_4.length c0_4)) ∧ (Kd.R (Kd.int .u8) 5 w' w.heap.size (fun _ => True) s_.1 t107) ∧ (Kd.R Kd.string 9 w' w.heap.size (fun _ => True) s_.2.1 t110) ∧ (w'.heap[gb105]? = some (.cells #[.int .u8 a0_0, .bool a0_1, .slice A0_2 l0_2.length c0_2, .slice A0_3 l0_3.length c0_3, .slice A0_4 l0_4.length c0_4] 26 (0, 0))) ∧ (w'.heap[gb106]? = some (.cells #[.int .u8 0, .bool false, .slice none 0 0, .slice none 0 0, .slice none 0 0] 26 (0, 0))) ∧ (w'.heap[s_.2.2]? = some (.cells #[.int .u8 0, .bool false, .slice none 0 0, .slice none 0 0, .slice none 0 0] 26 (0, 0))) ∧ (w.heap.size ≤ s_.2.2) ∧ (w.heap.size ≤ s_.2.2) ∧ (gb105 ≠ s_.2.2) ∧ (s_.2.2 ≠ gb105) ∧ (gb106 ≠ s_.2.2) ∧ (s_.2.2 ≠ gb106) ∧ (Below w.heap.size w w')) ?_ ?_
 rotate_left
 ·intro hCont
  refine two_ (i := 6) (j := 11) (Ni := some 12) (Nj := some 3) #[true, true, true, true, true, true, true, true, true, false, false, false, false] #[true, true, true, true, true, true, false, true, true, false, false, true, false] rfl rfl rfl rfl (two_of HT_.out (by kernel_rfl)) (by decide) (by decide) (fun K hK => ?_) (fun K hK => ?_)
  ·skip
   refine goes_ Tryd.func37 (by kernel_rfl) rfl #[.slice A0_2 l0_2.length c0_2] (by rfl) rfl rfl (by (try simp only [List.map_toArray, List.map_cons, List.map_nil]); first | done | rfl | (simp only [List.length_drop, List.length_take]; rfl)) ?_
   with_reducible refine (bytes_Clone.calls _ _ l0_2 t107 _ ?side1 ?side2 A2.out).mono ?_
   (case side1 => repeat (first | exact (Kd.C_below HR0_2.out HB.out) | (with_reducible refine Kd.C_alloc ?_ _) | (with_reducible refine Kd.C_drewN ?_ _) | (with_reducible refine Kd.C_drew ?_)))
   (case side2 => exact HC0_2.out)
   rintro e w7 ⟨v108, rfl, ho0, hb⟩
   refine ⟨_, rfl, ?_⟩
   have n0_ := Aside0.mk (Kd.R_lower ho0 (below_size (by repeat (first | (with_reducible first | exact HB.out | apply below_alloc | apply pw_below_drewN | apply below_drew1 | refine below_set ?_ GE105.out | refine below_set ?_ GE106.out) | exact HB.out))))
   have n1_ := Aside0.mk (blk_below (g := gb105) (o := .cells #[.int .u8 a0_0, .bool a0_1, .slice A0_2 l0_2.length c0_2, .slice A0_3 l0_3.length c0_3, .slice A0_4 l0_4.length c0_4] 26 (0, 0)) (by (with_reducible repeat (first | refine blk_drewN ?_ _ | refine blk_drew ?_ | refine blk_alloc ?_ _)); exact BK105.out) hb)
   have n2_ := Aside0.mk (blk_below (g := gb106) (o := .cells #[.int .u8 0, .bool false, .slice none 0 0, .slice none 0 0, .slice none 0 0] 26 (0, 0)) (by (with_reducible repeat (first | refine blk_drewN ?_ _ | refine blk_drew ?_ | refine blk_alloc ?_ _)); exact BK106.out) hb)
   have n3_ := Aside0.mk (below_step (by repeat (first | (with_reducible first | exact HB.out | apply below_alloc | apply pw_below_drewN | apply below_drew1 | refine below_set ?_ GE105.out | refine below_set ?_ GE106.out) | exact HB.out)) hb)
   clear BK105
   clear BK106
   clear HB
   have HO109 := n0_
   have BK105 := n1_
   have BK106 := n2_
   have HB := n3_
   clear n0_ n1_ n2_ n3_
   (try clear hb)
   (try clear hb2)
   (try clear hk)
   (try clear hi)
   (try clear ho0)
   refine hK.out _ _ ⟨(blk_cell BK105.out 0).trans rfl, (blk_cell BK105.out 1).trans rfl, (blk_cell BK105.out 2).trans rfl, (blk_cell BK105.out 3).trans rfl, (blk_cell BK105.out 4).trans rfl⟩ (fun hHeld => ?_)
   clear hK K
   refine norm_ (a' := ?_) ?_ ?_
   rotate_left
   ·show Act.put _ (some 12) _ = _
    simp only [Act.put, List.setIfInBounds_toArray, List.set_cons_zero, List.set_cons_succ, i64_w, i32_w]
    rfl
   refine two_ (i := 9) (j := 11) (Ni := some 15) (Nj := some 3) #[true, true, true, true, true, true, true, true, true, true, false, false, false] #[true, true, true, true, true, true, true, true, true, false, false, true, false] rfl rfl rfl rfl (two_of HT_.out (by kernel_rfl)) (by decide) (by decide) (fun K hK => ?_) (fun K hK => ?_)
   ·skip
    refine goes_ Tryd.func38 (by kernel_rfl) rfl #[.slice A0_3 l0_3.length c0_3] (by rfl) rfl rfl (by (try simp only [List.map_toArray, List.map_cons, List.map_nil]); first | done | rfl | (simp only [List.length_drop, List.length_take]; rfl)) ?_
    with_reducible refine (sl_Clone_ss.calls _ _ l0_3 t110 _ ?side1 ?side2 A3.out).mono ?_
    (case side1 => repeat (first | exact (Kd.C_below HR0_3.out HB.out) | (with_reducible refine Kd.C_alloc ?_ _) | (with_reducible refine Kd.C_drewN ?_ _) | (with_reducible refine Kd.C_drew ?_)))
    (case side2 => exact HC0_3.out)
    rintro e w8 ⟨v111, rfl, ho0, hb⟩
    refine ⟨_, rfl, ?_⟩
    have n0_ := Aside0.mk (Kd.R_below (by (with_reducible repeat (first | apply Kd.R_alloc | apply Kd.R_drewN | apply Kd.R_drew)); exact HO109.out) hb)
    have n1_ := Aside0.mk (Kd.R_lower ho0 (below_size (by repeat (first | (with_reducible first | exact HB.out | apply below_alloc | apply pw_below_drewN | apply below_drew1 | refine below_set ?_ GE105.out | refine below_set ?_ GE106.out) | exact HB.out))))
    have n2_ := Aside0.mk (blk_below (g := gb105) (o := .cells #[.int .u8 a0_0, .bool a0_1, .slice A0_2 l0_2.length c0_2, .slice A0_3 l0_3.length c0_3, .slice A0_4 l0_4.length c0_4] 26 (0, 0)) (by (with_reducible repeat (first | refine blk_drewN ?_ _ | refine blk_drew ?_ | refine blk_alloc ?_ _)); exact BK105.out) hb)
    have n3_ := Aside0.mk (blk_below (g := gb106) (o := .cells #[.int .u8 0, .bool false, .slice none 0 0, .slice none 0 0, .slice none 0 0] 26 (0, 0)) (by (with_reducible repeat (first | refine blk_drewN ?_ _ | refine blk_drew ?_ | refine blk_alloc ?_ _)); exact BK106.out) hb)
    have n4_ := Aside0.mk (below_step (by repeat (first | (with_reducible first | exact HB.out | apply below_alloc | apply pw_below_drewN | apply below_drew1 | refine below_set ?_ GE105.out | refine below_set ?_ GE106.out) | exact HB.out)) hb)
    clear HO109
    clear BK105
    clear BK106
    clear HB
    have HO109 := n0_
    have HO112 := n1_
    have BK105 := n2_
    have BK106 := n3_
    have HB := n4_
    clear n0_ n1_ n2_ n3_ n4_
    (try clear hb)
    (try clear hb2)
    (try clear hk)
    (try clear hi)
    (try clear ho0)
    obtain ⟨Ao9, co9, eo9⟩ := Kd.R_slice HO112.out
    (first | subst eo9 | (injection eo9 with f1_ f2_ f3_; have f4_ := f1_.symm; have f5_ := f3_.symm; clear f1_ f2_ f3_; subst f4_; subst f5_))
    obtain ⟨Ao10, co10, eo10⟩ := Kd.R_slice HO109.out
    (first | subst eo10 | (injection eo10 with f1_ f2_ f3_; have f4_ := f1_.symm; have f5_ := f3_.symm; clear f1_ f2_ f3_; subst f4_; subst f5_))
    refine hK.out _ _ ⟨(blk_cell BK105.out 0).trans rfl, (blk_cell BK105.out 1).trans rfl, (blk_cell BK105.out 2).trans rfl, (blk_cell BK105.out 3).trans rfl, (blk_cell BK105.out 4).trans rfl⟩ (fun hHeld => ?_)
    clear hK K
    refine norm_ (a' := ?_) ?_ ?_
    rotate_left
    ·show Act.put _ (some 15) _ = _
     simp only [Act.put, List.setIfInBounds_toArray, List.set_cons_zero, List.set_cons_succ, i64_w, i32_w]
     rfl
    refine pure_ (i := 10) (N := some 16) (v := ?_) (a' := ?_) #[true, true, true, true, true, true, true, true, true, true, true, false, false] rfl rfl (any_of HT_.out (by kernel_rfl)) (fun _ _ _ h => h) (Or.inl ⟨by rfl, ?_⟩) ?_ ?_
    rotate_left
    ·intro w'
     go_simp
     with_reducible rfl
    rotate_left
    ·simp only [Act.put, List.setIfInBounds_toArray, List.set_cons_zero, List.set_cons_succ, i64_w, i32_w]
     rfl
    refine one_ (i := 11) (N := some 3) #[true, true, true, true, true, true, true, true, true, true, true, true, false] rfl rfl (one_of HT_.out (by kernel_rfl)) (by decide) (fun K hK => ?_)
    refine box_step ?hg (N := 3) ?hd (cs := #[.int .u8 0, .bool false, .slice none 0 0, .slice none 0 0, .slice none 0 0]) (t := 26) ?hr ?_; (case hd => rfl); (case hg => rfl); (case hr => first | (go_simp; done) | (go_simp; rfl))
    intro gb113 hg w11 hbox hb
    have n0_ := Aside0.mk (Kd.R_below (by (with_reducible repeat (first | apply Kd.R_alloc | apply Kd.R_drewN | apply Kd.R_drew)); exact HO109.out) hb)
    have n1_ := Aside0.mk (Kd.R_below (by (with_reducible repeat (first | apply Kd.R_alloc | apply Kd.R_drewN | apply Kd.R_drew)); exact HO112.out) hb)
    have n2_ := Aside0.mk (blk_below (g := gb105) (o := .cells #[.int .u8 a0_0, .bool a0_1, .slice A0_2 l0_2.length c0_2, .slice A0_3 l0_3.length c0_3, .slice A0_4 l0_4.length c0_4] 26 (0, 0)) (by (with_reducible repeat (first | refine blk_drewN ?_ _ | refine blk_drew ?_ | refine blk_alloc ?_ _)); exact BK105.out) hb)
    have n3_ := Aside0.mk (blk_below (g := gb106) (o := .cells #[.int .u8 0, .bool false, .slice none 0 0, .slice none 0 0, .slice none 0 0] 26 (0, 0)) (by (with_reducible repeat (first | refine blk_drewN ?_ _ | refine blk_drew ?_ | refine blk_alloc ?_ _)); exact BK106.out) hb)
    have n4_ := Aside0.mk (below_step (by repeat (first | (with_reducible first | exact HB.out | apply below_alloc | apply pw_below_drewN | apply below_drew1 | refine below_set ?_ GE105.out | refine below_set ?_ GE106.out) | exact HB.out)) hb)
    have n5_ := Aside0.mk (hbox)
    have n6_ := Aside0.mk ((by rw [hg]; exact (below_size (by repeat (first | (with_reducible first | exact HB.out | apply below_alloc | apply pw_below_drewN | apply below_drew1 | refine below_set ?_ GE105.out | refine below_set ?_ GE106.out) | exact HB.out))) : w.heap.size ≤ gb113))
    have n7_ := Aside0.mk ((by rw [hg]; exact (below_size (by repeat (first | (with_reducible first | exact HB.out | apply below_alloc | apply pw_below_drewN | apply below_drew1 | refine below_set ?_ GE105.out | refine below_set ?_ GE106.out) | exact HB.out))) : w.heap.size ≤ gb113))
    have n8_ := Aside0.mk ((by rw [hg]; exact Nat.ne_of_lt (blk_lt (g := gb105) (o := .cells #[.int .u8 a0_0, .bool a0_1, .slice A0_2 l0_2.length c0_2, .slice A0_3 l0_3.length c0_3, .slice A0_4 l0_4.length c0_4] 26 (0, 0)) (by (with_reducible repeat (first | refine blk_drewN ?_ _ | refine blk_drew ?_ | refine blk_alloc ?_ _)); exact BK105.out)) : gb105 ≠ gb113))
    have n9_ := Aside0.mk ((by rw [hg]; exact Nat.ne_of_gt (blk_lt (g := gb105) (o := .cells #[.int .u8 a0_0, .bool a0_1, .slice A0_2 l0_2.length c0_2, .slice A0_3 l0_3.length c0_3, .slice A0_4 l0_4.length c0_4] 26 (0, 0)) (by (with_reducible repeat (first | refine blk_drewN ?_ _ | refine blk_drew ?_ | refine blk_alloc ?_ _)); exact BK105.out)) : gb113 ≠ gb105))
    have n10_ := Aside0.mk ((by rw [hg]; exact Nat.ne_of_lt (blk_lt (g := gb106) (o := .cells #[.int .u8 0, .bool false, .slice none 0 0, .slice none 0 0, .slice none 0 0] 26 (0, 0)) (by (with_reducible repeat (first | refine blk_drewN ?_ _ | refine blk_drew ?_ | refine blk_alloc ?_ _)); exact BK106.out)) : gb106 ≠ gb113))
    have n11_ := Aside0.mk ((by rw [hg]; exact Nat.ne_of_gt (blk_lt (g := gb106) (o := .cells #[.int .u8 0, .bool false, .slice none 0 0, .slice none 0 0, .slice none 0 0] 26 (0, 0)) (by (with_reducible repeat (first | refine blk_drewN ?_ _ | refine blk_drew ?_ | refine blk_alloc ?_ _)); exact BK106.out)) : gb113 ≠ gb106))
    clear HO109
    clear HO112
    clear BK105
    clear BK106
    clear HB
    have HO109 := n0_
    have HO112 := n1_
    have BK105 := n2_
    have BK106 := n3_
    have HB := n4_
    have BK113 := n5_
    have GW113 := n6_
    have GE113 := n7_
    have NB105_113 := n8_
    have NB113_105 := n9_
    have NB106_113 := n10_
    have NB113_106 := n11_
    clear n0_ n1_ n2_ n3_ n4_ n5_ n6_ n7_ n8_ n9_ n10_ n11_
    clear hb hbox hg
    refine hK.out _ _ ⟨(blk_cell BK105.out 0).trans rfl, (blk_cell BK105.out 1).trans rfl, (blk_cell BK105.out 2).trans rfl, (blk_cell BK105.out 3).trans rfl, (blk_cell BK105.out 4).trans rfl⟩ (fun hHeld => ?_)
    clear hK K
    refine norm_ (a' := ?_) ?_ ?_
    rotate_left
    ·show Act.put _ (some 3) _ = _
     simp only [Act.put, List.setIfInBounds_toArray, List.set_cons_zero, List.set_cons_succ, i64_w, i32_w]
     rfl
    exact norm_ (by simp only [putAll, Act.put, List.setIfInBounds_toArray, List.set_cons_zero, List.set_cons_succ]) (hCont (.slice Ao10 t107.length co10, .slice Ao9 t110.length co9, gb113) _ ⟨hHeld, (by (with_reducible repeat (first | apply Kd.R_alloc | apply Kd.R_drewN | apply Kd.R_drew)); exact HO109.out), (by (with_reducible repeat (first | apply Kd.R_alloc | apply Kd.R_drewN | apply Kd.R_drew)); exact HO112.out), (by (with_reducible repeat (first | refine blk_drewN ?_ _ | refine blk_drew ?_ | refine blk_alloc ?_ _)); exact BK105.out), (by (with_reducible repeat (first | refine blk_drewN ?_ _ | refine blk_drew ?_ | refine blk_alloc ?_ _)); exact BK106.out), (by (with_reducible repeat (first | refine blk_drewN ?_ _ | refine blk_drew ?_ | refine blk_alloc ?_ _)); exact BK113.out), GW113.out, GE113.out, NB105_113.out, NB113_105.out, NB106_113.out, NB113_106.out, (by repeat (first | (with_reducible first | exact HB.out | apply below_alloc | apply pw_below_drewN | apply below_drew1 | refine below_set ?_ GE105.out | refine below_set ?_ GE106.out | refine below_set ?_ GE113.out) | exact HB.out))⟩)
   ·skip
    refine box_step ?hg (N := 3) ?hd (cs := #[.int .u8 0, .bool false, .slice none 0 0, .slice none 0 0, .slice none 0 0]) (t := 26) ?hr ?_; (case hd => rfl); (case hg => rfl); (case hr => first | (go_simp; done) | (go_simp; rfl))
    intro gb113 hg w8 hbox hb
    have n0_ := Aside0.mk (Kd.R_below (by (with_reducible repeat (first | apply Kd.R_alloc | apply Kd.R_drewN | apply Kd.R_drew)); exact HO109.out) hb)
    have n1_ := Aside0.mk (blk_below (g := gb105) (o := .cells #[.int .u8 a0_0, .bool a0_1, .slice A0_2 l0_2.length c0_2, .slice A0_3 l0_3.length c0_3, .slice A0_4 l0_4.length c0_4] 26 (0, 0)) (by (with_reducible repeat (first | refine blk_drewN ?_ _ | refine blk_drew ?_ | refine blk_alloc ?_ _)); exact BK105.out) hb)
    have n2_ := Aside0.mk (blk_below (g := gb106) (o := .cells #[.int .u8 0, .bool false, .slice none 0 0, .slice none 0 0, .slice none 0 0] 26 (0, 0)) (by (with_reducible repeat (first | refine blk_drewN ?_ _ | refine blk_drew ?_ | refine blk_alloc ?_ _)); exact BK106.out) hb)
    have n3_ := Aside0.mk (below_step (by repeat (first | (with_reducible first | exact HB.out | apply below_alloc | apply pw_below_drewN | apply below_drew1 | refine below_set ?_ GE105.out | refine below_set ?_ GE106.out) | exact HB.out)) hb)
    have n4_ := Aside0.mk (hbox)
    have n5_ := Aside0.mk ((by rw [hg]; exact (below_size (by repeat (first | (with_reducible first | exact HB.out | apply below_alloc | apply pw_below_drewN | apply below_drew1 | refine below_set ?_ GE105.out | refine below_set ?_ GE106.out) | exact HB.out))) : w.heap.size ≤ gb113))
    have n6_ := Aside0.mk ((by rw [hg]; exact (below_size (by repeat (first | (with_reducible first | exact HB.out | apply below_alloc | apply pw_below_drewN | apply below_drew1 | refine below_set ?_ GE105.out | refine below_set ?_ GE106.out) | exact HB.out))) : w.heap.size ≤ gb113))
    have n7_ := Aside0.mk ((by rw [hg]; exact Nat.ne_of_lt (blk_lt (g := gb105) (o := .cells #[.int .u8 a0_0, .bool a0_1, .slice A0_2 l0_2.length c0_2, .slice A0_3 l0_3.length c0_3, .slice A0_4 l0_4.length c0_4] 26 (0, 0)) (by (with_reducible repeat (first | refine blk_drewN ?_ _ | refine blk_drew ?_ | refine blk_alloc ?_ _)); exact BK105.out)) : gb105 ≠ gb113))
    have n8_ := Aside0.mk ((by rw [hg]; exact Nat.ne_of_gt (blk_lt (g := gb105) (o := .cells #[.int .u8 a0_0, .bool a0_1, .slice A0_2 l0_2.length c0_2, .slice A0_3 l0_3.length c0_3, .slice A0_4 l0_4.length c0_4] 26 (0, 0)) (by (with_reducible repeat (first | refine blk_drewN ?_ _ | refine blk_drew ?_ | refine blk_alloc ?_ _)); exact BK105.out)) : gb113 ≠ gb105))
    have n9_ := Aside0.mk ((by rw [hg]; exact Nat.ne_of_lt (blk_lt (g := gb106) (o := .cells #[.int .u8 0, .bool false, .slice none 0 0, .slice none 0 0, .slice none 0 0] 26 (0, 0)) (by (with_reducible repeat (first | refine blk_drewN ?_ _ | refine blk_drew ?_ | refine blk_alloc ?_ _)); exact BK106.out)) : gb106 ≠ gb113))
    have n10_ := Aside0.mk ((by rw [hg]; exact Nat.ne_of_gt (blk_lt (g := gb106) (o := .cells #[.int .u8 0, .bool false, .slice none 0 0, .slice none 0 0, .slice none 0 0] 26 (0, 0)) (by (with_reducible repeat (first | refine blk_drewN ?_ _ | refine blk_drew ?_ | refine blk_alloc ?_ _)); exact BK106.out)) : gb113 ≠ gb106))
    clear HO109
    clear BK105
    clear BK106
    clear HB
    have HO109 := n0_
    have BK105 := n1_
    have BK106 := n2_
    have HB := n3_
    have BK113 := n4_
    have GW113 := n5_
    have GE113 := n6_
    have NB105_113 := n7_
    have NB113_105 := n8_
    have NB106_113 := n9_
    have NB113_106 := n10_
    clear n0_ n1_ n2_ n3_ n4_ n5_ n6_ n7_ n8_ n9_ n10_
    clear hb hbox hg
    refine hK.out _ _ ⟨(blk_cell BK105.out 0).trans rfl, (blk_cell BK105.out 1).trans rfl, (blk_cell BK105.out 2).trans rfl, (blk_cell BK105.out 3).trans rfl, (blk_cell BK105.out 4).trans rfl⟩ (fun hHeld => ?_)
    clear hK K
    refine norm_ (a' := ?_) ?_ ?_
    rotate_left
    ·show Act.put _ (some 3) _ = _
     simp only [Act.put, List.setIfInBounds_toArray, List.set_cons_zero, List.set_cons_succ, i64_w, i32_w]
     rfl
    refine one_ (i := 9) (N := some 15) #[true, true, true, true, true, true, true, true, true, true, false, true, false] rfl rfl (one_of HT_.out (by kernel_rfl)) (by decide) (fun K hK => ?_)
    refine goes_ Tryd.func38 (by kernel_rfl) rfl #[.slice A0_3 l0_3.length c0_3] (by rfl) rfl rfl (by (try simp only [List.map_toArray, List.map_cons, List.map_nil]); first | done | rfl | (simp only [List.length_drop, List.length_take]; rfl)) ?_
    with_reducible refine (sl_Clone_ss.calls _ _ l0_3 t110 _ ?side1 ?side2 A3.out).mono ?_
    (case side1 => repeat (first | exact (Kd.C_below HR0_3.out HB.out) | (with_reducible refine Kd.C_alloc ?_ _) | (with_reducible refine Kd.C_drewN ?_ _) | (with_reducible refine Kd.C_drew ?_)))
    (case side2 => exact HC0_3.out)
    rintro e w9 ⟨v111, rfl, ho0, hb⟩
    refine ⟨_, rfl, ?_⟩
    have n0_ := Aside0.mk (Kd.R_below (by (with_reducible repeat (first | apply Kd.R_alloc | apply Kd.R_drewN | apply Kd.R_drew)); exact HO109.out) hb)
    have n1_ := Aside0.mk (Kd.R_lower ho0 (below_size (by repeat (first | (with_reducible first | exact HB.out | apply below_alloc | apply pw_below_drewN | apply below_drew1 | refine below_set ?_ GE105.out | refine below_set ?_ GE106.out | refine below_set ?_ GE113.out) | exact HB.out))))
    have n2_ := Aside0.mk (blk_below (g := gb105) (o := .cells #[.int .u8 a0_0, .bool a0_1, .slice A0_2 l0_2.length c0_2, .slice A0_3 l0_3.length c0_3, .slice A0_4 l0_4.length c0_4] 26 (0, 0)) (by (with_reducible repeat (first | refine blk_drewN ?_ _ | refine blk_drew ?_ | refine blk_alloc ?_ _)); exact BK105.out) hb)
    have n3_ := Aside0.mk (blk_below (g := gb106) (o := .cells #[.int .u8 0, .bool false, .slice none 0 0, .slice none 0 0, .slice none 0 0] 26 (0, 0)) (by (with_reducible repeat (first | refine blk_drewN ?_ _ | refine blk_drew ?_ | refine blk_alloc ?_ _)); exact BK106.out) hb)
    have n4_ := Aside0.mk (blk_below (g := gb113) (o := .cells #[.int .u8 0, .bool false, .slice none 0 0, .slice none 0 0, .slice none 0 0] 26 (0, 0)) (by (with_reducible repeat (first | refine blk_drewN ?_ _ | refine blk_drew ?_ | refine blk_alloc ?_ _)); exact BK113.out) hb)
    have n5_ := Aside0.mk (below_step (by repeat (first | (with_reducible first | exact HB.out | apply below_alloc | apply pw_below_drewN | apply below_drew1 | refine below_set ?_ GE105.out | refine below_set ?_ GE106.out | refine below_set ?_ GE113.out) | exact HB.out)) hb)
    clear HO109
    clear BK105
    clear BK106
    clear BK113
    clear HB
    have HO109 := n0_
    have HO112 := n1_
    have BK105 := n2_
    have BK106 := n3_
    have BK113 := n4_
    have HB := n5_
    clear n0_ n1_ n2_ n3_ n4_ n5_
    (try clear hb)
    (try clear hb2)
    (try clear hk)
    (try clear hi)
    (try clear ho0)
    obtain ⟨Ao10, co10, eo10⟩ := Kd.R_slice HO112.out
    (first | subst eo10 | (injection eo10 with f1_ f2_ f3_; have f4_ := f1_.symm; have f5_ := f3_.symm; clear f1_ f2_ f3_; subst f4_; subst f5_))
    obtain ⟨Ao11, co11, eo11⟩ := Kd.R_slice HO109.out
    (first | subst eo11 | (injection eo11 with f1_ f2_ f3_; have f4_ := f1_.symm; have f5_ := f3_.symm; clear f1_ f2_ f3_; subst f4_; subst f5_))
    refine hK.out _ _ ⟨(blk_cell BK105.out 0).trans rfl, (blk_cell BK105.out 1).trans rfl, (blk_cell BK105.out 2).trans rfl, (blk_cell BK105.out 3).trans rfl, (blk_cell BK105.out 4).trans rfl⟩ (fun hHeld => ?_)
    clear hK K
    refine norm_ (a' := ?_) ?_ ?_
    rotate_left
    ·show Act.put _ (some 15) _ = _
     simp only [Act.put, List.setIfInBounds_toArray, List.set_cons_zero, List.set_cons_succ, i64_w, i32_w]
     rfl
    refine pure_ (i := 10) (N := some 16) (v := ?_) (a' := ?_) #[true, true, true, true, true, true, true, true, true, true, true, true, false] rfl rfl (any_of HT_.out (by kernel_rfl)) (fun _ _ _ h => h) (Or.inl ⟨by rfl, ?_⟩) ?_ ?_
    rotate_left
    ·intro w'
     go_simp
     with_reducible rfl
    rotate_left
    ·simp only [Act.put, List.setIfInBounds_toArray, List.set_cons_zero, List.set_cons_succ, i64_w, i32_w]
     rfl
    exact norm_ (by simp only [putAll, Act.put, List.setIfInBounds_toArray, List.set_cons_zero, List.set_cons_succ]) (hCont (.slice Ao11 t107.length co11, .slice Ao10 t110.length co10, gb113) _ ⟨hHeld, (by (with_reducible repeat (first | apply Kd.R_alloc | apply Kd.R_drewN | apply Kd.R_drew)); exact HO109.out), (by (with_reducible repeat (first | apply Kd.R_alloc | apply Kd.R_drewN | apply Kd.R_drew)); exact HO112.out), (by (with_reducible repeat (first | refine blk_drewN ?_ _ | refine blk_drew ?_ | refine blk_alloc ?_ _)); exact BK105.out), (by (with_reducible repeat (first | refine blk_drewN ?_ _ | refine blk_drew ?_ | refine blk_alloc ?_ _)); exact BK106.out), (by (with_reducible repeat (first | refine blk_drewN ?_ _ | refine blk_drew ?_ | refine blk_alloc ?_ _)); exact BK113.out), GW113.out, GE113.out, NB105_113.out, NB113_105.out, NB106_113.out, NB113_106.out, (by repeat (first | (with_reducible first | exact HB.out | apply below_alloc | apply pw_below_drewN | apply below_drew1 | refine below_set ?_ GE105.out | refine below_set ?_ GE106.out | refine below_set ?_ GE113.out) | exact HB.out))⟩)
  ·skip
   refine box_step ?hg (N := 3) ?hd (cs := #[.int .u8 0, .bool false, .slice none 0 0, .slice none 0 0, .slice none 0 0]) (t := 26) ?hr ?_; (case hd => rfl); (case hg => rfl); (case hr => first | (go_simp; done) | (go_simp; rfl))
   intro gb113 hg w7 hbox hb
   have n0_ := Aside0.mk (blk_below (g := gb105) (o := .cells #[.int .u8 a0_0, .bool a0_1, .slice A0_2 l0_2.length c0_2, .slice A0_3 l0_3.length c0_3, .slice A0_4 l0_4.length c0_4] 26 (0, 0)) (by (with_reducible repeat (first | refine blk_drewN ?_ _ | refine blk_drew ?_ | refine blk_alloc ?_ _)); exact BK105.out) hb)
   have n1_ := Aside0.mk (blk_below (g := gb106) (o := .cells #[.int .u8 0, .bool false, .slice none 0 0, .slice none 0 0, .slice none 0 0] 26 (0, 0)) (by (with_reducible repeat (first | refine blk_drewN ?_ _ | refine blk_drew ?_ | refine blk_alloc ?_ _)); exact BK106.out) hb)
   have n2_ := Aside0.mk (below_step (by repeat (first | (with_reducible first | exact HB.out | apply below_alloc | apply pw_below_drewN | apply below_drew1 | refine below_set ?_ GE105.out | refine below_set ?_ GE106.out) | exact HB.out)) hb)
   have n3_ := Aside0.mk (hbox)
   have n4_ := Aside0.mk ((by rw [hg]; exact (below_size (by repeat (first | (with_reducible first | exact HB.out | apply below_alloc | apply pw_below_drewN | apply below_drew1 | refine below_set ?_ GE105.out | refine below_set ?_ GE106.out) | exact HB.out))) : w.heap.size ≤ gb113))
   have n5_ := Aside0.mk ((by rw [hg]; exact (below_size (by repeat (first | (with_reducible first | exact HB.out | apply below_alloc | apply pw_below_drewN | apply below_drew1 | refine below_set ?_ GE105.out | refine below_set ?_ GE106.out) | exact HB.out))) : w.heap.size ≤ gb113))
   have n6_ := Aside0.mk ((by rw [hg]; exact Nat.ne_of_lt (blk_lt (g := gb105) (o := .cells #[.int .u8 a0_0, .bool a0_1, .slice A0_2 l0_2.length c0_2, .slice A0_3 l0_3.length c0_3, .slice A0_4 l0_4.length c0_4] 26 (0, 0)) (by (with_reducible repeat (first | refine blk_drewN ?_ _ | refine blk_drew ?_ | refine blk_alloc ?_ _)); exact BK105.out)) : gb105 ≠ gb113))
   have n7_ := Aside0.mk ((by rw [hg]; exact Nat.ne_of_gt (blk_lt (g := gb105) (o := .cells #[.int .u8 a0_0, .bool a0_1, .slice A0_2 l0_2.length c0_2, .slice A0_3 l0_3.length c0_3, .slice A0_4 l0_4.length c0_4] 26 (0, 0)) (by (with_reducible repeat (first | refine blk_drewN ?_ _ | refine blk_drew ?_ | refine blk_alloc ?_ _)); exact BK105.out)) : gb113 ≠ gb105))
   have n8_ := Aside0.mk ((by rw [hg]; exact Nat.ne_of_lt (blk_lt (g := gb106) (o := .cells #[.int .u8 0, .bool false, .slice none 0 0, .slice none 0 0, .slice none 0 0] 26 (0, 0)) (by (with_reducible repeat (first | refine blk_drewN ?_ _ | refine blk_drew ?_ | refine blk_alloc ?_ _)); exact BK106.out)) : gb106 ≠ gb113))
   have n9_ := Aside0.mk ((by rw [hg]; exact Nat.ne_of_gt (blk_lt (g := gb106) (o := .cells #[.int .u8 0, .bool false, .slice none 0 0, .slice none 0 0, .slice none 0 0] 26 (0, 0)) (by (with_reducible repeat (first | refine blk_drewN ?_ _ | refine blk_drew ?_ | refine blk_alloc ?_ _)); exact BK106.out)) : gb113 ≠ gb106))
   clear BK105
   clear BK106
   clear HB
   have BK105 := n0_
   have BK106 := n1_
   have HB := n2_
   have BK113 := n3_
   have GW113 := n4_
   have GE113 := n5_
   have NB105_113 := n6_
   have NB113_105 := n7_
   have NB106_113 := n8_
   have NB113_106 := n9_
   clear n0_ n1_ n2_ n3_ n4_ n5_ n6_ n7_ n8_ n9_
   clear hb hbox hg
   refine hK.out _ _ ⟨(blk_cell BK105.out 0).trans rfl, (blk_cell BK105.out 1).trans rfl, (blk_cell BK105.out 2).trans rfl, (blk_cell BK105.out 3).trans rfl, (blk_cell BK105.out 4).trans rfl⟩ (fun hHeld => ?_)
   clear hK K
   refine norm_ (a' := ?_) ?_ ?_
   rotate_left
   ·show Act.put _ (some 3) _ = _
    simp only [Act.put, List.setIfInBounds_toArray, List.set_cons_zero, List.set_cons_succ, i64_w, i32_w]
    rfl
   refine one_ (i := 6) (N := some 12) #[true, true, true, true, true, true, true, true, true, false, false, true, false] rfl rfl (one_of HT_.out (by kernel_rfl)) (by decide) (fun K hK => ?_)
   refine goes_ Tryd.func37 (by kernel_rfl) rfl #[.slice A0_2 l0_2.length c0_2] (by rfl) rfl rfl (by (try simp only [List.map_toArray, List.map_cons, List.map_nil]); first | done | rfl | (simp only [List.length_drop, List.length_take]; rfl)) ?_
   with_reducible refine (bytes_Clone.calls _ _ l0_2 t107 _ ?side1 ?side2 A2.out).mono ?_
   (case side1 => repeat (first | exact (Kd.C_below HR0_2.out HB.out) | (with_reducible refine Kd.C_alloc ?_ _) | (with_reducible refine Kd.C_drewN ?_ _) | (with_reducible refine Kd.C_drew ?_)))
   (case side2 => exact HC0_2.out)
   rintro e w8 ⟨v108, rfl, ho0, hb⟩
   refine ⟨_, rfl, ?_⟩
   have n0_ := Aside0.mk (Kd.R_lower ho0 (below_size (by repeat (first | (with_reducible first | exact HB.out | apply below_alloc | apply pw_below_drewN | apply below_drew1 | refine below_set ?_ GE105.out | refine below_set ?_ GE106.out | refine below_set ?_ GE113.out) | exact HB.out))))
   have n1_ := Aside0.mk (blk_below (g := gb105) (o := .cells #[.int .u8 a0_0, .bool a0_1, .slice A0_2 l0_2.length c0_2, .slice A0_3 l0_3.length c0_3, .slice A0_4 l0_4.length c0_4] 26 (0, 0)) (by (with_reducible repeat (first | refine blk_drewN ?_ _ | refine blk_drew ?_ | refine blk_alloc ?_ _)); exact BK105.out) hb)
   have n2_ := Aside0.mk (blk_below (g := gb106) (o := .cells #[.int .u8 0, .bool false, .slice none 0 0, .slice none 0 0, .slice none 0 0] 26 (0, 0)) (by (with_reducible repeat (first | refine blk_drewN ?_ _ | refine blk_drew ?_ | refine blk_alloc ?_ _)); exact BK106.out) hb)
   have n3_ := Aside0.mk (blk_below (g := gb113) (o := .cells #[.int .u8 0, .bool false, .slice none 0 0, .slice none 0 0, .slice none 0 0] 26 (0, 0)) (by (with_reducible repeat (first | refine blk_drewN ?_ _ | refine blk_drew ?_ | refine blk_alloc ?_ _)); exact BK113.out) hb)
   have n4_ := Aside0.mk (below_step (by repeat (first | (with_reducible first | exact HB.out | apply below_alloc | apply pw_below_drewN | apply below_drew1 | refine below_set ?_ GE105.out | refine below_set ?_ GE106.out | refine below_set ?_ GE113.out) | exact HB.out)) hb)
   clear BK105
   clear BK106
   clear BK113
   clear HB
   have HO109 := n0_
   have BK105 := n1_
   have BK106 := n2_
   have BK113 := n3_
   have HB := n4_
   clear n0_ n1_ n2_ n3_ n4_
   (try clear hb)
   (try clear hb2)
   (try clear hk)
   (try clear hi)
   (try clear ho0)
   refine hK.out _ _ ⟨(blk_cell BK105.out 0).trans rfl, (blk_cell BK105.out 1).trans rfl, (blk_cell BK105.out 2).trans rfl, (blk_cell BK105.out 3).trans rfl, (blk_cell BK105.out 4).trans rfl⟩ (fun hHeld => ?_)
   clear hK K
   refine norm_ (a' := ?_) ?_ ?_
   rotate_left
   ·show Act.put _ (some 12) _ = _
    simp only [Act.put, List.setIfInBounds_toArray, List.set_cons_zero, List.set_cons_succ, i64_w, i32_w]
    rfl
   refine one_ (i := 9) (N := some 15) #[true, true, true, true, true, true, true, true, true, true, false, true, false] rfl rfl (one_of HT_.out (by kernel_rfl)) (by decide) (fun K hK => ?_)
   refine goes_ Tryd.func38 (by kernel_rfl) rfl #[.slice A0_3 l0_3.length c0_3] (by rfl) rfl rfl (by (try simp only [List.map_toArray, List.map_cons, List.map_nil]); first | done | rfl | (simp only [List.length_drop, List.length_take]; rfl)) ?_
   with_reducible refine (sl_Clone_ss.calls _ _ l0_3 t110 _ ?side1 ?side2 A3.out).mono ?_
   (case side1 => repeat (first | exact (Kd.C_below HR0_3.out HB.out) | (with_reducible refine Kd.C_alloc ?_ _) | (with_reducible refine Kd.C_drewN ?_ _) | (with_reducible refine Kd.C_drew ?_)))
   (case side2 => exact HC0_3.out)
   rintro e w9 ⟨v111, rfl, ho0, hb⟩
   refine ⟨_, rfl, ?_⟩
   have n0_ := Aside0.mk (Kd.R_below (by (with_reducible repeat (first | apply Kd.R_alloc | apply Kd.R_drewN | apply Kd.R_drew)); exact HO109.out) hb)
   have n1_ := Aside0.mk (Kd.R_lower ho0 (below_size (by repeat (first | (with_reducible first | exact HB.out | apply below_alloc | apply pw_below_drewN | apply below_drew1 | refine below_set ?_ GE105.out | refine below_set ?_ GE106.out | refine below_set ?_ GE113.out) | exact HB.out))))
   have n2_ := Aside0.mk (blk_below (g := gb105) (o := .cells #[.int .u8 a0_0, .bool a0_1, .slice A0_2 l0_2.length c0_2, .slice A0_3 l0_3.length c0_3, .slice A0_4 l0_4.length c0_4] 26 (0, 0)) (by (with_reducible repeat (first | refine blk_drewN ?_ _ | refine blk_drew ?_ | refine blk_alloc ?_ _)); exact BK105.out) hb)
   have n3_ := Aside0.mk (blk_below (g := gb106) (o := .cells #[.int .u8 0, .bool false, .slice none 0 0, .slice none 0 0, .slice none 0 0] 26 (0, 0)) (by (with_reducible repeat (first | refine blk_drewN ?_ _ | refine blk_drew ?_ | refine blk_alloc ?_ _)); exact BK106.out) hb)
   have n4_ := Aside0.mk (blk_below (g := gb113) (o := .cells #[.int .u8 0, .bool false, .slice none 0 0, .slice none 0 0, .slice none 0 0] 26 (0, 0)) (by (with_reducible repeat (first | refine blk_drewN ?_ _ | refine blk_drew ?_ | refine blk_alloc ?_ _)); exact BK113.out) hb)
   have n5_ := Aside0.mk (below_step (by repeat (first | (with_reducible first | exact HB.out | apply below_alloc | apply pw_below_drewN | apply below_drew1 | refine below_set ?_ GE105.out | refine below_set ?_ GE106.out | refine below_set ?_ GE113.out) | exact HB.out)) hb)
   clear HO109
   clear BK105
   clear BK106
   clear BK113
   clear HB
   have HO109 := n0_
   have HO112 := n1_
   have BK105 := n2_
   have BK106 := n3_
   have BK113 := n4_
   have HB := n5_
   clear n0_ n1_ n2_ n3_ n4_ n5_
   (try clear hb)
   (try clear hb2)
   (try clear hk)
   (try clear hi)
   (try clear ho0)
   obtain ⟨Ao10, co10, eo10⟩ := Kd.R_slice HO112.out
   (first | subst eo10 | (injection eo10 with f1_ f2_ f3_; have f4_ := f1_.symm; have f5_ := f3_.symm; clear f1_ f2_ f3_; subst f4_; subst f5_))
   obtain ⟨Ao11, co11, eo11⟩ := Kd.R_slice HO109.out
   (first | subst eo11 | (injection eo11 with f1_ f2_ f3_; have f4_ := f1_.symm; have f5_ := f3_.symm; clear f1_ f2_ f3_; subst f4_; subst f5_))
   refine hK.out _ _ ⟨(blk_cell BK105.out 0).trans rfl, (blk_cell BK105.out 1).trans rfl, (blk_cell BK105.out 2).trans rfl, (blk_cell BK105.out 3).trans rfl, (blk_cell BK105.out 4).trans rfl⟩ (fun hHeld => ?_)
   clear hK K
   refine norm_ (a' := ?_) ?_ ?_
   rotate_left
   ·show Act.put _ (some 15) _ = _
    simp only [Act.put, List.setIfInBounds_toArray, List.set_cons_zero, List.set_cons_succ, i64_w, i32_w]
    rfl
   refine pure_ (i := 10) (N := some 16) (v := ?_) (a' := ?_) #[true, true, true, true, true, true, true, true, true, true, true, true, false] rfl rfl (any_of HT_.out (by kernel_rfl)) (fun _ _ _ h => h) (Or.inl ⟨by rfl, ?_⟩) ?_ ?_
   rotate_left
   ·intro w'
    go_simp
    with_reducible rfl
   rotate_left
   ·simp only [Act.put, List.setIfInBounds_toArray, List.set_cons_zero, List.set_cons_succ, i64_w, i32_w]
    rfl
   exact norm_ (by simp only [putAll, Act.put, List.setIfInBounds_toArray, List.set_cons_zero, List.set_cons_succ]) (hCont (.slice Ao11 t107.length co11, .slice Ao10 t110.length co10, gb113) _ ⟨hHeld, (by (with_reducible repeat (first | apply Kd.R_alloc | apply Kd.R_drewN | apply Kd.R_drew)); exact HO109.out), (by (with_reducible repeat (first | apply Kd.R_alloc | apply Kd.R_drewN | apply Kd.R_drew)); exact HO112.out), (by (with_reducible repeat (first | refine blk_drewN ?_ _ | refine blk_drew ?_ | refine blk_alloc ?_ _)); exact BK105.out), (by (with_reducible repeat (first | refine blk_drewN ?_ _ | refine blk_drew ?_ | refine blk_alloc ?_ _)); exact BK106.out), (by (with_reducible repeat (first | refine blk_drewN ?_ _ | refine blk_drew ?_ | refine blk_alloc ?_ _)); exact BK113.out), GW113.out, GE113.out, NB105_113.out, NB113_105.out, NB106_113.out, NB113_106.out, (by repeat (first | (with_reducible first | exact HB.out | apply below_alloc | apply pw_below_drewN | apply below_drew1 | refine below_set ?_ GE105.out | refine below_set ?_ GE106.out | refine below_set ?_ GE113.out) | exact HB.out))⟩)
 rintro ⟨v108, v111, gb113⟩ w12 ⟨hS_, h0_, h1_, h2_, h3_, h4_, h5_, h6_, h7_, h8_, h9_, h10_, h11_⟩
 have n0_ : Aside0 (Kd.R (Kd.int .u8) 5 w12 w.heap.size (fun _ => True) v108 t107) := ⟨h0_⟩
 have n1_ : Aside0 (Kd.R Kd.string 9 w12 w.heap.size (fun _ => True) v111 t110) := ⟨h1_⟩
 have n2_ : Aside0 (w12.heap[gb105]? = some (.cells #[.int .u8 a0_0, .bool a0_1, .slice A0_2 l0_2.length c0_2, .slice A0_3 l0_3.length c0_3, .slice A0_4 l0_4.length c0_4] 26 (0, 0))) := ⟨h2_⟩
 have n3_ : Aside0 (w12.heap[gb106]? = some (.cells #[.int .u8 0, .bool false, .slice none 0 0, .slice none 0 0, .slice none 0 0] 26 (0, 0))) := ⟨h3_⟩
 have n4_ : Aside0 (w12.heap[gb113]? = some (.cells #[.int .u8 0, .bool false, .slice none 0 0, .slice none 0 0, .slice none 0 0] 26 (0, 0))) := ⟨h4_⟩
 have n5_ : Aside0 (w.heap.size ≤ gb113) := ⟨h5_⟩
 have n6_ : Aside0 (w.heap.size ≤ gb113) := ⟨h6_⟩
 have n7_ : Aside0 (gb105 ≠ gb113) := ⟨h7_⟩
 have n8_ : Aside0 (gb113 ≠ gb105) := ⟨h8_⟩
 have n9_ : Aside0 (gb106 ≠ gb113) := ⟨h9_⟩
 have n10_ : Aside0 (gb113 ≠ gb106) := ⟨h10_⟩
 have n11_ : Aside0 (Below w.heap.size w w12) := ⟨h11_⟩
 clear BK105
 clear BK106
 clear HB
 clear h0_ h1_ h2_ h3_ h4_ h5_ h6_ h7_ h8_ h9_ h10_ h11_
 have HO109 := n0_
 have HO112 := n1_
 have BK105 := n2_
 have BK106 := n3_
 have BK113 := n4_
 have GW113 := n5_
 have GE113 := n6_
 have NB105_113 := n7_
 have NB113_105 := n8_
 have NB106_113 := n9_
 have NB113_106 := n10_
 have HB := n11_
 clear n0_ n1_ n2_ n3_ n4_ n5_ n6_ n7_ n8_ n9_ n10_ n11_
 have hHeld : w12.cell? ⟨gb105, 0, none⟩ = some (.int .u8 a0_0) ∧ w12.cell? ⟨gb105, 1, none⟩ = some (.bool a0_1) ∧ w12.cell? ⟨gb105, 2, none⟩ = some (.slice A0_2 l0_2.length c0_2) ∧ w12.cell? ⟨gb105, 3, none⟩ = some (.slice A0_3 l0_3.length c0_3) ∧ w12.cell? ⟨gb105, 4, none⟩ = some (.slice A0_4 l0_4.length c0_4) := hS_
 obtain ⟨Ao13, co13, eo13⟩ := Kd.R_slice HO112.out
 (first | subst eo13 | (injection eo13 with f1_ f2_ f3_; have f4_ := f1_.symm; have f5_ := f3_.symm; clear f1_ f2_ f3_; subst f4_; subst f5_))
 obtain ⟨Ao14, co14, eo14⟩ := Kd.R_slice HO109.out
 (first | subst eo14 | (injection eo14 with f1_ f2_ f3_; have f4_ := f1_.symm; have f5_ := f3_.symm; clear f1_ f2_ f3_; subst f4_; subst f5_))
 refine norm_ (a' := ?_) ?_ ?_
 rotate_left
 ·simp only [putAll, Act.put, List.setIfInBounds_toArray, List.set_cons_zero, List.set_cons_succ]
  rfl
 refine one_ (i := 12) (N := none) #[true, true, true, true, true, true, true, true, true, true, true, true, true] rfl rfl (one_of HT_.out (by kernel_rfl)) (by decide) (fun K hK => ?_)
 have hs15 : w12.cell? ⟨gb113, 0, none⟩ = some (.int .u8 0) := (blk_cell BK113.out 0).trans rfl
 have hfs15 := blk_frozen BK113.out 0
 have hns15_0 := NB105_113.out
 have hns15_1 := NB106_113.out
 have hms15_0 := NB113_105.out
 have hms15_1 := NB113_106.out
 have hs16 : w12.cell? ⟨gb113, 1, none⟩ = some (.bool false) := (blk_cell BK113.out 1).trans rfl
 have hfs16 := blk_frozen BK113.out 1
 have hns16_0 := NB105_113.out
 have hns16_1 := NB106_113.out
 have hms16_0 := NB113_105.out
 have hms16_1 := NB113_106.out
 have hs17 : w12.cell? ⟨gb113, 2, none⟩ = some (.slice none 0 0) := (blk_cell BK113.out 2).trans rfl
 have hfs17 := blk_frozen BK113.out 2
 have hns17_0 := NB105_113.out
 have hns17_1 := NB106_113.out
 have hms17_0 := NB113_105.out
 have hms17_1 := NB113_106.out
 have hs18 : w12.cell? ⟨gb113, 3, none⟩ = some (.slice none 0 0) := (blk_cell BK113.out 3).trans rfl
 have hfs18 := blk_frozen BK113.out 3
 have hns18_0 := NB105_113.out
 have hns18_1 := NB106_113.out
 have hms18_0 := NB113_105.out
 have hms18_1 := NB113_106.out
 have hs19 : w12.cell? ⟨gb113, 4, none⟩ = some (.slice none 0 0) := (blk_cell BK113.out 4).trans rfl
 have hfs19 := blk_frozen BK113.out 4
 have hns19_0 := NB105_113.out
 have hns19_1 := NB106_113.out
 have hms19_0 := NB113_105.out
 have hms19_1 := NB113_106.out
 refine skip_ (w1 := ?_) (by rfl) rfl ?_ ?_
 rotate_left
 ·go_simp
  rfl
 refine hK.out _ _ ⟨((cell_far (p := ⟨gb113, _, none⟩) NB105_113.out _).trans (((cell_far (p := ⟨gb113, _, none⟩) NB105_113.out _).trans (((cell_far (p := ⟨gb113, _, none⟩) NB105_113.out _).trans (((cell_far (p := ⟨gb113, _, none⟩) NB105_113.out _).trans (((cell_far (p := ⟨gb113, _, none⟩) NB105_113.out _).trans (hHeld.1)))))))))), ((cell_far (p := ⟨gb113, _, none⟩) NB105_113.out _).trans (((cell_far (p := ⟨gb113, _, none⟩) NB105_113.out _).trans (((cell_far (p := ⟨gb113, _, none⟩) NB105_113.out _).trans (((cell_far (p := ⟨gb113, _, none⟩) NB105_113.out _).trans (((cell_far (p := ⟨gb113, _, none⟩) NB105_113.out _).trans (hHeld.2.1)))))))))), ((cell_far (p := ⟨gb113, _, none⟩) NB105_113.out _).trans (((cell_far (p := ⟨gb113, _, none⟩) NB105_113.out _).trans (((cell_far (p := ⟨gb113, _, none⟩) NB105_113.out _).trans (((cell_far (p := ⟨gb113, _, none⟩) NB105_113.out _).trans (((cell_far (p := ⟨gb113, _, none⟩) NB105_113.out _).trans (hHeld.2.2.1)))))))))), ((cell_far (p := ⟨gb113, _, none⟩) NB105_113.out _).trans (((cell_far (p := ⟨gb113, _, none⟩) NB105_113.out _).trans (((cell_far (p := ⟨gb113, _, none⟩) NB105_113.out _).trans (((cell_far (p := ⟨gb113, _, none⟩) NB105_113.out _).trans (((cell_far (p := ⟨gb113, _, none⟩) NB105_113.out _).trans (hHeld.2.2.2.1)))))))))), ((cell_far (p := ⟨gb113, _, none⟩) NB105_113.out _).trans (((cell_far (p := ⟨gb113, _, none⟩) NB105_113.out _).trans (((cell_far (p := ⟨gb113, _, none⟩) NB105_113.out _).trans (((cell_far (p := ⟨gb113, _, none⟩) NB105_113.out _).trans (((cell_far (p := ⟨gb113, _, none⟩) NB105_113.out _).trans (hHeld.2.2.2.2))))))))))⟩ (fun hHeld => ?_)
 clear hK K
 refine done_ (done_of HT_.out (by kernel_rfl)) ?_
 have hnb20 := NB105_106.out
 have hnc20 := NB106_105.out
 have hnb21 := NB105_113.out
 have hnc21 := NB113_105.out
 have hcz22_0 : w12.cell? ⟨gb105, 0, none⟩ = some (.int .u8 a0_0) := (blk_cell BK105.out 0).trans rfl
 have hcz22_1 : w12.cell? ⟨gb105, 1, none⟩ = some (.bool a0_1) := (blk_cell BK105.out 1).trans rfl
 have hcz22_2 : w12.cell? ⟨gb105, 2, none⟩ = some (.slice A0_2 l0_2.length c0_2) := (blk_cell BK105.out 2).trans rfl
 have hcz22_3 : w12.cell? ⟨gb105, 3, none⟩ = some (.slice A0_3 l0_3.length c0_3) := (blk_cell BK105.out 3).trans rfl
 have hcz22_4 : w12.cell? ⟨gb105, 4, none⟩ = some (.slice A0_4 l0_4.length c0_4) := (blk_cell BK105.out 4).trans rfl
 have hfz22_0 := blk_frozen BK105.out 0
 have hfz22_1 := blk_frozen BK105.out 1
 have hfz22_2 := blk_frozen BK105.out 2
 have hfz22_3 := blk_frozen BK105.out 3
 have hfz22_4 := blk_frozen BK105.out 4
 try go_wp2
 go_loopg [20] k (fun kq v20 w' => ∃ (x20_1 : Int) (x114004_1 : List (S26)) (u114004 : Value), v20 = .int .i64 x20_1 ∧ Aside0 (tree_Copy.l0 kq l0_4 (l0_4.length : Int) x20_1 a0_0 a0_1 t107 t110 x114004_1 = some (r1, r2, r3, r4, r5)) ∧ Aside0 (kq ≤ k) ∧ Aside0 (Kd.R (Kd.int .u8) 5 w' w.heap.size (fun _ => True) (.slice Ao14 t107.length co14) t107) ∧ Aside0 (Kd.R Kd.string 9 w' w.heap.size (fun _ => True) (.slice Ao13 t110.length co13) t110) ∧ Aside0 (Kd.R k26 26 w' w.heap.size (fun k_ => some k_ ≠ ((.slice Ao14 t107.length co14) : Value).ownBlock ∧ some k_ ≠ ((.slice Ao13 t110.length co13) : Value).ownBlock ∧ k_ ≠ gb105 ∧ k_ ≠ gb106 ∧ k_ ≠ gb113) u114004 x114004_1) ∧ Aside0 (w'.heap[gb105]? = some (.cells #[.int .u8 a0_0, .bool a0_1, (.slice A0_2 l0_2.length c0_2), (.slice A0_3 l0_3.length c0_3), (.slice A0_4 l0_4.length c0_4)] 26 (0, 0))) ∧ Aside0 (w'.heap[gb106]? = some (.cells #[.int .u8 0, .bool false, (.slice none 0 0), (.slice none 0 0), (.slice none 0 0)] 26 (0, 0))) ∧ Aside0 (w'.heap[gb113]? = some (.cells #[.int .u8 a0_0, .bool a0_1, (.slice Ao14 t107.length co14), (.slice Ao13 t110.length co13), u114004] 26 (0, 0))) ∧ Aside0 (Below w.heap.size w w'))
 case atStart => exact ⟨(0), (([] : List (S26))), (.slice none 0 0), (by first | rfl | (simp; done) | (simp [*]; done)), H', ⟨Nat.le_refl _⟩, ⟨by (with_reducible repeat (first | apply Kd.R_alloc | apply Kd.R_drewN | apply Kd.R_drew)); exact Kd.R_mono (Kd.R_far (p := ⟨gb113, 4, none⟩) (Kd.R_far (p := ⟨gb113, 3, none⟩) (Kd.R_far (p := ⟨gb113, 2, none⟩) (Kd.R_far (p := ⟨gb113, 1, none⟩) (Kd.R_far (p := ⟨gb113, 0, none⟩) (Kd.R_types HO109.out BK113.out (by decide)) (fun _ hk => hk.2) (.int .u8 a0_0)) (fun _ hk => hk.2) (.bool a0_1)) (fun _ hk => hk.2) (.slice Ao14 t107.length co14)) (fun _ hk => hk.2) (.slice Ao13 t110.length co13)) (fun _ hk => hk.2) (.slice none 0 0)) (fun _ hk => trivial)⟩, ⟨by (with_reducible repeat (first | apply Kd.R_alloc | apply Kd.R_drewN | apply Kd.R_drew)); exact Kd.R_mono (Kd.R_far (p := ⟨gb113, 4, none⟩) (Kd.R_far (p := ⟨gb113, 3, none⟩) (Kd.R_far (p := ⟨gb113, 2, none⟩) (Kd.R_far (p := ⟨gb113, 1, none⟩) (Kd.R_far (p := ⟨gb113, 0, none⟩) (Kd.R_types HO112.out BK113.out (by decide)) (fun _ hk => hk.2) (.int .u8 a0_0)) (fun _ hk => hk.2) (.bool a0_1)) (fun _ hk => hk.2) (.slice Ao14 t107.length co14)) (fun _ hk => hk.2) (.slice Ao13 t110.length co13)) (fun _ hk => hk.2) (.slice none 0 0)) (fun _ hk => trivial)⟩, ⟨by first | exact Kd.R_nil _ _ _ _ _ | exact Kd.N_nil _ _ _ _ _ | exact Kd.V_nil _ _ _ _ _ | exact Kd.Q_nil _ _ _ _ _ | exact Kd.S_nil _ _ _ _ _⟩, ⟨by (with_reducible repeat (first | refine blk_drewN ?_ _ | refine blk_drew ?_ | refine blk_alloc ?_ _)); refine blk_far ?_ NB105_113.out _; (with_reducible repeat (first | refine blk_drewN ?_ _ | refine blk_drew ?_ | refine blk_alloc ?_ _)); refine blk_far ?_ NB105_113.out _; (with_reducible repeat (first | refine blk_drewN ?_ _ | refine blk_drew ?_ | refine blk_alloc ?_ _)); refine blk_far ?_ NB105_113.out _; (with_reducible repeat (first | refine blk_drewN ?_ _ | refine blk_drew ?_ | refine blk_alloc ?_ _)); refine blk_far ?_ NB105_113.out _; (with_reducible repeat (first | refine blk_drewN ?_ _ | refine blk_drew ?_ | refine blk_alloc ?_ _)); refine blk_far ?_ NB105_113.out _; (with_reducible repeat (first | refine blk_drewN ?_ _ | refine blk_drew ?_ | refine blk_alloc ?_ _)); exact BK105.out⟩, ⟨by (with_reducible repeat (first | refine blk_drewN ?_ _ | refine blk_drew ?_ | refine blk_alloc ?_ _)); refine blk_far ?_ NB106_113.out _; (with_reducible repeat (first | refine blk_drewN ?_ _ | refine blk_drew ?_ | refine blk_alloc ?_ _)); refine blk_far ?_ NB106_113.out _; (with_reducible repeat (first | refine blk_drewN ?_ _ | refine blk_drew ?_ | refine blk_alloc ?_ _)); refine blk_far ?_ NB106_113.out _; (with_reducible repeat (first | refine blk_drewN ?_ _ | refine blk_drew ?_ | refine blk_alloc ?_ _)); refine blk_far ?_ NB106_113.out _; (with_reducible repeat (first | refine blk_drewN ?_ _ | refine blk_drew ?_ | refine blk_alloc ?_ _)); refine blk_far ?_ NB106_113.out _; (with_reducible repeat (first | refine blk_drewN ?_ _ | refine blk_drew ?_ | refine blk_alloc ?_ _)); exact BK106.out⟩, ⟨by (with_reducible repeat (first | refine blk_drewN ?_ _ | refine blk_drew ?_ | refine blk_alloc ?_ _)); refine blk_put (cs := #[.int .u8 a0_0, .bool a0_1, .slice Ao14 t107.length co14, .slice Ao13 t110.length co13, .slice none 0 0]) ?_ 4 _ rfl; (with_reducible repeat (first | refine blk_drewN ?_ _ | refine blk_drew ?_ | refine blk_alloc ?_ _)); refine blk_put (cs := #[.int .u8 a0_0, .bool a0_1, .slice Ao14 t107.length co14, .slice none 0 0, .slice none 0 0]) ?_ 3 _ rfl; (with_reducible repeat (first | refine blk_drewN ?_ _ | refine blk_drew ?_ | refine blk_alloc ?_ _)); refine blk_put (cs := #[.int .u8 a0_0, .bool a0_1, .slice none 0 0, .slice none 0 0, .slice none 0 0]) ?_ 2 _ rfl; (with_reducible repeat (first | refine blk_drewN ?_ _ | refine blk_drew ?_ | refine blk_alloc ?_ _)); refine blk_put (cs := #[.int .u8 a0_0, .bool false, .slice none 0 0, .slice none 0 0, .slice none 0 0]) ?_ 1 _ rfl; (with_reducible repeat (first | refine blk_drewN ?_ _ | refine blk_drew ?_ | refine blk_alloc ?_ _)); refine blk_put (cs := #[.int .u8 0, .bool false, .slice none 0 0, .slice none 0 0, .slice none 0 0]) ?_ 0 _ rfl; (with_reducible repeat (first | refine blk_drewN ?_ _ | refine blk_drew ?_ | refine blk_alloc ?_ _)); exact BK113.out⟩, ⟨by repeat (first | (with_reducible first | exact HB.out | apply below_alloc | apply pw_below_drewN | apply below_drew1 | refine below_set ?_ GE105.out | refine below_set ?_ GE106.out | refine below_set ?_ GE113.out) | exact HB.out)⟩⟩
 case round =>
  clear H'
  try clear c2
  try clear p2
  try clear c3
  try clear c20
  try clear c21
  try clear hcz22_0
  try clear hcz22_1
  try clear hcz22_2
  try clear hcz22_3
  try clear hcz22_4
  try clear hfz22_0
  try clear hfz22_1
  try clear hfz22_2
  try clear hfz22_3
  try clear hfz22_4
  obtain ⟨x20_1, x114004_1, u114004, rfl, HA, HK1, HO_114002, HO_114003, HO_114004, BK105, BK106, BK113, HB⟩ := hrel
  cases gk with
  | zero => exact absurd HA.out (by simp [tree_Copy.l0])
  | succ k1 =>
   have H := HA.out
   clear HA
   simp only [tree_Copy.l0] at H
   by_cases c23 : x20_1 < (l0_4.length : Int)
   ·rw [if_pos c23] at H
    have c23b0 : decide (x20_1 < (l0_4.length : Int)) = true := decide_eq_true c23
    clear c23
    by_cases c24 : 0 ≤ x20_1
    ·rw [if_pos c24] at H
     have c24b0 : decide (0 ≤ x20_1) = true := decide_eq_true c24
     clear c24
     by_cases c25 : x20_1 < (l0_4.length : Int)
     ·rw [if_pos c25] at H
      have c25b0 : decide (x20_1 < (l0_4.length : Int)) = true := decide_eq_true c25
      clear c25
      replace H := Option.bind_eq_some_iff.mp H
      obtain ⟨⟨t116, t117, t118, t121, t124⟩, A260, H⟩ := H
      replace H : (if x114004_1.length < 1759218604441 then (tree_Copy.l0 k1 l0_4 (l0_4.length : Int) (wrap64 (x20_1 + 1)) a0_0 a0_1 t107 t110 (x114004_1 ++ [(⟨t116, t117, t118, t121, t124⟩ : S26)])) else (none)) = some (r1, r2, r3, r4, r5) := H
      have A26 := Aside0.mk A260
      clear A260
      by_cases c27 : x114004_1.length < 1759218604441
      ·rw [if_pos c27] at H
       have LMc27 := Aside0.mk c27
       clear c27
       obtain ⟨y127, hy127⟩ : ∃ y_ : List (S26), y_ = (x114004_1 ++ [(⟨t116, t117, t118, t121, t124⟩ : S26)]) := ⟨_, rfl⟩
       replace H : (tree_Copy.l0 k1 l0_4 (l0_4.length : Int) (wrap64 (x20_1 + 1)) a0_0 a0_1 t107 t110 y127) = some (r1, r2, r3, r4, r5) := by first | (rw [hy127]; with_reducible exact H) | (have H2_ := (Option.bind_some _ _).symm.trans H; rw [hy127]; with_reducible exact H2_) | (have H2_ := (Option.bind_some _ _).symm.trans H; with_reducible exact H2_) | with_reducible exact H | (rw [hy127]; exact H) | exact H
       have Ny127 := Aside0.mk hy127
       clear hy127
       have H' := Aside0.mk H
       clear H
       have p114 : 0 ≤ (x20_1 : Int) := of_decide_eq_true (by first | (with_reducible assumption) | assumption)
       have q114 : x20_1 < (l0_4.length : Int) := of_decide_eq_true (by first | (with_reducible assumption) | assumption)
       obtain ⟨ad114, A114_2, c114_2, A114_3, c114_3, A114_4, c114_4, e114, hx114_0, hx114_1, hx114_2, hx114_3, hx114_4, hl114_2, hi114_2, hl114_3, hi114_3, hl114_4, hi114_4⟩ := at_T26 HR0_4.out x20_1 p114 q114
       cases e114
       replace hx114_0 := (HB.out.cell (World.block_lt_of_cell? w _ hx114_0)).trans hx114_0
       replace hx114_1 := (HB.out.cell (World.block_lt_of_cell? w _ hx114_1)).trans hx114_1
       replace hx114_2 := (HB.out.cell (World.block_lt_of_cell? w _ hx114_2)).trans hx114_2
       replace hx114_3 := (HB.out.cell (World.block_lt_of_cell? w _ hx114_3)).trans hx114_3
       replace hx114_4 := (HB.out.cell (World.block_lt_of_cell? w _ hx114_4)).trans hx114_4
       have HR114_2 := Aside0.mk hi114_2
       have HC114_2 := Aside0.mk hl114_2
       clear hi114_2 hl114_2
       have HR114_3 := Aside0.mk hi114_3
       have HC114_3 := Aside0.mk hl114_3
       clear hi114_3 hl114_3
       have HR114_4 := Aside0.mk hi114_4
       have HC114_4 := Aside0.mk hl114_4
       clear hi114_4 hl114_4
       replace p114 := eq_true p114
       replace q114 := eq_true q114
       try go_wp2_with (first | ((with_reducible refine gate_dst (N := 5) rfl ?_); refine box_event ?hg (N := 5) ?hd (cs := #[.int .u8 0, .bool false, .slice none 0 0, .slice none 0 0, .slice none 0 0]) (t := 26) ?hr ?_; (case hd => rfl); (case hg => rfl); (case hr => first | (go_simp; done) | (go_simp; rfl)); intro gb115 hg w28 hbox hb; have n0_ := Aside0.mk (Kd.R_below (by (with_reducible repeat (first | apply Kd.R_alloc | apply Kd.R_drewN | apply Kd.R_drew)); exact HO_114002.out) hb); have n1_ := Aside0.mk (Kd.R_below (by (with_reducible repeat (first | apply Kd.R_alloc | apply Kd.R_drewN | apply Kd.R_drew)); exact HO_114003.out) hb); have n2_ := Aside0.mk (Kd.R_below (Kd.R_elderB (by (with_reducible repeat (first | apply Kd.R_alloc | apply Kd.R_drewN | apply Kd.R_drew)); exact HO_114004.out) gb115 (Nat.le_of_eq hg.symm)) hb); have n3_ := Aside0.mk (blk_below (g := gb105) (o := .cells #[.int .u8 a0_0, .bool a0_1, .slice A0_2 l0_2.length c0_2, .slice A0_3 l0_3.length c0_3, .slice (some ad114) l0_4.length c0_4] 26 (0, 0)) (by (with_reducible repeat (first | refine blk_drewN ?_ _ | refine blk_drew ?_ | refine blk_alloc ?_ _)); exact BK105.out) hb); have n4_ := Aside0.mk (blk_below (g := gb106) (o := .cells #[.int .u8 0, .bool false, .slice none 0 0, .slice none 0 0, .slice none 0 0] 26 (0, 0)) (by (with_reducible repeat (first | refine blk_drewN ?_ _ | refine blk_drew ?_ | refine blk_alloc ?_ _)); exact BK106.out) hb); have n5_ := Aside0.mk (blk_below (g := gb113) (o := .cells #[.int .u8 a0_0, .bool a0_1, .slice Ao14 t107.length co14, .slice Ao13 t110.length co13, u114004] 26 (0, 0)) (by (with_reducible repeat (first | refine blk_drewN ?_ _ | refine blk_drew ?_ | refine blk_alloc ?_ _)); exact BK113.out) hb); have n6_ := Aside0.mk (below_step (by repeat (first | (with_reducible first | exact HB.out | apply below_alloc | apply pw_below_drewN | apply below_drew1 | refine below_set ?_ GE105.out | refine below_set ?_ GE106.out | refine below_set ?_ GE113.out) | exact HB.out)) hb); have n7_ := Aside0.mk (hbox); have n8_ := Aside0.mk ((by rw [hg]; exact (below_size (by repeat (first | (with_reducible first | exact HB.out | apply below_alloc | apply pw_below_drewN | apply below_drew1 | refine below_set ?_ GE105.out | refine below_set ?_ GE106.out | refine below_set ?_ GE113.out) | exact HB.out))) : w.heap.size ≤ gb115)); have n9_ := Aside0.mk ((by rw [hg]; exact (below_size (by repeat (first | (with_reducible first | exact HB.out | apply below_alloc | apply pw_below_drewN | apply below_drew1 | refine below_set ?_ GE105.out | refine below_set ?_ GE106.out | refine below_set ?_ GE113.out) | exact HB.out))) : w.heap.size ≤ gb115)); have n10_ := Aside0.mk ((by rw [hg]; exact Nat.ne_of_lt (blk_lt (g := gb105) (o := .cells #[.int .u8 a0_0, .bool a0_1, .slice A0_2 l0_2.length c0_2, .slice A0_3 l0_3.length c0_3, .slice (some ad114) l0_4.length c0_4] 26 (0, 0)) (by (with_reducible repeat (first | refine blk_drewN ?_ _ | refine blk_drew ?_ | refine blk_alloc ?_ _)); exact BK105.out)) : gb105 ≠ gb115)); have n11_ := Aside0.mk ((by rw [hg]; exact Nat.ne_of_gt (blk_lt (g := gb105) (o := .cells #[.int .u8 a0_0, .bool a0_1, .slice A0_2 l0_2.length c0_2, .slice A0_3 l0_3.length c0_3, .slice (some ad114) l0_4.length c0_4] 26 (0, 0)) (by (with_reducible repeat (first | refine blk_drewN ?_ _ | refine blk_drew ?_ | refine blk_alloc ?_ _)); exact BK105.out)) : gb115 ≠ gb105)); have n12_ := Aside0.mk ((by rw [hg]; exact Nat.ne_of_lt (blk_lt (g := gb106) (o := .cells #[.int .u8 0, .bool false, .slice none 0 0, .slice none 0 0, .slice none 0 0] 26 (0, 0)) (by (with_reducible repeat (first | refine blk_drewN ?_ _ | refine blk_drew ?_ | refine blk_alloc ?_ _)); exact BK106.out)) : gb106 ≠ gb115)); have n13_ := Aside0.mk ((by rw [hg]; exact Nat.ne_of_gt (blk_lt (g := gb106) (o := .cells #[.int .u8 0, .bool false, .slice none 0 0, .slice none 0 0, .slice none 0 0] 26 (0, 0)) (by (with_reducible repeat (first | refine blk_drewN ?_ _ | refine blk_drew ?_ | refine blk_alloc ?_ _)); exact BK106.out)) : gb115 ≠ gb106)); have n14_ := Aside0.mk ((by rw [hg]; exact Nat.ne_of_lt (blk_lt (g := gb113) (o := .cells #[.int .u8 a0_0, .bool a0_1, .slice Ao14 t107.length co14, .slice Ao13 t110.length co13, u114004] 26 (0, 0)) (by (with_reducible repeat (first | refine blk_drewN ?_ _ | refine blk_drew ?_ | refine blk_alloc ?_ _)); exact BK113.out)) : gb113 ≠ gb115)); have n15_ := Aside0.mk ((by rw [hg]; exact Nat.ne_of_gt (blk_lt (g := gb113) (o := .cells #[.int .u8 a0_0, .bool a0_1, .slice Ao14 t107.length co14, .slice Ao13 t110.length co13, u114004] 26 (0, 0)) (by (with_reducible repeat (first | refine blk_drewN ?_ _ | refine blk_drew ?_ | refine blk_alloc ?_ _)); exact BK113.out)) : gb115 ≠ gb113)); clear HO_114002; clear HO_114003; clear HO_114004; clear BK105; clear BK106; clear BK113; clear HB; have HO_114002 := n0_; have HO_114003 := n1_; have HO_114004 := n2_; have BK105 := n3_; have BK106 := n4_; have BK113 := n5_; have HB := n6_; have BK115 := n7_; have GW115 := n8_; have GE115 := n9_; have NB105_115 := n10_; have NB115_105 := n11_; have NB106_115 := n12_; have NB115_106 := n13_; have NB113_115 := n14_; have NB115_113 := n15_; clear n0_ n1_ n2_ n3_ n4_ n5_ n6_ n7_ n8_ n9_ n10_ n11_ n12_ n13_ n14_ n15_; clear hb hbox hg; have hnb29 := NB115_105.out; have hnc29 := NB105_115.out; have hnb30 := NB115_106.out; have hnc30 := NB106_115.out; have hnb31 := NB115_113.out; have hnc31 := NB113_115.out; have hcz32_0 : w28.cell? ⟨gb115, 0, none⟩ = some (.int .u8 0) := (blk_cell BK115.out 0).trans rfl; have hcz32_1 : w28.cell? ⟨gb115, 1, none⟩ = some (.bool false) := (blk_cell BK115.out 1).trans rfl; have hcz32_2 : w28.cell? ⟨gb115, 2, none⟩ = some (.slice none 0 0) := (blk_cell BK115.out 2).trans rfl; have hcz32_3 : w28.cell? ⟨gb115, 3, none⟩ = some (.slice none 0 0) := (blk_cell BK115.out 3).trans rfl; have hcz32_4 : w28.cell? ⟨gb115, 4, none⟩ = some (.slice none 0 0) := (blk_cell BK115.out 4).trans rfl; have hfz32_0 := blk_frozen BK115.out 0; have hfz32_1 := blk_frozen BK115.out 1; have hfz32_2 := blk_frozen BK115.out 2; have hfz32_3 := blk_frozen BK115.out 3; have hfz32_4 := blk_frozen BK115.out 4))
       have n0_ : Aside0 (Kd.R (Kd.int .u8) 5 (((((w28.setCell ⟨gb115, 0, none⟩ (.int .u8 ((rd_T26 l0_4 x20_1).f0))).setCell ⟨gb115, 1, none⟩ (.bool ((rd_T26 l0_4 x20_1).f1))).setCell ⟨gb115, 2, none⟩ (.slice A114_2 ((rd_T26 l0_4 x20_1).f2).length c114_2)).setCell ⟨gb115, 3, none⟩ (.slice A114_3 ((rd_T26 l0_4 x20_1).f3).length c114_3)).setCell ⟨gb115, 4, none⟩ (.slice A114_4 ((rd_T26 l0_4 x20_1).f4).length c114_4)) w.heap.size (fun _ => True) (.slice Ao14 t107.length co14) t107) := ⟨by (with_reducible repeat (first | apply Kd.R_alloc | apply Kd.R_drewN | apply Kd.R_drew)); exact Kd.R_mono (Kd.R_far (p := ⟨gb115, 4, none⟩) (Kd.R_far (p := ⟨gb115, 3, none⟩) (Kd.R_far (p := ⟨gb115, 2, none⟩) (Kd.R_far (p := ⟨gb115, 1, none⟩) (Kd.R_far (p := ⟨gb115, 0, none⟩) (Kd.R_types HO_114002.out BK115.out (by decide)) (fun _ hk => hk.2) (.int .u8 ((rd_T26 l0_4 x20_1).f0))) (fun _ hk => hk.2) (.bool ((rd_T26 l0_4 x20_1).f1))) (fun _ hk => hk.2) (.slice A114_2 ((rd_T26 l0_4 x20_1).f2).length c114_2)) (fun _ hk => hk.2) (.slice A114_3 ((rd_T26 l0_4 x20_1).f3).length c114_3)) (fun _ hk => hk.2) (.slice A114_4 ((rd_T26 l0_4 x20_1).f4).length c114_4)) (fun _ hk => trivial)⟩
       have n1_ : Aside0 (Kd.R Kd.string 9 (((((w28.setCell ⟨gb115, 0, none⟩ (.int .u8 ((rd_T26 l0_4 x20_1).f0))).setCell ⟨gb115, 1, none⟩ (.bool ((rd_T26 l0_4 x20_1).f1))).setCell ⟨gb115, 2, none⟩ (.slice A114_2 ((rd_T26 l0_4 x20_1).f2).length c114_2)).setCell ⟨gb115, 3, none⟩ (.slice A114_3 ((rd_T26 l0_4 x20_1).f3).length c114_3)).setCell ⟨gb115, 4, none⟩ (.slice A114_4 ((rd_T26 l0_4 x20_1).f4).length c114_4)) w.heap.size (fun _ => True) (.slice Ao13 t110.length co13) t110) := ⟨by (with_reducible repeat (first | apply Kd.R_alloc | apply Kd.R_drewN | apply Kd.R_drew)); exact Kd.R_mono (Kd.R_far (p := ⟨gb115, 4, none⟩) (Kd.R_far (p := ⟨gb115, 3, none⟩) (Kd.R_far (p := ⟨gb115, 2, none⟩) (Kd.R_far (p := ⟨gb115, 1, none⟩) (Kd.R_far (p := ⟨gb115, 0, none⟩) (Kd.R_types HO_114003.out BK115.out (by decide)) (fun _ hk => hk.2) (.int .u8 ((rd_T26 l0_4 x20_1).f0))) (fun _ hk => hk.2) (.bool ((rd_T26 l0_4 x20_1).f1))) (fun _ hk => hk.2) (.slice A114_2 ((rd_T26 l0_4 x20_1).f2).length c114_2)) (fun _ hk => hk.2) (.slice A114_3 ((rd_T26 l0_4 x20_1).f3).length c114_3)) (fun _ hk => hk.2) (.slice A114_4 ((rd_T26 l0_4 x20_1).f4).length c114_4)) (fun _ hk => trivial)⟩
       have n2_ : Aside0 (Kd.R k26 26 (((((w28.setCell ⟨gb115, 0, none⟩ (.int .u8 ((rd_T26 l0_4 x20_1).f0))).setCell ⟨gb115, 1, none⟩ (.bool ((rd_T26 l0_4 x20_1).f1))).setCell ⟨gb115, 2, none⟩ (.slice A114_2 ((rd_T26 l0_4 x20_1).f2).length c114_2)).setCell ⟨gb115, 3, none⟩ (.slice A114_3 ((rd_T26 l0_4 x20_1).f3).length c114_3)).setCell ⟨gb115, 4, none⟩ (.slice A114_4 ((rd_T26 l0_4 x20_1).f4).length c114_4)) w.heap.size (fun k_ => some k_ ≠ (.slice Ao14 t107.length co14 : Value).ownBlock ∧ some k_ ≠ (.slice Ao13 t110.length co13 : Value).ownBlock ∧ k_ ≠ gb105 ∧ k_ ≠ gb106 ∧ k_ ≠ gb113 ∧ k_ ≠ gb115) u114004 x114004_1) := ⟨by (with_reducible repeat (first | apply Kd.R_alloc | apply Kd.R_drewN | apply Kd.R_drew)); exact Kd.R_mono (Kd.R_far (p := ⟨gb115, 4, none⟩) (Kd.R_far (p := ⟨gb115, 3, none⟩) (Kd.R_far (p := ⟨gb115, 2, none⟩) (Kd.R_far (p := ⟨gb115, 1, none⟩) (Kd.R_far (p := ⟨gb115, 0, none⟩) (Kd.R_mono HO_114004.out (fun k_ hk => (⟨hk, hk.2⟩ : _ ∧ k_ ≠ gb115))) (fun _ hk => hk.2) (.int .u8 ((rd_T26 l0_4 x20_1).f0))) (fun _ hk => hk.2) (.bool ((rd_T26 l0_4 x20_1).f1))) (fun _ hk => hk.2) (.slice A114_2 ((rd_T26 l0_4 x20_1).f2).length c114_2)) (fun _ hk => hk.2) (.slice A114_3 ((rd_T26 l0_4 x20_1).f3).length c114_3)) (fun _ hk => hk.2) (.slice A114_4 ((rd_T26 l0_4 x20_1).f4).length c114_4)) (fun _ hk => ⟨hk.1.1.1, ⟨hk.1.1.2.1, ⟨hk.1.1.2.2.1, ⟨hk.1.1.2.2.2.1, ⟨hk.1.1.2.2.2.2, hk.1.2⟩⟩⟩⟩⟩)⟩
       have n3_ : Aside0 ((((((w28.setCell ⟨gb115, 0, none⟩ (.int .u8 ((rd_T26 l0_4 x20_1).f0))).setCell ⟨gb115, 1, none⟩ (.bool ((rd_T26 l0_4 x20_1).f1))).setCell ⟨gb115, 2, none⟩ (.slice A114_2 ((rd_T26 l0_4 x20_1).f2).length c114_2)).setCell ⟨gb115, 3, none⟩ (.slice A114_3 ((rd_T26 l0_4 x20_1).f3).length c114_3)).setCell ⟨gb115, 4, none⟩ (.slice A114_4 ((rd_T26 l0_4 x20_1).f4).length c114_4)).heap[gb105]? = some (.cells #[.int .u8 a0_0, .bool a0_1, .slice A0_2 l0_2.length c0_2, .slice A0_3 l0_3.length c0_3, .slice (some ad114) l0_4.length c0_4] 26 (0, 0))) := ⟨by (with_reducible repeat (first | refine blk_drewN ?_ _ | refine blk_drew ?_ | refine blk_alloc ?_ _)); refine blk_far ?_ NB105_115.out _; (with_reducible repeat (first | refine blk_drewN ?_ _ | refine blk_drew ?_ | refine blk_alloc ?_ _)); refine blk_far ?_ NB105_115.out _; (with_reducible repeat (first | refine blk_drewN ?_ _ | refine blk_drew ?_ | refine blk_alloc ?_ _)); refine blk_far ?_ NB105_115.out _; (with_reducible repeat (first | refine blk_drewN ?_ _ | refine blk_drew ?_ | refine blk_alloc ?_ _)); refine blk_far ?_ NB105_115.out _; (with_reducible repeat (first | refine blk_drewN ?_ _ | refine blk_drew ?_ | refine blk_alloc ?_ _)); refine blk_far ?_ NB105_115.out _; (with_reducible repeat (first | refine blk_drewN ?_ _ | refine blk_drew ?_ | refine blk_alloc ?_ _)); exact BK105.out⟩
       have n4_ : Aside0 ((((((w28.setCell ⟨gb115, 0, none⟩ (.int .u8 ((rd_T26 l0_4 x20_1).f0))).setCell ⟨gb115, 1, none⟩ (.bool ((rd_T26 l0_4 x20_1).f1))).setCell ⟨gb115, 2, none⟩ (.slice A114_2 ((rd_T26 l0_4 x20_1).f2).length c114_2)).setCell ⟨gb115, 3, none⟩ (.slice A114_3 ((rd_T26 l0_4 x20_1).f3).length c114_3)).setCell ⟨gb115, 4, none⟩ (.slice A114_4 ((rd_T26 l0_4 x20_1).f4).length c114_4)).heap[gb106]? = some (.cells #[.int .u8 0, .bool false, .slice none 0 0, .slice none 0 0, .slice none 0 0] 26 (0, 0))) := ⟨by (with_reducible repeat (first | refine blk_drewN ?_ _ | refine blk_drew ?_ | refine blk_alloc ?_ _)); refine blk_far ?_ NB106_115.out _; (with_reducible repeat (first | refine blk_drewN ?_ _ | refine blk_drew ?_ | refine blk_alloc ?_ _)); refine blk_far ?_ NB106_115.out _; (with_reducible repeat (first | refine blk_drewN ?_ _ | refine blk_drew ?_ | refine blk_alloc ?_ _)); refine blk_far ?_ NB106_115.out _; (with_reducible repeat (first | refine blk_drewN ?_ _ | refine blk_drew ?_ | refine blk_alloc ?_ _)); refine blk_far ?_ NB106_115.out _; (with_reducible repeat (first | refine blk_drewN ?_ _ | refine blk_drew ?_ | refine blk_alloc ?_ _)); refine blk_far ?_ NB106_115.out _; (with_reducible repeat (first | refine blk_drewN ?_ _ | refine blk_drew ?_ | refine blk_alloc ?_ _)); exact BK106.out⟩
       have n5_ : Aside0 ((((((w28.setCell ⟨gb115, 0, none⟩ (.int .u8 ((rd_T26 l0_4 x20_1).f0))).setCell ⟨gb115, 1, none⟩ (.bool ((rd_T26 l0_4 x20_1).f1))).setCell ⟨gb115, 2, none⟩ (.slice A114_2 ((rd_T26 l0_4 x20_1).f2).length c114_2)).setCell ⟨gb115, 3, none⟩ (.slice A114_3 ((rd_T26 l0_4 x20_1).f3).length c114_3)).setCell ⟨gb115, 4, none⟩ (.slice A114_4 ((rd_T26 l0_4 x20_1).f4).length c114_4)).heap[gb113]? = some (.cells #[.int .u8 a0_0, .bool a0_1, .slice Ao14 t107.length co14, .slice Ao13 t110.length co13, u114004] 26 (0, 0))) := ⟨by (with_reducible repeat (first | refine blk_drewN ?_ _ | refine blk_drew ?_ | refine blk_alloc ?_ _)); refine blk_far ?_ NB113_115.out _; (with_reducible repeat (first | refine blk_drewN ?_ _ | refine blk_drew ?_ | refine blk_alloc ?_ _)); refine blk_far ?_ NB113_115.out _; (with_reducible repeat (first | refine blk_drewN ?_ _ | refine blk_drew ?_ | refine blk_alloc ?_ _)); refine blk_far ?_ NB113_115.out _; (with_reducible repeat (first | refine blk_drewN ?_ _ | refine blk_drew ?_ | refine blk_alloc ?_ _)); refine blk_far ?_ NB113_115.out _; (with_reducible repeat (first | refine blk_drewN ?_ _ | refine blk_drew ?_ | refine blk_alloc ?_ _)); refine blk_far ?_ NB113_115.out _; (with_reducible repeat (first | refine blk_drewN ?_ _ | refine blk_drew ?_ | refine blk_alloc ?_ _)); exact BK113.out⟩
       have n6_ : Aside0 ((((((w28.setCell ⟨gb115, 0, none⟩ (.int .u8 ((rd_T26 l0_4 x20_1).f0))).setCell ⟨gb115, 1, none⟩ (.bool ((rd_T26 l0_4 x20_1).f1))).setCell ⟨gb115, 2, none⟩ (.slice A114_2 ((rd_T26 l0_4 x20_1).f2).length c114_2)).setCell ⟨gb115, 3, none⟩ (.slice A114_3 ((rd_T26 l0_4 x20_1).f3).length c114_3)).setCell ⟨gb115, 4, none⟩ (.slice A114_4 ((rd_T26 l0_4 x20_1).f4).length c114_4)).heap[gb115]? = some (.cells #[.int .u8 ((rd_T26 l0_4 x20_1).f0), .bool ((rd_T26 l0_4 x20_1).f1), .slice A114_2 ((rd_T26 l0_4 x20_1).f2).length c114_2, .slice A114_3 ((rd_T26 l0_4 x20_1).f3).length c114_3, .slice A114_4 ((rd_T26 l0_4 x20_1).f4).length c114_4] 26 (0, 0))) := ⟨by (with_reducible repeat (first | refine blk_drewN ?_ _ | refine blk_drew ?_ | refine blk_alloc ?_ _)); refine blk_put (cs := #[.int .u8 ((rd_T26 l0_4 x20_1).f0), .bool ((rd_T26 l0_4 x20_1).f1), .slice A114_2 ((rd_T26 l0_4 x20_1).f2).length c114_2, .slice A114_3 ((rd_T26 l0_4 x20_1).f3).length c114_3, .slice none 0 0]) ?_ 4 _ rfl; (with_reducible repeat (first | refine blk_drewN ?_ _ | refine blk_drew ?_ | refine blk_alloc ?_ _)); refine blk_put (cs := #[.int .u8 ((rd_T26 l0_4 x20_1).f0), .bool ((rd_T26 l0_4 x20_1).f1), .slice A114_2 ((rd_T26 l0_4 x20_1).f2).length c114_2, .slice none 0 0, .slice none 0 0]) ?_ 3 _ rfl; (with_reducible repeat (first | refine blk_drewN ?_ _ | refine blk_drew ?_ | refine blk_alloc ?_ _)); refine blk_put (cs := #[.int .u8 ((rd_T26 l0_4 x20_1).f0), .bool ((rd_T26 l0_4 x20_1).f1), .slice none 0 0, .slice none 0 0, .slice none 0 0]) ?_ 2 _ rfl; (with_reducible repeat (first | refine blk_drewN ?_ _ | refine blk_drew ?_ | refine blk_alloc ?_ _)); refine blk_put (cs := #[.int .u8 ((rd_T26 l0_4 x20_1).f0), .bool false, .slice none 0 0, .slice none 0 0, .slice none 0 0]) ?_ 1 _ rfl; (with_reducible repeat (first | refine blk_drewN ?_ _ | refine blk_drew ?_ | refine blk_alloc ?_ _)); refine blk_put (cs := #[.int .u8 0, .bool false, .slice none 0 0, .slice none 0 0, .slice none 0 0]) ?_ 0 _ rfl; (with_reducible repeat (first | refine blk_drewN ?_ _ | refine blk_drew ?_ | refine blk_alloc ?_ _)); exact BK115.out⟩
       have n7_ : Aside0 (Below w.heap.size w (((((w28.setCell ⟨gb115, 0, none⟩ (.int .u8 ((rd_T26 l0_4 x20_1).f0))).setCell ⟨gb115, 1, none⟩ (.bool ((rd_T26 l0_4 x20_1).f1))).setCell ⟨gb115, 2, none⟩ (.slice A114_2 ((rd_T26 l0_4 x20_1).f2).length c114_2)).setCell ⟨gb115, 3, none⟩ (.slice A114_3 ((rd_T26 l0_4 x20_1).f3).length c114_3)).setCell ⟨gb115, 4, none⟩ (.slice A114_4 ((rd_T26 l0_4 x20_1).f4).length c114_4))) := ⟨by repeat (first | (with_reducible first | exact HB.out | apply below_alloc | apply pw_below_drewN | apply below_drew1 | refine below_set ?_ GE105.out | refine below_set ?_ GE106.out | refine below_set ?_ GE113.out | refine below_set ?_ GE115.out) | exact HB.out)⟩
       (try clear HO_114002)
       (try clear HO_114003)
       (try clear HO_114004)
       (try clear BK105)
       (try clear BK106)
       (try clear BK113)
       (try clear BK115)
       (try clear HB)
       generalize (((((w28.setCell ⟨gb115, 0, none⟩ (.int .u8 ((rd_T26 l0_4 x20_1).f0))).setCell ⟨gb115, 1, none⟩ (.bool ((rd_T26 l0_4 x20_1).f1))).setCell ⟨gb115, 2, none⟩ (.slice A114_2 ((rd_T26 l0_4 x20_1).f2).length c114_2)).setCell ⟨gb115, 3, none⟩ (.slice A114_3 ((rd_T26 l0_4 x20_1).f3).length c114_3)).setCell ⟨gb115, 4, none⟩ (.slice A114_4 ((rd_T26 l0_4 x20_1).f4).length c114_4)) = w33 at n0_ n1_ n2_ n3_ n4_ n5_ n6_ n7_ ⊢
       have HO_114002 := n0_
       have HO_114003 := n1_
       have HO_114004 := n2_
       have BK105 := n3_
       have BK106 := n4_
       have BK113 := n5_
       have BK115 := n6_
       have HB := n7_
       clear n0_ n1_ n2_ n3_ n4_ n5_ n6_ n7_
       have n0_ := Aside0.mk (Kd.R_drew HO_114002.out)
       have n1_ := Aside0.mk (Kd.R_drew HO_114003.out)
       have n2_ := Aside0.mk (Kd.R_drew HO_114004.out)
       have n3_ := Aside0.mk (blk_drew BK105.out)
       have n4_ := Aside0.mk (blk_drew BK106.out)
       have n5_ := Aside0.mk (blk_drew BK113.out)
       have n6_ := Aside0.mk (blk_drew BK115.out)
       have n7_ := Aside0.mk (below_drew1 HB.out)
       clear HO_114002
       clear HO_114003
       clear HO_114004
       clear BK105
       clear BK106
       clear BK113
       clear BK115
       clear HB
       have HO_114002 := n0_
       have HO_114003 := n1_
       have HO_114004 := n2_
       have BK105 := n3_
       have BK106 := n4_
       have BK113 := n5_
       have BK115 := n6_
       have HB := n7_
       clear n0_ n1_ n2_ n3_ n4_ n5_ n6_ n7_
       refine start_ (n := 8) (S := fun w' => w'.cell? ⟨gb113, 0, none⟩ = some (.int .u8 a0_0) ∧ w'.cell? ⟨gb113, 1, none⟩ = some (.bool a0_1) ∧ w'.cell? ⟨gb113, 2, none⟩ = some (.slice Ao14 t107.length co14) ∧ w'.cell? ⟨gb113, 3, none⟩ = some (.slice Ao13 t110.length co13) ∧ w'.cell? ⟨gb113, 4, none⟩ = some (u114004) ∧ w'.cell? ⟨gb115, 0, none⟩ = some (.int .u8 ((rd_T26 l0_4 x20_1).f0)) ∧ w'.cell? ⟨gb115, 1, none⟩ = some (.bool ((rd_T26 l0_4 x20_1).f1)) ∧ w'.cell? ⟨gb115, 2, none⟩ = some (.slice A114_2 ((rd_T26 l0_4 x20_1).f2).length c114_2) ∧ w'.cell? ⟨gb115, 3, none⟩ = some (.slice A114_3 ((rd_T26 l0_4 x20_1).f3).length c114_3) ∧ w'.cell? ⟨gb115, 4, none⟩ = some (.slice A114_4 ((rd_T26 l0_4 x20_1).f4).length c114_4)) (ds := [7]) #[false, false, false, false, false, false, false, false] (by kernel_rfl) rfl rfl ⟨(blk_cell BK113.out 0).trans rfl, (blk_cell BK113.out 1).trans rfl, (blk_cell BK113.out 2).trans rfl, (blk_cell BK113.out 3).trans rfl, (blk_cell BK113.out 4).trans rfl, (blk_cell BK115.out 0).trans rfl, (blk_cell BK115.out 1).trans rfl, (blk_cell BK115.out 2).trans rfl, (blk_cell BK115.out 3).trans rfl, (blk_cell BK115.out 4).trans rfl⟩ (fun hHeld => ?_); refine with_tabW tree_Copy.tab5 tree_Copy.bits5 (fun HT_ HW_ => ?_)
       generalize w33.drew = w34 at HO_114002 HO_114003 HO_114004 BK105 BK106 BK113 BK115 HB hHeld ⊢
       refine pure_ (i := 0) (N := some 24) (v := ?_) (a' := ?_) #[true, false, false, false, false, false, false, false] rfl rfl (any_of HT_.out (by kernel_rfl)) (fun _ _ _ h => h) (Or.inl ⟨by rfl, ?_⟩) ?_ ?_
       rotate_left
       ·intro w'
        go_simp
        with_reducible rfl
       rotate_left
       ·simp only [Act.put, List.setIfInBounds_toArray, List.set_cons_zero, List.set_cons_succ, i64_w, i32_w]
        rfl
       refine take_ (i := 1) (N := some 25) (v := ?_) (a' := ?_) #[true, true, false, false, false, false, false, false] rfl rfl (take_ofW HT_.out HW_.out (by kernel_rfl)) (fun _ _ _ h => h) (Or.inl ⟨by rfl, ?_⟩) hHeld ?_ ?_
       rotate_left
       ·rintro w' ⟨s0, s1, s2, s3, s4, s5, s6, s7, s8, s9⟩
        go_simp
        with_reducible rfl
       rotate_left
       ·simp only [Act.put, List.setIfInBounds_toArray, List.set_cons_zero, List.set_cons_succ, i64_w, i32_w]
        rfl
       refine take_ (i := 2) (N := some 26) (v := ?_) (a' := ?_) #[true, true, true, false, false, false, false, false] rfl rfl (take_ofW HT_.out HW_.out (by kernel_rfl)) (fun _ _ _ h => h) (Or.inl ⟨by rfl, ?_⟩) hHeld ?_ ?_
       rotate_left
       ·rintro w' ⟨s0, s1, s2, s3, s4, s5, s6, s7, s8, s9⟩
        go_simp
        with_reducible rfl
       rotate_left
       ·simp only [Act.put, List.setIfInBounds_toArray, List.set_cons_zero, List.set_cons_succ, i64_w, i32_w]
        rfl
       refine one_ (i := 3) (N := some 27) #[true, true, true, true, false, false, false, false] rfl rfl (one_of HT_.out (by kernel_rfl)) (by decide) (fun K hK => ?_)
       refine goes_ Tryd.func25 (by kernel_rfl) rfl #[.agg #[.int .u8 ((rd_T26 l0_4 x20_1).f0), .bool ((rd_T26 l0_4 x20_1).f1), .slice A114_2 ((rd_T26 l0_4 x20_1).f2).length c114_2, .slice A114_3 ((rd_T26 l0_4 x20_1).f3).length c114_3, .slice A114_4 ((rd_T26 l0_4 x20_1).f4).length c114_4]] (by rfl) rfl rfl (by (try simp only [List.map_toArray, List.map_cons, List.map_nil]); first | done | rfl | (simp only [List.length_drop, List.length_take]; rfl)) ?_
       with_reducible refine (ih k1 (by have := HK1.out; omega) ((rd_T26 l0_4 x20_1).f0) ((rd_T26 l0_4 x20_1).f1) _ _ ((rd_T26 l0_4 x20_1).f2) _ _ ((rd_T26 l0_4 x20_1).f3) _ _ ((rd_T26 l0_4 x20_1).f4) t116 t117 t118 t121 t124 _ ?side1 ?side2 ?side3 ?side4 ?side5 ?side6 A26.out).mono ?_
       (case side1 => repeat (first | exact (Kd.C_below HR114_2.out HB.out) | (with_reducible refine Kd.C_alloc ?_ _) | (with_reducible refine Kd.C_drewN ?_ _) | (with_reducible refine Kd.C_drew ?_)))
       (case side2 => exact HC114_2.out)
       (case side3 => repeat (first | exact (Kd.C_below HR114_3.out HB.out) | (with_reducible refine Kd.C_alloc ?_ _) | (with_reducible refine Kd.C_drewN ?_ _) | (with_reducible refine Kd.C_drew ?_)))
       (case side4 => exact HC114_3.out)
       (case side5 => repeat (first | exact (Kd.C_below HR114_4.out HB.out) | (with_reducible refine Kd.C_alloc ?_ _) | (with_reducible refine Kd.C_drewN ?_ _) | (with_reducible refine Kd.C_drew ?_)))
       (case side6 => exact HC114_4.out)
       rintro e w35 ⟨v119, v122, v125, rfl, ho0, ho1, ho2, hb⟩
       refine ⟨_, rfl, ?_⟩
       have n0_ := Aside0.mk (Kd.R_elder' (by (with_reducible repeat (first | apply Kd.R_alloc | apply Kd.R_drewN | apply Kd.R_drew)); exact HO_114002.out) (Kd.R_base ho0) hb)
       have n1_ := Aside0.mk (Kd.R_elder' (by (with_reducible repeat (first | apply Kd.R_alloc | apply Kd.R_drewN | apply Kd.R_drew)); exact HO_114003.out) (Kd.R_base ho1) hb)
       have n2_ := Aside0.mk (Kd.R_mono (Kd.R_told (Kd.R_told (Kd.R_told (Kd.R_old (by (with_reducible repeat (first | apply Kd.R_alloc | apply Kd.R_drewN | apply Kd.R_drew)); exact HO_114004.out) hb) (Kd.R_base ho0)) (Kd.R_base ho1)) (Kd.R_base ho2)) (fun _ h_ => h_.1))
       have n3_ := Aside0.mk (Kd.R_lower (Kd.R_new' ho0 (Kd.R_lt (by (with_reducible repeat (first | apply Kd.R_alloc | apply Kd.R_drewN | apply Kd.R_drew)); exact HO_114002.out))) (below_size (by repeat (first | (with_reducible first | exact HB.out | apply below_alloc | apply pw_below_drewN | apply below_drew1 | refine below_set ?_ GE105.out | refine below_set ?_ GE106.out | refine below_set ?_ GE113.out | refine below_set ?_ GE115.out) | exact HB.out))))
       have n4_ := Aside0.mk (Kd.R_lower (Kd.R_new' ho1 (Kd.R_lt (by (with_reducible repeat (first | apply Kd.R_alloc | apply Kd.R_drewN | apply Kd.R_drew)); exact HO_114003.out))) (below_size (by repeat (first | (with_reducible first | exact HB.out | apply below_alloc | apply pw_below_drewN | apply below_drew1 | refine below_set ?_ GE105.out | refine below_set ?_ GE106.out | refine below_set ?_ GE113.out | refine below_set ?_ GE115.out) | exact HB.out))))
       have n5_ := Aside0.mk (Kd.R_lower (Kd.R_newB (Kd.R_newB (Kd.R_newB (Kd.R_newB (Kd.R_new' (Kd.R_new' (Kd.R_new' ho2 (Kd.R_lt (by (with_reducible repeat (first | apply Kd.R_alloc | apply Kd.R_drewN | apply Kd.R_drew)); exact HO_114002.out))) (Kd.R_lt (by (with_reducible repeat (first | apply Kd.R_alloc | apply Kd.R_drewN | apply Kd.R_drew)); exact HO_114003.out))) (Kd.R_lt (by (with_reducible repeat (first | apply Kd.R_alloc | apply Kd.R_drewN | apply Kd.R_drew)); exact HO_114004.out))) (g := gb105) (o := .cells #[.int .u8 a0_0, .bool a0_1, .slice A0_2 l0_2.length c0_2, .slice A0_3 l0_3.length c0_3, .slice (some ad114) l0_4.length c0_4] 26 (0, 0)) (by (with_reducible repeat (first | refine blk_drewN ?_ _ | refine blk_drew ?_ | refine blk_alloc ?_ _)); exact BK105.out)) (g := gb106) (o := .cells #[.int .u8 0, .bool false, .slice none 0 0, .slice none 0 0, .slice none 0 0] 26 (0, 0)) (by (with_reducible repeat (first | refine blk_drewN ?_ _ | refine blk_drew ?_ | refine blk_alloc ?_ _)); exact BK106.out)) (g := gb113) (o := .cells #[.int .u8 a0_0, .bool a0_1, .slice Ao14 t107.length co14, .slice Ao13 t110.length co13, u114004] 26 (0, 0)) (by (with_reducible repeat (first | refine blk_drewN ?_ _ | refine blk_drew ?_ | refine blk_alloc ?_ _)); exact BK113.out)) (g := gb115) (o := .cells #[.int .u8 ((rd_T26 l0_4 x20_1).f0), .bool ((rd_T26 l0_4 x20_1).f1), .slice A114_2 ((rd_T26 l0_4 x20_1).f2).length c114_2, .slice A114_3 ((rd_T26 l0_4 x20_1).f3).length c114_3, .slice A114_4 ((rd_T26 l0_4 x20_1).f4).length c114_4] 26 (0, 0)) (by (with_reducible repeat (first | refine blk_drewN ?_ _ | refine blk_drew ?_ | refine blk_alloc ?_ _)); exact BK115.out)) (below_size (by repeat (first | (with_reducible first | exact HB.out | apply below_alloc | apply pw_below_drewN | apply below_drew1 | refine below_set ?_ GE105.out | refine below_set ?_ GE106.out | refine below_set ?_ GE113.out | refine below_set ?_ GE115.out) | exact HB.out))))
       have n6_ := Aside0.mk (blk_below (g := gb105) (o := .cells #[.int .u8 a0_0, .bool a0_1, .slice A0_2 l0_2.length c0_2, .slice A0_3 l0_3.length c0_3, .slice (some ad114) l0_4.length c0_4] 26 (0, 0)) (by (with_reducible repeat (first | refine blk_drewN ?_ _ | refine blk_drew ?_ | refine blk_alloc ?_ _)); exact BK105.out) hb)
       have n7_ := Aside0.mk (blk_below (g := gb106) (o := .cells #[.int .u8 0, .bool false, .slice none 0 0, .slice none 0 0, .slice none 0 0] 26 (0, 0)) (by (with_reducible repeat (first | refine blk_drewN ?_ _ | refine blk_drew ?_ | refine blk_alloc ?_ _)); exact BK106.out) hb)
       have n8_ := Aside0.mk (blk_below (g := gb113) (o := .cells #[.int .u8 a0_0, .bool a0_1, .slice Ao14 t107.length co14, .slice Ao13 t110.length co13, u114004] 26 (0, 0)) (by (with_reducible repeat (first | refine blk_drewN ?_ _ | refine blk_drew ?_ | refine blk_alloc ?_ _)); exact BK113.out) hb)
       have n9_ := Aside0.mk (blk_below (g := gb115) (o := .cells #[.int .u8 ((rd_T26 l0_4 x20_1).f0), .bool ((rd_T26 l0_4 x20_1).f1), .slice A114_2 ((rd_T26 l0_4 x20_1).f2).length c114_2, .slice A114_3 ((rd_T26 l0_4 x20_1).f3).length c114_3, .slice A114_4 ((rd_T26 l0_4 x20_1).f4).length c114_4] 26 (0, 0)) (by (with_reducible repeat (first | refine blk_drewN ?_ _ | refine blk_drew ?_ | refine blk_alloc ?_ _)); exact BK115.out) hb)
       have n10_ := Aside0.mk (below_step (by repeat (first | (with_reducible first | exact HB.out | apply below_alloc | apply pw_below_drewN | apply below_drew1 | refine below_set ?_ GE105.out | refine below_set ?_ GE106.out | refine below_set ?_ GE113.out | refine below_set ?_ GE115.out) | exact HB.out)) hb)
       clear HO_114002
       clear HO_114003
       clear HO_114004
       clear BK105
       clear BK106
       clear BK113
       clear BK115
       clear HB
       have HO_114002 := n0_
       have HO_114003 := n1_
       have HO_114004 := n2_
       have HO120 := n3_
       have HO123 := n4_
       have HO126 := n5_
       have BK105 := n6_
       have BK106 := n7_
       have BK113 := n8_
       have BK115 := n9_
       have HB := n10_
       clear n0_ n1_ n2_ n3_ n4_ n5_ n6_ n7_ n8_ n9_ n10_
       (try clear hb)
       (try clear hb2)
       (try clear hk)
       (try clear hi)
       (try clear ho0)
       (try clear ho1)
       (try clear ho2)
       obtain ⟨Ao37, co37, eo37⟩ := Kd.R_slice HO120.out
       (first | subst eo37 | (injection eo37 with f1_ f2_ f3_; have f4_ := f1_.symm; have f5_ := f3_.symm; clear f1_ f2_ f3_; subst f4_; subst f5_))
       obtain ⟨Ao38, co38, eo38⟩ := Kd.R_slice HO123.out
       (first | subst eo38 | (injection eo38 with f1_ f2_ f3_; have f4_ := f1_.symm; have f5_ := f3_.symm; clear f1_ f2_ f3_; subst f4_; subst f5_))
       obtain ⟨Ao39, co39, eo39⟩ := Kd.R_slice HO126.out
       (first | subst eo39 | (injection eo39 with f1_ f2_ f3_; have f4_ := f1_.symm; have f5_ := f3_.symm; clear f1_ f2_ f3_; subst f4_; subst f5_))
       refine hK.out _ _ ⟨(blk_cell BK113.out 0).trans rfl, (blk_cell BK113.out 1).trans rfl, (blk_cell BK113.out 2).trans rfl, (blk_cell BK113.out 3).trans rfl, (blk_cell BK113.out 4).trans rfl, (blk_cell BK115.out 0).trans rfl, (blk_cell BK115.out 1).trans rfl, (blk_cell BK115.out 2).trans rfl, (blk_cell BK115.out 3).trans rfl, (blk_cell BK115.out 4).trans rfl⟩ (fun hHeld => ?_)
       clear hK K
       refine norm_ (a' := ?_) ?_ ?_
       rotate_left
       ·show Act.put _ (some 27) _ = _
        simp only [Act.put, List.setIfInBounds_toArray, List.set_cons_zero, List.set_cons_succ, i64_w, i32_w]
        rfl
       refine one_ (i := 4) (N := some 28) #[true, true, true, true, true, false, false, false] rfl rfl (one_of HT_.out (by kernel_rfl)) (by decide) (fun K hK => ?_)
       refine value_ (w1 := ?_) (v := ?_) (by rfl) rfl ?_ ?_
       rotate_left 2
       ·go_simp
        constructor
        ·rfl
        ·rfl
       refine hK.out _ _ ⟨(blk_cell (blk_alloc BK113.out _) 0).trans rfl, (blk_cell (blk_alloc BK113.out _) 1).trans rfl, (blk_cell (blk_alloc BK113.out _) 2).trans rfl, (blk_cell (blk_alloc BK113.out _) 3).trans rfl, (blk_cell (blk_alloc BK113.out _) 4).trans rfl, (blk_cell (blk_alloc BK115.out _) 0).trans rfl, (blk_cell (blk_alloc BK115.out _) 1).trans rfl, (blk_cell (blk_alloc BK115.out _) 2).trans rfl, (blk_cell (blk_alloc BK115.out _) 3).trans rfl, (blk_cell (blk_alloc BK115.out _) 4).trans rfl⟩ (fun hHeld => ?_)
       clear hK K
       refine norm_ (a' := ?_) ?_ ?_
       rotate_left
       ·show Act.put _ (some 28) _ = _
        simp only [Act.put, List.setIfInBounds_toArray, List.set_cons_zero, List.set_cons_succ, i64_w, i32_w]
        rfl
       refine one_ (i := 5) (N := some 29) #[true, true, true, true, true, true, false, false] rfl rfl (one_of HT_.out (by kernel_rfl)) (by decide) (fun K hK => ?_)
       refine Kd.R_append_step k26 (w0 := w) w.heap.size (by rfl) (.tmp 25) (.tmp 28) 24 26 (.agg #[(.int .u8 0), (.bool false), (.slice none 0 0), (.slice none 0 0), (.slice none 0 0)]) 80 rfl Tryd.underlying24 info26 rfl (by decide) (by omega) u114004 x114004_1 (⟨t116, t117, t118, t121, t124⟩ : S26) [.int .u8 t116, .bool t117, .slice Ao37 t118.length co37, .slice Ao38 t121.length co38, .slice Ao39 t124.length co39] (fun k_ => some k_ ≠ (.slice Ao14 t107.length co14 : Value).ownBlock ∧ some k_ ≠ (.slice Ao13 t110.length co13 : Value).ownBlock ∧ k_ ≠ gb105 ∧ k_ ≠ gb106 ∧ k_ ≠ gb113 ∧ k_ ≠ gb115) (fun k_ => ((fun k_ => some k_ ≠ (.slice Ao14 t107.length co14 : Value).ownBlock ∧ some k_ ≠ (.slice Ao13 t110.length co13 : Value).ownBlock ∧ k_ ≠ gb105 ∧ k_ ≠ gb106 ∧ k_ ≠ gb113 ∧ k_ ≠ gb115)) k_ ∧ some k_ ≠ (u114004 : Value).ownBlock) rfl rfl ?aP (fun _ hk => hk) ?aF ?aO ?aB ?aS ?aL ?_
       (case aP => exact k26_mkM _ _ _ (⟨t116, t117, t118, t121, t124⟩ : S26) (Kd.R_mono (Kd.R_types (Kd.R_types (Kd.R_types (Kd.R_types (Kd.R_apart' (Kd.R_apart' (HO120.out) (Kd.R_typed HO_114003.out) (by decide)) (Kd.R_typed HO_114004.out) (by decide)) BK105.out (by decide)) BK106.out (by decide)) BK113.out (by decide)) BK115.out (by decide)) (fun k_ hk => ⟨⟨hk.1.1.1.1.1.1.2, ⟨hk.1.1.1.1.1.2, ⟨hk.1.1.1.2, ⟨hk.1.1.2, ⟨hk.1.2, hk.2⟩⟩⟩⟩⟩, hk.1.1.1.1.2⟩)) (Kd.R_mono (Kd.R_types (Kd.R_types (Kd.R_types (Kd.R_types (Kd.R_apart' (Kd.R_apart' (HO123.out) (Kd.R_typed HO_114002.out) (by decide)) (Kd.R_typed HO_114004.out) (by decide)) BK105.out (by decide)) BK106.out (by decide)) BK113.out (by decide)) BK115.out (by decide)) (fun k_ hk => ⟨⟨hk.1.1.1.1.1.2, ⟨hk.1.1.1.1.1.1.2, ⟨hk.1.1.1.2, ⟨hk.1.1.2, ⟨hk.1.2, hk.2⟩⟩⟩⟩⟩, hk.1.1.1.1.2⟩)) (Kd.R_mono (HO126.out) (fun k_ hk => ⟨⟨hk.1.1.1.1.1.1.2, ⟨hk.1.1.1.1.1.2, ⟨hk.1.1.1.2, ⟨hk.1.1.2, ⟨hk.1.2, hk.2⟩⟩⟩⟩⟩, hk.1.1.1.1.2⟩)))
       (case aB => exact (by repeat (first | (with_reducible first | exact HB.out | apply below_alloc | apply pw_below_drewN | apply below_drew1 | refine below_set ?_ GE105.out | refine below_set ?_ GE106.out | refine below_set ?_ GE113.out | refine below_set ?_ GE115.out) | exact HB.out)))
       (case aF => exact (fun k_ hk => ⟨Kd.fresh' (Kd.R_lt (by (with_reducible repeat (first | apply Kd.R_alloc | apply Kd.R_drewN | apply Kd.R_drew)); exact HO_114002.out)) k_ hk, Kd.fresh' (Kd.R_lt (by (with_reducible repeat (first | apply Kd.R_alloc | apply Kd.R_drewN | apply Kd.R_drew)); exact HO_114003.out)) k_ hk, Kd.freshB (g := gb105) (o := .cells #[.int .u8 a0_0, .bool a0_1, .slice A0_2 l0_2.length c0_2, .slice A0_3 l0_3.length c0_3, .slice (some ad114) l0_4.length c0_4] 26 (0, 0)) (by (with_reducible repeat (first | refine blk_drewN ?_ _ | refine blk_drew ?_ | refine blk_alloc ?_ _)); exact BK105.out) k_ hk, Kd.freshB (g := gb106) (o := .cells #[.int .u8 0, .bool false, .slice none 0 0, .slice none 0 0, .slice none 0 0] 26 (0, 0)) (by (with_reducible repeat (first | refine blk_drewN ?_ _ | refine blk_drew ?_ | refine blk_alloc ?_ _)); exact BK106.out) k_ hk, Kd.freshB (g := gb113) (o := .cells #[.int .u8 a0_0, .bool a0_1, .slice Ao14 t107.length co14, .slice Ao13 t110.length co13, u114004] 26 (0, 0)) (by (with_reducible repeat (first | refine blk_drewN ?_ _ | refine blk_drew ?_ | refine blk_alloc ?_ _)); exact BK113.out) k_ hk, Kd.freshB (g := gb115) (o := .cells #[.int .u8 ((rd_T26 l0_4 x20_1).f0), .bool ((rd_T26 l0_4 x20_1).f1), .slice A114_2 ((rd_T26 l0_4 x20_1).f2).length c114_2, .slice A114_3 ((rd_T26 l0_4 x20_1).f3).length c114_3, .slice A114_4 ((rd_T26 l0_4 x20_1).f4).length c114_4] 26 (0, 0)) (by (with_reducible repeat (first | refine blk_drewN ?_ _ | refine blk_drew ?_ | refine blk_alloc ?_ _)); exact BK115.out) k_ hk⟩))
       (case aO => exact (by (with_reducible repeat (first | apply Kd.R_alloc | apply Kd.R_drewN | apply Kd.R_drew)); exact Kd.R_mono HO_114004.out (fun _ hk => ⟨hk.1.1.1.1, ⟨hk.1.1.1.2.1, ⟨hk.1.1.1.2.2.1, ⟨hk.1.1.1.2.2.2.1, ⟨hk.1.1.1.2.2.2.2.1, hk.1.1.1.2.2.2.2.2⟩⟩⟩⟩⟩)))
       (case aS => exact (below_size (by repeat (first | (with_reducible first | exact HB.out | apply below_alloc | apply pw_below_drewN | apply below_drew1 | refine below_set ?_ GE105.out | refine below_set ?_ GE106.out | refine below_set ?_ GE113.out | refine below_set ?_ GE115.out) | exact HB.out))))
       (case aL => have := LMc27.out; omega)
       intro v128 w36 ho hb hg hat
       rw [← Ny127.out] at ho
       have n0_ := Aside0.mk (Kd.R_over' (by (with_reducible repeat (first | apply Kd.R_alloc | apply Kd.R_drewN | apply Kd.R_drew)); exact HO_114002.out) (Kd.R_typed (by (with_reducible repeat (first | apply Kd.R_alloc | apply Kd.R_drewN | apply Kd.R_drew)); exact HO_114004.out)) (by decide) hg)
       have n1_ := Aside0.mk (Kd.R_over' (by (with_reducible repeat (first | apply Kd.R_alloc | apply Kd.R_drewN | apply Kd.R_drew)); exact HO_114003.out) (Kd.R_typed (by (with_reducible repeat (first | apply Kd.R_alloc | apply Kd.R_drewN | apply Kd.R_drew)); exact HO_114004.out)) (by decide) hg)
       have n2_ := Aside0.mk (blk_grown (g := gb105) (o := .cells #[.int .u8 a0_0, .bool a0_1, .slice A0_2 l0_2.length c0_2, .slice A0_3 l0_3.length c0_3, .slice (some ad114) l0_4.length c0_4] 26 (0, 0)) (by (with_reducible repeat (first | refine blk_drewN ?_ _ | refine blk_drew ?_ | refine blk_alloc ?_ _)); exact BK105.out) hg (Kd.R_away HO_114004.out (fun _ hk => hk.1.1.1.2.2.1)))
       have n3_ := Aside0.mk (blk_grown (g := gb106) (o := .cells #[.int .u8 0, .bool false, .slice none 0 0, .slice none 0 0, .slice none 0 0] 26 (0, 0)) (by (with_reducible repeat (first | refine blk_drewN ?_ _ | refine blk_drew ?_ | refine blk_alloc ?_ _)); exact BK106.out) hg (Kd.R_away HO_114004.out (fun _ hk => hk.1.1.1.2.2.2.1)))
       have n4_ := Aside0.mk (blk_grown (g := gb113) (o := .cells #[.int .u8 a0_0, .bool a0_1, .slice Ao14 t107.length co14, .slice Ao13 t110.length co13, u114004] 26 (0, 0)) (by (with_reducible repeat (first | refine blk_drewN ?_ _ | refine blk_drew ?_ | refine blk_alloc ?_ _)); exact BK113.out) hg (Kd.R_away HO_114004.out (fun _ hk => hk.1.1.1.2.2.2.2.1)))
       have n5_ := Aside0.mk (blk_grown (g := gb115) (o := .cells #[.int .u8 ((rd_T26 l0_4 x20_1).f0), .bool ((rd_T26 l0_4 x20_1).f1), .slice A114_2 ((rd_T26 l0_4 x20_1).f2).length c114_2, .slice A114_3 ((rd_T26 l0_4 x20_1).f3).length c114_3, .slice A114_4 ((rd_T26 l0_4 x20_1).f4).length c114_4] 26 (0, 0)) (by (with_reducible repeat (first | refine blk_drewN ?_ _ | refine blk_drew ?_ | refine blk_alloc ?_ _)); exact BK115.out) hg (Kd.R_away HO_114004.out (fun _ hk => hk.1.1.1.2.2.2.2.2)))
       have n6_ := Aside0.mk (hb)
       have n7_ := Aside0.mk (ho)
       clear HO_114002
       clear HO_114003
       clear BK105
       clear BK106
       clear BK113
       clear BK115
       clear HB
       clear HO_114004
       clear HO120
       clear HO123
       clear HO126
       have HO_114002 := n0_
       have HO_114003 := n1_
       have BK105 := n2_
       have BK106 := n3_
       have BK113 := n4_
       have BK115 := n5_
       have HB := n6_
       have HO129 := n7_
       clear n0_ n1_ n2_ n3_ n4_ n5_ n6_ n7_
       clear ho hb hg hat
       obtain ⟨Ao40, co40, eo40⟩ := Kd.R_slice HO129.out
       (first | subst eo40 | (injection eo40 with f1_ f2_ f3_; have f4_ := f1_.symm; have f5_ := f3_.symm; clear f1_ f2_ f3_; subst f4_; subst f5_))
       refine hK.out _ _ ⟨(blk_cell BK113.out 0).trans rfl, (blk_cell BK113.out 1).trans rfl, (blk_cell BK113.out 2).trans rfl, (blk_cell BK113.out 3).trans rfl, (blk_cell BK113.out 4).trans rfl, (blk_cell BK115.out 0).trans rfl, (blk_cell BK115.out 1).trans rfl, (blk_cell BK115.out 2).trans rfl, (blk_cell BK115.out 3).trans rfl, (blk_cell BK115.out 4).trans rfl⟩ (fun hHeld => ?_)
       clear hK K
       refine norm_ (a' := ?_) ?_ ?_
       rotate_left
       ·show Act.put _ (some 29) _ = _
        simp only [Act.put, List.setIfInBounds_toArray, List.set_cons_zero, List.set_cons_succ, i64_w, i32_w]
        rfl
       refine pure_ (i := 6) (N := some 30) (v := ?_) (a' := ?_) #[true, true, true, true, true, true, true, false] rfl rfl (any_of HT_.out (by kernel_rfl)) (fun _ _ _ h => h) (Or.inl ⟨by rfl, ?_⟩) ?_ ?_
       rotate_left
       ·intro w'
        go_simp
        with_reducible rfl
       rotate_left
       ·simp only [Act.put, List.setIfInBounds_toArray, List.set_cons_zero, List.set_cons_succ, i64_w, i32_w]
        rfl
       refine last_ (i := 7) (N := none) #[true, true, true, true, true, true, true, true] rfl rfl (one_of HT_.out (by kernel_rfl)) (by decide) (fun K hK => ?_)
       have hs41 : w36.cell? ⟨gb113, 4, none⟩ = some (u114004) := (blk_cell BK113.out 4).trans rfl
       have hfs41 := blk_frozen BK113.out 4
       have hns41_0 := NB105_113.out
       have hns41_1 := NB106_113.out
       have hns41_3 := NB115_113.out
       have hms41_0 := NB113_105.out
       have hms41_1 := NB113_106.out
       have hms41_3 := NB113_115.out
       refine skip_ (w1 := ?_) (by rfl) rfl ?_ ?_
       rotate_left
       ·go_simp
        rfl
       refine hK.out _ _ ?_
       clear hK K
       refine done_ (done_of HT_.out (by kernel_rfl)) ?_
       try go_wp2
       go_roundg k1
       case measure => have := HK1.out; omega
       case rel => exact ⟨(wrap64 (x20_1 + 1)), (y127), (.slice Ao40 y127.length co40), (by first | rfl | (simp; done) | (simp [*]; done)), H', ⟨by have := HK1.out; omega⟩, ⟨by (with_reducible repeat (first | apply Kd.R_alloc | apply Kd.R_drewN | apply Kd.R_drew)); exact Kd.R_mono (Kd.R_far (p := ⟨gb113, 4, none⟩) (Kd.R_types HO_114002.out BK113.out (by decide)) (fun _ hk => hk.2) (.slice Ao40 y127.length co40)) (fun _ hk => trivial)⟩, ⟨by (with_reducible repeat (first | apply Kd.R_alloc | apply Kd.R_drewN | apply Kd.R_drew)); exact Kd.R_mono (Kd.R_far (p := ⟨gb113, 4, none⟩) (Kd.R_types HO_114003.out BK113.out (by decide)) (fun _ hk => hk.2) (.slice Ao40 y127.length co40)) (fun _ hk => trivial)⟩, ⟨by (with_reducible repeat (first | apply Kd.R_alloc | apply Kd.R_drewN | apply Kd.R_drew)); exact Kd.R_mono (Kd.R_far (p := ⟨gb113, 4, none⟩) (Kd.R_mono HO129.out (fun k_ hk => (⟨hk, hk.2.2.2.2.1⟩ : _ ∧ k_ ≠ gb113))) (fun _ hk => hk.2) (.slice Ao40 y127.length co40)) (fun _ hk => ⟨hk.1.1, ⟨hk.1.2.1, ⟨hk.1.2.2.1, ⟨hk.1.2.2.2.1, hk.1.2.2.2.2.1⟩⟩⟩⟩)⟩, ⟨by (with_reducible repeat (first | refine blk_drewN ?_ _ | refine blk_drew ?_ | refine blk_alloc ?_ _)); refine blk_far ?_ NB105_113.out _; (with_reducible repeat (first | refine blk_drewN ?_ _ | refine blk_drew ?_ | refine blk_alloc ?_ _)); exact BK105.out⟩, ⟨by (with_reducible repeat (first | refine blk_drewN ?_ _ | refine blk_drew ?_ | refine blk_alloc ?_ _)); refine blk_far ?_ NB106_113.out _; (with_reducible repeat (first | refine blk_drewN ?_ _ | refine blk_drew ?_ | refine blk_alloc ?_ _)); exact BK106.out⟩, ⟨by (with_reducible repeat (first | refine blk_drewN ?_ _ | refine blk_drew ?_ | refine blk_alloc ?_ _)); refine blk_put (cs := #[.int .u8 a0_0, .bool a0_1, .slice Ao14 t107.length co14, .slice Ao13 t110.length co13, u114004]) ?_ 4 _ rfl; (with_reducible repeat (first | refine blk_drewN ?_ _ | refine blk_drew ?_ | refine blk_alloc ?_ _)); exact BK113.out⟩, ⟨by repeat (first | (with_reducible first | exact HB.out | apply below_alloc | apply pw_below_drewN | apply below_drew1 | refine below_set ?_ GE105.out | refine below_set ?_ GE106.out | refine below_set ?_ GE113.out | refine below_set ?_ GE115.out) | exact HB.out)⟩⟩
      ·rw [if_neg c27] at H
       exact absurd H (by simp)
     ·rw [if_neg c25] at H
      exact absurd H (by simp)
    ·rw [if_neg c24] at H
     exact absurd H (by simp)
   ·rw [if_neg c23] at H
    have c23b0 : decide (x20_1 < (l0_4.length : Int)) = false := decide_eq_false c23
    clear c23
    simp only [Option.some.injEq, Prod.mk.injEq] at H
    obtain ⟨rfl, rfl, rfl, rfl, rfl⟩ := H
    have hnb42 := NB113_105.out
    have hnc42 := NB105_113.out
    have hnb43 := NB113_106.out
    have hnc43 := NB106_113.out
    have hcz44_0 : wr.cell? ⟨gb113, 0, none⟩ = some (.int .u8 a0_0) := (blk_cell BK113.out 0).trans rfl
    have hcz44_1 : wr.cell? ⟨gb113, 1, none⟩ = some (.bool a0_1) := (blk_cell BK113.out 1).trans rfl
    have hcz44_2 : wr.cell? ⟨gb113, 2, none⟩ = some (.slice Ao14 t107.length co14) := (blk_cell BK113.out 2).trans rfl
    have hcz44_3 : wr.cell? ⟨gb113, 3, none⟩ = some (.slice Ao13 t110.length co13) := (blk_cell BK113.out 3).trans rfl
    have hcz44_4 : wr.cell? ⟨gb113, 4, none⟩ = some (u114004) := (blk_cell BK113.out 4).trans rfl
    have hfz44_0 := blk_frozen BK113.out 0
    have hfz44_1 := blk_frozen BK113.out 1
    have hfz44_2 := blk_frozen BK113.out 2
    have hfz44_3 := blk_frozen BK113.out 3
    have hfz44_4 := blk_frozen BK113.out 4
    have hnb45 := NB106_105.out
    have hnc45 := NB105_106.out
    have hcz46_0 : wr.cell? ⟨gb106, 0, none⟩ = some (.int .u8 0) := (blk_cell BK106.out 0).trans rfl
    have hcz46_1 : wr.cell? ⟨gb106, 1, none⟩ = some (.bool false) := (blk_cell BK106.out 1).trans rfl
    have hcz46_2 : wr.cell? ⟨gb106, 2, none⟩ = some (.slice none 0 0) := (blk_cell BK106.out 2).trans rfl
    have hcz46_3 : wr.cell? ⟨gb106, 3, none⟩ = some (.slice none 0 0) := (blk_cell BK106.out 3).trans rfl
    have hcz46_4 : wr.cell? ⟨gb106, 4, none⟩ = some (.slice none 0 0) := (blk_cell BK106.out 4).trans rfl
    have hfz46_0 := blk_frozen BK106.out 0
    have hfz46_1 := blk_frozen BK106.out 1
    have hfz46_2 := blk_frozen BK106.out 2
    have hfz46_3 := blk_frozen BK106.out 3
    have hfz46_4 := blk_frozen BK106.out 4
    obtain ⟨Ao47, co47, eo47⟩ := Kd.R_slice HO_114004.out
    subst eo47
    go_wp2
    refine bodyPost_ret (results_cell_row rfl _ _ gb106 26 #[.int .u8 a0_0, .bool a0_1, .slice Ao14 t107.length co14, .slice Ao13 t110.length co13, .slice Ao47 x114004_1.length co47] (0, 0) _ rfl (by (with_reducible repeat (first | refine blk_drewN ?_ _ | refine blk_drew ?_ | refine blk_alloc ?_ _)); refine blk_put (cs := #[.int .u8 a0_0, .bool a0_1, .slice Ao14 t107.length co14, .slice Ao13 t110.length co13, .slice none 0 0]) ?_ 4 _ rfl; (with_reducible repeat (first | refine blk_drewN ?_ _ | refine blk_drew ?_ | refine blk_alloc ?_ _)); refine blk_put (cs := #[.int .u8 a0_0, .bool a0_1, .slice Ao14 t107.length co14, .slice none 0 0, .slice none 0 0]) ?_ 3 _ rfl; (with_reducible repeat (first | refine blk_drewN ?_ _ | refine blk_drew ?_ | refine blk_alloc ?_ _)); refine blk_put (cs := #[.int .u8 a0_0, .bool a0_1, .slice none 0 0, .slice none 0 0, .slice none 0 0]) ?_ 2 _ rfl; (with_reducible repeat (first | refine blk_drewN ?_ _ | refine blk_drew ?_ | refine blk_alloc ?_ _)); refine blk_put (cs := #[.int .u8 a0_0, .bool false, .slice none 0 0, .slice none 0 0, .slice none 0 0]) ?_ 1 _ rfl; (with_reducible repeat (first | refine blk_drewN ?_ _ | refine blk_drew ?_ | refine blk_alloc ?_ _)); refine blk_put (cs := #[.int .u8 0, .bool false, .slice none 0 0, .slice none 0 0, .slice none 0 0]) ?_ 0 _ rfl; (with_reducible repeat (first | refine blk_drewN ?_ _ | refine blk_drew ?_ | refine blk_alloc ?_ _)); exact BK106.out) Tryd.underlying26 rfl (by kernel_rfl)) rfl ?_
    exact ⟨_, _, _, by first | rfl | (simp [errW_none, errW_some] <;> rfl) | (simp [*, errW_none, errW_some] <;> rfl), by (with_reducible repeat (first | apply Kd.R_alloc | apply Kd.R_drewN | apply Kd.R_drew)); exact Kd.R_mono (Kd.R_far (p := ⟨gb106, 4, none⟩) (Kd.R_far (p := ⟨gb106, 3, none⟩) (Kd.R_far (p := ⟨gb106, 2, none⟩) (Kd.R_far (p := ⟨gb106, 1, none⟩) (Kd.R_far (p := ⟨gb106, 0, none⟩) (Kd.R_types HO_114002.out BK106.out (by decide)) (fun _ hk => hk.2) (.int .u8 a0_0)) (fun _ hk => hk.2) (.bool a0_1)) (fun _ hk => hk.2) (.slice Ao14 t107.length co14)) (fun _ hk => hk.2) (.slice Ao13 t110.length co13)) (fun _ hk => hk.2) (.slice Ao47 x114004_1.length co47)) (fun _ hk => trivial), by (with_reducible repeat (first | apply Kd.R_alloc | apply Kd.R_drewN | apply Kd.R_drew)); exact Kd.R_mono (Kd.R_far (p := ⟨gb106, 4, none⟩) (Kd.R_far (p := ⟨gb106, 3, none⟩) (Kd.R_far (p := ⟨gb106, 2, none⟩) (Kd.R_far (p := ⟨gb106, 1, none⟩) (Kd.R_far (p := ⟨gb106, 0, none⟩) (Kd.R_types HO_114003.out BK106.out (by decide)) (fun _ hk => hk.2) (.int .u8 a0_0)) (fun _ hk => hk.2) (.bool a0_1)) (fun _ hk => hk.2) (.slice Ao14 t107.length co14)) (fun _ hk => hk.2) (.slice Ao13 t110.length co13)) (fun _ hk => hk.2) (.slice Ao47 x114004_1.length co47)) (fun _ hk => trivial), by (with_reducible repeat (first | apply Kd.R_alloc | apply Kd.R_drewN | apply Kd.R_drew)); exact Kd.R_mono (Kd.R_far (p := ⟨gb106, 4, none⟩) (Kd.R_far (p := ⟨gb106, 3, none⟩) (Kd.R_far (p := ⟨gb106, 2, none⟩) (Kd.R_far (p := ⟨gb106, 1, none⟩) (Kd.R_far (p := ⟨gb106, 0, none⟩) (Kd.R_mono HO_114004.out (fun k_ hk => (⟨hk, hk.2.2.2.1⟩ : _ ∧ k_ ≠ gb106))) (fun _ hk => hk.2) (.int .u8 a0_0)) (fun _ hk => hk.2) (.bool a0_1)) (fun _ hk => hk.2) (.slice Ao14 t107.length co14)) (fun _ hk => hk.2) (.slice Ao13 t110.length co13)) (fun _ hk => hk.2) (.slice Ao47 x114004_1.length co47)) (fun _ hk => ⟨hk.1.1, hk.1.2.1⟩), by repeat (first | (with_reducible first | exact HB.out | apply below_alloc | apply pw_below_drewN | apply below_drew1 | refine below_set ?_ GE105.out | refine below_set ?_ GE106.out | refine below_set ?_ GE113.out) | exact HB.out)⟩

end Go.Proofs.YtmhlmbmenoihnaaDoor.G
