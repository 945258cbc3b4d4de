-- PRINTED by print.py (a twelfth state) out of the translation. Not trusted: Lean checks it.
import Derived.Test.YtmhlmbmenoihnaaDoorG0
namespace Go.Proofs.YtmhlmbmenoihnaaDoor.G
open Go.RowKit Go.Proofs.YtmhlmbmenoihnaaDoorW.PrintWords Go.Proofs.YtmhlmbmenoihnaaDoorW.PrintLast Go.Proofs.YtmhlmbmenoihnaaDoorW.PrintMore
attribute [local go_sem] max2_int min2_int max_two min_two max_three min_three max_four min_four   -- for this text's walks alone
set_option linter.unusedVariables false
set_option linter.unusedSimpArgs false

/-! ### r03_Paths: function 24 -/
mutual
def r03_Paths.l0 : Nat → List ByteArray → Int → Int → Bool → List Int → List ByteArray → List (S26) → Option (List ByteArray)
 | 0, _, _, _, _, _, _, _ => none
 | k + 1, x3, x4, x380000, x380001, x380002, x380003, x380004 => if x4 < (x380004.length : Int) then (r03_Paths.j1 k x3 x4 (decide (x4 < (x380003.length : Int))) x380000 x380001 x380002 x380003 x380004) else (r03_Paths.j1 k x3 x4 false x380000 x380001 x380002 x380003 x380004)
def r03_Paths.j1 : Nat → List ByteArray → Int → Bool → Int → Bool → List Int → List ByteArray → List (S26) → Option (List ByteArray)
 | 0, _, _, _, _, _, _, _, _ => none
 | k + 1, x3, x4, x18, x380000, x380001, x380002, x380003, x380004 => if x18 = true then (if 0 ≤ x4 then (if x4 < (x380003.length : Int) then (if x3.length < 8796093022208 then (if x4 < (x380004.length : Int) then ((r03_Paths.f k ((rd_T26 x380004 x4).f0) ((rd_T26 x380004 x4).f1) ((rd_T26 x380004 x4).f2) ((rd_T26 x380004 x4).f3) ((rd_T26 x380004 x4).f4)).bind fun t385 => (r03_Paths.l1 k (x3 ++ [rdOf ByteArray.empty x380003 x4]) x4 t385 0 x380000 x380001 x380002 x380003 x380004)) else (none)) else (none)) else (none)) else (none)) else (some x3)
def r03_Paths.l1 : Nat → List ByteArray → Int → List ByteArray → Int → Int → Bool → List Int → List ByteArray → List (S26) → Option (List ByteArray)
 | 0, _, _, _, _, _, _, _, _, _ => none
 | k + 1, x3, x4, x5, x6, x380000, x380001, x380002, x380003, x380004 => if x6 < (x5.length : Int) then (if 0 ≤ x4 then (if x4 < (x380003.length : Int) then (if (rdOf ByteArray.empty x380003 x4).size + 1 ≤ 9223372036854775807 then (if 0 ≤ x6 then (if ((rdOf ByteArray.empty x380003 x4) ++ (⟨#[47]⟩ : ByteArray)).size + (rdOf ByteArray.empty x5 x6).size ≤ 9223372036854775807 then (if x3.length < 8796093022208 then (r03_Paths.l1 k (x3 ++ [((rdOf ByteArray.empty x380003 x4) ++ (⟨#[47]⟩ : ByteArray)) ++ (rdOf ByteArray.empty x5 x6)]) x4 x5 (wrap64 (x6 + 1)) x380000 x380001 x380002 x380003 x380004) else (none)) else (none)) else (none)) else (none)) else (none)) else (none)) else (r03_Paths.l0 k x3 (wrap64 (x4 + 1)) x380000 x380001 x380002 x380003 x380004)
def r03_Paths.f : Nat → Int → Bool → List Int → List ByteArray → List (S26) → Option (List ByteArray)
 | 0, _, _, _, _, _ => none
 | k + 1, a0_0, a0_1, l0_2, l0_3, l0_4 => r03_Paths.l0 k ([] : List ByteArray) 0 a0_0 a0_1 l0_2 l0_3 l0_4
end
theorem r03_Paths.mono_l : ∀ k, (∀ y0 y1 y2 y3 y4, LeO (r03_Paths.f k y0 y1 y2 y3 y4) (r03_Paths.f (k + 1) y0 y1 y2 y3 y4)) ∧ (∀ y0 y1 y2 y3 y4 y5 y6, LeO (r03_Paths.l0 k y0 y1 y2 y3 y4 y5 y6) (r03_Paths.l0 (k + 1) y0 y1 y2 y3 y4 y5 y6)) ∧ (∀ y0 y1 y2 y3 y4 y5 y6 y7, LeO (r03_Paths.j1 k y0 y1 y2 y3 y4 y5 y6 y7) (r03_Paths.j1 (k + 1) y0 y1 y2 y3 y4 y5 y6 y7)) ∧ (∀ y0 y1 y2 y3 y4 y5 y6 y7 y8, LeO (r03_Paths.l1 k y0 y1 y2 y3 y4 y5 y6 y7 y8) (r03_Paths.l1 (k + 1) y0 y1 y2 y3 y4 y5 y6 y7 y8))
 | 0 => ⟨fun _ _ _ _ _ r h => by simp [r03_Paths.f] at h, fun _ _ _ _ _ _ _ r h => by simp [r03_Paths.l0] at h, fun _ _ _ _ _ _ _ _ r h => by simp [r03_Paths.j1] at h, fun _ _ _ _ _ _ _ _ _ r h => by simp [r03_Paths.l1] at h⟩
 | k + 1 => by
  obtain ⟨ih0, ih1, ih2, ih3⟩ := r03_Paths.mono_l k
  refine ⟨?_, ?_, ?_, ?_⟩
  ·intro y0 y1 y2 y3 y4
   unfold r03_Paths.f
   repeat' first
   | (with_reducible exact ih0 _ _ _ _ _)
   | (with_reducible exact ih1 _ _ _ _ _ _ _)
   | (with_reducible exact ih2 _ _ _ _ _ _ _ _)
   | (with_reducible exact ih3 _ _ _ _ _ _ _ _ _)
   | (with_reducible exact LeO.refl _)
   | (with_reducible exact LeO.none _)
   | (with_reducible refine LeO.ite ?_ ?_)
   | (with_reducible refine LeO.bind ?_ (fun _ => ?_))
   | exact ih0 _ _ _ _ _
   | exact ih1 _ _ _ _ _ _ _
   | exact ih2 _ _ _ _ _ _ _ _
   | exact ih3 _ _ _ _ _ _ _ _ _
   | exact LeO.none _
   | refine LeO.ite ?_ ?_
   | refine LeO.bind ?_ (fun _ => ?_)
  ·intro y0 y1 y2 y3 y4 y5 y6
   unfold r03_Paths.l0
   repeat' first
   | (with_reducible exact ih0 _ _ _ _ _)
   | (with_reducible exact ih1 _ _ _ _ _ _ _)
   | (with_reducible exact ih2 _ _ _ _ _ _ _ _)
   | (with_reducible exact ih3 _ _ _ _ _ _ _ _ _)
   | (with_reducible exact LeO.refl _)
   | (with_reducible exact LeO.none _)
   | (with_reducible refine LeO.ite ?_ ?_)
   | (with_reducible refine LeO.bind ?_ (fun _ => ?_))
   | exact ih0 _ _ _ _ _
   | exact ih1 _ _ _ _ _ _ _
   | exact ih2 _ _ _ _ _ _ _ _
   | exact ih3 _ _ _ _ _ _ _ _ _
   | exact LeO.none _
   | refine LeO.ite ?_ ?_
   | refine LeO.bind ?_ (fun _ => ?_)
  ·intro y0 y1 y2 y3 y4 y5 y6 y7
   unfold r03_Paths.j1
   repeat' first
   | (with_reducible exact ih0 _ _ _ _ _)
   | (with_reducible exact ih1 _ _ _ _ _ _ _)
   | (with_reducible exact ih2 _ _ _ _ _ _ _ _)
   | (with_reducible exact ih3 _ _ _ _ _ _ _ _ _)
   | (with_reducible exact LeO.refl _)
   | (with_reducible exact LeO.none _)
   | (with_reducible refine LeO.ite ?_ ?_)
   | (with_reducible refine LeO.bind ?_ (fun _ => ?_))
   | exact ih0 _ _ _ _ _
   | exact ih1 _ _ _ _ _ _ _
   | exact ih2 _ _ _ _ _ _ _ _
   | exact ih3 _ _ _ _ _ _ _ _ _
   | exact LeO.none _
   | refine LeO.ite ?_ ?_
   | refine LeO.bind ?_ (fun _ => ?_)
  ·intro y0 y1 y2 y3 y4 y5 y6 y7 y8
   unfold r03_Paths.l1
   repeat' first
   | (with_reducible exact ih0 _ _ _ _ _)
   | (with_reducible exact ih1 _ _ _ _ _ _ _)
   | (with_reducible exact ih2 _ _ _ _ _ _ _ _)
   | (with_reducible exact ih3 _ _ _ _ _ _ _ _ _)
   | (with_reducible exact LeO.refl _)
   | (with_reducible exact LeO.none _)
   | (with_reducible refine LeO.ite ?_ ?_)
   | (with_reducible refine LeO.bind ?_ (fun _ => ?_))
   | exact ih0 _ _ _ _ _
   | exact ih1 _ _ _ _ _ _ _
   | exact ih2 _ _ _ _ _ _ _ _
   | exact ih3 _ _ _ _ _ _ _ _ _
   | exact LeO.none _
   | refine LeO.ite ?_ ?_
   | refine LeO.bind ?_ (fun _ => ?_)
theorem r03_Paths.mono : ∀ a0 a1 a2 a3 a4 k, LeO (r03_Paths.f k a0 a1 a2 a3 a4) (r03_Paths.f (k + 1) a0 a1 a2 a3 a4) := by
 intro a0 a1 a2 a3 a4 k
 obtain ⟨ih0, ih1, ih2, ih3⟩ := r03_Paths.mono_l k
 exact ih0 a0 a1 a2 a3 a4
def r03_Paths.T10 : Bool × List (List Nat × List Nat) := (true, [([], []), ([], []), ([1], [1]), ([], []), ([2, 3], [2, 3]), ([4], [4]), ([5], [5]), ([], []), ([], []), ([7, 8], [7, 8]), ([9], [9]), ([6, 10], [6, 10]), ([11], [11]), ([0, 12], [0, 12]), ([13, 13, 0, 1, 2, 3, 4, 5, 6, 7, 8, 9, 10, 11, 12, 13], [0, 13])])
def r03_Paths.B10 : List Nat := [0, 0, 2, 0, 14, 30, 62, 0, 0, 384, 896, 2046, 4094, 8191, 16383]
theorem r03_Paths.tab10 : rtab .any (opsOf Tryd.f24 10) = r03_Paths.T10 := by kernel_rfl
theorem r03_Paths.bits10 : waitsOk r03_Paths.T10.2 r03_Paths.B10 = true := by kernel_rfl
set_option maxHeartbeats 8000000 in
set_option maxRecDepth 100000 in
theorem r03_Paths.calls (k : Nat) : ∀ (a0_0 : Int) (a0_1 : Bool) (A0_2 : Option Addr) (c0_2 : Nat) (l0_2 : List Int) (A0_3 : Option Addr) (c0_3 : Nat) (l0_3 : List ByteArray) (A0_4 : Option Addr) (c0_4 : Nat) (l0_4 : List (S26)) (r : List ByteArray) (w : World) (hr0_2 : Kd.C (Kd.int .u8) w A0_2 l0_2.length l0_2) (hc0_2 : l0_2.length ≤ c0_2) (hr0_3 : Kd.C Kd.string w A0_3 l0_3.length l0_3) (hc0_3 : l0_3.length ≤ c0_3) (hr0_4 : Kd.C k26 w A0_4 l0_4.length l0_4) (hc0_4 : l0_4.length ≤ c0_4) (h : r03_Paths.f k a0_0 a0_1 l0_2 l0_3 l0_4 = some r),
  Calls Tryd.prog 24 #[.agg #[.int .u8 a0_0, .bool a0_1, .slice A0_2 l0_2.length c0_2, .slice A0_3 l0_3.length c0_3, .slice A0_4 l0_4.length c0_4]] w fun e w' => ∃ v0_ : Value, e = .returned (v0_) ∧ Kd.R Kd.string 9 w' w.heap.size (fun _ => True) v0_ r ∧ Below w.heap.size w w' := by
 induction k using Nat.strongRecOn with
 | _ k ih =>
 intro a0_0 a0_1 A0_2 c0_2 l0_2 A0_3 c0_3 l0_3 A0_4 c0_4 l0_4 r w hr0_2 hc0_2 hr0_3 hc0_3 hr0_4 hc0_4 h
 cases k with
 | zero => exact absurd h (by simp [r03_Paths.f])
 | succ k =>
 simp only [r03_Paths.f] at h
 have hu26 := Tryd.underlying26
 have HR0_2 := Aside0.mk hr0_2
 have HC0_2 := Aside0.mk hc0_2
 clear hr0_2 hc0_2
 have HR0_3 := Aside0.mk hr0_3
 have HC0_3 := Aside0.mk hc0_3
 clear hr0_3 hc0_3
 have HR0_4 := Aside0.mk hr0_4
 have HC0_4 := Aside0.mk hc0_4
 clear hr0_4 hc0_4
 have HB := Aside0.mk (Below.refl w.heap.size w)
 have H : (r03_Paths.l0 k ([] : List ByteArray) 0 a0_0 a0_1 l0_2 l0_3 l0_4) = some r := h
 clear h
 have H' := Aside0.mk H
 clear H
 go_enter Tryd.func24, Tryd.ntmps24
 go_wp2_with (first | ((with_reducible refine gate_dst (N := 1) rfl ?_); (try (refine gate_guard (by rfl) ?_; dsimp only)); refine box_event ?hg (N := 1) ?hd (cs := #[.int .u8 a0_0, .bool a0_1, .slice A0_2 l0_2.length c0_2, .slice A0_3 l0_3.length c0_3, .slice A0_4 l0_4.length c0_4]) (t := 26) ?hr ?_; (case hd => rfl); (case hg => rfl); (case hr => first | (go_simp; done) | (go_simp; rfl)); intro gb379 hg w2 hbox hb; have n0_ := Aside0.mk (below_step (by repeat (first | (with_reducible first | exact HB.out | apply below_alloc | apply pw_below_drewN | apply below_drew1) | exact HB.out)) hb); have n1_ := Aside0.mk (hbox); have n2_ := Aside0.mk ((by rw [hg]; exact (below_size (by repeat (first | (with_reducible first | exact HB.out | apply below_alloc | apply pw_below_drewN | apply below_drew1) | exact HB.out))) : w.heap.size ≤ gb379)); have n3_ := Aside0.mk ((by rw [hg]; exact (below_size (by repeat (first | (with_reducible first | exact HB.out | apply below_alloc | apply pw_below_drewN | apply below_drew1) | exact HB.out))) : w.heap.size ≤ gb379)); clear HB; have HB := n0_; have BK379 := n1_; have GW379 := n2_; have GE379 := n3_; clear n0_ n1_ n2_ n3_; clear hb hbox hg))
 go_loopg [3, 4] k (fun kq v3 v4 w' => ∃ (x3_1 : List ByteArray) (x4_1 : Int), v4 = .int .i64 x4_1 ∧ Aside0 (r03_Paths.l0 kq x3_1 x4_1 a0_0 a0_1 l0_2 l0_3 l0_4 = some r) ∧ Aside0 (kq ≤ k) ∧ Aside0 (Kd.R Kd.string 9 w' w.heap.size (fun _ => True) v3 x3_1) ∧ Aside0 (w'.heap[gb379]? = some (.cells #[.int .u8 a0_0, .bool a0_1, (.slice A0_2 l0_2.length c0_2), (.slice A0_3 l0_3.length c0_3), (.slice A0_4 l0_4.length c0_4)] 26 (0, 0))) ∧ Aside0 (Below w.heap.size w w'))
 case atStart => exact ⟨(([] : List ByteArray)), (0), (by first | rfl | (simp; done) | (simp [*]; done)), H', ⟨Nat.le_refl _⟩, ⟨by first | exact Kd.R_nil _ _ _ _ _ | exact Kd.N_nil _ _ _ _ _ | exact Kd.V_nil _ _ _ _ _ | exact Kd.Q_nil _ _ _ _ _ | exact Kd.S_nil _ _ _ _ _⟩, ⟨by (with_reducible repeat (first | refine blk_drewN ?_ _ | refine blk_drew ?_ | refine blk_alloc ?_ _)); exact BK379.out⟩, ⟨by repeat (first | (with_reducible first | exact HB.out | apply below_alloc | apply pw_below_drewN | apply below_drew1 | refine below_set ?_ GE379.out) | exact HB.out)⟩⟩
 case round =>
  clear H'
  try clear c2
  try clear p2
  obtain ⟨x3_1, x4_1, rfl, HA, HK1, HO_3, BK379, HB⟩ := hrel
  cases gk with
  | zero => exact absurd HA.out (by simp [r03_Paths.l0])
  | succ k1 =>
   have H := HA.out
   clear HA
   simp only [r03_Paths.l0] at H
   have HC3 := Aside0.mk H
   clear H
   go_upto_region 3 with (fail)
   go_cut [18] (fun v18 wc => ∃ (kq : Nat) (x18_2 : Bool), v18 = .bool x18_2 ∧ Aside0 (r03_Paths.j1 kq x3_1 x4_1 x18_2 a0_0 a0_1 l0_2 l0_3 l0_4 = some r) ∧ Aside0 (kq ≤ k1) ∧ Aside0 (Kd.R Kd.string 9 wc w.heap.size (fun _ => True) u3 x3_1) ∧ Aside0 (wc.heap[gb379]? = some (.cells #[.int .u8 a0_0, .bool a0_1, (.slice A0_2 l0_2.length c0_2), (.slice A0_3 l0_3.length c0_3), (.slice A0_4 l0_4.length c0_4)] 26 (0, 0))) ∧ Aside0 (Below w.heap.size w wc))
   case first =>
    have H := HC3.out
    clear HC3
    by_cases c4 : x4_1 < (l0_4.length : Int)
    ·rw [if_pos c4] at H
     have c4b0 : decide (x4_1 < (l0_4.length : Int)) = true := decide_eq_true c4
     clear c4
     (first | rw [c4b0] | (simp only [i64_w, i32_w]; rw [c4b0]) | skip)
     have H' := Aside0.mk H
     clear H
     have hcz5_0 : wr.cell? ⟨gb379, 0, none⟩ = some (.int .u8 a0_0) := (blk_cell BK379.out 0).trans rfl
     have hcz5_1 : wr.cell? ⟨gb379, 1, none⟩ = some (.bool a0_1) := (blk_cell BK379.out 1).trans rfl
     have hcz5_2 : wr.cell? ⟨gb379, 2, none⟩ = some (.slice A0_2 l0_2.length c0_2) := (blk_cell BK379.out 2).trans rfl
     have hcz5_3 : wr.cell? ⟨gb379, 3, none⟩ = some (.slice A0_3 l0_3.length c0_3) := (blk_cell BK379.out 3).trans rfl
     have hcz5_4 : wr.cell? ⟨gb379, 4, none⟩ = some (.slice A0_4 l0_4.length c0_4) := (blk_cell BK379.out 4).trans rfl
     have hfz5_0 := blk_frozen BK379.out 0
     have hfz5_1 := blk_frozen BK379.out 1
     have hfz5_2 := blk_frozen BK379.out 2
     have hfz5_3 := blk_frozen BK379.out 3
     have hfz5_4 := blk_frozen BK379.out 4
     go_wp2
     go_meet
     case rel => exact ⟨_, (decide (x4_1 < (l0_3.length : Int))), (by first | rfl | (simp; done) | (simp [*]; done)), H', ⟨by have := HK1.out; first | omega | exact Nat.le_refl _⟩, ⟨by (with_reducible repeat (first | apply Kd.R_alloc | apply Kd.R_drewN | apply Kd.R_drew)); exact HO_3.out⟩, ⟨by (with_reducible repeat (first | refine blk_drewN ?_ _ | refine blk_drew ?_ | refine blk_alloc ?_ _)); exact BK379.out⟩, ⟨by repeat (first | (with_reducible first | exact HB.out | apply below_alloc | apply pw_below_drewN | apply below_drew1 | refine below_set ?_ GE379.out) | exact HB.out)⟩⟩
    ·rw [if_neg c4] at H
     have c4b0 : decide (x4_1 < (l0_4.length : Int)) = false := decide_eq_false c4
     clear c4
     (first | rw [c4b0] | (simp only [i64_w, i32_w]; rw [c4b0]) | skip)
     have H' := Aside0.mk H
     clear H
     have hcz6_0 : wr.cell? ⟨gb379, 0, none⟩ = some (.int .u8 a0_0) := (blk_cell BK379.out 0).trans rfl
     have hcz6_1 : wr.cell? ⟨gb379, 1, none⟩ = some (.bool a0_1) := (blk_cell BK379.out 1).trans rfl
     have hcz6_2 : wr.cell? ⟨gb379, 2, none⟩ = some (.slice A0_2 l0_2.length c0_2) := (blk_cell BK379.out 2).trans rfl
     have hcz6_3 : wr.cell? ⟨gb379, 3, none⟩ = some (.slice A0_3 l0_3.length c0_3) := (blk_cell BK379.out 3).trans rfl
     have hcz6_4 : wr.cell? ⟨gb379, 4, none⟩ = some (.slice A0_4 l0_4.length c0_4) := (blk_cell BK379.out 4).trans rfl
     have hfz6_0 := blk_frozen BK379.out 0
     have hfz6_1 := blk_frozen BK379.out 1
     have hfz6_2 := blk_frozen BK379.out 2
     have hfz6_3 := blk_frozen BK379.out 3
     have hfz6_4 := blk_frozen BK379.out 4
     go_wp2
     go_meet
     case rel => exact ⟨_, (false), (by first | rfl | (simp; done) | (simp [*]; done)), H', ⟨by have := HK1.out; first | omega | exact Nat.le_refl _⟩, ⟨by (with_reducible repeat (first | apply Kd.R_alloc | apply Kd.R_drewN | apply Kd.R_drew)); exact HO_3.out⟩, ⟨by (with_reducible repeat (first | refine blk_drewN ?_ _ | refine blk_drew ?_ | refine blk_alloc ?_ _)); exact BK379.out⟩, ⟨by repeat (first | (with_reducible first | exact HB.out | apply below_alloc | apply pw_below_drewN | apply below_drew1 | refine below_set ?_ GE379.out) | exact HB.out)⟩⟩
   case rest =>
    clear HC3
    try clear c2
    try clear p2
    try clear c4
    try clear c4b0
    try clear hcz5_0
    try clear hcz5_1
    try clear hcz5_2
    try clear hcz5_3
    try clear hcz5_4
    try clear hcz6_0
    try clear hcz6_1
    try clear hcz6_2
    try clear hcz6_3
    try clear hcz6_4
    try clear hfz5_0
    try clear hfz5_1
    try clear hfz5_2
    try clear hfz5_3
    try clear hfz5_4
    try clear hfz6_0
    try clear hfz6_1
    try clear hfz6_2
    try clear hfz6_3
    try clear hfz6_4
    try clear p2
    obtain ⟨kq, x18_2, rfl, HA, HJ2, HO_3, BK379, HB⟩ := hcut
    cases kq with
    | zero => exact absurd HA.out (by simp [r03_Paths.j1])
    | succ kj2 =>
     have H := HA.out
     clear HA
     simp only [r03_Paths.j1] at H
     by_cases c7 : x18_2 = true
     ·subst c7
      have H1 : (if 0 ≤ x4_1 then (if x4_1 < (l0_3.length : Int) then (if x3_1.length < 8796093022208 then (if x4_1 < (l0_4.length : Int) then ((r03_Paths.f kj2 ((rd_T26 l0_4 x4_1).f0) ((rd_T26 l0_4 x4_1).f1) ((rd_T26 l0_4 x4_1).f2) ((rd_T26 l0_4 x4_1).f3) ((rd_T26 l0_4 x4_1).f4)).bind fun t385 => (r03_Paths.l1 kj2 (x3_1 ++ [rdOf ByteArray.empty l0_3 x4_1]) x4_1 t385 0 a0_0 a0_1 l0_2 l0_3 l0_4)) else (none)) else (none)) else (none)) else (none)) = some r := by rw [if_pos rfl] at H; exact H
      clear H
      have H := H1
      clear H1
      by_cases c8 : 0 ≤ x4_1
      ·rw [if_pos c8] at H
       have c8b0 : decide (0 ≤ x4_1) = true := decide_eq_true c8
       clear c8
       by_cases c9 : x4_1 < (l0_3.length : Int)
       ·rw [if_pos c9] at H
        have c9b0 : decide (x4_1 < (l0_3.length : Int)) = true := decide_eq_true c9
        clear c9
        by_cases c10 : x3_1.length < 8796093022208
        ·rw [if_pos c10] at H
         have LMc10 := Aside0.mk c10
         clear c10
         obtain ⟨y381, hy381⟩ : ∃ y_ : List ByteArray, y_ = (x3_1 ++ [rdOf ByteArray.empty l0_3 x4_1]) := ⟨_, rfl⟩
         replace H : (if x4_1 < (l0_4.length : Int) then ((r03_Paths.f kj2 ((rd_T26 l0_4 x4_1).f0) ((rd_T26 l0_4 x4_1).f1) ((rd_T26 l0_4 x4_1).f2) ((rd_T26 l0_4 x4_1).f3) ((rd_T26 l0_4 x4_1).f4)).bind fun t385 => (r03_Paths.l1 kj2 y381 x4_1 t385 0 a0_0 a0_1 l0_2 l0_3 l0_4)) else (none)) = some r := by first | (rw [hy381]; with_reducible exact H) | (have H2_ := (Option.bind_some _ _).symm.trans H; rw [hy381]; with_reducible exact H2_) | (have H2_ := (Option.bind_some _ _).symm.trans H; with_reducible exact H2_) | with_reducible exact H | (rw [hy381]; exact H) | exact H
         have Ny381 := Aside0.mk hy381
         clear hy381
         by_cases c11 : x4_1 < (l0_4.length : Int)
         ·rw [if_pos c11] at H
          have c11b0 : decide (x4_1 < (l0_4.length : Int)) = true := decide_eq_true c11
          clear c11
          replace H := Option.bind_eq_some_iff.mp H
          obtain ⟨t385, A120, H⟩ := H
          replace H : (r03_Paths.l1 kj2 y381 x4_1 t385 0 a0_0 a0_1 l0_2 l0_3 l0_4) = some r := H
          have A12 := Aside0.mk A120
          clear A120
          have H' := Aside0.mk H
          clear H
          have hcz13_0 : wc.cell? ⟨gb379, 0, none⟩ = some (.int .u8 a0_0) := (blk_cell BK379.out 0).trans rfl
          have hcz13_1 : wc.cell? ⟨gb379, 1, none⟩ = some (.bool a0_1) := (blk_cell BK379.out 1).trans rfl
          have hcz13_2 : wc.cell? ⟨gb379, 2, none⟩ = some (.slice A0_2 l0_2.length c0_2) := (blk_cell BK379.out 2).trans rfl
          have hcz13_3 : wc.cell? ⟨gb379, 3, none⟩ = some (.slice A0_3 l0_3.length c0_3) := (blk_cell BK379.out 3).trans rfl
          have hcz13_4 : wc.cell? ⟨gb379, 4, none⟩ = some (.slice A0_4 l0_4.length c0_4) := (blk_cell BK379.out 4).trans rfl
          have hfz13_0 := blk_frozen BK379.out 0
          have hfz13_1 := blk_frozen BK379.out 1
          have hfz13_2 := blk_frozen BK379.out 2
          have hfz13_3 := blk_frozen BK379.out 3
          have hfz13_4 := blk_frozen BK379.out 4
          have p380 : 0 ≤ (x4_1 : Int) := of_decide_eq_true (by first | (with_reducible assumption) | assumption)
          have q380 : x4_1 < (l0_3.length : Int) := of_decide_eq_true (by first | (with_reducible assumption) | assumption)
          obtain ⟨ad380, e380, hx380_0⟩ := Kd.at_string HR0_3.out x4_1 p380 q380
          cases e380
          replace hx380_0 := (HB.out.cell (World.block_lt_of_cell? w _ hx380_0)).trans hx380_0
          replace p380 := eq_true p380
          replace q380 := eq_true q380
          go_wp2_with (first | ((with_reducible refine gate_builtin (b := .append) (xs := #[.tmp 21, .tmp 27]) rfl ?_); (try (refine gate_guard (by rfl) ?_; dsimp only)); at_builtin; refine Kd.R_append Kd.string (w0 := w) w.heap.size rfl (.tmp 21) (.tmp 27) 23 9 (.string ⟨#[]⟩) 16 rfl Tryd.underlying23 info9 rfl (by decide) (by omega) u3 x3_1 (rdOf ByteArray.empty l0_3 x4_1) [.string (rdOf ByteArray.empty l0_3 x4_1)] (fun _ => True) (fun _ => False) rfl rfl ?aP (fun _ hk => hk.elim) ?aF ?aO ?aB ?aS ?aL ?_; (case aP => exact rfl); (case aB => exact (by repeat (first | (with_reducible first | exact HB.out | apply below_alloc | apply pw_below_drewN | apply below_drew1 | refine below_set ?_ GE379.out) | exact HB.out))); (case aF => exact (fun _ _ => trivial)); (case aO => exact (by (with_reducible repeat (first | apply Kd.R_alloc | apply Kd.R_drewN | apply Kd.R_drew)); exact HO_3.out)); (case aS => exact (below_size (by repeat (first | (with_reducible first | exact HB.out | apply below_alloc | apply pw_below_drewN | apply below_drew1 | refine below_set ?_ GE379.out) | exact HB.out)))); (case aL => have := LMc10.out; omega); intro v382 w14 ho hb hg hat; rw [← Ny381.out] at ho; have n0_ := Aside0.mk (blk_grown (g := gb379) (o := .cells #[.int .u8 a0_0, .bool a0_1, .slice A0_2 l0_2.length c0_2, .slice (some ad380) l0_3.length c0_3, .slice A0_4 l0_4.length c0_4] 26 (0, 0)) (by (with_reducible repeat (first | refine blk_drewN ?_ _ | refine blk_drew ?_ | refine blk_alloc ?_ _)); exact BK379.out) hg (Kd.R_ne HO_3.out BK379.out (by decide))); have n1_ := Aside0.mk (hb); have n2_ := Aside0.mk (ho); clear BK379; clear HB; clear HO_3; have BK379 := n0_; have HB := n1_; have HO383 := n2_; clear n0_ n1_ n2_; clear ho hb hg hat; have hcz15_0 : w14.cell? ⟨gb379, 0, none⟩ = some (.int .u8 a0_0) := (blk_cell BK379.out 0).trans rfl; have hcz15_1 : w14.cell? ⟨gb379, 1, none⟩ = some (.bool a0_1) := (blk_cell BK379.out 1).trans rfl; have hcz15_2 : w14.cell? ⟨gb379, 2, none⟩ = some (.slice A0_2 l0_2.length c0_2) := (blk_cell BK379.out 2).trans rfl; have hcz15_3 : w14.cell? ⟨gb379, 3, none⟩ = some (.slice (some ad380) l0_3.length c0_3) := (blk_cell BK379.out 3).trans rfl; have hcz15_4 : w14.cell? ⟨gb379, 4, none⟩ = some (.slice A0_4 l0_4.length c0_4) := (blk_cell BK379.out 4).trans rfl; have hfz15_0 := blk_frozen BK379.out 0; have hfz15_1 := blk_frozen BK379.out 1; have hfz15_2 := blk_frozen BK379.out 2; have hfz15_3 := blk_frozen BK379.out 3; have hfz15_4 := blk_frozen BK379.out 4; have p384 : 0 ≤ (x4_1 : Int) := of_decide_eq_true (by first | (with_reducible assumption) | assumption); have q384 : x4_1 < (l0_4.length : Int) := of_decide_eq_true (by first | (with_reducible assumption) | assumption); obtain ⟨ad384, A384_2, c384_2, A384_3, c384_3, A384_4, c384_4, e384, hx384_0, hx384_1, hx384_2, hx384_3, hx384_4, hl384_2, hi384_2, hl384_3, hi384_3, hl384_4, hi384_4⟩ := at_T26 HR0_4.out x4_1 p384 q384; cases e384; replace hx384_0 := (HB.out.cell (World.block_lt_of_cell? w _ hx384_0)).trans hx384_0; replace hx384_1 := (HB.out.cell (World.block_lt_of_cell? w _ hx384_1)).trans hx384_1; replace hx384_2 := (HB.out.cell (World.block_lt_of_cell? w _ hx384_2)).trans hx384_2; replace hx384_3 := (HB.out.cell (World.block_lt_of_cell? w _ hx384_3)).trans hx384_3; replace hx384_4 := (HB.out.cell (World.block_lt_of_cell? w _ hx384_4)).trans hx384_4; have HR384_2 := Aside0.mk hi384_2; have HC384_2 := Aside0.mk hl384_2; clear hi384_2 hl384_2; have HR384_3 := Aside0.mk hi384_3; have HC384_3 := Aside0.mk hl384_3; clear hi384_3 hl384_3; have HR384_4 := Aside0.mk hi384_4; have HC384_4 := Aside0.mk hl384_4; clear hi384_4 hl384_4; replace p384 := eq_true p384; replace q384 := eq_true q384) | ((with_reducible refine gate_callee (f := 24) rfl ?_); refine goesL_ (some 34) rfl rfl Tryd.func24 (by kernel_rfl) rfl #[.agg #[.int .u8 ((rd_T26 l0_4 x4_1).f0), .bool ((rd_T26 l0_4 x4_1).f1), .slice A384_2 ((rd_T26 l0_4 x4_1).f2).length c384_2, .slice A384_3 ((rd_T26 l0_4 x4_1).f3).length c384_3, .slice A384_4 ((rd_T26 l0_4 x4_1).f4).length c384_4]] rfl (by (try simp only [List.map_toArray, List.map_cons, List.map_nil]); first | done | rfl | (simp only [List.length_drop, List.length_take]; rfl)) ?_; (with_reducible refine (ih kj2 (by have := HK1.out; have := HJ2.out; omega) ((rd_T26 l0_4 x4_1).f0) ((rd_T26 l0_4 x4_1).f1) _ _ ((rd_T26 l0_4 x4_1).f2) _ _ ((rd_T26 l0_4 x4_1).f3) _ _ ((rd_T26 l0_4 x4_1).f4) t385 _ ?side1 ?side2 ?side3 ?side4 ?side5 ?side6 A12.out).mono ?_); (case side1 => repeat (first | exact (Kd.C_below HR384_2.out HB.out) | (with_reducible refine Kd.C_alloc ?_ _) | (with_reducible refine Kd.C_drewN ?_ _) | (with_reducible refine Kd.C_drew ?_))); (case side2 => exact HC384_2.out); (case side3 => repeat (first | exact (Kd.C_below HR384_3.out HB.out) | (with_reducible refine Kd.C_alloc ?_ _) | (with_reducible refine Kd.C_drewN ?_ _) | (with_reducible refine Kd.C_drew ?_))); (case side4 => exact HC384_3.out); (case side5 => repeat (first | exact (Kd.C_below HR384_4.out HB.out) | (with_reducible refine Kd.C_alloc ?_ _) | (with_reducible refine Kd.C_drewN ?_ _) | (with_reducible refine Kd.C_drew ?_))); (case side6 => exact HC384_4.out); rintro e w16 ⟨v386, rfl, ho0, hb⟩; refine ⟨_, rfl, ?_⟩; have n0_ := Aside0.mk (Kd.R_elder' (by (with_reducible repeat (first | apply Kd.R_alloc | apply Kd.R_drewN | apply Kd.R_drew)); exact HO383.out) (Kd.R_base ho0) hb); have n1_ := Aside0.mk (Kd.R_lower (Kd.R_new' ho0 (Kd.R_lt (by (with_reducible repeat (first | apply Kd.R_alloc | apply Kd.R_drewN | apply Kd.R_drew)); exact HO383.out))) (below_size (by repeat (first | (with_reducible first | exact HB.out | apply below_alloc | apply pw_below_drewN | apply below_drew1 | refine below_set ?_ GE379.out) | exact HB.out)))); have n2_ := Aside0.mk (blk_below (g := gb379) (o := .cells #[.int .u8 a0_0, .bool a0_1, .slice A0_2 l0_2.length c0_2, .slice (some ad380) l0_3.length c0_3, .slice (some ad384) l0_4.length c0_4] 26 (0, 0)) (by (with_reducible repeat (first | refine blk_drewN ?_ _ | refine blk_drew ?_ | refine blk_alloc ?_ _)); exact BK379.out) hb); have n3_ := Aside0.mk (below_step (by repeat (first | (with_reducible first | exact HB.out | apply below_alloc | apply pw_below_drewN | apply below_drew1 | refine below_set ?_ GE379.out) | exact HB.out)) hb); clear HO383; clear BK379; clear HB; have HO383 := n0_; have HO387 := n1_; have BK379 := n2_; have HB := n3_; clear n0_ n1_ n2_ n3_; (try clear hb); (try clear hb2); (try clear hk); (try clear hi); (try clear ho0)))
          go_loopg [3, 6] kj2 (fun kq v3 v6 w' => ∃ (x3_3 : List ByteArray) (x6_3 : Int), v6 = .int .i64 x6_3 ∧ Aside0 (r03_Paths.l1 kq x3_3 x4_1 t385 x6_3 a0_0 a0_1 l0_2 l0_3 l0_4 = some r) ∧ Aside0 (kq ≤ kj2) ∧ Aside0 (Kd.R Kd.string 9 w' w.heap.size (fun k_ => some k_ ≠ (v386 : Value).ownBlock) v3 x3_3) ∧ Aside0 (Kd.R Kd.string 9 w' w.heap.size (fun k_ => some k_ ≠ (v3 : Value).ownBlock) v386 t385) ∧ Aside0 (w'.heap[gb379]? = some (.cells #[.int .u8 a0_0, .bool a0_1, (.slice A0_2 l0_2.length c0_2), (.slice (some ad380) l0_3.length c0_3), (.slice (some ad384) l0_4.length c0_4)] 26 (0, 0))) ∧ Aside0 (Below w.heap.size w w'))
          case atStart => exact ⟨(y381), (0), (by first | rfl | (simp; done) | (simp [*]; done)), H', ⟨Nat.le_refl _⟩, ⟨by (with_reducible repeat (first | apply Kd.R_alloc | apply Kd.R_drewN | apply Kd.R_drew)); exact Kd.R_mono HO383.out (fun _ hk => hk.2)⟩, ⟨by (with_reducible repeat (first | apply Kd.R_alloc | apply Kd.R_drewN | apply Kd.R_drew)); exact Kd.R_mono HO387.out (fun _ hk => hk.2)⟩, ⟨by (with_reducible repeat (first | refine blk_drewN ?_ _ | refine blk_drew ?_ | refine blk_alloc ?_ _)); exact BK379.out⟩, ⟨by repeat (first | (with_reducible first | exact HB.out | apply below_alloc | apply pw_below_drewN | apply below_drew1 | refine below_set ?_ GE379.out) | exact HB.out)⟩⟩
          case round =>
           clear H'
           try clear c1
           try clear c2
           try clear p2
           try clear c3
           try clear p3
           try clear q3
           try clear hx3
           try clear c4
           try clear c4b0
           try clear c7
           try clear c8
           try clear c8b0
           try clear c9
           try clear c9b0
           try clear c10
           try clear c11
           try clear c11b0
           try clear hcz13_0
           try clear hcz13_1
           try clear hcz13_2
           try clear hcz13_3
           try clear hcz13_4
           try clear hcz15_0
           try clear hcz15_1
           try clear hcz15_2
           try clear hcz15_3
           try clear hcz15_4
           try clear hcz5_0
           try clear hcz5_1
           try clear hcz5_2
           try clear hcz5_3
           try clear hcz5_4
           try clear hcz6_0
           try clear hcz6_1
           try clear hcz6_2
           try clear hcz6_3
           try clear hcz6_4
           try clear hfz13_0
           try clear hfz13_1
           try clear hfz13_2
           try clear hfz13_3
           try clear hfz13_4
           try clear hfz15_0
           try clear hfz15_1
           try clear hfz15_2
           try clear hfz15_3
           try clear hfz15_4
           try clear hfz5_0
           try clear hfz5_1
           try clear hfz5_2
           try clear hfz5_3
           try clear hfz5_4
           try clear hfz6_0
           try clear hfz6_1
           try clear hfz6_2
           try clear hfz6_3
           try clear hfz6_4
           try clear hx380_0
           try clear hx384_0
           try clear hx384_1
           try clear hx384_2
           try clear hx384_3
           try clear hx384_4
           try clear p2
           try clear p380
           try clear p384
           try clear q380
           try clear q384
           obtain ⟨x3_3, x6_3, rfl, HA, HK3, HO_3, HO_5, BK379, HB⟩ := hrel
           cases gk with
           | zero => exact absurd HA.out (by simp [r03_Paths.l1])
           | succ k3 =>
            have H := HA.out
            clear HA
            simp only [r03_Paths.l1] at H
            by_cases c17 : x6_3 < (t385.length : Int)
            ·rw [if_pos c17] at H
             have c17b0 : decide (x6_3 < (t385.length : Int)) = true := decide_eq_true c17
             clear c17
             by_cases c18 : 0 ≤ x4_1
             ·rw [if_pos c18] at H
              have c18b0 : decide (0 ≤ x4_1) = true := decide_eq_true c18
              clear c18
              by_cases c19 : x4_1 < (l0_3.length : Int)
              ·rw [if_pos c19] at H
               have c19b0 : decide (x4_1 < (l0_3.length : Int)) = true := decide_eq_true c19
               clear c19
               by_cases c20 : (rdOf ByteArray.empty l0_3 x4_1).size + 1 ≤ 9223372036854775807
               ·rw [if_pos c20] at H
                have c20b0 := eq_true c20
                have c20b1 : decide ((rdOf ByteArray.empty l0_3 x4_1).size + 1 ≤ 9223372036854775807) = true := decide_eq_true c20
                try have c20b2 : (9223372036854775807 < (rdOf ByteArray.empty l0_3 x4_1).size + 1) = False := eq_false (Nat.not_lt.2 c20)
                by_cases c21 : 0 ≤ x6_3
                ·rw [if_pos c21] at H
                 have c21b0 : decide (0 ≤ x6_3) = true := decide_eq_true c21
                 clear c21
                 by_cases c22 : ((rdOf ByteArray.empty l0_3 x4_1) ++ (⟨#[47]⟩ : ByteArray)).size + (rdOf ByteArray.empty t385 x6_3).size ≤ 9223372036854775807
                 ·rw [if_pos c22] at H
                  have c22b0 := eq_true c22
                  have c22b1 : decide (((rdOf ByteArray.empty l0_3 x4_1) ++ (⟨#[47]⟩ : ByteArray)).size + (rdOf ByteArray.empty t385 x6_3).size ≤ 9223372036854775807) = true := decide_eq_true c22
                  try have c22b2 : (9223372036854775807 < ((rdOf ByteArray.empty l0_3 x4_1) ++ (⟨#[47]⟩ : ByteArray)).size + (rdOf ByteArray.empty t385 x6_3).size) = False := eq_false (Nat.not_lt.2 c22)
                  try have c22b3 : (9223372036854775807 < ((rdOf ByteArray.empty l0_3 x4_1)).size + 1 + (rdOf ByteArray.empty t385 x6_3).size) = False := by rw [show ((rdOf ByteArray.empty l0_3 x4_1)).size + 1 = ((rdOf ByteArray.empty l0_3 x4_1) ++ (⟨#[47]⟩ : ByteArray)).size from by rw [ByteArray.size_append]; rfl]; exact c22b2
                  by_cases c23 : x3_3.length < 8796093022208
                  ·rw [if_pos c23] at H
                   have LMc23 := Aside0.mk c23
                   clear c23
                   obtain ⟨y390, hy390⟩ : ∃ y_ : List ByteArray, y_ = (x3_3 ++ [((rdOf ByteArray.empty l0_3 x4_1) ++ (⟨#[47]⟩ : ByteArray)) ++ (rdOf ByteArray.empty t385 x6_3)]) := ⟨_, rfl⟩
                   replace H : (r03_Paths.l1 k3 y390 x4_1 t385 (wrap64 (x6_3 + 1)) a0_0 a0_1 l0_2 l0_3 l0_4) = some r := by first | (rw [hy390]; with_reducible exact H) | (have H2_ := (Option.bind_some _ _).symm.trans H; rw [hy390]; with_reducible exact H2_) | (have H2_ := (Option.bind_some _ _).symm.trans H; with_reducible exact H2_) | with_reducible exact H | (rw [hy390]; exact H) | exact H
                   have Ny390 := Aside0.mk hy390
                   clear hy390
                   have H' := Aside0.mk H
                   clear H
                   obtain ⟨Ao24, co24, eo24⟩ := Kd.R_slice HO_5.out
                   subst eo24
                   try go_wp2
                   have n0_ := Aside0.mk (Kd.R_drew HO_3.out)
                   have n1_ := Aside0.mk (Kd.R_drew HO_5.out)
                   have n2_ := Aside0.mk (blk_drew BK379.out)
                   have n3_ := Aside0.mk (below_drew1 HB.out)
                   clear HO_3
                   clear HO_5
                   clear BK379
                   clear HB
                   have HO_3 := n0_
                   have HO_5 := n1_
                   have BK379 := n2_
                   have HB := n3_
                   clear n0_ n1_ n2_ n3_
                   have p388 : 0 ≤ (x4_1 : Int) := of_decide_eq_true (by first | (with_reducible assumption) | assumption)
                   have q388 : x4_1 < (l0_3.length : Int) := of_decide_eq_true (by first | (with_reducible assumption) | assumption)
                   obtain ⟨ad388, e388, hx388_0⟩ := Kd.at_string HR0_3.out x4_1 p388 q388
                   have hw388_0 := hx388_0
                   obtain rfl : ad380 = ad388 := (by injection e388)
                   replace hx388_0 := (HB.out.cell (World.block_lt_of_cell? w _ hx388_0)).trans hx388_0
                   replace p388 := eq_true p388
                   replace q388 := eq_true q388
                   have p389 : 0 ≤ (x6_3 : Int) := of_decide_eq_true (by first | (with_reducible assumption) | assumption)
                   have q389 : x6_3 < (t385.length : Int) := of_decide_eq_true (by first | (with_reducible assumption) | assumption)
                   obtain ⟨ad389, e389, hx389_0⟩ := Kd.at_string (Kd.R_reads' HO_5.out).2.2 x6_3 p389 q389
                   cases e389
                   replace p389 := eq_true p389
                   replace q389 := eq_true q389
                   refine start_ (n := 15) (S := fun w' => w'.cell? ⟨gb379, 0, none⟩ = some (.int .u8 a0_0) ∧ w'.cell? ⟨gb379, 1, none⟩ = some (.bool a0_1) ∧ w'.cell? ⟨gb379, 2, none⟩ = some (.slice A0_2 l0_2.length c0_2) ∧ w'.cell? ⟨gb379, 3, none⟩ = some (.slice (some ad380) l0_3.length c0_3) ∧ w'.cell? ⟨gb379, 4, none⟩ = some (.slice (some ad384) l0_4.length c0_4) ∧ w'.cell? (ad380.add (x4_1).toNat) = some (.string (rdOf ByteArray.empty l0_3 x4_1)) ∧ w'.cell? (ad389.add (x6_3).toNat) = some (.string (rdOf ByteArray.empty t385 x6_3))) (ds := [12, 13]) #[false, false, false, false, false, false, false, false, false, false, false, false, false, false, false] (by kernel_rfl) rfl rfl ⟨(blk_cell BK379.out 0).trans rfl, (blk_cell BK379.out 1).trans rfl, (blk_cell BK379.out 2).trans rfl, (blk_cell BK379.out 3).trans rfl, (blk_cell BK379.out 4).trans rfl, ((HB.out.cell (World.block_lt_of_cell? w _ hw388_0)).trans hw388_0), hx389_0⟩ (fun hHeld => ?_); refine with_tabW r03_Paths.tab10 r03_Paths.bits10 (fun HT_ HW_ => ?_)
                   generalize wr.drew = w25 at HO_3 HO_5 BK379 HB hx388_0 hx389_0 hHeld ⊢
                   refine pure_ (i := 0) (N := some 41) (v := ?_) (a' := ?_) #[true, false, false, false, false, false, false, false, false, false, false, false, false, false, false] rfl rfl (any_of HT_.out (by kernel_rfl)) (fun _ _ _ h => h) (Or.inl ⟨by rfl, ?_⟩) ?_ ?_
                   rotate_left
                   ·intro w'
                    go_simp
                    with_reducible rfl
                   rotate_left
                   ·simp only [Act.put, List.setIfInBounds_toArray, List.set_cons_zero, List.set_cons_succ, i64_w, i32_w]
                    rfl
                   refine pure_ (i := 1) (N := some 42) (v := ?_) (a' := ?_) #[true, true, false, false, false, false, false, false, false, false, false, false, false, false, false] rfl rfl (any_of HT_.out (by kernel_rfl)) (fun _ _ _ h => h) (Or.inl ⟨by rfl, ?_⟩) ?_ ?_
                   rotate_left
                   ·intro w'
                    go_simp
                    with_reducible rfl
                   rotate_left
                   ·simp only [Act.put, List.setIfInBounds_toArray, List.set_cons_zero, List.set_cons_succ, i64_w, i32_w]
                    rfl
                   refine pure_ (i := 3) (N := some 44) (v := ?_) (a' := ?_) #[true, true, false, true, false, false, false, false, false, false, false, false, false, false, false] rfl rfl (any_of HT_.out (by kernel_rfl)) (fun _ _ _ h => h) (Or.inl ⟨by rfl, ?_⟩) ?_ ?_
                   rotate_left
                   ·intro w'
                    go_simp
                    with_reducible rfl
                   rotate_left
                   ·simp only [Act.put, List.setIfInBounds_toArray, List.set_cons_zero, List.set_cons_succ, i64_w, i32_w]
                    rfl
                   refine pure_ (i := 7) (N := some 48) (v := ?_) (a' := ?_) #[true, true, false, true, false, false, false, true, false, false, false, false, false, false, false] rfl rfl (any_of HT_.out (by kernel_rfl)) (fun _ _ _ h => h) (Or.inl ⟨by rfl, ?_⟩) ?_ ?_
                   rotate_left
                   ·intro w'
                    go_simp
                    with_reducible rfl
                   rotate_left
                   ·simp only [Act.put, List.setIfInBounds_toArray, List.set_cons_zero, List.set_cons_succ, i64_w, i32_w]
                    rfl
                   refine pure_ (i := 8) (N := some 49) (v := ?_) (a' := ?_) #[true, true, false, true, false, false, false, true, true, false, false, false, false, false, false] rfl rfl (any_of HT_.out (by kernel_rfl)) (fun _ _ _ h => h) (Or.inl ⟨by rfl, ?_⟩) ?_ ?_
                   rotate_left
                   ·intro w'
                    go_simp
                    with_reducible rfl
                   rotate_left
                   ·simp only [Act.put, List.setIfInBounds_toArray, List.set_cons_zero, List.set_cons_succ, i64_w, i32_w]
                    rfl
                   refine pure_ (i := 9) (N := some 50) (v := ?_) (a' := ?_) #[true, true, false, true, false, false, false, true, true, true, false, false, false, false, false] rfl rfl (any_of HT_.out (by kernel_rfl)) (fun _ _ _ h => h) (Or.inl ⟨by rfl, ?_⟩) ?_ ?_
                   rotate_left
                   ·intro w'
                    go_simp
                    with_reducible rfl
                   rotate_left
                   ·simp only [Act.put, List.setIfInBounds_toArray, List.set_cons_zero, List.set_cons_succ, i64_w, i32_w]
                    rfl
                   refine take_ (i := 2) (N := some 43) (v := ?_) (a' := ?_) #[true, true, true, true, false, false, false, true, true, true, false, false, false, false, false] rfl rfl (take_ofW HT_.out HW_.out (by kernel_rfl)) (fun _ _ _ h => h) (Or.inl ⟨by rfl, ?_⟩) hHeld ?_ ?_
                   rotate_left
                   ·rintro w' ⟨s0, s1, s2, s3, s4, s5, s6⟩
                    go_simp
                    with_reducible rfl
                   rotate_left
                   ·simp only [Act.put, List.setIfInBounds_toArray, List.set_cons_zero, List.set_cons_succ, i64_w, i32_w]
                    rfl
                   refine pure_ (i := 4) (N := some 45) (v := ?_) (a' := ?_) #[true, true, true, true, true, false, false, true, true, true, false, false, false, false, false] rfl rfl (any_of HT_.out (by kernel_rfl)) (fun _ _ _ h => h) (Or.inl ⟨by rfl, ?_⟩) ?_ ?_
                   rotate_left
                   ·intro w'
                    go_simp
                    with_reducible rfl
                   rotate_left
                   ·simp only [Act.put, List.setIfInBounds_toArray, List.set_cons_zero, List.set_cons_succ, i64_w, i32_w]
                    rfl
                   refine take_ (i := 5) (N := some 46) (v := ?_) (a' := ?_) #[true, true, true, true, true, true, false, true, true, true, false, false, false, false, false] rfl rfl (take_ofW HT_.out HW_.out (by kernel_rfl)) (fun _ _ _ h => h) (Or.inl ⟨by rfl, ?_⟩) hHeld ?_ ?_
                   rotate_left
                   ·rintro w' ⟨s0, s1, s2, s3, s4, s5, s6⟩
                    go_simp
                    with_reducible rfl
                   rotate_left
                   ·simp only [Act.put, List.setIfInBounds_toArray, List.set_cons_zero, List.set_cons_succ, i64_w, i32_w]
                    rfl
                   refine pure_ (i := 6) (N := some 47) (v := ?_) (a' := ?_) #[true, true, true, true, true, true, true, true, true, true, false, false, false, false, false] rfl rfl (any_of HT_.out (by kernel_rfl)) (fun _ _ _ h => h) (Or.inl ⟨by rfl, ?_⟩) ?_ ?_
                   rotate_left
                   ·intro w'
                    go_simp
                    with_reducible rfl
                   rotate_left
                   ·simp only [Act.put, List.setIfInBounds_toArray, List.set_cons_zero, List.set_cons_succ, i64_w, i32_w]
                    rfl
                   refine take_ (i := 10) (N := some 51) (v := ?_) (a' := ?_) #[true, true, true, true, true, true, true, true, true, true, true, false, false, false, false] rfl rfl (take_ofW HT_.out HW_.out (by kernel_rfl)) (fun _ _ _ h => h) (Or.inl ⟨by rfl, ?_⟩) hHeld ?_ ?_
                   rotate_left
                   ·rintro w' ⟨s0, s1, s2, s3, s4, s5, s6⟩
                    go_simp
                    with_reducible rfl
                   rotate_left
                   ·simp only [Act.put, List.setIfInBounds_toArray, List.set_cons_zero, List.set_cons_succ, i64_w, i32_w]
                    rfl
                   refine pure_ (i := 11) (N := some 52) (v := ?_) (a' := ?_) #[true, true, true, true, true, true, true, true, true, true, true, true, false, false, false] rfl rfl (any_of HT_.out (by kernel_rfl)) (fun _ _ _ h => h) (Or.inl ⟨by rfl, ?_⟩) ?_ ?_
                   rotate_left
                   ·intro w'
                    go_simp
                    with_reducible rfl
                   rotate_left
                   ·simp only [Act.put, List.setIfInBounds_toArray, List.set_cons_zero, List.set_cons_succ, i64_w, i32_w]
                    rfl
                   refine last_ (i := 12) (N := some 53) #[true, true, true, true, true, true, true, true, true, true, true, true, true, false, false] rfl rfl (one_of HT_.out (by kernel_rfl)) (by decide) (fun K hK => ?_)
                   refine value_ (w1 := ?_) (v := ?_) (by rfl) rfl ?_ ?_
                   rotate_left 2
                   ·go_simp
                    constructor
                    ·rfl
                    ·rfl
                   refine hK.out _ _ ?_
                   clear hK K
                   refine norm_ (a' := ?_) ?_ ?_
                   rotate_left
                   ·show Act.put _ (some 53) _ = _
                    simp only [Act.put, List.setIfInBounds_toArray, List.set_cons_zero, List.set_cons_succ, i64_w, i32_w]
                    rfl
                   refine last_ (i := 13) (N := some 54) #[true, true, true, true, true, true, true, true, true, true, true, true, true, true, false] rfl rfl (one_of HT_.out (by kernel_rfl)) (by decide) (fun K hK => ?_)
                   refine Kd.R_append_step Kd.string (w0 := w) w.heap.size (by rfl) (.tmp 41) (.tmp 53) 23 9 (.string ⟨#[]⟩) 16 rfl Tryd.underlying23 info9 rfl (by decide) (by omega) u3 x3_3 (((rdOf ByteArray.empty l0_3 x4_1) ++ (⟨#[47]⟩ : ByteArray)) ++ (rdOf ByteArray.empty t385 x6_3)) [.string (((rdOf ByteArray.empty l0_3 x4_1) ++ (⟨#[47]⟩ : ByteArray)) ++ (rdOf ByteArray.empty t385 x6_3))] (fun k_ => some k_ ≠ (.slice (some ad389) t385.length co24 : Value).ownBlock) (fun _ => False) rfl rfl ?aP (fun _ hk => hk.elim) ?aF ?aO ?aB ?aS ?aL ?_
                   (case aP => exact rfl)
                   (case aB => exact (by repeat (first | (with_reducible first | exact HB.out | apply below_alloc | apply pw_below_drewN | apply below_drew1 | refine below_set ?_ GE379.out) | exact HB.out)))
                   (case aF => exact (fun k_ hk => Kd.fresh' (Kd.R_lt (by (with_reducible repeat (first | apply Kd.R_alloc | apply Kd.R_drewN | apply Kd.R_drew)); exact HO_5.out)) k_ hk))
                   (case aO => exact (by (with_reducible repeat (first | apply Kd.R_alloc | apply Kd.R_drewN | apply Kd.R_drew)); exact HO_3.out))
                   (case aS => exact (below_size (by repeat (first | (with_reducible first | exact HB.out | apply below_alloc | apply pw_below_drewN | apply below_drew1 | refine below_set ?_ GE379.out) | exact HB.out))))
                   (case aL => have := LMc23.out; omega)
                   intro v391 w26 ho hb hg hat
                   rw [← Ny390.out] at ho
                   have n0_ := Aside0.mk (Kd.R_after (ok := (fun _ => True)) (by (with_reducible repeat (first | apply Kd.R_alloc | apply Kd.R_drewN | apply Kd.R_drew)); exact Kd.R_mono HO_5.out (fun _ hk => ⟨trivial, hk⟩)) hg hat)
                   have n1_ := Aside0.mk (blk_grown (g := gb379) (o := .cells #[.int .u8 a0_0, .bool a0_1, .slice A0_2 l0_2.length c0_2, .slice (some ad380) l0_3.length c0_3, .slice (some ad384) l0_4.length c0_4] 26 (0, 0)) (by (with_reducible repeat (first | refine blk_drewN ?_ _ | refine blk_drew ?_ | refine blk_alloc ?_ _)); exact BK379.out) hg (Kd.R_ne HO_3.out BK379.out (by decide)))
                   have n2_ := Aside0.mk (hb)
                   have n3_ := Aside0.mk (ho)
                   clear HO_5
                   clear BK379
                   clear HB
                   clear HO_3
                   have HO_5 := n0_
                   have BK379 := n1_
                   have HB := n2_
                   have HO392 := n3_
                   clear n0_ n1_ n2_ n3_
                   clear ho hb hg hat
                   refine hK.out _ _ ?_
                   clear hK K
                   refine norm_ (a' := ?_) ?_ ?_
                   rotate_left
                   ·show Act.put _ (some 54) _ = _
                    simp only [Act.put, List.setIfInBounds_toArray, List.set_cons_zero, List.set_cons_succ, i64_w, i32_w]
                    rfl
                   refine pure_ (i := 14) (N := some 3) (v := ?_) (a' := ?_) #[true, true, true, true, true, true, true, true, true, true, true, true, true, true, true] rfl rfl (any_of HT_.out (by kernel_rfl)) (fun _ _ _ h => h) (Or.inl ⟨by rfl, ?_⟩) ?_ ?_
                   rotate_left
                   ·intro w'
                    go_simp
                    with_reducible rfl
                   rotate_left
                   ·simp only [Act.put, List.setIfInBounds_toArray, List.set_cons_zero, List.set_cons_succ, i64_w, i32_w]
                    rfl
                   refine done_ (done_of HT_.out (by kernel_rfl)) ?_
                   try go_wp2
                   go_roundg k3
                   case measure => have := HK1.out; have := HJ2.out; have := HK3.out; omega
                   case rel => exact ⟨(y390), (wrap64 (x6_3 + 1)), (by first | rfl | (simp; done) | (simp [*]; done)), H', ⟨by have := HK1.out; have := HJ2.out; have := HK3.out; omega⟩, ⟨by (with_reducible repeat (first | apply Kd.R_alloc | apply Kd.R_drewN | apply Kd.R_drew)); exact HO392.out⟩, ⟨by (with_reducible repeat (first | apply Kd.R_alloc | apply Kd.R_drewN | apply Kd.R_drew)); exact Kd.R_mono HO_5.out (fun _ hk => hk.2)⟩, ⟨by (with_reducible repeat (first | refine blk_drewN ?_ _ | refine blk_drew ?_ | refine blk_alloc ?_ _)); exact BK379.out⟩, ⟨by repeat (first | (with_reducible first | exact HB.out | apply below_alloc | apply pw_below_drewN | apply below_drew1 | refine below_set ?_ GE379.out) | exact HB.out)⟩⟩
                  ·rw [if_neg c23] at H
                   exact absurd H (by simp)
                 ·rw [if_neg c22] at H
                  exact absurd H (by simp)
                ·rw [if_neg c21] at H
                 exact absurd H (by simp)
               ·rw [if_neg c20] at H
                exact absurd H (by simp)
              ·rw [if_neg c19] at H
               exact absurd H (by simp)
             ·rw [if_neg c18] at H
              exact absurd H (by simp)
            ·rw [if_neg c17] at H
             have c17b0 : decide (x6_3 < (t385.length : Int)) = false := decide_eq_false c17
             clear c17
             have H' := Aside0.mk H
             clear H
             obtain ⟨Ao27, co27, eo27⟩ := Kd.R_slice HO_5.out
             subst eo27
             go_wp2
             go_roundg k3
             case measure => have := HK1.out; have := HJ2.out; have := HK3.out; omega
             case rel => exact ⟨(x3_3), (wrap64 (x4_1 + 1)), (by first | rfl | (simp; done) | (simp [*]; done)), H', ⟨by have := HK1.out; have := HJ2.out; have := HK3.out; omega⟩, ⟨by (with_reducible repeat (first | apply Kd.R_alloc | apply Kd.R_drewN | apply Kd.R_drew)); exact Kd.R_mono HO_3.out (fun _ hk => trivial)⟩, ⟨by (with_reducible repeat (first | refine blk_drewN ?_ _ | refine blk_drew ?_ | refine blk_alloc ?_ _)); exact BK379.out⟩, ⟨by repeat (first | (with_reducible first | exact HB.out | apply below_alloc | apply pw_below_drewN | apply below_drew1 | refine below_set ?_ GE379.out) | exact HB.out)⟩⟩
         ·rw [if_neg c11] at H
          exact absurd H (by simp)
        ·rw [if_neg c10] at H
         exact absurd H (by simp)
       ·rw [if_neg c9] at H
        exact absurd H (by simp)
      ·rw [if_neg c8] at H
       exact absurd H (by simp)
     ·replace c7 := Bool.eq_false_iff.mpr c7
      subst c7
      have H1 : (some x3_1) = some r := by rw [if_neg (show ¬ (false = true) by decide)] at H; exact H
      clear H
      have H := H1
      clear H1
      obtain rfl := Option.some.inj H
      go_wp2
      go_ret
      exact ⟨_, by first | rfl | (simp [errW_none, errW_some] <;> rfl) | (simp [*, errW_none, errW_some] <;> rfl), by (with_reducible repeat (first | apply Kd.R_alloc | apply Kd.R_drewN | apply Kd.R_drew)); exact HO_3.out, by repeat (first | (with_reducible first | exact HB.out | apply below_alloc | apply pw_below_drewN | apply below_drew1 | refine below_set ?_ GE379.out) | exact HB.out)⟩

end Go.Proofs.YtmhlmbmenoihnaaDoor.G
