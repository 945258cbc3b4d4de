-- PRINTED by print.py (a twelfth state) out of the translation. Not trusted: Lean checks it.
import Derived.Test.YtmhlmbmenoihnaaDoorG0
import Derived.Test.YtmhlmbmenoihnaaDoorG1
import Derived.Test.YtmhlmbmenoihnaaDoorG2
namespace Go.Proofs.YtmhlmbmenoihnaaDoor.G
open Go.RowKit Go.Proofs.YtmhlmbmenoihnaaDoorW.PrintWords Go.Proofs.YtmhlmbmenoihnaaDoorW.PrintLast Go.Proofs.YtmhlmbmenoihnaaDoorW.PrintMore
attribute [local go_sem] max2_int min2_int max_two min_two max_three min_three max_four min_four   -- for this text's walks alone
set_option linter.unusedVariables false
set_option linter.unusedSimpArgs false

/-! ### cmp_isNaN_string: function 57 -/
def cmp_isNaN_string.f (a0 : ByteArray) : Option (Bool) := some (a0.toList != a0.toList)
set_option maxHeartbeats 8000000 in
set_option maxRecDepth 100000 in
theorem cmp_isNaN_string.calls (a0 : ByteArray) (r : Bool) (w : World) (h : cmp_isNaN_string.f a0 = some r) :
  Calls Tryd.prog 57 #[.string a0] w fun e w' => e = .returned (.bool r) ∧ Drawn0 w w' := by
 have H : (some (a0.toList != a0.toList)) = some r := h
 clear h
 obtain rfl := Option.some.inj H
 go_enter Tryd.func57, Tryd.ntmps57
 go_wp2
 go_ret
 exact ⟨by first | rfl | (simp; done) | (simp [*]; done), by repeat (first | exact Drawn0.refl _ | apply Drawn0.step)⟩

/-! ### cmp_Less_string: function 47 -/
def cmp_Less_string.f (a0 : ByteArray) (a1 : ByteArray) : Option (Bool) := (cmp_isNaN_string.f a0).bind fun t130 => (if t130 = true then ((cmp_isNaN_string.f a1).bind fun t131 => (if t131 = true then (some (Op.bytesLess a0.toList a1.toList)) else (some true))) else (some (Op.bytesLess a0.toList a1.toList)))
set_option maxHeartbeats 8000000 in
set_option maxRecDepth 100000 in
theorem cmp_Less_string.calls (a0 : ByteArray) (a1 : ByteArray) (r : Bool) (w : World) (h : cmp_Less_string.f a0 a1 = some r) :
  Calls Tryd.prog 47 #[.string a0, .string a1] w fun e w' => e = .returned (.bool r) ∧ Drawn0 w w' := by
 have H : ((cmp_isNaN_string.f a0).bind fun t130 => (if t130 = true then ((cmp_isNaN_string.f a1).bind fun t131 => (if t131 = true then (some (Op.bytesLess a0.toList a1.toList)) else (some true))) else (some (Op.bytesLess a0.toList a1.toList)))) = some r := h
 clear h
 replace H := Option.bind_eq_some_iff.mp H
 obtain ⟨t130, A30, H⟩ := H
 replace H : (if t130 = true then ((cmp_isNaN_string.f a1).bind fun t131 => (if t131 = true then (some (Op.bytesLess a0.toList a1.toList)) else (some true))) else (some (Op.bytesLess a0.toList a1.toList))) = some r := H
 have A3 := Aside0.mk A30
 clear A30
 by_cases c4 : t130 = true
 ·subst c4
  have H1 : ((cmp_isNaN_string.f a1).bind fun t131 => (if t131 = true then (some (Op.bytesLess a0.toList a1.toList)) else (some true))) = some r := by rw [if_pos rfl] at H; exact H
  clear H
  have H := H1
  clear H1
  replace H := Option.bind_eq_some_iff.mp H
  obtain ⟨t131, A50, H⟩ := H
  replace H : (if t131 = true then (some (Op.bytesLess a0.toList a1.toList)) else (some true)) = some r := H
  have A5 := Aside0.mk A50
  clear A50
  by_cases c6 : t131 = true
  ·subst c6
   have H1 : (some (Op.bytesLess a0.toList a1.toList)) = some r := by rw [if_pos rfl] at H; exact H
   clear H
   have H := H1
   clear H1
   obtain rfl := Option.some.inj H
   go_enter Tryd.func47, Tryd.ntmps47
   go_wp2_with (first | ((with_reducible refine gate_callee (f := 57) rfl ?_); refine goesL_ (some 6) rfl rfl Tryd.func57 (by kernel_rfl) rfl #[.string a0] rfl (by (try simp only [List.map_toArray, List.map_cons, List.map_nil]); first | done | rfl | (simp only [List.length_drop, List.length_take]; rfl)) ?_; (with_reducible refine (cmp_isNaN_string.calls a0 true _ A3.out).mono ?_); rintro e w' ⟨rfl, ⟨nd, rfl⟩⟩; refine ⟨_, rfl, ?_⟩) | (go_at_call 57; (with_reducible refine (cmp_isNaN_string.calls a1 true _ A5.out).mono ?_); rintro e w' ⟨rfl, ⟨nd, rfl⟩⟩))
   go_ret
   exact ⟨by first | rfl | (simp; done) | (simp [*]; done), by repeat (first | exact Drawn0.refl _ | apply Drawn0.step)⟩
  ·replace c6 := Bool.eq_false_iff.mpr c6
   subst c6
   have H1 : (some true) = some r := by rw [if_neg (show ¬ (false = true) by decide)] at H; exact H
   clear H
   have H := H1
   clear H1
   obtain rfl := Option.some.inj H
   go_enter Tryd.func47, Tryd.ntmps47
   go_wp2_with (first | ((with_reducible refine gate_callee (f := 57) rfl ?_); refine goesL_ (some 6) rfl rfl Tryd.func57 (by kernel_rfl) rfl #[.string a0] rfl (by (try simp only [List.map_toArray, List.map_cons, List.map_nil]); first | done | rfl | (simp only [List.length_drop, List.length_take]; rfl)) ?_; (with_reducible refine (cmp_isNaN_string.calls a0 true _ A3.out).mono ?_); rintro e w' ⟨rfl, ⟨nd, rfl⟩⟩; refine ⟨_, rfl, ?_⟩) | (go_at_call 57; (with_reducible refine (cmp_isNaN_string.calls a1 false _ A5.out).mono ?_); rintro e w' ⟨rfl, ⟨nd, rfl⟩⟩))
   go_ret
   exact ⟨by first | rfl | (simp; done) | (simp [*]; done), by repeat (first | exact Drawn0.refl _ | apply Drawn0.step)⟩
 ·replace c4 := Bool.eq_false_iff.mpr c4
  subst c4
  have H1 : (some (Op.bytesLess a0.toList a1.toList)) = some r := by rw [if_neg (show ¬ (false = true) by decide)] at H; exact H
  clear H
  have H := H1
  clear H1
  obtain rfl := Option.some.inj H
  go_enter Tryd.func47, Tryd.ntmps47
  go_wp2_with (first | ((with_reducible refine gate_callee (f := 57) rfl ?_); refine goesL_ (some 6) rfl rfl Tryd.func57 (by kernel_rfl) rfl #[.string a0] rfl (by (try simp only [List.map_toArray, List.map_cons, List.map_nil]); first | done | rfl | (simp only [List.length_drop, List.length_take]; rfl)) ?_; (with_reducible refine (cmp_isNaN_string.calls a0 false _ A3.out).mono ?_); rintro e w' ⟨rfl, ⟨nd, rfl⟩⟩; refine ⟨_, rfl, ?_⟩))
  go_ret
  exact ⟨by first | rfl | (simp; done) | (simp [*]; done), by repeat (first | exact Drawn0.refl _ | apply Drawn0.step)⟩

/-! ### sl_isNaN_string: function 48 -/
def sl_isNaN_string.f (a0 : ByteArray) : Option (Bool) := some (a0.toList != a0.toList)
set_option maxHeartbeats 8000000 in
set_option maxRecDepth 100000 in
theorem sl_isNaN_string.calls (a0 : ByteArray) (r : Bool) (w : World) (h : sl_isNaN_string.f a0 = some r) :
  Calls Tryd.prog 48 #[.string a0] w fun e w' => e = .returned (.bool r) ∧ Drawn0 w w' := by
 have H : (some (a0.toList != a0.toList)) = some r := h
 clear h
 obtain rfl := Option.some.inj H
 go_enter Tryd.func48, Tryd.ntmps48
 go_wp2
 go_ret
 exact ⟨by first | rfl | (simp; done) | (simp [*]; done), by repeat (first | exact Drawn0.refl _ | apply Drawn0.step)⟩

/-! ### sl_BinarySearch_ss: function 35 -/
def sl_BinarySearch_ss.l0 : Nat → List ByteArray → ByteArray → Int → Int → Int → Option (Int × Bool)
 | 0, _, _, _, _, _ => none
 | k + 1, x0, x1, x6, x7, x8 => if x7 < x8 then (if 0 ≤ (wrap64 ((IntKind.u64.wrap (wrap64 (x7 + x8))) / 2)) then (if (wrap64 ((IntKind.u64.wrap (wrap64 (x7 + x8))) / 2)) < (x0.length : Int) then ((cmp_Less_string.f (rdOf ByteArray.empty x0 (wrap64 ((IntKind.u64.wrap (wrap64 (x7 + x8))) / 2))) x1).bind fun t133 => (if t133 = true then (sl_BinarySearch_ss.l0 k x0 x1 x6 (wrap64 ((wrap64 ((IntKind.u64.wrap (wrap64 (x7 + x8))) / 2)) + 1)) x8) else (sl_BinarySearch_ss.l0 k x0 x1 x6 x7 (wrap64 ((IntKind.u64.wrap (wrap64 (x7 + x8))) / 2))))) else (none)) else (none)) else (if x7 < x6 then (if 0 ≤ x7 then (if x7 < (x0.length : Int) then (if (rdOf ByteArray.empty x0 x7).toList = x1.toList then (some (x7, true)) else ((sl_isNaN_string.f (rdOf ByteArray.empty x0 x7)).bind fun t136 => (if t136 = true then ((sl_isNaN_string.f x1).bind fun t137 => (some (x7, t137))) else (some (x7, false))))) else (none)) else (none)) else (some (x7, false)))
def sl_BinarySearch_ss.f (k : Nat) (l0 : List ByteArray) (a1 : ByteArray) : Option (Int × Bool) := sl_BinarySearch_ss.l0 k l0 a1 (l0.length : Int) 0 (l0.length : Int)
theorem sl_BinarySearch_ss.mono_l : ∀ k, (∀ y0 y1 y2 y3 y4, LeO (sl_BinarySearch_ss.l0 k y0 y1 y2 y3 y4) (sl_BinarySearch_ss.l0 (k + 1) y0 y1 y2 y3 y4))
 | 0 => fun _ _ _ _ _ r h => by simp [sl_BinarySearch_ss.l0] at h
 | k + 1 => by
  have ih0 := sl_BinarySearch_ss.mono_l k
  ·intro y0 y1 y2 y3 y4
   unfold sl_BinarySearch_ss.l0
   repeat' first
   | (with_reducible exact ih0 _ _ _ _ _)
   | (with_reducible exact LeO.refl _)
   | (with_reducible exact LeO.none _)
   | (with_reducible refine LeO.ite ?_ ?_)
   | (with_reducible refine LeO.bind ?_ (fun _ => ?_))
   | exact ih0 _ _ _ _ _
   | exact LeO.none _
   | refine LeO.ite ?_ ?_
   | refine LeO.bind ?_ (fun _ => ?_)
theorem sl_BinarySearch_ss.mono : ∀ a0 a1 k, LeO (sl_BinarySearch_ss.f k a0 a1) (sl_BinarySearch_ss.f (k + 1) a0 a1) := by
 intro a0 a1 k
 have ih0 := sl_BinarySearch_ss.mono_l k
 unfold sl_BinarySearch_ss.f
 repeat' first
   | (with_reducible exact ih0 _ _ _ _ _)
   | (with_reducible exact LeO.refl _)
   | (with_reducible exact LeO.none _)
   | (with_reducible refine LeO.ite ?_ ?_)
   | (with_reducible refine LeO.bind ?_ (fun _ => ?_))
   | exact ih0 _ _ _ _ _
   | exact LeO.none _
   | refine LeO.ite ?_ ?_
   | refine LeO.bind ?_ (fun _ => ?_)
set_option maxHeartbeats 8000000 in
set_option maxRecDepth 100000 in
theorem sl_BinarySearch_ss.calls (k : Nat) (A0 : Option Addr) (c0 : Nat) (l0 : List ByteArray) (a1 : ByteArray) (r1 : Int) (r2 : Bool) (w : World) (hr0 : Kd.C Kd.string w A0 l0.length l0) (hc0 : l0.length ≤ c0) (h : sl_BinarySearch_ss.f k l0 a1 = some (r1, r2)) :
  Calls Tryd.prog 35 #[.slice A0 l0.length c0, .string a1] w fun e w' => e = .returned (.tuple #[.int .i64 r1, .bool r2]) ∧ Drawn0 w w' := by
 have HR0 := Aside0.mk hr0
 have HC0 := Aside0.mk hc0
 clear hr0 hc0
 have H : (sl_BinarySearch_ss.l0 k l0 a1 (l0.length : Int) 0 (l0.length : Int)) = some (r1, r2) := h
 clear h
 have H' := Aside0.mk H
 clear H
 go_enter Tryd.func35, Tryd.ntmps35
 go_wp2
 go_loopg [7, 8] k (fun kq v7 v8 w' => ∃ (x7_1 : Int) (x8_1 : Int), v7 = .int .i64 x7_1 ∧ v8 = .int .i64 x8_1 ∧ Aside0 (sl_BinarySearch_ss.l0 kq l0 a1 (l0.length : Int) x7_1 x8_1 = some (r1, r2)) ∧ Aside0 (kq ≤ k) ∧ Drawn0 w w')
 case atStart => exact ⟨(0), ((l0.length : Int)), (by first | rfl | (simp; done) | (simp [*]; done)), (by first | rfl | (simp; done) | (simp [*]; done)), H', ⟨Nat.le_refl _⟩, by repeat (first | exact Drawn0.refl _ | apply Drawn0.step)⟩
 case round =>
  clear H'
  try clear p2
  obtain ⟨x7_1, x8_1, rfl, rfl, HA, HK1, ⟨m1, rfl⟩⟩ := hrel
  cases gk with
  | zero => exact absurd HA.out (by simp [sl_BinarySearch_ss.l0])
  | succ k1 =>
   have H := HA.out
   clear HA
   simp only [sl_BinarySearch_ss.l0] at H
   by_cases c3 : x7_1 < x8_1
   ·rw [if_pos c3] at H
    have c3b0 : decide (x7_1 < x8_1) = true := decide_eq_true c3
    clear c3
    obtain ⟨ji4, hji4⟩ : ∃ j_ : Int, (wrap64 ((IntKind.u64.wrap (wrap64 (x7_1 + x8_1))) / 2)) = j_ := ⟨_, rfl⟩
    replace H : (if 0 ≤ (ji4) then (if (ji4) < (l0.length : Int) then ((cmp_Less_string.f (rdOf ByteArray.empty l0 (ji4)) a1).bind fun t133 => (if t133 = true then (sl_BinarySearch_ss.l0 k1 l0 a1 (l0.length : Int) (wrap64 ((ji4) + 1)) x8_1) else (sl_BinarySearch_ss.l0 k1 l0 a1 (l0.length : Int) x7_1 ji4))) else (none)) else (none)) = some (r1, r2) := by first | (rw [hji4] at H; exact H) | (simp only [hji4] at H ⊢; exact H)
    have hji4w : (IntKind.i64.wrap ((IntKind.u64.wrap (wrap64 (x7_1 + x8_1))) / 2)) = ji4 := (i64_w _).trans hji4
    by_cases c5 : 0 ≤ (ji4)
    ·rw [if_pos c5] at H
     have c5b0 : decide (0 ≤ (ji4)) = true := decide_eq_true c5
     clear c5
     by_cases c6 : (ji4) < (l0.length : Int)
     ·rw [if_pos c6] at H
      have c6b0 : decide ((ji4) < (l0.length : Int)) = true := decide_eq_true c6
      clear c6
      replace H := Option.bind_eq_some_iff.mp H
      obtain ⟨t133, A70, H⟩ := H
      replace H : (if t133 = true then (sl_BinarySearch_ss.l0 k1 l0 a1 (l0.length : Int) (wrap64 ((ji4) + 1)) x8_1) else (sl_BinarySearch_ss.l0 k1 l0 a1 (l0.length : Int) x7_1 ji4)) = some (r1, r2) := H
      have A7 := Aside0.mk A70
      clear A70
      by_cases c8 : t133 = true
      ·subst c8
       have H1 : (sl_BinarySearch_ss.l0 k1 l0 a1 (l0.length : Int) (wrap64 ((ji4) + 1)) x8_1) = some (r1, r2) := by rw [if_pos rfl] at H; exact H
       clear H
       have H := H1
       clear H1
       have H' := Aside0.mk H
       clear H
       have p132 : 0 ≤ ((ji4) : Int) := of_decide_eq_true (by first | (with_reducible assumption) | assumption)
       have q132 : (ji4) < (l0.length : Int) := of_decide_eq_true (by first | (with_reducible assumption) | assumption)
       obtain ⟨ad132, e132, hx132_0⟩ := Kd.at_string HR0.out (ji4) p132 q132
       cases e132
       replace p132 := eq_true p132
       replace q132 := eq_true q132
       go_wp2_with (first | ((with_reducible refine gate_callee (f := 47) rfl ?_); refine goesL_ (some 27) rfl rfl Tryd.func47 (by kernel_rfl) rfl #[.string (rdOf ByteArray.empty l0 (ji4)), .string a1] rfl (by (try simp only [List.map_toArray, List.map_cons, List.map_nil]); first | done | (simp only [hji4]; rfl) | rfl | (simp only [List.length_drop, List.length_take]; rfl)) ?_; (with_reducible refine (cmp_Less_string.calls (rdOf ByteArray.empty l0 (ji4)) a1 true _ A7.out).mono ?_); rintro e w' ⟨rfl, ⟨nd, rfl⟩⟩; refine ⟨_, rfl, ?_⟩))
       go_roundg k1
       case measure => have := HK1.out; omega
       case rel => exact ⟨(wrap64 ((ji4) + 1)), (x8_1), (by first | rfl | (simp; done) | (simp only [← hji4] <;> (first | rfl | simp)) | (simp [*]; done)), (by first | rfl | (simp; done) | (simp [*]; done)), H', ⟨by have := HK1.out; omega⟩, by repeat (first | exact Drawn0.refl _ | apply Drawn0.step)⟩
      ·replace c8 := Bool.eq_false_iff.mpr c8
       subst c8
       have H1 : (sl_BinarySearch_ss.l0 k1 l0 a1 (l0.length : Int) x7_1 ji4) = some (r1, r2) := by rw [if_neg (show ¬ (false = true) by decide)] at H; exact H
       clear H
       have H := H1
       clear H1
       have H' := Aside0.mk H
       clear H
       have p132 : 0 ≤ ((ji4) : Int) := of_decide_eq_true (by first | (with_reducible assumption) | assumption)
       have q132 : (ji4) < (l0.length : Int) := of_decide_eq_true (by first | (with_reducible assumption) | assumption)
       obtain ⟨ad132, e132, hx132_0⟩ := Kd.at_string HR0.out (ji4) p132 q132
       cases e132
       replace p132 := eq_true p132
       replace q132 := eq_true q132
       go_wp2_with (first | ((with_reducible refine gate_callee (f := 47) rfl ?_); refine goesL_ (some 27) rfl rfl Tryd.func47 (by kernel_rfl) rfl #[.string (rdOf ByteArray.empty l0 (ji4)), .string a1] rfl (by (try simp only [List.map_toArray, List.map_cons, List.map_nil]); first | done | (simp only [hji4]; rfl) | rfl | (simp only [List.length_drop, List.length_take]; rfl)) ?_; (with_reducible refine (cmp_Less_string.calls (rdOf ByteArray.empty l0 (ji4)) a1 false _ A7.out).mono ?_); rintro e w' ⟨rfl, ⟨nd, rfl⟩⟩; refine ⟨_, rfl, ?_⟩))
       go_roundg k1
       case measure => have := HK1.out; omega
       case rel => exact ⟨(x7_1), (ji4), (by first | rfl | (simp; done) | (simp [*]; done)), (by first | rfl | (simp; done) | (simp only [← hji4] <;> (first | rfl | simp)) | (simp [*]; done)), H', ⟨by have := HK1.out; omega⟩, by repeat (first | exact Drawn0.refl _ | apply Drawn0.step)⟩
     ·rw [if_neg c6] at H
      exact absurd H (by simp)
    ·rw [if_neg c5] at H
     exact absurd H (by simp)
   ·rw [if_neg c3] at H
    have c3b0 : decide (x7_1 < x8_1) = false := decide_eq_false c3
    clear c3
    by_cases c9 : x7_1 < (l0.length : Int)
    ·rw [if_pos c9] at H
     have c9b0 : decide (x7_1 < (l0.length : Int)) = true := decide_eq_true c9
     clear c9
     by_cases c10 : 0 ≤ x7_1
     ·rw [if_pos c10] at H
      have c10b0 : decide (0 ≤ x7_1) = true := decide_eq_true c10
      clear c10
      by_cases c11 : x7_1 < (l0.length : Int)
      ·rw [if_pos c11] at H
       have c11b0 : decide (x7_1 < (l0.length : Int)) = true := decide_eq_true c11
       clear c11
       by_cases c12 : (rdOf ByteArray.empty l0 x7_1).toList = a1.toList
       ·rw [if_pos c12] at H
        have c12b0 : ((rdOf ByteArray.empty l0 x7_1).toList == a1.toList) = true := beq_iff_eq.mpr c12
        have c12b1 : ((rdOf ByteArray.empty l0 x7_1).toList != a1.toList) = false := bne_eq_false_iff_eq.mpr c12
        clear c12
        simp only [Option.some.injEq, Prod.mk.injEq] at H
        obtain ⟨rfl, rfl⟩ := H
        have p134 : 0 ≤ (x7_1 : Int) := of_decide_eq_true (by first | (with_reducible assumption) | assumption)
        have q134 : x7_1 < (l0.length : Int) := of_decide_eq_true (by first | (with_reducible assumption) | assumption)
        obtain ⟨ad134, e134, hx134_0⟩ := Kd.at_string HR0.out x7_1 p134 q134
        cases e134
        replace p134 := eq_true p134
        replace q134 := eq_true q134
        go_wp2
        go_ret2
        exact ⟨by first | rfl | (simp; done) | (simp [*]; done), by repeat (first | exact Drawn0.refl _ | apply Drawn0.step)⟩
       ·rw [if_neg c12] at H
        have c12b0 : ((rdOf ByteArray.empty l0 x7_1).toList == a1.toList) = false := beq_eq_false_iff_ne.mpr c12
        have c12b1 : ((rdOf ByteArray.empty l0 x7_1).toList != a1.toList) = true := bne_iff_ne.mpr c12
        replace H := Option.bind_eq_some_iff.mp H
        obtain ⟨t136, A130, H⟩ := H
        replace H : (if t136 = true then ((sl_isNaN_string.f a1).bind fun t137 => (some (x7_1, t137))) else (some (x7_1, false))) = some (r1, r2) := H
        have A13 := Aside0.mk A130
        clear A130
        by_cases c14 : t136 = true
        ·subst c14
         have H1 : ((sl_isNaN_string.f a1).bind fun t137 => (some (x7_1, t137))) = some (r1, r2) := by rw [if_pos rfl] at H; exact H
         clear H
         have H := H1
         clear H1
         replace H := Option.bind_eq_some_iff.mp H
         obtain ⟨t137, A150, H⟩ := H
         replace H : (some (x7_1, t137)) = some (r1, r2) := H
         have A15 := Aside0.mk A150
         clear A150
         simp only [Option.some.injEq, Prod.mk.injEq] at H
         obtain ⟨rfl, rfl⟩ := H
         have p134 : 0 ≤ (x7_1 : Int) := of_decide_eq_true (by first | (with_reducible assumption) | assumption)
         have q134 : x7_1 < (l0.length : Int) := of_decide_eq_true (by first | (with_reducible assumption) | assumption)
         obtain ⟨ad134, e134, hx134_0⟩ := Kd.at_string HR0.out x7_1 p134 q134
         cases e134
         replace p134 := eq_true p134
         replace q134 := eq_true q134
         have p135 : 0 ≤ (x7_1 : Int) := of_decide_eq_true (by first | (with_reducible assumption) | assumption)
         have q135 : x7_1 < (l0.length : Int) := of_decide_eq_true (by first | (with_reducible assumption) | assumption)
         obtain ⟨ad135, e135, hx135_0⟩ := Kd.at_string HR0.out x7_1 p135 q135
         obtain rfl : ad134 = ad135 := (by injection e135)
         replace p135 := eq_true p135
         replace q135 := eq_true q135
         go_wp2_with (first | (go_at_call 48; (with_reducible refine (sl_isNaN_string.calls (rdOf ByteArray.empty l0 x7_1) true _ A13.out).mono ?_); rintro e w' ⟨rfl, ⟨nd, rfl⟩⟩) | (go_at_call 48; (with_reducible refine (sl_isNaN_string.calls a1 t137 _ A15.out).mono ?_); rintro e w' ⟨rfl, ⟨nd, rfl⟩⟩))
         go_ret2
         exact ⟨by first | rfl | (simp; done) | (simp [*]; done), by repeat (first | exact Drawn0.refl _ | apply Drawn0.step)⟩
        ·replace c14 := Bool.eq_false_iff.mpr c14
         subst c14
         have H1 : (some (x7_1, false)) = some (r1, r2) := by rw [if_neg (show ¬ (false = true) by decide)] at H; exact H
         clear H
         have H := H1
         clear H1
         simp only [Option.some.injEq, Prod.mk.injEq] at H
         obtain ⟨rfl, rfl⟩ := H
         have p134 : 0 ≤ (x7_1 : Int) := of_decide_eq_true (by first | (with_reducible assumption) | assumption)
         have q134 : x7_1 < (l0.length : Int) := of_decide_eq_true (by first | (with_reducible assumption) | assumption)
         obtain ⟨ad134, e134, hx134_0⟩ := Kd.at_string HR0.out x7_1 p134 q134
         cases e134
         replace p134 := eq_true p134
         replace q134 := eq_true q134
         have p135 : 0 ≤ (x7_1 : Int) := of_decide_eq_true (by first | (with_reducible assumption) | assumption)
         have q135 : x7_1 < (l0.length : Int) := of_decide_eq_true (by first | (with_reducible assumption) | assumption)
         obtain ⟨ad135, e135, hx135_0⟩ := Kd.at_string HR0.out x7_1 p135 q135
         obtain rfl : ad134 = ad135 := (by injection e135)
         replace p135 := eq_true p135
         replace q135 := eq_true q135
         go_wp2_with (first | (go_at_call 48; (with_reducible refine (sl_isNaN_string.calls (rdOf ByteArray.empty l0 x7_1) false _ A13.out).mono ?_); rintro e w' ⟨rfl, ⟨nd, rfl⟩⟩))
         go_ret2
         exact ⟨by first | rfl | (simp; done) | (simp [*]; done), by repeat (first | exact Drawn0.refl _ | apply Drawn0.step)⟩
      ·rw [if_neg c11] at H
       exact absurd H (by simp)
     ·rw [if_neg c10] at H
      exact absurd H (by simp)
    ·rw [if_neg c9] at H
     have c9b0 : decide (x7_1 < (l0.length : Int)) = false := decide_eq_false c9
     clear c9
     simp only [Option.some.injEq, Prod.mk.injEq] at H
     obtain ⟨rfl, rfl⟩ := H
     go_wp2
     go_ret2
     exact ⟨by first | rfl | (simp; done) | (simp [*]; done), by repeat (first | exact Drawn0.refl _ | apply Drawn0.step)⟩

/-! ### tree_At: function 20 -/
def tree_At.l0 : Nat → List ByteArray → Int → Int → Int → Bool → List Int → List ByteArray → List (S26) → Option (Int × Bool × List Int × List ByteArray × (List (S26)) × Int)
 | 0, _, _, _, _, _, _, _, _ => none
 | k + 1, x21, x22, x23, x139000, x139001, x139002, x139003, x139004 => if x23 < x22 then (if 0 ≤ x23 then (if x23 < (x21.length : Int) then (if x139000 = 3 then ((sl_BinarySearch_ss.f k x139003 (rdOf ByteArray.empty x21 x23)).bind fun bt156 => (if bt156.2 = true then (if 0 ≤ bt156.1 then (if bt156.1 < (x139004.length : Int) then (tree_At.l0 k x21 x22 (wrap64 (x23 + 1)) ((rd_T26 x139004 bt156.1).f0) ((rd_T26 x139004 bt156.1).f1) ((rd_T26 x139004 bt156.1).f2) ((rd_T26 x139004 bt156.1).f3) ((rd_T26 x139004 bt156.1).f4)) else (none)) else (none)) else (some (0, false, ([] : List Int), ([] : List ByteArray), ([] : List (S26)), 6)))) else (some (0, false, ([] : List Int), ([] : List ByteArray), ([] : List (S26)), 8))) else (none)) else (none)) else ((tree_Copy.f k x139000 x139001 x139002 x139003 x139004).bind fun bt144 => (some (bt144.1, bt144.2.1, bt144.2.2.1, bt144.2.2.2.1, bt144.2.2.2.2, 0)))
def tree_At.f (k : Nat) (a0_0 : Int) (a0_1 : Bool) (l0_2 : List Int) (l0_3 : List ByteArray) (l0_4 : List (S26)) (a1 : ByteArray) : Option (Int × Bool × List Int × List ByteArray × (List (S26)) × Int) := (tree_Split.f a1).bind fun bt140 => (if bt140.2 = 0 then (tree_At.l0 k bt140.1 (bt140.1.length : Int) 0 a0_0 a0_1 l0_2 l0_3 l0_4) else (some (0, false, ([] : List Int), ([] : List ByteArray), ([] : List (S26)), bt140.2)))
theorem tree_At.mono_l : ∀ k, (∀ y0 y1 y2 y3 y4 y5 y6 y7, LeO (tree_At.l0 k y0 y1 y2 y3 y4 y5 y6 y7) (tree_At.l0 (k + 1) y0 y1 y2 y3 y4 y5 y6 y7))
 | 0 => fun _ _ _ _ _ _ _ _ r h => by simp [tree_At.l0] at h
 | k + 1 => by
  have ih0 := tree_At.mono_l k
  ·intro y0 y1 y2 y3 y4 y5 y6 y7
   unfold tree_At.l0
   repeat' first
   | (with_reducible exact ih0 _ _ _ _ _ _ _ _)
   | (with_reducible exact sl_BinarySearch_ss.mono _ _ _)
   | (with_reducible exact tree_Copy.mono _ _ _ _ _ _)
   | (with_reducible exact LeO.refl _)
   | (with_reducible exact LeO.none _)
   | (with_reducible refine LeO.ite ?_ ?_)
   | (with_reducible refine LeO.bind ?_ (fun _ => ?_))
   | exact ih0 _ _ _ _ _ _ _ _
   | exact sl_BinarySearch_ss.mono _ _ _
   | exact tree_Copy.mono _ _ _ _ _ _
   | exact LeO.none _
   | refine LeO.ite ?_ ?_
   | refine LeO.bind ?_ (fun _ => ?_)
theorem tree_At.mono : ∀ a0 a1 a2 a3 a4 a5 k, LeO (tree_At.f k a0 a1 a2 a3 a4 a5) (tree_At.f (k + 1) a0 a1 a2 a3 a4 a5) := by
 intro a0 a1 a2 a3 a4 a5 k
 have ih0 := tree_At.mono_l k
 unfold tree_At.f
 repeat' first
   | (with_reducible exact ih0 _ _ _ _ _ _ _ _)
   | (with_reducible exact sl_BinarySearch_ss.mono _ _ _)
   | (with_reducible exact tree_Copy.mono _ _ _ _ _ _)
   | (with_reducible exact LeO.refl _)
   | (with_reducible exact LeO.none _)
   | (with_reducible refine LeO.ite ?_ ?_)
   | (with_reducible refine LeO.bind ?_ (fun _ => ?_))
   | exact ih0 _ _ _ _ _ _ _ _
   | exact sl_BinarySearch_ss.mono _ _ _
   | exact tree_Copy.mono _ _ _ _ _ _
   | exact LeO.none _
   | refine LeO.ite ?_ ?_
   | refine LeO.bind ?_ (fun _ => ?_)
set_option maxHeartbeats 8000000 in
set_option maxRecDepth 100000 in
theorem tree_At.calls (k : Nat) (a0_0 : Int) (a0_1 : Bool) (P0_2_ : Nat → Prop) (A0_2 : Option Addr) (c0_2 : Nat) (l0_2 : List Int) (P0_3_ : Nat → Prop) (A0_3 : Option Addr) (c0_3 : Nat) (l0_3 : List ByteArray) (P0_4_ : Nat → Prop) (A0_4 : Option Addr) (c0_4 : Nat) (l0_4 : List (S26)) (a1 : ByteArray) (r1 : Int) (r2 : Bool) (r3 : List Int) (r4 : List ByteArray) (r5 : List (S26)) (r6 : Int) (w : World) (hs0_2 : Kd.V (Kd.int .u8) 5 w w.heap.size (fun k_ => P0_2_ k_) (.slice A0_2 l0_2.length c0_2) l0_2) (hs0_3 : Kd.V Kd.string 9 w w.heap.size (fun k_ => P0_3_ k_) (.slice A0_3 l0_3.length c0_3) l0_3) (hs0_4 : Kd.V k26 26 w w.heap.size (fun k_ => P0_4_ k_) (.slice A0_4 l0_4.length c0_4) l0_4) (h : tree_At.f k a0_0 a0_1 l0_2 l0_3 l0_4 a1 = some (r1, r2, r3, r4, r5, r6)) :
  Calls Tryd.prog 20 #[.agg #[.int .u8 a0_0, .bool a0_1, .slice A0_2 l0_2.length c0_2, .slice A0_3 l0_3.length c0_3, .slice A0_4 l0_4.length c0_4], .string a1] w fun e w' => ∃ v2_ v3_ v4_ : Value, e = .returned (.tuple #[.agg #[.int .u8 r1, .bool r2, v2_, v3_, v4_], .int .i64 r6]) ∧ Kd.R (Kd.int .u8) 5 w' w.heap.size (fun k_ => (w.heap.size ≤ k_)) v2_ r3 ∧ Kd.R Kd.string 9 w' w.heap.size (fun k_ => (w.heap.size ≤ k_)) v3_ r4 ∧ Kd.R k26 26 w' w.heap.size (fun k_ => (w.heap.size ≤ k_) ∧ some k_ ≠ (v2_ : Value).ownBlock ∧ some k_ ≠ (v3_ : Value).ownBlock) v4_ r5 ∧ Below w.heap.size w w' := by
 have hu26 := Tryd.underlying26
 have HO0_2 := Aside0.mk (show Kd.V (Kd.int .u8) 5 w w.heap.size (fun k_ => ((P0_2_ k_ ∨ P0_3_ k_ ∨ P0_4_ k_) ∨ w.heap.size ≤ k_)) (.slice A0_2 l0_2.length c0_2) l0_2 from Kd.V_mono hs0_2 (fun k_ hk => .inl (.inl hk)))
 have HO0_3 := Aside0.mk (show Kd.V Kd.string 9 w w.heap.size (fun k_ => ((P0_2_ k_ ∨ P0_3_ k_ ∨ P0_4_ k_) ∨ w.heap.size ≤ k_)) (.slice A0_3 l0_3.length c0_3) l0_3 from Kd.V_mono hs0_3 (fun k_ hk => .inl (.inr (.inl hk))))
 have HO0_4 := Aside0.mk (show Kd.V k26 26 w w.heap.size (fun k_ => ((P0_2_ k_ ∨ P0_3_ k_ ∨ P0_4_ k_) ∨ w.heap.size ≤ k_)) (.slice A0_4 l0_4.length c0_4) l0_4 from Kd.V_mono hs0_4 (fun k_ hk => .inl (.inr (.inr hk))))
 have HB := Aside0.mk (Below.refl w.heap.size w)
 have H : ((tree_Split.f a1).bind fun bt140 => (if bt140.2 = 0 then (tree_At.l0 k bt140.1 (bt140.1.length : Int) 0 a0_0 a0_1 l0_2 l0_3 l0_4) else (some (0, false, ([] : List Int), ([] : List ByteArray), ([] : List (S26)), bt140.2)))) = some (r1, r2, r3, r4, r5, r6) := h
 clear h
 replace H := Option.bind_eq_some_iff.mp H
 obtain ⟨⟨t140, t141⟩, A30, H⟩ := H
 replace H : (if t141 = 0 then (tree_At.l0 k t140 (t140.length : Int) 0 a0_0 a0_1 l0_2 l0_3 l0_4) else (some (0, false, ([] : List Int), ([] : List ByteArray), ([] : List (S26)), t141))) = some (r1, r2, r3, r4, r5, r6) := H
 have A3 := Aside0.mk A30
 clear A30
 by_cases c4 : t141 = 0
 ·rw [if_pos c4] at H
  have c4b0 : (t141 == 0) = true := beq_iff_eq.mpr c4
  have c4b1 : (t141 != 0) = false := bne_eq_false_iff_eq.mpr c4
  clear c4
  have H' := Aside0.mk H
  clear H
  go_enter Tryd.func20, Tryd.ntmps20
  go_wp2_with (first | ((with_reducible refine gate_dst (N := 2) rfl ?_); refine box_event ?hg (N := 2) ?hd (cs := #[.int .u8 a0_0, .bool a0_1, .slice A0_2 l0_2.length c0_2, .slice A0_3 l0_3.length c0_3, .slice A0_4 l0_4.length c0_4]) (t := 26) ?hr ?_; (case hd => rfl); (case hg => rfl); (case hr => first | (go_simp; done) | (go_simp; rfl)); intro gb138 hg w5 hbox hb; have n0_ := Aside0.mk (Kd.V_below (Kd.V_elderB (by (with_reducible repeat (first | apply Kd.V_alloc | apply Kd.V_drewN | apply Kd.V_drew)); exact HO0_2.out) gb138 (Nat.le_of_eq hg.symm)) hb); have n1_ := Aside0.mk (Kd.V_below (Kd.V_elderB (by (with_reducible repeat (first | apply Kd.V_alloc | apply Kd.V_drewN | apply Kd.V_drew)); exact HO0_3.out) gb138 (Nat.le_of_eq hg.symm)) hb); have n2_ := Aside0.mk (Kd.V_below (Kd.V_elderB (by (with_reducible repeat (first | apply Kd.V_alloc | apply Kd.V_drewN | apply Kd.V_drew)); exact HO0_4.out) gb138 (Nat.le_of_eq hg.symm)) hb); have n3_ := Aside0.mk (below_step (by repeat (first | (with_reducible first | exact HB.out | apply below_alloc | apply pw_below_drewN | apply below_drew1) | exact HB.out)) hb); have n4_ := Aside0.mk (hbox); have n5_ := Aside0.mk ((by rw [hg]; exact (below_size (by repeat (first | (with_reducible first | exact HB.out | apply below_alloc | apply pw_below_drewN | apply below_drew1) | exact HB.out))) : w.heap.size ≤ gb138)); have n6_ := Aside0.mk ((by rw [hg]; exact (below_size (by repeat (first | (with_reducible first | exact HB.out | apply below_alloc | apply pw_below_drewN | apply below_drew1) | exact HB.out))) : w.heap.size ≤ gb138)); clear HO0_2; clear HO0_3; clear HO0_4; clear HB; have HO0_2 := n0_; have HO0_3 := n1_; have HO0_4 := n2_; have HB := n3_; have BK138 := n4_; have GW138 := n5_; have GE138 := n6_; clear n0_ n1_ n2_ n3_ n4_ n5_ n6_; clear hb hbox hg) | ((with_reducible refine gate_dst (N := 4) rfl ?_); refine box_event ?hg (N := 4) ?hd (cs := #[.int .u8 0, .bool false, .slice none 0 0, .slice none 0 0, .slice none 0 0]) (t := 26) ?hr ?_; (case hd => rfl); (case hg => rfl); (case hr => first | (go_simp; done) | (go_simp; rfl)); intro gb139 hg w6 hbox hb; have n0_ := Aside0.mk (Kd.V_below (Kd.V_elderB (by (with_reducible repeat (first | apply Kd.V_alloc | apply Kd.V_drewN | apply Kd.V_drew)); exact HO0_2.out) gb139 (Nat.le_of_eq hg.symm)) hb); have n1_ := Aside0.mk (Kd.V_below (Kd.V_elderB (by (with_reducible repeat (first | apply Kd.V_alloc | apply Kd.V_drewN | apply Kd.V_drew)); exact HO0_3.out) gb139 (Nat.le_of_eq hg.symm)) hb); have n2_ := Aside0.mk (Kd.V_below (Kd.V_elderB (by (with_reducible repeat (first | apply Kd.V_alloc | apply Kd.V_drewN | apply Kd.V_drew)); exact HO0_4.out) gb139 (Nat.le_of_eq hg.symm)) hb); have n3_ := Aside0.mk (blk_below (g := gb138) (o := .cells #[.int .u8 a0_0, .bool a0_1, .slice A0_2 l0_2.length c0_2, .slice A0_3 l0_3.length c0_3, .slice A0_4 l0_4.length c0_4] 26 (0, 0)) (by (with_reducible repeat (first | refine blk_drewN ?_ _ | refine blk_drew ?_ | refine blk_alloc ?_ _)); exact BK138.out) hb); have n4_ := Aside0.mk (below_step (by repeat (first | (with_reducible first | exact HB.out | apply below_alloc | apply pw_below_drewN | apply below_drew1 | refine below_set ?_ GE138.out) | exact HB.out)) hb); have n5_ := Aside0.mk (hbox); have n6_ := Aside0.mk ((by rw [hg]; exact (below_size (by repeat (first | (with_reducible first | exact HB.out | apply below_alloc | apply pw_below_drewN | apply below_drew1 | refine below_set ?_ GE138.out) | exact HB.out))) : w.heap.size ≤ gb139)); have n7_ := Aside0.mk ((by rw [hg]; exact (below_size (by repeat (first | (with_reducible first | exact HB.out | apply below_alloc | apply pw_below_drewN | apply below_drew1 | refine below_set ?_ GE138.out) | exact HB.out))) : w.heap.size ≤ gb139)); have n8_ := Aside0.mk ((by rw [hg]; exact Nat.ne_of_lt (blk_lt (g := gb138) (o := .cells #[.int .u8 a0_0, .bool a0_1, .slice A0_2 l0_2.length c0_2, .slice A0_3 l0_3.length c0_3, .slice A0_4 l0_4.length c0_4] 26 (0, 0)) (by (with_reducible repeat (first | refine blk_drewN ?_ _ | refine blk_drew ?_ | refine blk_alloc ?_ _)); exact BK138.out)) : gb138 ≠ gb139)); have n9_ := Aside0.mk ((by rw [hg]; exact Nat.ne_of_gt (blk_lt (g := gb138) (o := .cells #[.int .u8 a0_0, .bool a0_1, .slice A0_2 l0_2.length c0_2, .slice A0_3 l0_3.length c0_3, .slice A0_4 l0_4.length c0_4] 26 (0, 0)) (by (with_reducible repeat (first | refine blk_drewN ?_ _ | refine blk_drew ?_ | refine blk_alloc ?_ _)); exact BK138.out)) : gb139 ≠ gb138)); clear HO0_2; clear HO0_3; clear HO0_4; clear BK138; clear HB; have HO0_2 := n0_; have HO0_3 := n1_; have HO0_4 := n2_; have BK138 := n3_; have HB := n4_; have BK139 := n5_; have GW139 := n6_; have GE139 := n7_; have NB138_139 := n8_; have NB139_138 := n9_; clear n0_ n1_ n2_ n3_ n4_ n5_ n6_ n7_ n8_ n9_; clear hb hbox hg) | ((with_reducible refine gate_callee (f := 17) rfl ?_); refine goesL_ (some 14) rfl rfl Tryd.func17 (by kernel_rfl) rfl #[.string a1] rfl (by (try simp only [List.map_toArray, List.map_cons, List.map_nil]); first | done | rfl | (simp only [List.length_drop, List.length_take]; rfl)) ?_; (with_reducible refine (tree_Split.calls a1 t140 t141 _ A3.out).mono ?_); rintro e w7 ⟨v142, rfl, ho0, hb⟩; refine ⟨_, rfl, ?_⟩; have n0_ := Aside0.mk (Kd.V_elder' (by (with_reducible repeat (first | apply Kd.V_alloc | apply Kd.V_drewN | apply Kd.V_drew)); exact HO0_2.out) (Kd.R_base ho0) hb); have n1_ := Aside0.mk (Kd.V_elder' (by (with_reducible repeat (first | apply Kd.V_alloc | apply Kd.V_drewN | apply Kd.V_drew)); exact HO0_3.out) (Kd.R_base ho0) hb); have n2_ := Aside0.mk (Kd.V_elder' (by (with_reducible repeat (first | apply Kd.V_alloc | apply Kd.V_drewN | apply Kd.V_drew)); exact HO0_4.out) (Kd.R_base ho0) hb); have n3_ := Aside0.mk (Kd.R_lower (Kd.R_newM (M := fun k_ => (w.heap.size ≤ k_)) ho0 (below_size (by repeat (first | (with_reducible first | exact HB.out | apply below_alloc | apply pw_below_drewN | apply below_drew1 | refine below_set ?_ GE138.out | refine below_set ?_ GE139.out) | exact HB.out))) (fun k_ h_ => h_)) (below_size (by repeat (first | (with_reducible first | exact HB.out | apply below_alloc | apply pw_below_drewN | apply below_drew1 | refine below_set ?_ GE138.out | refine below_set ?_ GE139.out) | exact HB.out)))); have n4_ := Aside0.mk (blk_below (g := gb138) (o := .cells #[.int .u8 a0_0, .bool a0_1, .slice A0_2 l0_2.length c0_2, .slice A0_3 l0_3.length c0_3, .slice A0_4 l0_4.length c0_4] 26 (0, 0)) (by (with_reducible repeat (first | refine blk_drewN ?_ _ | refine blk_drew ?_ | refine blk_alloc ?_ _)); exact BK138.out) hb); have n5_ := Aside0.mk (blk_below (g := gb139) (o := .cells #[.int .u8 0, .bool false, .slice none 0 0, .slice none 0 0, .slice none 0 0] 26 (0, 0)) (by (with_reducible repeat (first | refine blk_drewN ?_ _ | refine blk_drew ?_ | refine blk_alloc ?_ _)); exact BK139.out) hb); have n6_ := Aside0.mk (below_step (by repeat (first | (with_reducible first | exact HB.out | apply below_alloc | apply pw_below_drewN | apply below_drew1 | refine below_set ?_ GE138.out | refine below_set ?_ GE139.out) | exact HB.out)) hb); clear HO0_2; clear HO0_3; clear HO0_4; clear BK138; clear BK139; clear HB; have HO0_2 := n0_; have HO0_3 := n1_; have HO0_4 := n2_; have HO143 := n3_; have BK138 := n4_; have BK139 := n5_; have HB := n6_; clear n0_ n1_ n2_ n3_ n4_ n5_ n6_; (try clear hb); (try clear hb2); (try clear hk); (try clear hi); (try clear ho0); obtain ⟨Ao8, co8, eo8⟩ := Kd.R_slice HO143.out; subst eo8))
  go_loopg [23] k (fun kq v23 w' => ∃ (x23_1 : Int) (x139000_1 : Int) (x139001_1 : Bool) (x139002_1 : List Int) (x139003_1 : List ByteArray) (x139004_1 : List (S26)) (x140000_1 : Int) (x140001_1 : Bool) (u139002 : Value) (u139003 : Value) (u139004 : Value), v23 = .int .i64 x23_1 ∧ Aside0 (tree_At.l0 kq t140 (t140.length : Int) x23_1 x139000_1 x139001_1 x139002_1 x139003_1 x139004_1 = some (r1, r2, r3, r4, r5, r6)) ∧ Aside0 (kq ≤ k) ∧ Aside0 (Kd.R Kd.string 9 w' w.heap.size (fun k_ => (w.heap.size ≤ k_)) (.slice Ao8 t140.length co8) t140) ∧ Aside0 (Kd.V (Kd.int .u8) 5 w' w.heap.size (fun k_ => ((P0_2_ k_ ∨ P0_3_ k_ ∨ P0_4_ k_) ∨ w.heap.size ≤ k_) ∧ some k_ ≠ ((.slice Ao8 t140.length co8) : Value).ownBlock ∧ k_ ≠ gb138 ∧ k_ ≠ gb139) u139002 x139002_1) ∧ Aside0 (Kd.V Kd.string 9 w' w.heap.size (fun k_ => ((P0_2_ k_ ∨ P0_3_ k_ ∨ P0_4_ k_) ∨ w.heap.size ≤ k_) ∧ some k_ ≠ ((.slice Ao8 t140.length co8) : Value).ownBlock ∧ k_ ≠ gb138 ∧ k_ ≠ gb139) u139003 x139003_1) ∧ Aside0 (Kd.V k26 26 w' w.heap.size (fun k_ => ((P0_2_ k_ ∨ P0_3_ k_ ∨ P0_4_ k_) ∨ w.heap.size ≤ k_) ∧ some k_ ≠ ((.slice Ao8 t140.length co8) : Value).ownBlock ∧ k_ ≠ gb138 ∧ k_ ≠ gb139) u139004 x139004_1) ∧ Aside0 (w'.heap[gb138]? = some (.cells #[.int .u8 x139000_1, .bool x139001_1, u139002, u139003, u139004] 26 (0, 0))) ∧ Aside0 (w'.heap[gb139]? = some (.cells #[.int .u8 x140000_1, .bool x140001_1, (.slice none 0 0), (.slice none 0 0), (.slice none 0 0)] 26 (0, 0))) ∧ Aside0 (Below w.heap.size w w'))
  case atStart => exact ⟨(0), (a0_0), (a0_1), (l0_2), (l0_3), (l0_4), (0), (false), (.slice A0_2 l0_2.length c0_2), (.slice A0_3 l0_3.length c0_3), (.slice A0_4 l0_4.length c0_4), (by first | rfl | (simp; done) | (simp [*]; done)), H', ⟨Nat.le_refl _⟩, ⟨by (with_reducible repeat (first | apply Kd.R_alloc | apply Kd.R_drewN | apply Kd.R_drew)); exact Kd.R_mono HO143.out (fun _ hk => hk.1)⟩, ⟨by (with_reducible repeat (first | apply Kd.V_alloc | apply Kd.V_drewN | apply Kd.V_drew)); exact Kd.V_mono HO0_2.out (fun _ hk => ⟨hk.1.1.1, ⟨hk.2, ⟨hk.1.1.2, hk.1.2⟩⟩⟩)⟩, ⟨by (with_reducible repeat (first | apply Kd.V_alloc | apply Kd.V_drewN | apply Kd.V_drew)); exact Kd.V_mono HO0_3.out (fun _ hk => ⟨hk.1.1.1, ⟨hk.2, ⟨hk.1.1.2, hk.1.2⟩⟩⟩)⟩, ⟨by (with_reducible repeat (first | apply Kd.V_alloc | apply Kd.V_drewN | apply Kd.V_drew)); exact Kd.V_mono HO0_4.out (fun _ hk => ⟨hk.1.1.1, ⟨hk.2, ⟨hk.1.1.2, hk.1.2⟩⟩⟩)⟩, ⟨by (with_reducible repeat (first | refine blk_drewN ?_ _ | refine blk_drew ?_ | refine blk_alloc ?_ _)); exact BK138.out⟩, ⟨by (with_reducible repeat (first | refine blk_drewN ?_ _ | refine blk_drew ?_ | refine blk_alloc ?_ _)); exact BK139.out⟩, ⟨by repeat (first | (with_reducible first | exact HB.out | apply below_alloc | apply pw_below_drewN | apply below_drew1 | refine below_set ?_ GE138.out | refine below_set ?_ GE139.out) | exact HB.out)⟩⟩
  case round =>
   clear H'
   try clear c1
   try clear c2
   try clear p2
   try clear c4
   try clear c4b0
   try clear c4b1
   obtain ⟨x23_1, x139000_1, x139001_1, x139002_1, x139003_1, x139004_1, x140000_1, x140001_1, u139002, u139003, u139004, rfl, HA, HK1, HO_21, HO_139002, HO_139003, HO_139004, BK138, BK139, HB⟩ := hrel
   cases gk with
   | zero => exact absurd HA.out (by simp [tree_At.l0])
   | succ k1 =>
    have H := HA.out
    clear HA
    simp only [tree_At.l0] at H
    by_cases c9 : x23_1 < (t140.length : Int)
    ·rw [if_pos c9] at H
     have c9b0 : decide (x23_1 < (t140.length : Int)) = true := decide_eq_true c9
     clear c9
     by_cases c10 : 0 ≤ x23_1
     ·rw [if_pos c10] at H
      have c10b0 : decide (0 ≤ x23_1) = true := decide_eq_true c10
      clear c10
      by_cases c11 : x23_1 < (t140.length : Int)
      ·rw [if_pos c11] at H
       have c11b0 : decide (x23_1 < (t140.length : Int)) = true := decide_eq_true c11
       clear c11
       by_cases c12 : x139000_1 = 3
       ·rw [if_pos c12] at H
        have c12b0 : (x139000_1 == 3) = true := beq_iff_eq.mpr c12
        have c12b1 : (x139000_1 != 3) = false := bne_eq_false_iff_eq.mpr c12
        clear c12
        replace H := Option.bind_eq_some_iff.mp H
        obtain ⟨⟨t156, t157⟩, A130, H⟩ := H
        replace H : (if t157 = true then (if 0 ≤ t156 then (if t156 < (x139004_1.length : Int) then (tree_At.l0 k1 t140 (t140.length : Int) (wrap64 (x23_1 + 1)) ((rd_T26 x139004_1 t156).f0) ((rd_T26 x139004_1 t156).f1) ((rd_T26 x139004_1 t156).f2) ((rd_T26 x139004_1 t156).f3) ((rd_T26 x139004_1 t156).f4)) else (none)) else (none)) else (some (0, false, ([] : List Int), ([] : List ByteArray), ([] : List (S26)), 6))) = some (r1, r2, r3, r4, r5, r6) := H
        have A13 := Aside0.mk A130
        clear A130
        by_cases c14 : t157 = true
        ·subst c14
         have H1 : (if 0 ≤ t156 then (if t156 < (x139004_1.length : Int) then (tree_At.l0 k1 t140 (t140.length : Int) (wrap64 (x23_1 + 1)) ((rd_T26 x139004_1 t156).f0) ((rd_T26 x139004_1 t156).f1) ((rd_T26 x139004_1 t156).f2) ((rd_T26 x139004_1 t156).f3) ((rd_T26 x139004_1 t156).f4)) else (none)) else (none)) = some (r1, r2, r3, r4, r5, r6) := by rw [if_pos rfl] at H; exact H
         clear H
         have H := H1
         clear H1
         by_cases c15 : 0 ≤ t156
         ·rw [if_pos c15] at H
          have c15b0 : decide (0 ≤ t156) = true := decide_eq_true c15
          clear c15
          by_cases c16 : t156 < (x139004_1.length : Int)
          ·rw [if_pos c16] at H
           have c16b0 : decide (t156 < (x139004_1.length : Int)) = true := decide_eq_true c16
           clear c16
           have H' := Aside0.mk H
           clear H
           have p155 : 0 ≤ (x23_1 : Int) := of_decide_eq_true (by first | (with_reducible assumption) | assumption)
           have q155 : x23_1 < (t140.length : Int) := of_decide_eq_true (by first | (with_reducible assumption) | assumption)
           obtain ⟨ad155, e155, hx155_0⟩ := Kd.at_string (Kd.R_reads' HO_21.out).2.2 x23_1 p155 q155
           cases e155
           replace p155 := eq_true p155
           replace q155 := eq_true q155
           have hnb17 := NB138_139.out
           have hnc17 := NB139_138.out
           have hcz18_0 : wr.cell? ⟨gb138, 0, none⟩ = some (.int .u8 x139000_1) := (blk_cell BK138.out 0).trans rfl
           have hcz18_1 : wr.cell? ⟨gb138, 1, none⟩ = some (.bool x139001_1) := (blk_cell BK138.out 1).trans rfl
           have hcz18_2 : wr.cell? ⟨gb138, 2, none⟩ = some (u139002) := (blk_cell BK138.out 2).trans rfl
           have hcz18_3 : wr.cell? ⟨gb138, 3, none⟩ = some (u139003) := (blk_cell BK138.out 3).trans rfl
           have hcz18_4 : wr.cell? ⟨gb138, 4, none⟩ = some (u139004) := (blk_cell BK138.out 4).trans rfl
           have hfz18_0 := blk_frozen BK138.out 0
           have hfz18_1 := blk_frozen BK138.out 1
           have hfz18_2 := blk_frozen BK138.out 2
           have hfz18_3 := blk_frozen BK138.out 3
           have hfz18_4 := blk_frozen BK138.out 4
           obtain ⟨Ao19, co19, eo19⟩ := Kd.V_slice HO_139003.out
           subst eo19
           go_wp2_with (first | ((with_reducible refine gate_callee (f := 35) rfl ?_); refine goesL_ (some 35) rfl rfl Tryd.func35 (by kernel_rfl) rfl #[.slice Ao19 x139003_1.length co19, .string (rdOf ByteArray.empty t140 x23_1)] rfl (by (try simp only [List.map_toArray, List.map_cons, List.map_nil]); first | done | rfl | (simp only [List.length_drop, List.length_take]; rfl)) ?_; (with_reducible refine (sl_BinarySearch_ss.calls k1 _ _ x139003_1 (rdOf ByteArray.empty t140 x23_1) t156 true _ ?side1 ?side2 A13.out).mono ?_); (case side1 => repeat (first | exact (Kd.V_reads' HO_139003.out).2.2 | (with_reducible refine Kd.C_alloc ?_ _) | (with_reducible refine Kd.C_drewN ?_ _) | (with_reducible refine Kd.C_drew ?_))); (case side2 => exact (Kd.V_reads' HO_139003.out).2.1); rintro e w' ⟨rfl, ⟨nd, rfl⟩⟩; refine ⟨_, rfl, ?_⟩; (try (rw [drewN_self wr]; generalize hq_ : World.drewN wr _ = wr; have n0_ : Aside0 (Kd.V (Kd.int .u8) 5 wr w.heap.size (fun k_ => ((P0_2_ k_ ∨ P0_3_ k_ ∨ P0_4_ k_) ∨ w.heap.size ≤ k_) ∧ some k_ ≠ (.slice (some ad155) t140.length co8 : Value).ownBlock ∧ k_ ≠ gb138 ∧ k_ ≠ gb139) u139002 x139002_1) := ⟨by rw [← hq_]; exact (by (with_reducible repeat (first | apply Kd.V_alloc | apply Kd.V_drewN | apply Kd.V_drew)); exact HO_139002.out)⟩; have n1_ : Aside0 (Kd.V Kd.string 9 wr w.heap.size (fun k_ => ((P0_2_ k_ ∨ P0_3_ k_ ∨ P0_4_ k_) ∨ w.heap.size ≤ k_) ∧ some k_ ≠ (.slice (some ad155) t140.length co8 : Value).ownBlock ∧ k_ ≠ gb138 ∧ k_ ≠ gb139) (.slice Ao19 x139003_1.length co19) x139003_1) := ⟨by rw [← hq_]; exact (by (with_reducible repeat (first | apply Kd.V_alloc | apply Kd.V_drewN | apply Kd.V_drew)); exact HO_139003.out)⟩; have n2_ : Aside0 (Kd.V k26 26 wr w.heap.size (fun k_ => ((P0_2_ k_ ∨ P0_3_ k_ ∨ P0_4_ k_) ∨ w.heap.size ≤ k_) ∧ some k_ ≠ (.slice (some ad155) t140.length co8 : Value).ownBlock ∧ k_ ≠ gb138 ∧ k_ ≠ gb139) u139004 x139004_1) := ⟨by rw [← hq_]; exact (by (with_reducible repeat (first | apply Kd.V_alloc | apply Kd.V_drewN | apply Kd.V_drew)); exact HO_139004.out)⟩; have n3_ : Aside0 (Kd.R Kd.string 9 wr w.heap.size (fun k_ => (w.heap.size ≤ k_)) (.slice (some ad155) t140.length co8) t140) := ⟨by rw [← hq_]; exact (by (with_reducible repeat (first | apply Kd.R_alloc | apply Kd.R_drewN | apply Kd.R_drew)); exact HO_21.out)⟩; have n4_ : Aside0 (wr.heap[gb138]? = some (.cells #[.int .u8 x139000_1, .bool x139001_1, u139002, .slice Ao19 x139003_1.length co19, u139004] 26 (0, 0))) := ⟨by rw [← hq_]; exact (by (with_reducible repeat (first | refine blk_drewN ?_ _ | refine blk_drew ?_ | refine blk_alloc ?_ _)); exact BK138.out)⟩; have n5_ : Aside0 (wr.heap[gb139]? = some (.cells #[.int .u8 x140000_1, .bool x140001_1, .slice none 0 0, .slice none 0 0, .slice none 0 0] 26 (0, 0))) := ⟨by rw [← hq_]; exact (by (with_reducible repeat (first | refine blk_drewN ?_ _ | refine blk_drew ?_ | refine blk_alloc ?_ _)); exact BK139.out)⟩; have n6_ : Aside0 (Below w.heap.size w wr) := ⟨by rw [← hq_]; exact (by repeat (first | (with_reducible first | exact HB.out | apply below_alloc | apply pw_below_drewN | apply below_drew1 | refine below_set ?_ GE138.out | refine below_set ?_ GE139.out) | exact HB.out))⟩; clear HO_139002 HO_139003 HO_139004 HO_21 BK138 BK139 HB hq_; have HO_139002 := n0_; have HO_139003 := n1_; have HO_139004 := n2_; have HO_21 := n3_; have BK138 := n4_; have BK139 := n5_; have HB := n6_; clear n0_ n1_ n2_ n3_ n4_ n5_ n6_)); have hcu138_0 : wr.cell? ⟨gb138, 0, none⟩ = some (.int .u8 x139000_1) := (blk_cell BK138.out 0).trans rfl; have hfu138_0 := blk_frozen BK138.out 0; have hcu138_1 : wr.cell? ⟨gb138, 1, none⟩ = some (.bool x139001_1) := (blk_cell BK138.out 1).trans rfl; have hfu138_1 := blk_frozen BK138.out 1; have hcu138_2 : wr.cell? ⟨gb138, 2, none⟩ = some (u139002) := (blk_cell BK138.out 2).trans rfl; have hfu138_2 := blk_frozen BK138.out 2; have hcu138_3 : wr.cell? ⟨gb138, 3, none⟩ = some (.slice Ao19 x139003_1.length co19) := (blk_cell BK138.out 3).trans rfl; have hfu138_3 := blk_frozen BK138.out 3; have hcu138_4 : wr.cell? ⟨gb138, 4, none⟩ = some (u139004) := (blk_cell BK138.out 4).trans rfl; have hfu138_4 := blk_frozen BK138.out 4; have hcu139_0 : wr.cell? ⟨gb139, 0, none⟩ = some (.int .u8 x140000_1) := (blk_cell BK139.out 0).trans rfl; have hfu139_0 := blk_frozen BK139.out 0; have hcu139_1 : wr.cell? ⟨gb139, 1, none⟩ = some (.bool x140001_1) := (blk_cell BK139.out 1).trans rfl; have hfu139_1 := blk_frozen BK139.out 1; have hcu139_2 : wr.cell? ⟨gb139, 2, none⟩ = some (.slice none 0 0) := (blk_cell BK139.out 2).trans rfl; have hfu139_2 := blk_frozen BK139.out 2; have hcu139_3 : wr.cell? ⟨gb139, 3, none⟩ = some (.slice none 0 0) := (blk_cell BK139.out 3).trans rfl; have hfu139_3 := blk_frozen BK139.out 3; have hcu139_4 : wr.cell? ⟨gb139, 4, none⟩ = some (.slice none 0 0) := (blk_cell BK139.out 4).trans rfl; have hfu139_4 := blk_frozen BK139.out 4; obtain ⟨Ao20, co20, eo20⟩ := Kd.V_slice HO_139004.out; subst eo20; have p158 : 0 ≤ (t156 : Int) := of_decide_eq_true (by first | (with_reducible assumption) | assumption); have q158 : t156 < (x139004_1.length : Int) := of_decide_eq_true (by first | (with_reducible assumption) | assumption); obtain ⟨ad158, A158_2, c158_2, A158_3, c158_3, A158_4, c158_4, e158, hx158_0, hx158_1, hx158_2, hx158_3, hx158_4, hl158_2, hi158_2, hl158_3, hi158_3, hl158_4, hi158_4⟩ := at_T26 (Kd.V_reads' HO_139004.out).2.2 t156 p158 q158; cases e158; obtain ⟨ce158, hce158, hMe158, hcc158⟩ := Kd.V_get HO_139004.out z26 t156 p158 (by first | exact q158 | exact of_decide_eq_true (by first | (with_reducible assumption) | assumption) | (have e_ := (Kd.V_reads' HO_139004.out).1; omega)); obtain ⟨ua158_2, uc158_2, ua158_3, uc158_3, ua158_4, uc158_4, rfl, ul158_2, ge158_2, ul158_3, ge158_3, ul158_4, ge158_4⟩ := k26_openF hMe158; have hv158_2 := hcc158 2 _ rfl; rw [add_field _ _ 2 (by omega)] at hv158_2; replace hv158_2 := Option.some.inj (hv158_2.symm.trans hx158_2); injection hv158_2 with hva_ hvn_ hvc_; rw [hva_] at ge158_2; rw [hvc_] at ul158_2; have HL158_2 := Aside0.mk (show Kd.V (Kd.int .u8) 5 _ w.heap.size _ _ ((rd_T26 x139004_1 t156).f2) from Kd.V_mk ul158_2 ge158_2); clear hva_ hvn_ hvc_ ge158_2 ul158_2; have hv158_3 := hcc158 3 _ rfl; rw [add_field _ _ 3 (by omega)] at hv158_3; replace hv158_3 := Option.some.inj (hv158_3.symm.trans hx158_3); injection hv158_3 with hva_ hvn_ hvc_; rw [hva_] at ge158_3; rw [hvc_] at ul158_3; have HL158_3 := Aside0.mk (show Kd.V Kd.string 9 _ w.heap.size _ _ ((rd_T26 x139004_1 t156).f3) from Kd.V_mk ul158_3 ge158_3); clear hva_ hvn_ hvc_ ge158_3 ul158_3; have hv158_4 := hcc158 4 _ rfl; rw [add_field _ _ 4 (by omega)] at hv158_4; replace hv158_4 := Option.some.inj (hv158_4.symm.trans hx158_4); injection hv158_4 with hva_ hvn_ hvc_; rw [hva_] at ge158_4; rw [hvc_] at ul158_4; have HL158_4 := Aside0.mk (show Kd.V k26 26 _ w.heap.size _ _ ((rd_T26 x139004_1 t156).f4) from Kd.V_mk ul158_4 ge158_4); clear hva_ hvn_ hvc_ ge158_4 ul158_4; clear hcc158 hce158; have HR158_2 := Aside0.mk hi158_2; have HC158_2 := Aside0.mk hl158_2; clear hi158_2 hl158_2; have HR158_3 := Aside0.mk hi158_3; have HC158_3 := Aside0.mk hl158_3; clear hi158_3 hl158_3; have HR158_4 := Aside0.mk hi158_4; have HC158_4 := Aside0.mk hl158_4; clear hi158_4 hl158_4; replace p158 := eq_true p158; replace q158 := eq_true q158))
           go_roundg k1
           case measure => have := HK1.out; omega
           case rel => exact ⟨(wrap64 (x23_1 + 1)), ((rd_T26 x139004_1 t156).f0), ((rd_T26 x139004_1 t156).f1), ((rd_T26 x139004_1 t156).f2), ((rd_T26 x139004_1 t156).f3), ((rd_T26 x139004_1 t156).f4), (x140000_1), (x140001_1), (.slice A158_2 ((rd_T26 x139004_1 t156).f2).length c158_2), (.slice A158_3 ((rd_T26 x139004_1 t156).f3).length c158_3), (.slice A158_4 ((rd_T26 x139004_1 t156).f4).length c158_4), (by first | rfl | (simp; done) | (simp [*]; done)), H', ⟨by have := HK1.out; omega⟩, ⟨by (with_reducible repeat (first | apply Kd.R_alloc | apply Kd.R_drewN | apply Kd.R_drew)); exact Kd.R_mono (Kd.R_far (p := ⟨gb138, 4, none⟩) (Kd.R_far (p := ⟨gb138, 3, none⟩) (Kd.R_far (p := ⟨gb138, 2, none⟩) (Kd.R_far (p := ⟨gb138, 1, none⟩) (Kd.R_far (p := ⟨gb138, 0, none⟩) (Kd.R_types HO_21.out BK138.out (by decide)) (fun _ hk => hk.2) (.int .u8 ((rd_T26 x139004_1 t156).f0))) (fun _ hk => hk.2) (.bool ((rd_T26 x139004_1 t156).f1))) (fun _ hk => hk.2) (.slice A158_2 ((rd_T26 x139004_1 t156).f2).length c158_2)) (fun _ hk => hk.2) (.slice A158_3 ((rd_T26 x139004_1 t156).f3).length c158_3)) (fun _ hk => hk.2) (.slice A158_4 ((rd_T26 x139004_1 t156).f4).length c158_4)) (fun _ hk => hk.1)⟩, ⟨by (with_reducible repeat (first | apply Kd.V_alloc | apply Kd.V_drewN | apply Kd.V_drew)); exact Kd.V_mono (Kd.V_far (p := ⟨gb138, 4, none⟩) (Kd.V_far (p := ⟨gb138, 3, none⟩) (Kd.V_far (p := ⟨gb138, 2, none⟩) (Kd.V_far (p := ⟨gb138, 1, none⟩) (Kd.V_far (p := ⟨gb138, 0, none⟩) (Kd.V_mono HL158_2.out (fun k_ hk => (⟨hk, hk.2.2.1⟩ : _ ∧ k_ ≠ gb138))) (fun _ hk => hk.2) (.int .u8 ((rd_T26 x139004_1 t156).f0))) (fun _ hk => hk.2) (.bool ((rd_T26 x139004_1 t156).f1))) (fun _ hk => hk.2) (.slice A158_2 ((rd_T26 x139004_1 t156).f2).length c158_2)) (fun _ hk => hk.2) (.slice A158_3 ((rd_T26 x139004_1 t156).f3).length c158_3)) (fun _ hk => hk.2) (.slice A158_4 ((rd_T26 x139004_1 t156).f4).length c158_4)) (fun _ hk => ⟨hk.1.1, ⟨hk.1.2.1, ⟨hk.1.2.2.1, hk.1.2.2.2⟩⟩⟩)⟩, ⟨by (with_reducible repeat (first | apply Kd.V_alloc | apply Kd.V_drewN | apply Kd.V_drew)); exact Kd.V_mono (Kd.V_far (p := ⟨gb138, 4, none⟩) (Kd.V_far (p := ⟨gb138, 3, none⟩) (Kd.V_far (p := ⟨gb138, 2, none⟩) (Kd.V_far (p := ⟨gb138, 1, none⟩) (Kd.V_far (p := ⟨gb138, 0, none⟩) (Kd.V_mono HL158_3.out (fun k_ hk => (⟨hk, hk.2.2.1⟩ : _ ∧ k_ ≠ gb138))) (fun _ hk => hk.2) (.int .u8 ((rd_T26 x139004_1 t156).f0))) (fun _ hk => hk.2) (.bool ((rd_T26 x139004_1 t156).f1))) (fun _ hk => hk.2) (.slice A158_2 ((rd_T26 x139004_1 t156).f2).length c158_2)) (fun _ hk => hk.2) (.slice A158_3 ((rd_T26 x139004_1 t156).f3).length c158_3)) (fun _ hk => hk.2) (.slice A158_4 ((rd_T26 x139004_1 t156).f4).length c158_4)) (fun _ hk => ⟨hk.1.1, ⟨hk.1.2.1, ⟨hk.1.2.2.1, hk.1.2.2.2⟩⟩⟩)⟩, ⟨by (with_reducible repeat (first | apply Kd.V_alloc | apply Kd.V_drewN | apply Kd.V_drew)); exact Kd.V_mono (Kd.V_far (p := ⟨gb138, 4, none⟩) (Kd.V_far (p := ⟨gb138, 3, none⟩) (Kd.V_far (p := ⟨gb138, 2, none⟩) (Kd.V_far (p := ⟨gb138, 1, none⟩) (Kd.V_far (p := ⟨gb138, 0, none⟩) (Kd.V_mono HL158_4.out (fun k_ hk => (⟨hk, hk.2.2.1⟩ : _ ∧ k_ ≠ gb138))) (fun _ hk => hk.2) (.int .u8 ((rd_T26 x139004_1 t156).f0))) (fun _ hk => hk.2) (.bool ((rd_T26 x139004_1 t156).f1))) (fun _ hk => hk.2) (.slice A158_2 ((rd_T26 x139004_1 t156).f2).length c158_2)) (fun _ hk => hk.2) (.slice A158_3 ((rd_T26 x139004_1 t156).f3).length c158_3)) (fun _ hk => hk.2) (.slice A158_4 ((rd_T26 x139004_1 t156).f4).length c158_4)) (fun _ hk => ⟨hk.1.1, ⟨hk.1.2.1, ⟨hk.1.2.2.1, hk.1.2.2.2⟩⟩⟩)⟩, ⟨by (with_reducible repeat (first | refine blk_drewN ?_ _ | refine blk_drew ?_ | refine blk_alloc ?_ _)); refine blk_put (cs := #[.int .u8 ((rd_T26 x139004_1 t156).f0), .bool ((rd_T26 x139004_1 t156).f1), .slice A158_2 ((rd_T26 x139004_1 t156).f2).length c158_2, .slice A158_3 ((rd_T26 x139004_1 t156).f3).length c158_3, .slice (some ad158) x139004_1.length co20]) ?_ 4 _ rfl; (with_reducible repeat (first | refine blk_drewN ?_ _ | refine blk_drew ?_ | refine blk_alloc ?_ _)); refine blk_put (cs := #[.int .u8 ((rd_T26 x139004_1 t156).f0), .bool ((rd_T26 x139004_1 t156).f1), .slice A158_2 ((rd_T26 x139004_1 t156).f2).length c158_2, .slice Ao19 x139003_1.length co19, .slice (some ad158) x139004_1.length co20]) ?_ 3 _ rfl; (with_reducible repeat (first | refine blk_drewN ?_ _ | refine blk_drew ?_ | refine blk_alloc ?_ _)); refine blk_put (cs := #[.int .u8 ((rd_T26 x139004_1 t156).f0), .bool ((rd_T26 x139004_1 t156).f1), u139002, .slice Ao19 x139003_1.length co19, .slice (some ad158) x139004_1.length co20]) ?_ 2 _ rfl; (with_reducible repeat (first | refine blk_drewN ?_ _ | refine blk_drew ?_ | refine blk_alloc ?_ _)); refine blk_put (cs := #[.int .u8 ((rd_T26 x139004_1 t156).f0), .bool x139001_1, u139002, .slice Ao19 x139003_1.length co19, .slice (some ad158) x139004_1.length co20]) ?_ 1 _ rfl; (with_reducible repeat (first | refine blk_drewN ?_ _ | refine blk_drew ?_ | refine blk_alloc ?_ _)); refine blk_put (cs := #[.int .u8 x139000_1, .bool x139001_1, u139002, .slice Ao19 x139003_1.length co19, .slice (some ad158) x139004_1.length co20]) ?_ 0 _ rfl; (with_reducible repeat (first | refine blk_drewN ?_ _ | refine blk_drew ?_ | refine blk_alloc ?_ _)); exact BK138.out⟩, ⟨by (with_reducible repeat (first | refine blk_drewN ?_ _ | refine blk_drew ?_ | refine blk_alloc ?_ _)); refine blk_far ?_ NB139_138.out _; (with_reducible repeat (first | refine blk_drewN ?_ _ | refine blk_drew ?_ | refine blk_alloc ?_ _)); refine blk_far ?_ NB139_138.out _; (with_reducible repeat (first | refine blk_drewN ?_ _ | refine blk_drew ?_ | refine blk_alloc ?_ _)); refine blk_far ?_ NB139_138.out _; (with_reducible repeat (first | refine blk_drewN ?_ _ | refine blk_drew ?_ | refine blk_alloc ?_ _)); refine blk_far ?_ NB139_138.out _; (with_reducible repeat (first | refine blk_drewN ?_ _ | refine blk_drew ?_ | refine blk_alloc ?_ _)); refine blk_far ?_ NB139_138.out _; (with_reducible repeat (first | refine blk_drewN ?_ _ | refine blk_drew ?_ | refine blk_alloc ?_ _)); exact BK139.out⟩, ⟨by repeat (first | (with_reducible first | exact HB.out | apply below_alloc | apply pw_below_drewN | apply below_drew1 | refine below_set ?_ GE138.out | refine below_set ?_ GE139.out) | exact HB.out)⟩⟩
          ·rw [if_neg c16] at H
           exact absurd H (by simp)
         ·rw [if_neg c15] at H
          exact absurd H (by simp)
        ·replace c14 := Bool.eq_false_iff.mpr c14
         subst c14
         have H1 : (some (0, false, ([] : List Int), ([] : List ByteArray), ([] : List (S26)), 6)) = some (r1, r2, r3, r4, r5, r6) := by rw [if_neg (show ¬ (false = true) by decide)] at H; exact H
         clear H
         have H := H1
         clear H1
         simp only [Option.some.injEq, Prod.mk.injEq] at H
         obtain ⟨rfl, rfl, rfl, rfl, rfl, rfl⟩ := H
         have p155 : 0 ≤ (x23_1 : Int) := of_decide_eq_true (by first | (with_reducible assumption) | assumption)
         have q155 : x23_1 < (t140.length : Int) := of_decide_eq_true (by first | (with_reducible assumption) | assumption)
         obtain ⟨ad155, e155, hx155_0⟩ := Kd.at_string (Kd.R_reads' HO_21.out).2.2 x23_1 p155 q155
         cases e155
         replace p155 := eq_true p155
         replace q155 := eq_true q155
         have hnb21 := NB138_139.out
         have hnc21 := NB139_138.out
         have hcz22_0 : wr.cell? ⟨gb138, 0, none⟩ = some (.int .u8 x139000_1) := (blk_cell BK138.out 0).trans rfl
         have hcz22_1 : wr.cell? ⟨gb138, 1, none⟩ = some (.bool x139001_1) := (blk_cell BK138.out 1).trans rfl
         have hcz22_2 : wr.cell? ⟨gb138, 2, none⟩ = some (u139002) := (blk_cell BK138.out 2).trans rfl
         have hcz22_3 : wr.cell? ⟨gb138, 3, none⟩ = some (u139003) := (blk_cell BK138.out 3).trans rfl
         have hcz22_4 : wr.cell? ⟨gb138, 4, none⟩ = some (u139004) := (blk_cell BK138.out 4).trans rfl
         have hfz22_0 := blk_frozen BK138.out 0
         have hfz22_1 := blk_frozen BK138.out 1
         have hfz22_2 := blk_frozen BK138.out 2
         have hfz22_3 := blk_frozen BK138.out 3
         have hfz22_4 := blk_frozen BK138.out 4
         obtain ⟨Ao23, co23, eo23⟩ := Kd.V_slice HO_139003.out
         subst eo23
         go_wp2_with (first | ((with_reducible refine gate_callee (f := 35) rfl ?_); refine goesL_ (some 35) rfl rfl Tryd.func35 (by kernel_rfl) rfl #[.slice Ao23 x139003_1.length co23, .string (rdOf ByteArray.empty t140 x23_1)] rfl (by (try simp only [List.map_toArray, List.map_cons, List.map_nil]); first | done | rfl | (simp only [List.length_drop, List.length_take]; rfl)) ?_; (with_reducible refine (sl_BinarySearch_ss.calls k1 _ _ x139003_1 (rdOf ByteArray.empty t140 x23_1) t156 false _ ?side1 ?side2 A13.out).mono ?_); (case side1 => repeat (first | exact (Kd.V_reads' HO_139003.out).2.2 | (with_reducible refine Kd.C_alloc ?_ _) | (with_reducible refine Kd.C_drewN ?_ _) | (with_reducible refine Kd.C_drew ?_))); (case side2 => exact (Kd.V_reads' HO_139003.out).2.1); rintro e w' ⟨rfl, ⟨nd, rfl⟩⟩; refine ⟨_, rfl, ?_⟩; (try (rw [drewN_self wr]; generalize hq_ : World.drewN wr _ = wr; have n0_ : Aside0 (Kd.V (Kd.int .u8) 5 wr w.heap.size (fun k_ => ((P0_2_ k_ ∨ P0_3_ k_ ∨ P0_4_ k_) ∨ w.heap.size ≤ k_) ∧ some k_ ≠ (.slice (some ad155) t140.length co8 : Value).ownBlock ∧ k_ ≠ gb138 ∧ k_ ≠ gb139) u139002 x139002_1) := ⟨by rw [← hq_]; exact (by (with_reducible repeat (first | apply Kd.V_alloc | apply Kd.V_drewN | apply Kd.V_drew)); exact HO_139002.out)⟩; have n1_ : Aside0 (Kd.V Kd.string 9 wr w.heap.size (fun k_ => ((P0_2_ k_ ∨ P0_3_ k_ ∨ P0_4_ k_) ∨ w.heap.size ≤ k_) ∧ some k_ ≠ (.slice (some ad155) t140.length co8 : Value).ownBlock ∧ k_ ≠ gb138 ∧ k_ ≠ gb139) (.slice Ao23 x139003_1.length co23) x139003_1) := ⟨by rw [← hq_]; exact (by (with_reducible repeat (first | apply Kd.V_alloc | apply Kd.V_drewN | apply Kd.V_drew)); exact HO_139003.out)⟩; have n2_ : Aside0 (Kd.V k26 26 wr w.heap.size (fun k_ => ((P0_2_ k_ ∨ P0_3_ k_ ∨ P0_4_ k_) ∨ w.heap.size ≤ k_) ∧ some k_ ≠ (.slice (some ad155) t140.length co8 : Value).ownBlock ∧ k_ ≠ gb138 ∧ k_ ≠ gb139) u139004 x139004_1) := ⟨by rw [← hq_]; exact (by (with_reducible repeat (first | apply Kd.V_alloc | apply Kd.V_drewN | apply Kd.V_drew)); exact HO_139004.out)⟩; have n3_ : Aside0 (Kd.R Kd.string 9 wr w.heap.size (fun k_ => (w.heap.size ≤ k_)) (.slice (some ad155) t140.length co8) t140) := ⟨by rw [← hq_]; exact (by (with_reducible repeat (first | apply Kd.R_alloc | apply Kd.R_drewN | apply Kd.R_drew)); exact HO_21.out)⟩; have n4_ : Aside0 (wr.heap[gb138]? = some (.cells #[.int .u8 x139000_1, .bool x139001_1, u139002, .slice Ao23 x139003_1.length co23, u139004] 26 (0, 0))) := ⟨by rw [← hq_]; exact (by (with_reducible repeat (first | refine blk_drewN ?_ _ | refine blk_drew ?_ | refine blk_alloc ?_ _)); exact BK138.out)⟩; have n5_ : Aside0 (wr.heap[gb139]? = some (.cells #[.int .u8 x140000_1, .bool x140001_1, .slice none 0 0, .slice none 0 0, .slice none 0 0] 26 (0, 0))) := ⟨by rw [← hq_]; exact (by (with_reducible repeat (first | refine blk_drewN ?_ _ | refine blk_drew ?_ | refine blk_alloc ?_ _)); exact BK139.out)⟩; have n6_ : Aside0 (Below w.heap.size w wr) := ⟨by rw [← hq_]; exact (by repeat (first | (with_reducible first | exact HB.out | apply below_alloc | apply pw_below_drewN | apply below_drew1 | refine below_set ?_ GE138.out | refine below_set ?_ GE139.out) | exact HB.out))⟩; clear HO_139002 HO_139003 HO_139004 HO_21 BK138 BK139 HB hq_; have HO_139002 := n0_; have HO_139003 := n1_; have HO_139004 := n2_; have HO_21 := n3_; have BK138 := n4_; have BK139 := n5_; have HB := n6_; clear n0_ n1_ n2_ n3_ n4_ n5_ n6_)); have hcu138_0 : wr.cell? ⟨gb138, 0, none⟩ = some (.int .u8 x139000_1) := (blk_cell BK138.out 0).trans rfl; have hfu138_0 := blk_frozen BK138.out 0; have hcu138_1 : wr.cell? ⟨gb138, 1, none⟩ = some (.bool x139001_1) := (blk_cell BK138.out 1).trans rfl; have hfu138_1 := blk_frozen BK138.out 1; have hcu138_2 : wr.cell? ⟨gb138, 2, none⟩ = some (u139002) := (blk_cell BK138.out 2).trans rfl; have hfu138_2 := blk_frozen BK138.out 2; have hcu138_3 : wr.cell? ⟨gb138, 3, none⟩ = some (.slice Ao23 x139003_1.length co23) := (blk_cell BK138.out 3).trans rfl; have hfu138_3 := blk_frozen BK138.out 3; have hcu138_4 : wr.cell? ⟨gb138, 4, none⟩ = some (u139004) := (blk_cell BK138.out 4).trans rfl; have hfu138_4 := blk_frozen BK138.out 4; have hcu139_0 : wr.cell? ⟨gb139, 0, none⟩ = some (.int .u8 x140000_1) := (blk_cell BK139.out 0).trans rfl; have hfu139_0 := blk_frozen BK139.out 0; have hcu139_1 : wr.cell? ⟨gb139, 1, none⟩ = some (.bool x140001_1) := (blk_cell BK139.out 1).trans rfl; have hfu139_1 := blk_frozen BK139.out 1; have hcu139_2 : wr.cell? ⟨gb139, 2, none⟩ = some (.slice none 0 0) := (blk_cell BK139.out 2).trans rfl; have hfu139_2 := blk_frozen BK139.out 2; have hcu139_3 : wr.cell? ⟨gb139, 3, none⟩ = some (.slice none 0 0) := (blk_cell BK139.out 3).trans rfl; have hfu139_3 := blk_frozen BK139.out 3; have hcu139_4 : wr.cell? ⟨gb139, 4, none⟩ = some (.slice none 0 0) := (blk_cell BK139.out 4).trans rfl; have hfu139_4 := blk_frozen BK139.out 4; have hcz24_0 : wr.cell? ⟨gb139, 0, none⟩ = some (.int .u8 x140000_1) := (blk_cell BK139.out 0).trans rfl; have hcz24_1 : wr.cell? ⟨gb139, 1, none⟩ = some (.bool x140001_1) := (blk_cell BK139.out 1).trans rfl; have hcz24_2 : wr.cell? ⟨gb139, 2, none⟩ = some (.slice none 0 0) := (blk_cell BK139.out 2).trans rfl; have hcz24_3 : wr.cell? ⟨gb139, 3, none⟩ = some (.slice none 0 0) := (blk_cell BK139.out 3).trans rfl; have hcz24_4 : wr.cell? ⟨gb139, 4, none⟩ = some (.slice none 0 0) := (blk_cell BK139.out 4).trans rfl; have hfz24_0 := blk_frozen BK139.out 0; have hfz24_1 := blk_frozen BK139.out 1; have hfz24_2 := blk_frozen BK139.out 2; have hfz24_3 := blk_frozen BK139.out 3; have hfz24_4 := blk_frozen BK139.out 4))
         refine bodyPost_ret (results_ct rfl _ _ gb139 26 #[.int .u8 0, .bool false, .slice none 0 0, .slice none 0 0, .slice none 0 0] (0, 0) _ rfl (by (with_reducible repeat (first | refine blk_drewN ?_ _ | refine blk_drew ?_ | refine blk_alloc ?_ _)); refine blk_put (cs := #[.int .u8 0, .bool false, .slice none 0 0, .slice none 0 0, .slice none 0 0]) ?_ 4 _ rfl; (with_reducible repeat (first | refine blk_drewN ?_ _ | refine blk_drew ?_ | refine blk_alloc ?_ _)); refine blk_put (cs := #[.int .u8 0, .bool false, .slice none 0 0, .slice none 0 0, .slice none 0 0]) ?_ 3 _ rfl; (with_reducible repeat (first | refine blk_drewN ?_ _ | refine blk_drew ?_ | refine blk_alloc ?_ _)); refine blk_put (cs := #[.int .u8 0, .bool false, .slice none 0 0, .slice none 0 0, .slice none 0 0]) ?_ 2 _ rfl; (with_reducible repeat (first | refine blk_drewN ?_ _ | refine blk_drew ?_ | refine blk_alloc ?_ _)); refine blk_put (cs := #[.int .u8 0, .bool x140001_1, .slice none 0 0, .slice none 0 0, .slice none 0 0]) ?_ 1 _ rfl; (with_reducible repeat (first | refine blk_drewN ?_ _ | refine blk_drew ?_ | refine blk_alloc ?_ _)); refine blk_put (cs := #[.int .u8 x140000_1, .bool x140001_1, .slice none 0 0, .slice none 0 0, .slice none 0 0]) ?_ 0 _ rfl; (with_reducible repeat (first | refine blk_drewN ?_ _ | refine blk_drew ?_ | refine blk_alloc ?_ _)); exact BK139.out) Tryd.underlying26 rfl (by kernel_rfl)) rfl ?_
         exact ⟨_, _, _, by first | rfl | (simp [errW_none, errW_some] <;> rfl) | (simp [*, errW_none, errW_some] <;> rfl), by first | exact Kd.R_nil _ _ _ _ _ | exact Kd.N_nil _ _ _ _ _ | exact Kd.V_nil _ _ _ _ _ | exact Kd.Q_nil _ _ _ _ _ | exact Kd.S_nil _ _ _ _ _, by first | exact Kd.R_nil _ _ _ _ _ | exact Kd.N_nil _ _ _ _ _ | exact Kd.V_nil _ _ _ _ _ | exact Kd.Q_nil _ _ _ _ _ | exact Kd.S_nil _ _ _ _ _, by first | exact Kd.R_nil _ _ _ _ _ | exact Kd.N_nil _ _ _ _ _ | exact Kd.V_nil _ _ _ _ _ | exact Kd.Q_nil _ _ _ _ _ | exact Kd.S_nil _ _ _ _ _, by repeat (first | (with_reducible first | exact HB.out | apply below_alloc | apply pw_below_drewN | apply below_drew1 | refine below_set ?_ GE138.out | refine below_set ?_ GE139.out) | exact HB.out)⟩
       ·rw [if_neg c12] at H
        have c12b0 : (x139000_1 == 3) = false := beq_eq_false_iff_ne.mpr c12
        have c12b1 : (x139000_1 != 3) = true := bne_iff_ne.mpr c12
        simp only [Option.some.injEq, Prod.mk.injEq] at H
        obtain ⟨rfl, rfl, rfl, rfl, rfl, rfl⟩ := H
        have p155 : 0 ≤ (x23_1 : Int) := of_decide_eq_true (by first | (with_reducible assumption) | assumption)
        have q155 : x23_1 < (t140.length : Int) := of_decide_eq_true (by first | (with_reducible assumption) | assumption)
        obtain ⟨ad155, e155, hx155_0⟩ := Kd.at_string (Kd.R_reads' HO_21.out).2.2 x23_1 p155 q155
        cases e155
        replace p155 := eq_true p155
        replace q155 := eq_true q155
        have hnb25 := NB138_139.out
        have hnc25 := NB139_138.out
        have hcz26_0 : wr.cell? ⟨gb138, 0, none⟩ = some (.int .u8 x139000_1) := (blk_cell BK138.out 0).trans rfl
        have hcz26_1 : wr.cell? ⟨gb138, 1, none⟩ = some (.bool x139001_1) := (blk_cell BK138.out 1).trans rfl
        have hcz26_2 : wr.cell? ⟨gb138, 2, none⟩ = some (u139002) := (blk_cell BK138.out 2).trans rfl
        have hcz26_3 : wr.cell? ⟨gb138, 3, none⟩ = some (u139003) := (blk_cell BK138.out 3).trans rfl
        have hcz26_4 : wr.cell? ⟨gb138, 4, none⟩ = some (u139004) := (blk_cell BK138.out 4).trans rfl
        have hfz26_0 := blk_frozen BK138.out 0
        have hfz26_1 := blk_frozen BK138.out 1
        have hfz26_2 := blk_frozen BK138.out 2
        have hfz26_3 := blk_frozen BK138.out 3
        have hfz26_4 := blk_frozen BK138.out 4
        have hcz27_0 : wr.cell? ⟨gb139, 0, none⟩ = some (.int .u8 x140000_1) := (blk_cell BK139.out 0).trans rfl
        have hcz27_1 : wr.cell? ⟨gb139, 1, none⟩ = some (.bool x140001_1) := (blk_cell BK139.out 1).trans rfl
        have hcz27_2 : wr.cell? ⟨gb139, 2, none⟩ = some (.slice none 0 0) := (blk_cell BK139.out 2).trans rfl
        have hcz27_3 : wr.cell? ⟨gb139, 3, none⟩ = some (.slice none 0 0) := (blk_cell BK139.out 3).trans rfl
        have hcz27_4 : wr.cell? ⟨gb139, 4, none⟩ = some (.slice none 0 0) := (blk_cell BK139.out 4).trans rfl
        have hfz27_0 := blk_frozen BK139.out 0
        have hfz27_1 := blk_frozen BK139.out 1
        have hfz27_2 := blk_frozen BK139.out 2
        have hfz27_3 := blk_frozen BK139.out 3
        have hfz27_4 := blk_frozen BK139.out 4
        go_wp2
        refine bodyPost_ret (results_ct rfl _ _ gb139 26 #[.int .u8 0, .bool false, .slice none 0 0, .slice none 0 0, .slice none 0 0] (0, 0) _ rfl (by (with_reducible repeat (first | refine blk_drewN ?_ _ | refine blk_drew ?_ | refine blk_alloc ?_ _)); refine blk_put (cs := #[.int .u8 0, .bool false, .slice none 0 0, .slice none 0 0, .slice none 0 0]) ?_ 4 _ rfl; (with_reducible repeat (first | refine blk_drewN ?_ _ | refine blk_drew ?_ | refine blk_alloc ?_ _)); refine blk_put (cs := #[.int .u8 0, .bool false, .slice none 0 0, .slice none 0 0, .slice none 0 0]) ?_ 3 _ rfl; (with_reducible repeat (first | refine blk_drewN ?_ _ | refine blk_drew ?_ | refine blk_alloc ?_ _)); refine blk_put (cs := #[.int .u8 0, .bool false, .slice none 0 0, .slice none 0 0, .slice none 0 0]) ?_ 2 _ rfl; (with_reducible repeat (first | refine blk_drewN ?_ _ | refine blk_drew ?_ | refine blk_alloc ?_ _)); refine blk_put (cs := #[.int .u8 0, .bool x140001_1, .slice none 0 0, .slice none 0 0, .slice none 0 0]) ?_ 1 _ rfl; (with_reducible repeat (first | refine blk_drewN ?_ _ | refine blk_drew ?_ | refine blk_alloc ?_ _)); refine blk_put (cs := #[.int .u8 x140000_1, .bool x140001_1, .slice none 0 0, .slice none 0 0, .slice none 0 0]) ?_ 0 _ rfl; (with_reducible repeat (first | refine blk_drewN ?_ _ | refine blk_drew ?_ | refine blk_alloc ?_ _)); exact BK139.out) Tryd.underlying26 rfl (by kernel_rfl)) rfl ?_
        exact ⟨_, _, _, by first | rfl | (simp [errW_none, errW_some] <;> rfl) | (simp [*, errW_none, errW_some] <;> rfl), by first | exact Kd.R_nil _ _ _ _ _ | exact Kd.N_nil _ _ _ _ _ | exact Kd.V_nil _ _ _ _ _ | exact Kd.Q_nil _ _ _ _ _ | exact Kd.S_nil _ _ _ _ _, by first | exact Kd.R_nil _ _ _ _ _ | exact Kd.N_nil _ _ _ _ _ | exact Kd.V_nil _ _ _ _ _ | exact Kd.Q_nil _ _ _ _ _ | exact Kd.S_nil _ _ _ _ _, by first | exact Kd.R_nil _ _ _ _ _ | exact Kd.N_nil _ _ _ _ _ | exact Kd.V_nil _ _ _ _ _ | exact Kd.Q_nil _ _ _ _ _ | exact Kd.S_nil _ _ _ _ _, by repeat (first | (with_reducible first | exact HB.out | apply below_alloc | apply pw_below_drewN | apply below_drew1 | refine below_set ?_ GE138.out | refine below_set ?_ GE139.out) | exact HB.out)⟩
      ·rw [if_neg c11] at H
       exact absurd H (by simp)
     ·rw [if_neg c10] at H
      exact absurd H (by simp)
    ·rw [if_neg c9] at H
     have c9b0 : decide (x23_1 < (t140.length : Int)) = false := decide_eq_false c9
     clear c9
     replace H := Option.bind_eq_some_iff.mp H
     obtain ⟨⟨t144, t145, t146, t149, t152⟩, A280, H⟩ := H
     replace H : (some (t144, t145, t146, t149, t152, 0)) = some (r1, r2, r3, r4, r5, r6) := H
     have A28 := Aside0.mk A280
     clear A280
     simp only [Option.some.injEq, Prod.mk.injEq] at H
     obtain ⟨rfl, rfl, rfl, rfl, rfl, rfl⟩ := H
     have hnb29 := NB138_139.out
     have hnc29 := NB139_138.out
     have hcz30_0 : wr.cell? ⟨gb138, 0, none⟩ = some (.int .u8 x139000_1) := (blk_cell BK138.out 0).trans rfl
     have hcz30_1 : wr.cell? ⟨gb138, 1, none⟩ = some (.bool x139001_1) := (blk_cell BK138.out 1).trans rfl
     have hcz30_2 : wr.cell? ⟨gb138, 2, none⟩ = some (u139002) := (blk_cell BK138.out 2).trans rfl
     have hcz30_3 : wr.cell? ⟨gb138, 3, none⟩ = some (u139003) := (blk_cell BK138.out 3).trans rfl
     have hcz30_4 : wr.cell? ⟨gb138, 4, none⟩ = some (u139004) := (blk_cell BK138.out 4).trans rfl
     have hfz30_0 := blk_frozen BK138.out 0
     have hfz30_1 := blk_frozen BK138.out 1
     have hfz30_2 := blk_frozen BK138.out 2
     have hfz30_3 := blk_frozen BK138.out 3
     have hfz30_4 := blk_frozen BK138.out 4
     obtain ⟨Ao31, co31, eo31⟩ := Kd.V_slice HO_139002.out
     subst eo31
     obtain ⟨Ao32, co32, eo32⟩ := Kd.V_slice HO_139003.out
     subst eo32
     obtain ⟨Ao33, co33, eo33⟩ := Kd.V_slice HO_139004.out
     subst eo33
     go_wp2_with (first | ((with_reducible refine gate_callee (f := 25) rfl ?_); refine goesL_ (some 48) rfl rfl Tryd.func25 (by kernel_rfl) rfl #[.agg #[.int .u8 x139000_1, .bool x139001_1, .slice Ao31 x139002_1.length co31, .slice Ao32 x139003_1.length co32, .slice Ao33 x139004_1.length co33]] rfl (by (try simp only [List.map_toArray, List.map_cons, List.map_nil]); first | done | rfl | (simp only [List.length_drop, List.length_take]; rfl)) ?_; (with_reducible refine (tree_Copy.calls k1 x139000_1 x139001_1 _ _ x139002_1 _ _ x139003_1 _ _ x139004_1 t144 t145 t146 t149 t152 _ ?side1 ?side2 ?side3 ?side4 ?side5 ?side6 A28.out).mono ?_); (case side1 => repeat (first | exact (Kd.V_reads' HO_139002.out).2.2 | (with_reducible refine Kd.C_alloc ?_ _) | (with_reducible refine Kd.C_drewN ?_ _) | (with_reducible refine Kd.C_drew ?_))); (case side2 => exact (Kd.V_reads' HO_139002.out).2.1); (case side3 => repeat (first | exact (Kd.V_reads' HO_139003.out).2.2 | (with_reducible refine Kd.C_alloc ?_ _) | (with_reducible refine Kd.C_drewN ?_ _) | (with_reducible refine Kd.C_drew ?_))); (case side4 => exact (Kd.V_reads' HO_139003.out).2.1); (case side5 => repeat (first | exact (Kd.V_reads' HO_139004.out).2.2 | (with_reducible refine Kd.C_alloc ?_ _) | (with_reducible refine Kd.C_drewN ?_ _) | (with_reducible refine Kd.C_drew ?_))); (case side6 => exact (Kd.V_reads' HO_139004.out).2.1); rintro e w34 ⟨v147, v150, v153, rfl, ho0, ho1, ho2, hb⟩; refine ⟨_, rfl, ?_⟩; have n0_ := Aside0.mk (Kd.R_elder' (by (with_reducible repeat (first | apply Kd.R_alloc | apply Kd.R_drewN | apply Kd.R_drew)); exact HO_21.out) (Kd.R_base ho1) hb); have n1_ := Aside0.mk (Kd.V_mono (Kd.V_told (Kd.V_told (Kd.V_told (Kd.V_old (by (with_reducible repeat (first | apply Kd.V_alloc | apply Kd.V_drewN | apply Kd.V_drew)); exact HO_139002.out) hb) (Kd.R_base ho0)) (Kd.R_base ho1)) (Kd.R_base ho2)) (fun _ h_ => h_.1)); have n2_ := Aside0.mk (Kd.V_mono (Kd.V_told (Kd.V_told (Kd.V_told (Kd.V_old (by (with_reducible repeat (first | apply Kd.V_alloc | apply Kd.V_drewN | apply Kd.V_drew)); exact HO_139003.out) hb) (Kd.R_base ho0)) (Kd.R_base ho1)) (Kd.R_base ho2)) (fun _ h_ => h_.1)); have n3_ := Aside0.mk (Kd.V_mono (Kd.V_told (Kd.V_told (Kd.V_told (Kd.V_old (by (with_reducible repeat (first | apply Kd.V_alloc | apply Kd.V_drewN | apply Kd.V_drew)); exact HO_139004.out) hb) (Kd.R_base ho0)) (Kd.R_base ho1)) (Kd.R_base ho2)) (fun _ h_ => h_.1)); have n4_ := Aside0.mk (Kd.R_lower (Kd.R_newM (M := fun k_ => (w.heap.size ≤ k_)) ho0 (below_size (by repeat (first | (with_reducible first | exact HB.out | apply below_alloc | apply pw_below_drewN | apply below_drew1 | refine below_set ?_ GE138.out | refine below_set ?_ GE139.out) | exact HB.out))) (fun k_ h_ => h_)) (below_size (by repeat (first | (with_reducible first | exact HB.out | apply below_alloc | apply pw_below_drewN | apply below_drew1 | refine below_set ?_ GE138.out | refine below_set ?_ GE139.out) | exact HB.out)))); have n5_ := Aside0.mk (Kd.R_lower (Kd.R_new' (Kd.R_newM (M := fun k_ => (w.heap.size ≤ k_)) ho1 (below_size (by repeat (first | (with_reducible first | exact HB.out | apply below_alloc | apply pw_below_drewN | apply below_drew1 | refine below_set ?_ GE138.out | refine below_set ?_ GE139.out) | exact HB.out))) (fun k_ h_ => h_)) (Kd.R_lt (by (with_reducible repeat (first | apply Kd.R_alloc | apply Kd.R_drewN | apply Kd.R_drew)); exact HO_21.out))) (below_size (by repeat (first | (with_reducible first | exact HB.out | apply below_alloc | apply pw_below_drewN | apply below_drew1 | refine below_set ?_ GE138.out | refine below_set ?_ GE139.out) | exact HB.out)))); have n6_ := Aside0.mk (Kd.R_lower (Kd.R_newB (Kd.R_newB (Kd.R_new' (Kd.R_newM (M := fun k_ => (w.heap.size ≤ k_)) ho2 (below_size (by repeat (first | (with_reducible first | exact HB.out | apply below_alloc | apply pw_below_drewN | apply below_drew1 | refine below_set ?_ GE138.out | refine below_set ?_ GE139.out) | exact HB.out))) (fun k_ h_ => h_)) (Kd.R_lt (by (with_reducible repeat (first | apply Kd.R_alloc | apply Kd.R_drewN | apply Kd.R_drew)); exact HO_21.out))) (g := gb138) (o := .cells #[.int .u8 x139000_1, .bool x139001_1, .slice Ao31 x139002_1.length co31, .slice Ao32 x139003_1.length co32, .slice Ao33 x139004_1.length co33] 26 (0, 0)) (by (with_reducible repeat (first | refine blk_drewN ?_ _ | refine blk_drew ?_ | refine blk_alloc ?_ _)); exact BK138.out)) (g := gb139) (o := .cells #[.int .u8 x140000_1, .bool x140001_1, .slice none 0 0, .slice none 0 0, .slice none 0 0] 26 (0, 0)) (by (with_reducible repeat (first | refine blk_drewN ?_ _ | refine blk_drew ?_ | refine blk_alloc ?_ _)); exact BK139.out)) (below_size (by repeat (first | (with_reducible first | exact HB.out | apply below_alloc | apply pw_below_drewN | apply below_drew1 | refine below_set ?_ GE138.out | refine below_set ?_ GE139.out) | exact HB.out)))); have n7_ := Aside0.mk (blk_below (g := gb138) (o := .cells #[.int .u8 x139000_1, .bool x139001_1, .slice Ao31 x139002_1.length co31, .slice Ao32 x139003_1.length co32, .slice Ao33 x139004_1.length co33] 26 (0, 0)) (by (with_reducible repeat (first | refine blk_drewN ?_ _ | refine blk_drew ?_ | refine blk_alloc ?_ _)); exact BK138.out) hb); have n8_ := Aside0.mk (blk_below (g := gb139) (o := .cells #[.int .u8 x140000_1, .bool x140001_1, .slice none 0 0, .slice none 0 0, .slice none 0 0] 26 (0, 0)) (by (with_reducible repeat (first | refine blk_drewN ?_ _ | refine blk_drew ?_ | refine blk_alloc ?_ _)); exact BK139.out) hb); have n9_ := Aside0.mk (below_step (by repeat (first | (with_reducible first | exact HB.out | apply below_alloc | apply pw_below_drewN | apply below_drew1 | refine below_set ?_ GE138.out | refine below_set ?_ GE139.out) | exact HB.out)) hb); clear HO_21; clear HO_139002; clear HO_139003; clear HO_139004; clear BK138; clear BK139; clear HB; have HO_21 := n0_; have HO_139002 := n1_; have HO_139003 := n2_; have HO_139004 := n3_; have HO148 := n4_; have HO151 := n5_; have HO154 := n6_; have BK138 := n7_; have BK139 := n8_; have HB := n9_; clear n0_ n1_ n2_ n3_ n4_ n5_ n6_ n7_ n8_ n9_; (try clear hb); (try clear hb2); (try clear hk); (try clear hi); (try clear ho0); (try clear ho1); (try clear ho2); have hcz35_0 : w34.cell? ⟨gb139, 0, none⟩ = some (.int .u8 x140000_1) := (blk_cell BK139.out 0).trans rfl; have hcz35_1 : w34.cell? ⟨gb139, 1, none⟩ = some (.bool x140001_1) := (blk_cell BK139.out 1).trans rfl; have hcz35_2 : w34.cell? ⟨gb139, 2, none⟩ = some (.slice none 0 0) := (blk_cell BK139.out 2).trans rfl; have hcz35_3 : w34.cell? ⟨gb139, 3, none⟩ = some (.slice none 0 0) := (blk_cell BK139.out 3).trans rfl; have hcz35_4 : w34.cell? ⟨gb139, 4, none⟩ = some (.slice none 0 0) := (blk_cell BK139.out 4).trans rfl; have hfz35_0 := blk_frozen BK139.out 0; have hfz35_1 := blk_frozen BK139.out 1; have hfz35_2 := blk_frozen BK139.out 2; have hfz35_3 := blk_frozen BK139.out 3; have hfz35_4 := blk_frozen BK139.out 4; obtain ⟨Ao36, co36, eo36⟩ := Kd.R_slice HO148.out; subst eo36; obtain ⟨Ao37, co37, eo37⟩ := Kd.R_slice HO151.out; subst eo37; obtain ⟨Ao38, co38, eo38⟩ := Kd.R_slice HO154.out; subst eo38))
     refine bodyPost_ret (results_ct rfl _ _ gb139 26 #[.int .u8 t144, .bool t145, .slice Ao36 t146.length co36, .slice Ao37 t149.length co37, .slice Ao38 t152.length co38] (0, 0) _ rfl (by (with_reducible repeat (first | refine blk_drewN ?_ _ | refine blk_drew ?_ | refine blk_alloc ?_ _)); refine blk_put (cs := #[.int .u8 t144, .bool t145, .slice Ao36 t146.length co36, .slice Ao37 t149.length co37, .slice none 0 0]) ?_ 4 _ rfl; (with_reducible repeat (first | refine blk_drewN ?_ _ | refine blk_drew ?_ | refine blk_alloc ?_ _)); refine blk_put (cs := #[.int .u8 t144, .bool t145, .slice Ao36 t146.length co36, .slice none 0 0, .slice none 0 0]) ?_ 3 _ rfl; (with_reducible repeat (first | refine blk_drewN ?_ _ | refine blk_drew ?_ | refine blk_alloc ?_ _)); refine blk_put (cs := #[.int .u8 t144, .bool t145, .slice none 0 0, .slice none 0 0, .slice none 0 0]) ?_ 2 _ rfl; (with_reducible repeat (first | refine blk_drewN ?_ _ | refine blk_drew ?_ | refine blk_alloc ?_ _)); refine blk_put (cs := #[.int .u8 t144, .bool x140001_1, .slice none 0 0, .slice none 0 0, .slice none 0 0]) ?_ 1 _ rfl; (with_reducible repeat (first | refine blk_drewN ?_ _ | refine blk_drew ?_ | refine blk_alloc ?_ _)); refine blk_put (cs := #[.int .u8 x140000_1, .bool x140001_1, .slice none 0 0, .slice none 0 0, .slice none 0 0]) ?_ 0 _ rfl; (with_reducible repeat (first | refine blk_drewN ?_ _ | refine blk_drew ?_ | refine blk_alloc ?_ _)); exact BK139.out) Tryd.underlying26 rfl (by kernel_rfl)) rfl ?_
     exact ⟨_, _, _, by first | rfl | (simp [errW_none, errW_some] <;> rfl) | (simp [*, errW_none, errW_some] <;> rfl), by (with_reducible repeat (first | apply Kd.R_alloc | apply Kd.R_drewN | apply Kd.R_drew)); exact Kd.R_mono (Kd.R_far (p := ⟨gb139, 4, none⟩) (Kd.R_far (p := ⟨gb139, 3, none⟩) (Kd.R_far (p := ⟨gb139, 2, none⟩) (Kd.R_far (p := ⟨gb139, 1, none⟩) (Kd.R_far (p := ⟨gb139, 0, none⟩) (Kd.R_types HO148.out BK139.out (by decide)) (fun _ hk => hk.2) (.int .u8 t144)) (fun _ hk => hk.2) (.bool t145)) (fun _ hk => hk.2) (.slice Ao36 t146.length co36)) (fun _ hk => hk.2) (.slice Ao37 t149.length co37)) (fun _ hk => hk.2) (.slice Ao38 t152.length co38)) (fun _ hk => hk.1.1), by (with_reducible repeat (first | apply Kd.R_alloc | apply Kd.R_drewN | apply Kd.R_drew)); exact Kd.R_mono (Kd.R_far (p := ⟨gb139, 4, none⟩) (Kd.R_far (p := ⟨gb139, 3, none⟩) (Kd.R_far (p := ⟨gb139, 2, none⟩) (Kd.R_far (p := ⟨gb139, 1, none⟩) (Kd.R_far (p := ⟨gb139, 0, none⟩) (Kd.R_types HO151.out BK139.out (by decide)) (fun _ hk => hk.2) (.int .u8 t144)) (fun _ hk => hk.2) (.bool t145)) (fun _ hk => hk.2) (.slice Ao36 t146.length co36)) (fun _ hk => hk.2) (.slice Ao37 t149.length co37)) (fun _ hk => hk.2) (.slice Ao38 t152.length co38)) (fun _ hk => hk.1.1.1), by (with_reducible repeat (first | apply Kd.R_alloc | apply Kd.R_drewN | apply Kd.R_drew)); exact Kd.R_mono (Kd.R_far (p := ⟨gb139, 4, none⟩) (Kd.R_far (p := ⟨gb139, 3, none⟩) (Kd.R_far (p := ⟨gb139, 2, none⟩) (Kd.R_far (p := ⟨gb139, 1, none⟩) (Kd.R_far (p := ⟨gb139, 0, none⟩) (Kd.R_mono HO154.out (fun k_ hk => (⟨hk, hk.2⟩ : _ ∧ k_ ≠ gb139))) (fun _ hk => hk.2) (.int .u8 t144)) (fun _ hk => hk.2) (.bool t145)) (fun _ hk => hk.2) (.slice Ao36 t146.length co36)) (fun _ hk => hk.2) (.slice Ao37 t149.length co37)) (fun _ hk => hk.2) (.slice Ao38 t152.length co38)) (fun _ hk => ⟨hk.1.1.1.1.1, ⟨hk.1.1.1.1.2.1, hk.1.1.1.1.2.2⟩⟩), by repeat (first | (with_reducible first | exact HB.out | apply below_alloc | apply pw_below_drewN | apply below_drew1 | refine below_set ?_ GE138.out | refine below_set ?_ GE139.out) | exact HB.out)⟩
 ·rw [if_neg c4] at H
  have c4b0 : (t141 == 0) = false := beq_eq_false_iff_ne.mpr c4
  have c4b1 : (t141 != 0) = true := bne_iff_ne.mpr c4
  simp only [Option.some.injEq, Prod.mk.injEq] at H
  obtain ⟨rfl, rfl, rfl, rfl, rfl, rfl⟩ := H
  go_enter Tryd.func20, Tryd.ntmps20
  go_wp2_with (first | ((with_reducible refine gate_dst (N := 2) rfl ?_); refine box_event ?hg (N := 2) ?hd (cs := #[.int .u8 a0_0, .bool a0_1, .slice A0_2 l0_2.length c0_2, .slice A0_3 l0_3.length c0_3, .slice A0_4 l0_4.length c0_4]) (t := 26) ?hr ?_; (case hd => rfl); (case hg => rfl); (case hr => first | (go_simp; done) | (go_simp; rfl)); intro gb138 hg w39 hbox hb; have n0_ := Aside0.mk (Kd.V_below (Kd.V_elderB (by (with_reducible repeat (first | apply Kd.V_alloc | apply Kd.V_drewN | apply Kd.V_drew)); exact HO0_2.out) gb138 (Nat.le_of_eq hg.symm)) hb); have n1_ := Aside0.mk (Kd.V_below (Kd.V_elderB (by (with_reducible repeat (first | apply Kd.V_alloc | apply Kd.V_drewN | apply Kd.V_drew)); exact HO0_3.out) gb138 (Nat.le_of_eq hg.symm)) hb); have n2_ := Aside0.mk (Kd.V_below (Kd.V_elderB (by (with_reducible repeat (first | apply Kd.V_alloc | apply Kd.V_drewN | apply Kd.V_drew)); exact HO0_4.out) gb138 (Nat.le_of_eq hg.symm)) hb); have n3_ := Aside0.mk (below_step (by repeat (first | (with_reducible first | exact HB.out | apply below_alloc | apply pw_below_drewN | apply below_drew1) | exact HB.out)) hb); have n4_ := Aside0.mk (hbox); have n5_ := Aside0.mk ((by rw [hg]; exact (below_size (by repeat (first | (with_reducible first | exact HB.out | apply below_alloc | apply pw_below_drewN | apply below_drew1) | exact HB.out))) : w.heap.size ≤ gb138)); have n6_ := Aside0.mk ((by rw [hg]; exact (below_size (by repeat (first | (with_reducible first | exact HB.out | apply below_alloc | apply pw_below_drewN | apply below_drew1) | exact HB.out))) : w.heap.size ≤ gb138)); clear HO0_2; clear HO0_3; clear HO0_4; clear HB; have HO0_2 := n0_; have HO0_3 := n1_; have HO0_4 := n2_; have HB := n3_; have BK138 := n4_; have GW138 := n5_; have GE138 := n6_; clear n0_ n1_ n2_ n3_ n4_ n5_ n6_; clear hb hbox hg) | ((with_reducible refine gate_dst (N := 4) rfl ?_); refine box_event ?hg (N := 4) ?hd (cs := #[.int .u8 0, .bool false, .slice none 0 0, .slice none 0 0, .slice none 0 0]) (t := 26) ?hr ?_; (case hd => rfl); (case hg => rfl); (case hr => first | (go_simp; done) | (go_simp; rfl)); intro gb139 hg w40 hbox hb; have n0_ := Aside0.mk (Kd.V_below (Kd.V_elderB (by (with_reducible repeat (first | apply Kd.V_alloc | apply Kd.V_drewN | apply Kd.V_drew)); exact HO0_2.out) gb139 (Nat.le_of_eq hg.symm)) hb); have n1_ := Aside0.mk (Kd.V_below (Kd.V_elderB (by (with_reducible repeat (first | apply Kd.V_alloc | apply Kd.V_drewN | apply Kd.V_drew)); exact HO0_3.out) gb139 (Nat.le_of_eq hg.symm)) hb); have n2_ := Aside0.mk (Kd.V_below (Kd.V_elderB (by (with_reducible repeat (first | apply Kd.V_alloc | apply Kd.V_drewN | apply Kd.V_drew)); exact HO0_4.out) gb139 (Nat.le_of_eq hg.symm)) hb); have n3_ := Aside0.mk (blk_below (g := gb138) (o := .cells #[.int .u8 a0_0, .bool a0_1, .slice A0_2 l0_2.length c0_2, .slice A0_3 l0_3.length c0_3, .slice A0_4 l0_4.length c0_4] 26 (0, 0)) (by (with_reducible repeat (first | refine blk_drewN ?_ _ | refine blk_drew ?_ | refine blk_alloc ?_ _)); exact BK138.out) hb); have n4_ := Aside0.mk (below_step (by repeat (first | (with_reducible first | exact HB.out | apply below_alloc | apply pw_below_drewN | apply below_drew1 | refine below_set ?_ GE138.out) | exact HB.out)) hb); have n5_ := Aside0.mk (hbox); have n6_ := Aside0.mk ((by rw [hg]; exact (below_size (by repeat (first | (with_reducible first | exact HB.out | apply below_alloc | apply pw_below_drewN | apply below_drew1 | refine below_set ?_ GE138.out) | exact HB.out))) : w.heap.size ≤ gb139)); have n7_ := Aside0.mk ((by rw [hg]; exact (below_size (by repeat (first | (with_reducible first | exact HB.out | apply below_alloc | apply pw_below_drewN | apply below_drew1 | refine below_set ?_ GE138.out) | exact HB.out))) : w.heap.size ≤ gb139)); have n8_ := Aside0.mk ((by rw [hg]; exact Nat.ne_of_lt (blk_lt (g := gb138) (o := .cells #[.int .u8 a0_0, .bool a0_1, .slice A0_2 l0_2.length c0_2, .slice A0_3 l0_3.length c0_3, .slice A0_4 l0_4.length c0_4] 26 (0, 0)) (by (with_reducible repeat (first | refine blk_drewN ?_ _ | refine blk_drew ?_ | refine blk_alloc ?_ _)); exact BK138.out)) : gb138 ≠ gb139)); have n9_ := Aside0.mk ((by rw [hg]; exact Nat.ne_of_gt (blk_lt (g := gb138) (o := .cells #[.int .u8 a0_0, .bool a0_1, .slice A0_2 l0_2.length c0_2, .slice A0_3 l0_3.length c0_3, .slice A0_4 l0_4.length c0_4] 26 (0, 0)) (by (with_reducible repeat (first | refine blk_drewN ?_ _ | refine blk_drew ?_ | refine blk_alloc ?_ _)); exact BK138.out)) : gb139 ≠ gb138)); clear HO0_2; clear HO0_3; clear HO0_4; clear BK138; clear HB; have HO0_2 := n0_; have HO0_3 := n1_; have HO0_4 := n2_; have BK138 := n3_; have HB := n4_; have BK139 := n5_; have GW139 := n6_; have GE139 := n7_; have NB138_139 := n8_; have NB139_138 := n9_; clear n0_ n1_ n2_ n3_ n4_ n5_ n6_ n7_ n8_ n9_; clear hb hbox hg) | ((with_reducible refine gate_callee (f := 17) rfl ?_); refine goesL_ (some 14) rfl rfl Tryd.func17 (by kernel_rfl) rfl #[.string a1] rfl (by (try simp only [List.map_toArray, List.map_cons, List.map_nil]); first | done | rfl | (simp only [List.length_drop, List.length_take]; rfl)) ?_; (with_reducible refine (tree_Split.calls a1 t140 t141 _ A3.out).mono ?_); rintro e w41 ⟨v142, rfl, ho0, hb⟩; refine ⟨_, rfl, ?_⟩; have n0_ := Aside0.mk (Kd.V_elder' (by (with_reducible repeat (first | apply Kd.V_alloc | apply Kd.V_drewN | apply Kd.V_drew)); exact HO0_2.out) (Kd.R_base ho0) hb); have n1_ := Aside0.mk (Kd.V_elder' (by (with_reducible repeat (first | apply Kd.V_alloc | apply Kd.V_drewN | apply Kd.V_drew)); exact HO0_3.out) (Kd.R_base ho0) hb); have n2_ := Aside0.mk (Kd.V_elder' (by (with_reducible repeat (first | apply Kd.V_alloc | apply Kd.V_drewN | apply Kd.V_drew)); exact HO0_4.out) (Kd.R_base ho0) hb); have n3_ := Aside0.mk (Kd.R_lower (Kd.R_newM (M := fun k_ => (w.heap.size ≤ k_)) ho0 (below_size (by repeat (first | (with_reducible first | exact HB.out | apply below_alloc | apply pw_below_drewN | apply below_drew1 | refine below_set ?_ GE138.out | refine below_set ?_ GE139.out) | exact HB.out))) (fun k_ h_ => h_)) (below_size (by repeat (first | (with_reducible first | exact HB.out | apply below_alloc | apply pw_below_drewN | apply below_drew1 | refine below_set ?_ GE138.out | refine below_set ?_ GE139.out) | exact HB.out)))); have n4_ := Aside0.mk (blk_below (g := gb138) (o := .cells #[.int .u8 a0_0, .bool a0_1, .slice A0_2 l0_2.length c0_2, .slice A0_3 l0_3.length c0_3, .slice A0_4 l0_4.length c0_4] 26 (0, 0)) (by (with_reducible repeat (first | refine blk_drewN ?_ _ | refine blk_drew ?_ | refine blk_alloc ?_ _)); exact BK138.out) hb); have n5_ := Aside0.mk (blk_below (g := gb139) (o := .cells #[.int .u8 0, .bool false, .slice none 0 0, .slice none 0 0, .slice none 0 0] 26 (0, 0)) (by (with_reducible repeat (first | refine blk_drewN ?_ _ | refine blk_drew ?_ | refine blk_alloc ?_ _)); exact BK139.out) hb); have n6_ := Aside0.mk (below_step (by repeat (first | (with_reducible first | exact HB.out | apply below_alloc | apply pw_below_drewN | apply below_drew1 | refine below_set ?_ GE138.out | refine below_set ?_ GE139.out) | exact HB.out)) hb); clear HO0_2; clear HO0_3; clear HO0_4; clear BK138; clear BK139; clear HB; have HO0_2 := n0_; have HO0_3 := n1_; have HO0_4 := n2_; have HO143 := n3_; have BK138 := n4_; have BK139 := n5_; have HB := n6_; clear n0_ n1_ n2_ n3_ n4_ n5_ n6_; (try clear hb); (try clear hb2); (try clear hk); (try clear hi); (try clear ho0); have hnb42 := NB139_138.out; have hnc42 := NB138_139.out; have hcz43_0 : w41.cell? ⟨gb139, 0, none⟩ = some (.int .u8 0) := (blk_cell BK139.out 0).trans rfl; have hcz43_1 : w41.cell? ⟨gb139, 1, none⟩ = some (.bool false) := (blk_cell BK139.out 1).trans rfl; have hcz43_2 : w41.cell? ⟨gb139, 2, none⟩ = some (.slice none 0 0) := (blk_cell BK139.out 2).trans rfl; have hcz43_3 : w41.cell? ⟨gb139, 3, none⟩ = some (.slice none 0 0) := (blk_cell BK139.out 3).trans rfl; have hcz43_4 : w41.cell? ⟨gb139, 4, none⟩ = some (.slice none 0 0) := (blk_cell BK139.out 4).trans rfl; have hfz43_0 := blk_frozen BK139.out 0; have hfz43_1 := blk_frozen BK139.out 1; have hfz43_2 := blk_frozen BK139.out 2; have hfz43_3 := blk_frozen BK139.out 3; have hfz43_4 := blk_frozen BK139.out 4))
  refine bodyPost_ret (results_ct rfl _ _ gb139 26 #[.int .u8 0, .bool false, .slice none 0 0, .slice none 0 0, .slice none 0 0] (0, 0) _ rfl (by (with_reducible repeat (first | refine blk_drewN ?_ _ | refine blk_drew ?_ | refine blk_alloc ?_ _)); refine blk_put (cs := #[.int .u8 0, .bool false, .slice none 0 0, .slice none 0 0, .slice none 0 0]) ?_ 4 _ rfl; (with_reducible repeat (first | refine blk_drewN ?_ _ | refine blk_drew ?_ | refine blk_alloc ?_ _)); refine blk_put (cs := #[.int .u8 0, .bool false, .slice none 0 0, .slice none 0 0, .slice none 0 0]) ?_ 3 _ rfl; (with_reducible repeat (first | refine blk_drewN ?_ _ | refine blk_drew ?_ | refine blk_alloc ?_ _)); refine blk_put (cs := #[.int .u8 0, .bool false, .slice none 0 0, .slice none 0 0, .slice none 0 0]) ?_ 2 _ rfl; (with_reducible repeat (first | refine blk_drewN ?_ _ | refine blk_drew ?_ | refine blk_alloc ?_ _)); refine blk_put (cs := #[.int .u8 0, .bool false, .slice none 0 0, .slice none 0 0, .slice none 0 0]) ?_ 1 _ rfl; (with_reducible repeat (first | refine blk_drewN ?_ _ | refine blk_drew ?_ | refine blk_alloc ?_ _)); refine blk_put (cs := #[.int .u8 0, .bool false, .slice none 0 0, .slice none 0 0, .slice none 0 0]) ?_ 0 _ rfl; (with_reducible repeat (first | refine blk_drewN ?_ _ | refine blk_drew ?_ | refine blk_alloc ?_ _)); exact BK139.out) Tryd.underlying26 rfl (by kernel_rfl)) rfl ?_
  exact ⟨_, _, _, by first | rfl | (simp [errW_none, errW_some] <;> rfl) | (simp [*, errW_none, errW_some] <;> rfl), by first | exact Kd.R_nil _ _ _ _ _ | exact Kd.N_nil _ _ _ _ _ | exact Kd.V_nil _ _ _ _ _ | exact Kd.Q_nil _ _ _ _ _ | exact Kd.S_nil _ _ _ _ _, by first | exact Kd.R_nil _ _ _ _ _ | exact Kd.N_nil _ _ _ _ _ | exact Kd.V_nil _ _ _ _ _ | exact Kd.Q_nil _ _ _ _ _ | exact Kd.S_nil _ _ _ _ _, by first | exact Kd.R_nil _ _ _ _ _ | exact Kd.N_nil _ _ _ _ _ | exact Kd.V_nil _ _ _ _ _ | exact Kd.Q_nil _ _ _ _ _ | exact Kd.S_nil _ _ _ _ _, by repeat (first | (with_reducible first | exact HB.out | apply below_alloc | apply pw_below_drewN | apply below_drew1 | refine below_set ?_ GE138.out | refine below_set ?_ GE139.out) | exact HB.out)⟩

end Go.Proofs.YtmhlmbmenoihnaaDoor.G
