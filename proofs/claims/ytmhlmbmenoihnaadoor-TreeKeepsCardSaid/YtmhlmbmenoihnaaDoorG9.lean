-- PRINTED by print.py (a twelfth state) out of the translation. Not trusted: Lean checks it.
import Derived.Test.YtmhlmbmenoihnaaDoorG0
namespace Go.Proofs.YtmhlmbmenoihnaaDoor.G
open Go.RowKit Go.Proofs.YtmhlmbmenoihnaaDoorW.PrintWords Go.Proofs.YtmhlmbmenoihnaaDoorW.PrintLast Go.Proofs.YtmhlmbmenoihnaaDoorW.PrintMore
attribute [local go_sem] max2_int min2_int max_two min_two max_three min_three max_four min_four   -- for this text's walks alone
set_option linter.unusedVariables false
set_option linter.unusedSimpArgs false

/-! ### bytes_Equal: function 39 -/
def bytes_Equal.f (l0 : List Int) (l1 : List Int) : Option (Bool) := some ((strOfNums l0).toList == (strOfNums l1).toList)
set_option maxHeartbeats 8000000 in
set_option maxRecDepth 100000 in
theorem bytes_Equal.calls (A0 : Option Addr) (c0 : Nat) (l0 : List Int) (A1 : Option Addr) (c1 : Nat) (l1 : List Int) (r : Bool) (w : World) (hr0 : Kd.C (Kd.int .u8) w A0 l0.length l0) (hc0 : l0.length ≤ c0) (hr1 : Kd.C (Kd.int .u8) w A1 l1.length l1) (hc1 : l1.length ≤ c1) (h : bytes_Equal.f l0 l1 = some r) :
  Calls Tryd.prog 39 #[.slice A0 l0.length c0, .slice A1 l1.length c1] w fun e w' => e = .returned (.bool r) ∧ Drawn0 w w' := by
 have HR0 := Aside0.mk hr0
 have HC0 := Aside0.mk hc0
 clear hr0 hc0
 have HR1 := Aside0.mk hr1
 have HC1 := Aside0.mk hc1
 clear hr1 hc1
 have H : (some ((strOfNums l0).toList == (strOfNums l1).toList)) = some r := h
 clear h
 obtain rfl := Option.some.inj H
 have hcv3 := Kd.C_string (P := Tryd.prog) (A := A0) (c := c0) Tryd.underlying22 Tryd.underlying5 Tryd.underlying9 HR0.out
 have hcv4 := Kd.C_string (P := Tryd.prog) (A := A1) (c := c1) Tryd.underlying22 Tryd.underlying5 Tryd.underlying9 HR1.out
 go_enter Tryd.func39, Tryd.ntmps39
 go_wp2
 go_ret
 exact ⟨by first | rfl | (simp; done) | (simp [*]; done), by repeat (first | exact Drawn0.refl _ | apply Drawn0.step)⟩

/-! ### sl_Equal_ss: function 40 -/
def sl_Equal_ss.l0 : Nat → List ByteArray → List ByteArray → Int → Int → Option (Bool)
 | 0, _, _, _, _ => none
 | k + 1, x0, x1, x12, x13 => if x13 < x12 then (if 0 ≤ x13 then (if x13 < (x0.length : Int) then (if x13 < (x1.length : Int) then (if (rdOf ByteArray.empty x0 x13).toList = (rdOf ByteArray.empty x1 x13).toList then (sl_Equal_ss.l0 k x0 x1 x12 (wrap64 (x13 + 1))) else (some false)) else (none)) else (none)) else (none)) else (some true)
def sl_Equal_ss.f (k : Nat) (l0 : List ByteArray) (l1 : List ByteArray) : Option (Bool) := if (l0.length : Int) = (l1.length : Int) then (sl_Equal_ss.l0 k l0 l1 (l0.length : Int) 0) else (some false)
theorem sl_Equal_ss.mono_l : ∀ k, (∀ y0 y1 y2 y3, LeO (sl_Equal_ss.l0 k y0 y1 y2 y3) (sl_Equal_ss.l0 (k + 1) y0 y1 y2 y3))
 | 0 => fun _ _ _ _ r h => by simp [sl_Equal_ss.l0] at h
 | k + 1 => by
  have ih0 := sl_Equal_ss.mono_l k
  ·intro y0 y1 y2 y3
   unfold sl_Equal_ss.l0
   repeat' first
   | (with_reducible exact ih0 _ _ _ _)
   | (with_reducible exact LeO.refl _)
   | (with_reducible exact LeO.none _)
   | (with_reducible refine LeO.ite ?_ ?_)
   | (with_reducible refine LeO.bind ?_ (fun _ => ?_))
   | exact ih0 _ _ _ _
   | exact LeO.none _
   | refine LeO.ite ?_ ?_
   | refine LeO.bind ?_ (fun _ => ?_)
theorem sl_Equal_ss.mono : ∀ a0 a1 k, LeO (sl_Equal_ss.f k a0 a1) (sl_Equal_ss.f (k + 1) a0 a1) := by
 intro a0 a1 k
 have ih0 := sl_Equal_ss.mono_l k
 unfold sl_Equal_ss.f
 repeat' first
   | (with_reducible exact ih0 _ _ _ _)
   | (with_reducible exact LeO.refl _)
   | (with_reducible exact LeO.none _)
   | (with_reducible refine LeO.ite ?_ ?_)
   | (with_reducible refine LeO.bind ?_ (fun _ => ?_))
   | exact ih0 _ _ _ _
   | exact LeO.none _
   | refine LeO.ite ?_ ?_
   | refine LeO.bind ?_ (fun _ => ?_)
set_option maxHeartbeats 8000000 in
set_option maxRecDepth 100000 in
theorem sl_Equal_ss.calls (k : Nat) (A0 : Option Addr) (c0 : Nat) (l0 : List ByteArray) (A1 : Option Addr) (c1 : Nat) (l1 : List ByteArray) (r : Bool) (w : World) (hr0 : Kd.C Kd.string w A0 l0.length l0) (hc0 : l0.length ≤ c0) (hr1 : Kd.C Kd.string w A1 l1.length l1) (hc1 : l1.length ≤ c1) (h : sl_Equal_ss.f k l0 l1 = some r) :
  Calls Tryd.prog 40 #[.slice A0 l0.length c0, .slice A1 l1.length c1] w fun e w' => e = .returned (.bool r) ∧ Drawn0 w w' := by
 have HR0 := Aside0.mk hr0
 have HC0 := Aside0.mk hc0
 clear hr0 hc0
 have HR1 := Aside0.mk hr1
 have HC1 := Aside0.mk hc1
 clear hr1 hc1
 have H : (if (l0.length : Int) = (l1.length : Int) then (sl_Equal_ss.l0 k l0 l1 (l0.length : Int) 0) else (some false)) = some r := h
 clear h
 by_cases c3 : (l0.length : Int) = (l1.length : Int)
 ·rw [if_pos c3] at H
  have c3b0 : ((l0.length : Int) == (l1.length : Int)) = true := beq_iff_eq.mpr c3
  have c3b1 : ((l0.length : Int) != (l1.length : Int)) = false := bne_eq_false_iff_eq.mpr c3
  have c3b2 : (l0.length == l1.length) = true := by first | simpa using c3 | (simp at c3 ⊢; omega)
  clear c3
  have H' := Aside0.mk H
  clear H
  go_enter Tryd.func40, Tryd.ntmps40
  go_wp2
  repeat (go_quiet (fail); try go_wp2)
  go_loopg [13] k (fun kq v13 w' => ∃ (x13_1 : Int), v13 = .int .i64 x13_1 ∧ Aside0 (sl_Equal_ss.l0 kq l0 l1 (l0.length : Int) x13_1 = some r) ∧ Aside0 (kq ≤ k) ∧ Drawn0 w w')
  case atStart => exact ⟨(0), (by first | rfl | (simp; done) | (simp [*]; done)), H', ⟨Nat.le_refl _⟩, by repeat (first | exact Drawn0.refl _ | apply Drawn0.step)⟩
  case round =>
   clear H'
   try clear c1
   try clear p2
   try clear c3
   try clear c3b0
   try clear c3b1
   try clear c3b2
   obtain ⟨x13_1, rfl, HA, HK1, ⟨m1, rfl⟩⟩ := hrel
   cases gk with
   | zero => exact absurd HA.out (by simp [sl_Equal_ss.l0])
   | succ k1 =>
    have H := HA.out
    clear HA
    simp only [sl_Equal_ss.l0] at H
    by_cases c4 : x13_1 < (l0.length : Int)
    ·rw [if_pos c4] at H
     have c4b0 : decide (x13_1 < (l0.length : Int)) = true := decide_eq_true c4
     clear c4
     by_cases c5 : 0 ≤ x13_1
     ·rw [if_pos c5] at H
      have c5b0 : decide (0 ≤ x13_1) = true := decide_eq_true c5
      clear c5
      by_cases c6 : x13_1 < (l0.length : Int)
      ·rw [if_pos c6] at H
       have c6b0 : decide (x13_1 < (l0.length : Int)) = true := decide_eq_true c6
       clear c6
       by_cases c7 : x13_1 < (l1.length : Int)
       ·rw [if_pos c7] at H
        have c7b0 : decide (x13_1 < (l1.length : Int)) = true := decide_eq_true c7
        clear c7
        by_cases c8 : (rdOf ByteArray.empty l0 x13_1).toList = (rdOf ByteArray.empty l1 x13_1).toList
        ·rw [if_pos c8] at H
         have c8b0 : ((rdOf ByteArray.empty l0 x13_1).toList == (rdOf ByteArray.empty l1 x13_1).toList) = true := beq_iff_eq.mpr c8
         have c8b1 : ((rdOf ByteArray.empty l0 x13_1).toList != (rdOf ByteArray.empty l1 x13_1).toList) = false := bne_eq_false_iff_eq.mpr c8
         clear c8
         have H' := Aside0.mk H
         clear H
         have p232 : 0 ≤ (x13_1 : Int) := of_decide_eq_true (by first | (with_reducible assumption) | assumption)
         have q232 : x13_1 < (l0.length : Int) := of_decide_eq_true (by first | (with_reducible assumption) | assumption)
         obtain ⟨ad232, e232, hx232_0⟩ := Kd.at_string HR0.out x13_1 p232 q232
         cases e232
         replace p232 := eq_true p232
         replace q232 := eq_true q232
         have p233 : 0 ≤ (x13_1 : Int) := of_decide_eq_true (by first | (with_reducible assumption) | assumption)
         have q233 : x13_1 < (l1.length : Int) := of_decide_eq_true (by first | (with_reducible assumption) | assumption)
         obtain ⟨ad233, e233, hx233_0⟩ := Kd.at_string HR1.out x13_1 p233 q233
         cases e233
         replace p233 := eq_true p233
         replace q233 := eq_true q233
         go_wp2
         repeat (go_quiet (fail); try go_wp2)
         go_roundg k1
         case measure => have := HK1.out; omega
         case rel => exact ⟨(wrap64 (x13_1 + 1)), (by first | rfl | (simp; done) | (simp [*]; done)), H', ⟨by have := HK1.out; omega⟩, by repeat (first | exact Drawn0.refl _ | apply Drawn0.step)⟩
        ·rw [if_neg c8] at H
         have c8b0 : ((rdOf ByteArray.empty l0 x13_1).toList == (rdOf ByteArray.empty l1 x13_1).toList) = false := beq_eq_false_iff_ne.mpr c8
         have c8b1 : ((rdOf ByteArray.empty l0 x13_1).toList != (rdOf ByteArray.empty l1 x13_1).toList) = true := bne_iff_ne.mpr c8
         obtain rfl := Option.some.inj H
         have p232 : 0 ≤ (x13_1 : Int) := of_decide_eq_true (by first | (with_reducible assumption) | assumption)
         have q232 : x13_1 < (l0.length : Int) := of_decide_eq_true (by first | (with_reducible assumption) | assumption)
         obtain ⟨ad232, e232, hx232_0⟩ := Kd.at_string HR0.out x13_1 p232 q232
         cases e232
         replace p232 := eq_true p232
         replace q232 := eq_true q232
         have p233 : 0 ≤ (x13_1 : Int) := of_decide_eq_true (by first | (with_reducible assumption) | assumption)
         have q233 : x13_1 < (l1.length : Int) := of_decide_eq_true (by first | (with_reducible assumption) | assumption)
         obtain ⟨ad233, e233, hx233_0⟩ := Kd.at_string HR1.out x13_1 p233 q233
         cases e233
         replace p233 := eq_true p233
         replace q233 := eq_true q233
         go_wp2
         repeat (go_quiet (fail); try go_wp2)
         go_ret
         exact ⟨by first | rfl | (simp; done) | (simp [*]; done), by repeat (first | exact Drawn0.refl _ | apply Drawn0.step)⟩
       ·rw [if_neg c7] at H
        exact absurd H (by simp)
      ·rw [if_neg c6] at H
       exact absurd H (by simp)
     ·rw [if_neg c5] at H
      exact absurd H (by simp)
    ·rw [if_neg c4] at H
     have c4b0 : decide (x13_1 < (l0.length : Int)) = false := decide_eq_false c4
     clear c4
     obtain rfl := Option.some.inj H
     go_wp2
     repeat (go_quiet (fail); try go_wp2)
     go_ret
     exact ⟨by first | rfl | (simp; done) | (simp [*]; done), by repeat (first | exact Drawn0.refl _ | apply Drawn0.step)⟩
 ·rw [if_neg c3] at H
  have c3b0 : ((l0.length : Int) == (l1.length : Int)) = false := beq_eq_false_iff_ne.mpr c3
  have c3b1 : ((l0.length : Int) != (l1.length : Int)) = true := bne_iff_ne.mpr c3
  have c3b2 : (l0.length == l1.length) = false := by first | simpa using c3 | (simp at c3 ⊢; omega)
  obtain rfl := Option.some.inj H
  go_enter Tryd.func40, Tryd.ntmps40
  go_wp2
  repeat (go_quiet (fail); try go_wp2)
  go_ret
  exact ⟨by first | rfl | (simp; done) | (simp [*]; done), by repeat (first | exact Drawn0.refl _ | apply Drawn0.step)⟩

/-! ### tree_Same: function 27 -/

/-- Are two lists of texts alike? -/
def sameStrs : List ByteArray → List ByteArray → Bool
  | [], [] => true
  | a :: l, b :: m => (a.toList == b.toList) && sameStrs l m
  | _, _ => false
mutual
def sameT : S26 → S26 → Bool
  | ⟨a0, a1, a2, a3, a4⟩, ⟨b0, b1, b2, b3, b4⟩ => (a0 == b0) && ((a1 == b1) && (((strOfNums a2).toList == (strOfNums b2).toList) && (sameStrs a3 b3 && sameL a4 b4)))
def sameL : List S26 → List S26 → Bool
  | [], [] => true
  | a :: l, b :: m => sameT a b && sameL l m
  | _, _ => false
end
theorem sameT_eq (a b : S26) : sameT a b = ((a.f0 == b.f0) && ((a.f1 == b.f1) && (((strOfNums a.f2).toList == (strOfNums b.f2).toList) && (sameStrs a.f3 b.f3 && sameL a.f4 b.f4)))) := by
  obtain ⟨a0, a1, a2, a3, a4⟩ := a
  obtain ⟨b0, b1, b2, b3, b4⟩ := b
  rw [sameT]
theorem sameStrs_len : ∀ {l m : List ByteArray}, l.length ≠ m.length → sameStrs l m = false
  | [], [], h => absurd rfl h
  | [], _ :: _, _ => rfl
  | _ :: _, [], _ => rfl
  | a :: l, b :: m, h => by
    rw [sameStrs, sameStrs_len (l := l) (m := m) (fun e => h (by simp [e])), Bool.and_false]
theorem sameL_len : ∀ {l m : List S26}, l.length ≠ m.length → sameL l m = false
  | [], [], h => absurd rfl h
  | [], _ :: _, _ => by rw [sameL]; all_goals simp
  | _ :: _, [], _ => by rw [sameL]; all_goals simp
  | a :: l, b :: m, h => by
    rw [sameL, sameL_len (l := l) (m := m) (fun e => h (by simp [e])), Bool.and_false]
theorem sameL_drop {l m : List S26} (hl : l.length = m.length) (z : S26) (i : Nat) (hi : i < l.length) : sameL (l.drop i) (m.drop i) = (sameT (l.getD i z) (m.getD i z) && sameL (l.drop (i + 1)) (m.drop (i + 1))) := by
  rw [List.drop_eq_getElem_cons hi, List.drop_eq_getElem_cons (show i < m.length by omega), sameL]
  simp [List.getD_eq_getElem?_getD, hi, show i < m.length by omega]
theorem sameStrs_drop {l m : List ByteArray} (hl : l.length = m.length) (i : Nat) (hi : i < l.length) : sameStrs (l.drop i) (m.drop i) = (((l.getD i ByteArray.empty).toList == (m.getD i ByteArray.empty).toList) && sameStrs (l.drop (i + 1)) (m.drop (i + 1))) := by
  rw [List.drop_eq_getElem_cons hi, List.drop_eq_getElem_cons (show i < m.length by omega), sameStrs]
  simp [List.getD_eq_getElem?_getD, hi, show i < m.length by omega]

/-- slices.Equal's loop. -/
theorem equal_loop (l m : List ByteArray) (hl : l.length = m.length) (hm : l.length ≤ 9223372036854775807) (d : Nat) : ∀ (k i : Nat), l.length - i = d → i ≤ l.length → d < k → sl_Equal_ss.l0 k l m (l.length : Int) (i : Int) = some (sameStrs (l.drop i) (m.drop i)) := by
  induction d with
  | zero =>
    intro k i hd hi hk
    obtain ⟨k, rfl⟩ : ∃ n, k = n + 1 := ⟨k - 1, by omega⟩
    obtain rfl : i = l.length := by omega
    simp only [sl_Equal_ss.l0]
    rw [if_neg (by omega), List.drop_eq_nil_of_le (Nat.le_refl _), List.drop_eq_nil_of_le (by omega)]
    rfl
  | succ d ih =>
    intro k i hd hi hk
    obtain ⟨k, rfl⟩ : ∃ n, k = n + 1 := ⟨k - 1, by omega⟩
    have hlt : i < l.length := by omega
    have e1 : rdOf ByteArray.empty l (i : Int) = l.getD i ByteArray.empty := by unfold rdOf; rw [Int.toNat_natCast]
    have e2 : rdOf ByteArray.empty m (i : Int) = m.getD i ByteArray.empty := by unfold rdOf; rw [Int.toNat_natCast]
    have ew : wrap64 ((i : Int) + 1) = ((i + 1 : Nat) : Int) := by unfold wrap64; omega
    simp only [sl_Equal_ss.l0]
    rw [if_pos (by omega), if_pos (by omega), if_pos (by omega), if_pos (by omega), e1, e2, ew, sameStrs_drop hl i hlt]
    by_cases h : (l.getD i ByteArray.empty).toList = (m.getD i ByteArray.empty).toList
    · rw [if_pos h, ih k (i + 1) (by omega) (by omega) (by omega), beq_iff_eq.2 h]
      rfl
    · rw [if_neg h, beq_eq_false_iff_ne.2 h]
      rfl
theorem equal_is (l m : List ByteArray) (hm : l.length ≤ 9223372036854775807) : sl_Equal_ss.f (l.length + 1) l m = some (sameStrs l m) := by
  unfold sl_Equal_ss.f
  by_cases h : l.length = m.length
  · rw [if_pos (by omega)]
    exact equal_loop l m h hm l.length (l.length + 1) 0 (by omega) (by omega) (by omega)
  · rw [if_neg (by omega), sameStrs_len h]

def SameSays (m : Nat) : Prop := ∀ (a b : S26) (_ : SizeOf.sizeOf a < m) (A2 : Option Addr) (c2 : Nat) (A3 : Option Addr) (c3 : Nat) (A4 : Option Addr) (c4 : Nat) (B2 : Option Addr) (d2 : Nat) (B3 : Option Addr) (d3 : Nat) (B4 : Option Addr) (d4 : Nat) (w : World)
      (_ : Kd.C (Kd.int .u8) w A2 a.f2.length a.f2) (_ : a.f2.length ≤ c2) (_ : Kd.C Kd.string w A3 a.f3.length a.f3) (_ : a.f3.length ≤ c3) (_ : Kd.C k26 w A4 a.f4.length a.f4) (_ : a.f4.length ≤ c4)
      (_ : Kd.C (Kd.int .u8) w B2 b.f2.length b.f2) (_ : b.f2.length ≤ d2) (_ : Kd.C Kd.string w B3 b.f3.length b.f3) (_ : b.f3.length ≤ d3) (_ : Kd.C k26 w B4 b.f4.length b.f4) (_ : b.f4.length ≤ d4),
      Calls Tryd.prog 27 #[.agg #[.int .u8 a.f0, .bool a.f1, .slice A2 a.f2.length c2, .slice A3 a.f3.length c3, .slice A4 a.f4.length c4], .agg #[.int .u8 b.f0, .bool b.f1, .slice B2 b.f2.length d2, .slice B3 b.f3.length d3, .slice B4 b.f4.length d4]] w fun e w' => e = .returned (.bool (sameT a b)) ∧ Below w.heap.size w w'

set_option maxHeartbeats 4000000 in
set_option maxRecDepth 100000 in
theorem equalFunc_walk (m : Nat) (ih : SameSays m) (l k : List S26) (hm : ∀ t ∈ l, SizeOf.sizeOf t < m) (A : Option Addr) (c : Nat) (B : Option Addr) (d : Nat) (w : World)
    (h1 : Kd.C k26 w A l.length l) (h1' : l.length ≤ c) (h2 : Kd.C k26 w B k.length k) (h2' : k.length ≤ d) :
    Calls Tryd.prog 41 #[.slice A l.length c, .slice B k.length d, .func (.func 27) #[] #[]] w fun e w' => e = .returned (.bool (sameL l k)) ∧ Below w.heap.size w w' := by
  have hmx1 : l.length ≤ 9223372036854775807 := Kd.C_max h1
  have hmx2 : k.length ≤ 9223372036854775807 := Kd.C_max h2
  have IH := Aside0.mk ih
  have H1 := Aside0.mk h1
  have H2 := Aside0.mk h2
  have HM := Aside0.mk hm
  clear ih h1 h2 hm
  have hu26 := Tryd.underlying26
  by_cases hlen : l.length = k.length
  · have g1 : ((l.length : Int) != (k.length : Int)) = false := by rw [bne_eq_false_iff_eq]; omega
    have g2 : (l.length != k.length) = false := by rw [bne_eq_false_iff_eq]; exact hlen
    have HLEN := Aside0.mk hlen
    clear hlen
    go_enter Tryd.func41, Tryd.ntmps41
    go_wp2_with fail
    go_loopg [7, 8, 9, 17] l.length (fun g _ _ _ v17 wx => ∃ i : Nat, i + g = l.length ∧ v17 = .int .i64 i ∧ Below w.heap.size w wx ∧ sameL l k = sameL (l.drop i) (k.drop i))
    case atStart => exact ⟨0, by omega, rfl, Below.refl _ _, rfl⟩
    case round =>
      obtain ⟨i, hig, rfl, hB, hR⟩ := hrel
      have HB := Aside0.mk hB
      have HR := Aside0.mk hR
      clear hB hR
      cases gk with
      | zero =>
        obtain rfl : i = l.length := by omega
        have hfin : sameL l k = true := by
          have hkl := HLEN.out
          rw [HR.out, List.drop_eq_nil_of_le (Nat.le_refl _), List.drop_eq_nil_of_le (by omega), sameL]
        have HF := Aside0.mk hfin
        clear hfin
        go_wp2_with fail
        go_ret
        exact ⟨by rw [HF.out]; rfl, HB.out⟩
      | succ g =>
        have hi : i < l.length := by omega
        have hik : i < k.length := by have := HLEN.out; omega
        have hlow := HB.out
        obtain ⟨ada, A2, a2, A3, a3, A4, a4, ea, u0, u1, u2, u3, u4, lu2, gu2, lu3, gu3, lu4, gu4⟩ := at_T26 H1.out (i : Int) (by omega) (by omega)
        obtain ⟨adb, B2, b2, B3, b3, B4, b4, eb, v0, v1, v2, v3, v4, lv2, gv2, lv3, gv3, lv4, gv4⟩ := at_T26 H2.out (i : Int) (by omega) (by omega)
        cases ea
        cases eb
        have ka : rd_T26 l (i : Int) = l.getD i z26 := by unfold rd_T26; rw [Int.toNat_natCast]
        have kb : rd_T26 k (i : Int) = k.getD i z26 := by unfold rd_T26; rw [Int.toNat_natCast]
        rw [Int.toNat_natCast] at u0 u1 u2 u3 u4 v0 v1 v2 v3 v4
        rw [ka] at u0 u1 u2 u3 u4 lu2 gu2 lu3 gu3 lu4 gu4
        rw [kb] at v0 v1 v2 v3 v4 lv2 gv2 lv3 gv3 lv4 gv4
        have hnext := sameL_drop HLEN.out z26 i hi
        rw [← HR.out] at hnext
        have hmem : l.getD i z26 ∈ l := by rw [List.getD_eq_getElem?_getD, List.getElem?_eq_getElem hi]; exact List.getElem_mem hi
        have hsz := HM.out _ hmem
        generalize l.getD i z26 = ta at *
        generalize k.getD i z26 = tb at *
        have NX := Aside0.mk hnext
        have HSAME := fun W (hw : Below w.heap.size w W) => IH.out ta tb hsz A2 a2 A3 a3 A4 a4 B2 b2 B3 b3 B4 b4 W (Kd.C_below gu2 hw) lu2 (Kd.C_below gu3 hw) lu3 (Kd.C_below gu4 hw) lu4 (Kd.C_below gv2 hw) lv2 (Kd.C_below gv3 hw) lv3 (Kd.C_below gv4 hw) lv4
        have HS := Aside0.mk HSAME
        replace u0 := (hlow.cell (World.block_lt_of_cell? _ _ u0)).trans u0
        replace u1 := (hlow.cell (World.block_lt_of_cell? _ _ u1)).trans u1
        replace u2 := (hlow.cell (World.block_lt_of_cell? _ _ u2)).trans u2
        replace u3 := (hlow.cell (World.block_lt_of_cell? _ _ u3)).trans u3
        replace u4 := (hlow.cell (World.block_lt_of_cell? _ _ u4)).trans u4
        replace v0 := (hlow.cell (World.block_lt_of_cell? _ _ v0)).trans v0
        replace v1 := (hlow.cell (World.block_lt_of_cell? _ _ v1)).trans v1
        replace v2 := (hlow.cell (World.block_lt_of_cell? _ _ v2)).trans v2
        replace v3 := (hlow.cell (World.block_lt_of_cell? _ _ v3)).trans v3
        replace v4 := (hlow.cell (World.block_lt_of_cell? _ _ v4)).trans v4
        clear HSAME hnext ka kb hmem hsz gu2 gu3 gu4 gv2 gv3 gv4 hlow
        go_upto_region 6 with fail
        have hB1 : Below wr.heap.size wr (wr.alloc (.cells #[.int .u8 ta.f0, .bool ta.f1, .slice A2 ta.f2.length a2, .slice A3 ta.f3.length a3, .slice A4 ta.f4.length a4] 26)) := below_alloc (Below.refl _ _) _
        have hx1 : (wr.alloc (.cells #[.int .u8 ta.f0, .bool ta.f1, .slice A2 ta.f2.length a2, .slice A3 ta.f3.length a3, .slice A4 ta.f4.length a4] 26)).heap[wr.heap.size]? = some (.cells #[.int .u8 ta.f0, .bool ta.f1, .slice A2 ta.f2.length a2, .slice A3 ta.f3.length a3, .slice A4 ta.f4.length a4] 26 (0, 0)) := heap_alloc_new _ _
        have HB1 := Aside0.mk (below_then HB.out HB.out.size hB1)
        replace v0 := pw_cell_below hB1 v0
        replace v1 := pw_cell_below hB1 v1
        replace v2 := pw_cell_below hB1 v2
        replace v3 := pw_cell_below hB1 v3
        replace v4 := pw_cell_below hB1 v4
        clear hB1 HB u0 u1 u2 u3 u4
        generalize wr.alloc (.cells #[.int .u8 ta.f0, .bool ta.f1, .slice A2 ta.f2.length a2, .slice A3 ta.f3.length a3, .slice A4 ta.f4.length a4] 26) = W1 at *
        generalize wr.heap.size = p1 at *
        go_upto_region 7 with fail
        have hB2 : Below W1.heap.size W1 (W1.alloc (.cells #[.int .u8 tb.f0, .bool tb.f1, .slice B2 tb.f2.length b2, .slice B3 tb.f3.length b3, .slice B4 tb.f4.length b4] 26)) := below_alloc (Below.refl _ _) _
        have hx2 : (W1.alloc (.cells #[.int .u8 tb.f0, .bool tb.f1, .slice B2 tb.f2.length b2, .slice B3 tb.f3.length b3, .slice B4 tb.f4.length b4] 26)).heap[W1.heap.size]? = some (.cells #[.int .u8 tb.f0, .bool tb.f1, .slice B2 tb.f2.length b2, .slice B3 tb.f3.length b3, .slice B4 tb.f4.length b4] 26 (0, 0)) := heap_alloc_new _ _
        replace hx1 := (hB2.block _ (blk_lt hx1)).trans hx1
        have HB2 := Aside0.mk (below_then HB1.out HB1.out.size hB2)
        clear hB2 HB1 v0 v1 v2 v3 v4
        generalize W1.alloc (.cells #[.int .u8 tb.f0, .bool tb.f1, .slice B2 tb.f2.length b2, .slice B3 tb.f3.length b3, .slice B4 tb.f4.length b4] 26) = W2 at *
        generalize W1.heap.size = p2 at *
        have s0 : W2.cell? ⟨p1, 0, none⟩ = some (.int .u8 ta.f0) := (blk_cell hx1 0).trans rfl
        have s1 : W2.cell? ⟨p1, 1, none⟩ = some (.bool ta.f1) := (blk_cell hx1 1).trans rfl
        have s2 : W2.cell? ⟨p1, 2, none⟩ = some (.slice A2 ta.f2.length a2) := (blk_cell hx1 2).trans rfl
        have s3 : W2.cell? ⟨p1, 3, none⟩ = some (.slice A3 ta.f3.length a3) := (blk_cell hx1 3).trans rfl
        have s4 : W2.cell? ⟨p1, 4, none⟩ = some (.slice A4 ta.f4.length a4) := (blk_cell hx1 4).trans rfl
        have r0 : W2.cell? ⟨p2, 0, none⟩ = some (.int .u8 tb.f0) := (blk_cell hx2 0).trans rfl
        have r1 : W2.cell? ⟨p2, 1, none⟩ = some (.bool tb.f1) := (blk_cell hx2 1).trans rfl
        have r2 : W2.cell? ⟨p2, 2, none⟩ = some (.slice B2 tb.f2.length b2) := (blk_cell hx2 2).trans rfl
        have r3 : W2.cell? ⟨p2, 3, none⟩ = some (.slice B3 tb.f3.length b3) := (blk_cell hx2 3).trans rfl
        have r4 : W2.cell? ⟨p2, 4, none⟩ = some (.slice B4 tb.f4.length b4) := (blk_cell hx2 4).trans rfl
        clear hx1 hx2
        go_wp2_with fail
        refine (HS.out W2 HB2.out).mono ?_
        rintro e w3 ⟨rfl, hb3⟩
        have HB3 := Aside0.mk (below_then HB2.out HB2.out.size hb3)
        clear hb3
        cases hst : sameT ta tb with
        | true =>
          rw [hst] at NX
          clear hst
          go_wp2_with fail
          go_roundg g
          case measure => omega
          case rel => exact ⟨i + 1, by omega, by go_num, HB3.out, by rw [NX.out]; rfl⟩
        | false =>
          rw [hst] at NX
          clear hst
          go_wp2_with fail
          go_ret
          exact ⟨by rw [NX.out]; rfl, HB3.out⟩
  · have g1 : ((l.length : Int) != (k.length : Int)) = true := by rw [bne_iff_ne]; omega
    have g2 : (l.length != k.length) = true := by rw [bne_iff_ne]; exact hlen
    rw [sameL_len hlen]
    clear hlen
    go_enter Tryd.func41, Tryd.ntmps41
    go_wp2_with fail
    go_ret
    exact ⟨rfl, Below.refl _ _⟩

set_option maxHeartbeats 4000000 in
set_option maxRecDepth 100000 in
theorem same_walk (m : Nat) (ih : SameSays m) (a b : S26) (hm : SizeOf.sizeOf a ≤ m) (A2 : Option Addr) (c2 : Nat) (A3 : Option Addr) (c3 : Nat) (A4 : Option Addr) (c4 : Nat) (B2 : Option Addr) (d2 : Nat) (B3 : Option Addr) (d3 : Nat) (B4 : Option Addr) (d4 : Nat) (w : World)
      (h1 : Kd.C (Kd.int .u8) w A2 a.f2.length a.f2) (h1' : a.f2.length ≤ c2) (h2 : Kd.C Kd.string w A3 a.f3.length a.f3) (h2' : a.f3.length ≤ c3) (h3 : Kd.C k26 w A4 a.f4.length a.f4) (h3' : a.f4.length ≤ c4)
      (h4 : Kd.C (Kd.int .u8) w B2 b.f2.length b.f2) (h4' : b.f2.length ≤ d2) (h5 : Kd.C Kd.string w B3 b.f3.length b.f3) (h5' : b.f3.length ≤ d3) (h6 : Kd.C k26 w B4 b.f4.length b.f4) (h6' : b.f4.length ≤ d4) :
      Calls Tryd.prog 27 #[.agg #[.int .u8 a.f0, .bool a.f1, .slice A2 a.f2.length c2, .slice A3 a.f3.length c3, .slice A4 a.f4.length c4], .agg #[.int .u8 b.f0, .bool b.f1, .slice B2 b.f2.length d2, .slice B3 b.f3.length d3, .slice B4 b.f4.length d4]] w fun e w' => e = .returned (.bool (sameT a b)) ∧ Below w.heap.size w w' := by
  have hsz : ∀ t ∈ a.f4, SizeOf.sizeOf t < m := by
    intro t ht
    have q1 := List.sizeOf_lt_of_mem ht
    obtain ⟨a0, a1, a2, a3, a4⟩ := a
    simp only [S26.mk.sizeOf_spec] at hm
    simp only at q1
    omega
  have H1 := Aside0.mk h1
  have H2 := Aside0.mk h2
  have H4 := Aside0.mk h4
  have H5 := Aside0.mk h5
  have HK := fun W (hw : Below w.heap.size w W) => equalFunc_walk m ih a.f4 b.f4 hsz A4 c4 B4 d4 W (Kd.C_below h3 hw) h3' (Kd.C_below h6 hw) h6'
  have HKK := Aside0.mk HK
  have hmx : a.f3.length ≤ 9223372036854775807 := Kd.C_max h2
  have HEQ := Aside0.mk (equal_is a.f3 b.f3 hmx)
  have hB1 : Below w.heap.size w (w.alloc (.cells #[.int .u8 a.f0, .bool a.f1, .slice A2 a.f2.length c2, .slice A3 a.f3.length c3, .slice A4 a.f4.length c4] 26)) := below_alloc (Below.refl _ _) _
  have hx1 : (w.alloc (.cells #[.int .u8 a.f0, .bool a.f1, .slice A2 a.f2.length c2, .slice A3 a.f3.length c3, .slice A4 a.f4.length c4] 26)).heap[w.heap.size]? = some (.cells #[.int .u8 a.f0, .bool a.f1, .slice A2 a.f2.length c2, .slice A3 a.f3.length c3, .slice A4 a.f4.length c4] 26 (0, 0)) := heap_alloc_new _ _
  have hB2 : Below (w.alloc (.cells #[.int .u8 a.f0, .bool a.f1, .slice A2 a.f2.length c2, .slice A3 a.f3.length c3, .slice A4 a.f4.length c4] 26)).heap.size (w.alloc (.cells #[.int .u8 a.f0, .bool a.f1, .slice A2 a.f2.length c2, .slice A3 a.f3.length c3, .slice A4 a.f4.length c4] 26)) ((w.alloc (.cells #[.int .u8 a.f0, .bool a.f1, .slice A2 a.f2.length c2, .slice A3 a.f3.length c3, .slice A4 a.f4.length c4] 26)).alloc (.cells #[.int .u8 b.f0, .bool b.f1, .slice B2 b.f2.length d2, .slice B3 b.f3.length d3, .slice B4 b.f4.length d4] 26)) := below_alloc (Below.refl _ _) _
  have hx2 : ((w.alloc (.cells #[.int .u8 a.f0, .bool a.f1, .slice A2 a.f2.length c2, .slice A3 a.f3.length c3, .slice A4 a.f4.length c4] 26)).alloc (.cells #[.int .u8 b.f0, .bool b.f1, .slice B2 b.f2.length d2, .slice B3 b.f3.length d3, .slice B4 b.f4.length d4] 26)).heap[w.heap.size + 1]? = some (.cells #[.int .u8 b.f0, .bool b.f1, .slice B2 b.f2.length d2, .slice B3 b.f3.length d3, .slice B4 b.f4.length d4] 26 (0, 0)) := by
    have := heap_alloc_new (w.alloc (.cells #[.int .u8 a.f0, .bool a.f1, .slice A2 a.f2.length c2, .slice A3 a.f3.length c3, .slice A4 a.f4.length c4] 26)) (.cells #[.int .u8 b.f0, .bool b.f1, .slice B2 b.f2.length d2, .slice B3 b.f3.length d3, .slice B4 b.f4.length d4] 26)
    simpa using this
  replace hx1 := (hB2.block _ (blk_lt hx1)).trans hx1
  have HB := Aside0.mk (below_then hB1 hB1.size hB2)
  have HX1 := Aside0.mk hx1
  have HX2 := Aside0.mk hx2
  clear h1 h2 h3 h4 h5 h6 HK hsz hm ih hB1 hB2 hx1 hx2
  have hu26 := Tryd.underlying26
  have hsame := sameT_eq a b
  obtain ⟨rr, hrr⟩ : ∃ rr, sameT a b = rr := ⟨_, rfl⟩
  rw [hrr] at hsame ⊢
  have RES := Aside0.mk hsame
  clear hsame hrr
  go_enter Tryd.func27, Tryd.ntmps27
  go_upto_region 1 with fail
  generalize (w.alloc (.cells #[.int .u8 a.f0, .bool a.f1, .slice A2 a.f2.length c2, .slice A3 a.f3.length c3, .slice A4 a.f4.length c4] 26)).alloc (.cells #[.int .u8 b.f0, .bool b.f1, .slice B2 b.f2.length d2, .slice B3 b.f3.length d3, .slice B4 b.f4.length d4] 26) = W1 at *
  have s0 : W1.cell? ⟨w.heap.size, 0, none⟩ = some (.int .u8 a.f0) := (blk_cell HX1.out 0).trans rfl
  have s1 : W1.cell? ⟨w.heap.size, 1, none⟩ = some (.bool a.f1) := (blk_cell HX1.out 1).trans rfl
  have s2 : W1.cell? ⟨w.heap.size, 2, none⟩ = some (.slice A2 a.f2.length c2) := (blk_cell HX1.out 2).trans rfl
  have r0 : W1.cell? ⟨w.heap.size + 1, 0, none⟩ = some (.int .u8 b.f0) := (blk_cell HX2.out 0).trans rfl
  have r1 : W1.cell? ⟨w.heap.size + 1, 1, none⟩ = some (.bool b.f1) := (blk_cell HX2.out 1).trans rfl
  have r2 : W1.cell? ⟨w.heap.size + 1, 2, none⟩ = some (.slice B2 b.f2.length d2) := (blk_cell HX2.out 2).trans rfl
  cases c0 : (a.f0 == b.f0) with
  | false =>
    rw [c0] at RES
    go_wp2_with fail
    go_ret
    exact ⟨by rw [RES.out]; rfl, HB.out⟩
  | true =>
    cases c1 : (a.f1 == b.f1) with
    | false =>
      rw [c0, c1] at RES
      go_wp2_with fail
      go_ret
      exact ⟨by rw [RES.out]; rfl, HB.out⟩
    | true =>
      rw [c0, c1] at RES
      have hbe : bytes_Equal.f a.f2 b.f2 = some ((strOfNums a.f2).toList == (strOfNums b.f2).toList) := rfl
      generalize ((strOfNums a.f2).toList == (strOfNums b.f2).toList) = v2 at *
      have HBE := Aside0.mk hbe
      clear hbe
      go_wp2_with fail
      refine (bytes_Equal.calls A2 c2 a.f2 B2 d2 b.f2 v2 W1 (Kd.C_below H1.out HB.out) h1' (Kd.C_below H4.out HB.out) h4' HBE.out).mono ?_
      rintro e w2 ⟨rfl, ⟨n2, rfl⟩⟩
      have HB2 := Aside0.mk (below_then HB.out HB.out.size (pw_below_drewN (Below.refl W1.heap.size W1) n2))
      have s3 : (W1.drewN n2).cell? ⟨w.heap.size, 3, none⟩ = some (.slice A3 a.f3.length c3) := (blk_cell HX1.out 3).trans rfl
      have r3 : (W1.drewN n2).cell? ⟨w.heap.size + 1, 3, none⟩ = some (.slice B3 b.f3.length d3) := (blk_cell HX2.out 3).trans rfl
      have s4 : (W1.drewN n2).cell? ⟨w.heap.size, 4, none⟩ = some (.slice A4 a.f4.length c4) := (blk_cell HX1.out 4).trans rfl
      have r4 : (W1.drewN n2).cell? ⟨w.heap.size + 1, 4, none⟩ = some (.slice B4 b.f4.length d4) := (blk_cell HX2.out 4).trans rfl
      clear s0 s1 s2 r0 r1 r2 HX1 HX2 HB
      generalize W1.drewN n2 = W2 at *
      cases v2 with
      | false =>
        go_wp2_with fail
        go_ret
        exact ⟨by rw [RES.out]; rfl, HB2.out⟩
      | true =>
        generalize sameStrs a.f3 b.f3 = v3 at *
        go_wp2_with fail
        refine (sl_Equal_ss.calls (a.f3.length + 1) A3 c3 a.f3 B3 d3 b.f3 v3 W2 (Kd.C_below H2.out HB2.out) h2' (Kd.C_below H5.out HB2.out) h5' HEQ.out).mono ?_
        rintro e w3 ⟨rfl, ⟨n3, rfl⟩⟩
        have HB3 := Aside0.mk (below_then HB2.out HB2.out.size (pw_below_drewN (Below.refl W2.heap.size W2) n3))
        replace s4 : (W2.drewN n3).cell? ⟨w.heap.size, 4, none⟩ = some (.slice A4 a.f4.length c4) := s4
        replace r4 : (W2.drewN n3).cell? ⟨w.heap.size + 1, 4, none⟩ = some (.slice B4 b.f4.length d4) := r4
        clear s3 r3 HB2
        generalize W2.drewN n3 = W3 at *
        cases v3 with
        | false =>
          go_wp2_with fail
          go_ret
          exact ⟨by rw [RES.out]; rfl, HB3.out⟩
        | true =>
          generalize sameL a.f4 b.f4 = v4 at *
          go_wp2_with fail
          refine (HKK.out W3 HB3.out).mono ?_
          rintro e w4 ⟨rfl, hb4⟩
          have HB4 := Aside0.mk (below_then HB3.out HB3.out.size hb4)
          clear hb4
          go_wp2_with fail
          go_ret
          exact ⟨by rw [RES.out]; rfl, HB4.out⟩

theorem same_says (m : Nat) : SameSays m := by
  induction m with
  | zero => intro a b h; exact absurd h (Nat.not_lt_zero _)
  | succ m ih =>
    intro a b hm A2 c2 A3 c3 A4 c4 B2 d2 B3 d3 B4 d4 w h1 h1' h2 h2' h3 h3' h4 h4' h5 h5' h6 h6'
    exact same_walk m ih a b (Nat.le_of_lt_succ hm) A2 c2 A3 c3 A4 c4 B2 d2 B3 d3 B4 d4 w h1 h1' h2 h2' h3 h3' h4 h4' h5 h5' h6 h6'


def tree_Same.f (a0_0 : Int) (a0_1 : Bool) (l0_2 : List Int) (l0_3 : List ByteArray) (l0_4 : List (S26)) (a1_0 : Int) (a1_1 : Bool) (l1_2 : List Int) (l1_3 : List ByteArray) (l1_4 : List (S26)) : Option Bool := some (sameT ⟨a0_0, a0_1, l0_2, l0_3, l0_4⟩ ⟨a1_0, a1_1, l1_2, l1_3, l1_4⟩)
theorem tree_Same.calls (a0_0 : Int) (a0_1 : Bool) (A0_2 : Option Addr) (c0_2 : Nat) (l0_2 : List Int) (A0_3 : Option Addr) (c0_3 : Nat) (l0_3 : List ByteArray) (A0_4 : Option Addr) (c0_4 : Nat) (l0_4 : List (S26)) (a1_0 : Int) (a1_1 : Bool) (A1_2 : Option Addr) (c1_2 : Nat) (l1_2 : List Int) (A1_3 : Option Addr) (c1_3 : Nat) (l1_3 : List ByteArray) (A1_4 : Option Addr) (c1_4 : Nat) (l1_4 : List (S26)) (r : Bool) (w : World)
      (hr0_2 : Kd.C (Kd.int .u8) w A0_2 l0_2.length l0_2) (hc0_2 : l0_2.length ≤ c0_2) (hr0_3 : Kd.C Kd.string w A0_3 l0_3.length l0_3) (hc0_3 : l0_3.length ≤ c0_3) (hr0_4 : Kd.C k26 w A0_4 l0_4.length l0_4) (hc0_4 : l0_4.length ≤ c0_4)
      (hr1_2 : Kd.C (Kd.int .u8) w A1_2 l1_2.length l1_2) (hc1_2 : l1_2.length ≤ c1_2) (hr1_3 : Kd.C Kd.string w A1_3 l1_3.length l1_3) (hc1_3 : l1_3.length ≤ c1_3) (hr1_4 : Kd.C k26 w A1_4 l1_4.length l1_4) (hc1_4 : l1_4.length ≤ c1_4) (h : tree_Same.f a0_0 a0_1 l0_2 l0_3 l0_4 a1_0 a1_1 l1_2 l1_3 l1_4 = some r) :
    Calls Tryd.prog 27 #[.agg #[.int .u8 a0_0, .bool a0_1, .slice A0_2 l0_2.length c0_2, .slice A0_3 l0_3.length c0_3, .slice A0_4 l0_4.length c0_4], .agg #[.int .u8 a1_0, .bool a1_1, .slice A1_2 l1_2.length c1_2, .slice A1_3 l1_3.length c1_3, .slice A1_4 l1_4.length c1_4]] w fun e w' => e = .returned (.bool r) ∧ Below w.heap.size w w' := by
  obtain rfl := Option.some.inj h
  exact same_says (SizeOf.sizeOf (⟨a0_0, a0_1, l0_2, l0_3, l0_4⟩ : S26) + 1) ⟨a0_0, a0_1, l0_2, l0_3, l0_4⟩ ⟨a1_0, a1_1, l1_2, l1_3, l1_4⟩ (Nat.lt_succ_self _) A0_2 c0_2 A0_3 c0_3 A0_4 c0_4 A1_2 c1_2 A1_3 c1_3 A1_4 c1_4 w hr0_2 hc0_2 hr0_3 hc0_3 hr0_4 hc0_4 hr1_2 hc1_2 hr1_3 hc1_3 hr1_4 hc1_4

end Go.Proofs.YtmhlmbmenoihnaaDoor.G
