/- TreeDown: what stands at a path of two parts. -/
import Derived.Test.YtmhlmbmenoihnaaDoorP4
namespace Go.Proofs.YtmhlmbmenoihnaaDoor.P
open Go.Lib Go.RowKit Go.Proofs.YtmhlmbmenoihnaaDoor.G Go.Proofs.YtmhlmbmenoihnaaDoorW.PrintWords Go.Proofs.YtmhlmbmenoihnaaDoor.OT
set_option linter.unusedVariables false

theorem down_eq (t : T) (a b : ByteArray) (ha : a.toList ≠ []) (hb : b.toList ≠ []) (hl : a.size + b.size ≤ 300) :
    ((atOf t a).2 ≠ 0 → (atOf t ((a ++ (⟨#[47]⟩ : ByteArray)) ++ b)).2 ≠ 0) ∧ ((atOf t a).2 = 0 → atOf t ((a ++ (⟨#[47]⟩ : ByteArray)) ++ b) = atOf (atOf t a).1 b) := by
  have hs : ((a ++ (⟨#[47]⟩ : ByteArray)) ++ b).size = a.size + 1 + b.size := by rw [ByteArray.size_append, ByteArray.size_append]; rfl
  have hne : ((a ++ (⟨#[47]⟩ : ByteArray)) ++ b).toList ≠ [] := by
    rw [Lib.toList_data, join_list]
    simp
  have s1 := splitOf_some a (by omega) ha
  have s2 := splitOf_some b (by omega) hb
  have s3 := splitOf_some ((a ++ (⟨#[47]⟩ : ByteArray)) ++ b) (by omega) hne
  have hbad : badB ((a ++ (⟨#[47]⟩ : ByteArray)) ++ b) = (badB a || badB b) := by
    unfold badB
    rw [wordsB_join, List.any_append]
  rw [hbad, wordsB_join] at s3
  unfold atOf
  rw [s1, s2, s3]
  cases h1 : badB a with
  | true => simp
  | false =>
    cases h2 : badB b with
    | true => simp
    | false =>
      simp only [Bool.or_self, Bool.false_eq_true, if_false, if_true]
      rw [walkT_append]
      refine ⟨fun h => ?_, fun h => ?_⟩
      · rw [if_neg h]; exact h
      · rw [if_pos h]


theorem at_okwf (t : T) (p : ByteArray) (h1 : okT t) (h2 : wfT t) (u : T) (h : atOf t p = (u, 0)) : okT u ∧ wfT u := by
  unfold atOf at h
  by_cases hs : (H.splitOf p).2 = 0
  · rw [if_pos hs] at h
    have := walkT_ok (H.splitOf p).1 t h1 h2 (by rw [h])
    rw [h] at this
    exact this
  · rw [if_neg hs] at h
    injection h with _ h
    exact absurd h hs
theorem at_okz (t : T) (p : ByteArray) (h1 : okT t) : okT (atOf t p).1 := by
  unfold atOf
  by_cases hs : (H.splitOf p).2 = 0
  · rw [if_pos hs]; exact walkT_okz _ _ h1
  · rw [if_neg hs]; exact okT_z
end Go.Proofs.YtmhlmbmenoihnaaDoor.P
