/- Names: the program's answer and the document's are one. -/
import Derived.Test.YtmhlmbmenoihnaaDoorH1
import Derived.Test.YtmhlmbmenoihnaaDoorG4
import Derived.Lib.SplitLaws
import Derived.Lib.IndexBytes
namespace Go.Proofs.YtmhlmbmenoihnaaDoor.P
open Go.Lib Go.RowKit Go.Proofs.YtmhlmbmenoihnaaDoor.G Go.Proofs.YtmhlmbmenoihnaaDoorW.PrintWords
set_option linter.unusedVariables false
set_option linter.unusedSimpArgs false

variable {α : Type}
/-- Whatever is told with enough rounds. -/
def Ev (f : Nat → Option α) (r : α) : Prop := ∃ K, ∀ k, K ≤ k → f k = some r
theorem Ev.of {f : Nat → Option α} {r : α} {K : Nat} (hm : ∀ k, LeO (f k) (f (k + 1))) (h : f K = some r) : Ev f r := by
  refine ⟨K, fun k hk => ?_⟩
  obtain ⟨d, rfl⟩ := Nat.exists_eq_add_of_le hk
  induction d with
  | zero => exact h
  | succ d ih => exact hm _ _ (ih (Nat.le_add_right _ _))

theorem bt_cons (s : ByteArray) (i : Nat) (b : UInt8) (l : List UInt8) (h : s.data.toList.drop i = b :: l) : bt s (i : Int) = (b.toNat : Int) ∧ i < s.size ∧ s.data.toList.drop (i + 1) = l ∧ s.extract i (i + 1) = ⟨#[b]⟩ := by
  have hl : i < s.data.toList.length := by
    apply Classical.byContradiction
    intro hn
    rw [List.drop_of_length_le (by omega)] at h
    cases h
  have hs : i < s.size := by rw [Lib.size_eq]; exact hl
  rw [List.drop_eq_getElem_cons hl] at h
  injection h with h1 h2
  refine ⟨?_, hs, h2, ?_⟩
  · unfold bt
    rw [dif_pos (show (i : Int).toNat < s.size from hs), ← h1]
    simp only [Int.toNat_natCast]
    rfl
  · apply ByteArray.ext
    apply Array.ext'
    rw [extract_data]
    simp only [Array.toList_extract, List.extract_eq_take_drop, Nat.add_sub_cancel_left]
    rw [List.drop_eq_getElem_cons hl, h1]
    rfl

theorem w64 (n : Nat) (h : n < 9223372036854775807) : wrap64 ((n : Int) + 1) = ((n + 1 : Nat) : Int) := by
  unfold wrap64
  omega

theorem indexAny_has (c : List UInt8) : ∀ l : List UInt8, containsAny l c = l.any (fun b => c.contains b)
  | [] => rfl
  | b :: l => by
    have ih := indexAny_has c l
    have hg := indexAny_ge c l
    unfold containsAny at ih ⊢
    unfold indexAny
    rw [List.any_cons]
    cases hc : c.contains b with
    | true => simp
    | false =>
      simp only [Bool.false_or, ← ih]
      by_cases h : indexAny l c = -1
      · simp [h]
      · simp [h]
        omega

theorem name_ev (s : ByteArray) (hs : s.size ≤ 140737488351232) : ∀ (m i : Nat), i + m = s.size → (∀ b ∈ s.data.toList.take i, ¬ (b = 47 ∨ b = 0)) → ∃ k, r03_Name.l0 k s (i : Int) = some (H.nameOf s)
  | 0, i, hm, hb => by
    refine ⟨1, ?_⟩
    have hi : ¬ ((i : Int) < (s.size : Int)) := by omega
    have hany : containsAny s.data.toList [47, 0] = false := by
      rw [indexAny_has]
      apply Bool.eq_false_iff.2
      intro h
      obtain ⟨b, hbm, hbc⟩ := List.any_eq_true.1 h
      refine hb b (by rw [List.take_of_length_le (by rw [← Lib.size_eq]; omega)]; exact hbm) ?_
      simpa [List.contains_cons] using hbc
    unfold r03_Name.l0 H.nameOf
    rw [if_neg hi, hany]
    have he : s.toList = s.data.toList := Lib.toList_data s
    rw [he]
    by_cases h1 : (s.size : Int) ≥ 1
    · rw [if_pos h1]
      have h1' : s.data.toList.isEmpty = false := by
        cases hx : s.data.toList with
        | nil => have := Lib.size_eq s; rw [hx, List.length_nil] at this; omega
        | cons => rfl
      rw [h1']
      by_cases h2 : (s.size : Int) ≤ 80
      · rw [if_pos h2]
        have h2' : decide (s.size ≤ 80) = true := decide_eq_true (by omega)
        rw [h2']
        by_cases h3 : s.data.toList = [46]
        · rw [if_pos h3, h3]; rfl
        · rw [if_neg h3]
          have h3' : (s.data.toList == [46]) = false := beq_eq_false_iff_ne.2 h3
          rw [h3']
          simp [bne]
      · rw [if_neg h2]
        have h2' : decide (s.size ≤ 80) = false := decide_eq_false (by omega)
        rw [h2']; rfl
    · rw [if_neg h1]
      have h1' : s.data.toList.isEmpty = true := by
        cases hx : s.data.toList with
        | nil => rfl
        | cons => have := Lib.size_eq s; rw [hx, List.length_cons] at this; omega
      rw [h1']; rfl
  | m + 1, i, hm, hb => by
    have hi : (i : Int) < (s.size : Int) := by omega
    have hl : i < s.data.toList.length := by rw [← Lib.size_eq]; omega
    obtain ⟨e1, e2, e3, e4⟩ := bt_cons s i _ _ (List.drop_eq_getElem_cons hl)
    have hmem : s.data.toList[i] ∈ s.data.toList := List.getElem_mem hl
    by_cases hbad : s.data.toList[i] = 47 ∨ s.data.toList[i] = 0
    · refine ⟨1, ?_⟩
      have hany : containsAny s.data.toList [47, 0] = true := by
        rw [indexAny_has]
        refine List.any_eq_true.2 ⟨_, hmem, ?_⟩
        simpa [List.contains_cons] using hbad
      unfold r03_Name.l0 H.nameOf
      rw [if_pos hi, if_pos (by omega : (0 : Int) ≤ i), hany, e1]
      have hx : (some false : Option Bool) = some (!s.data.toList.isEmpty && (decide (s.size ≤ 80) && (!(s.data.toList == [46]) && (!(s.data.toList == [46, 46]) && !true)))) := by simp
      rw [← hx]
      rcases hbad with h | h
      · rw [h]; rfl
      · rw [h]; rfl
    · have h47 : ¬ ((s.data.toList[i].toNat : Int) = 47) := fun h => hbad (.inl (UInt8.toNat_inj.1 (by simpa using Int.ofNat.inj h)))
      have h0 : ¬ ((s.data.toList[i].toNat : Int) = 0) := fun h => hbad (.inr (UInt8.toNat_inj.1 (by simpa using Int.ofNat.inj h)))
      obtain ⟨k, hk⟩ := name_ev s hs m (i + 1) (by omega) (by
        intro b hbm
        rw [List.take_succ_eq_append_getElem hl] at hbm
        rcases List.mem_append.1 hbm with h | h
        · exact hb b h
        · rw [List.mem_singleton.1 h]; exact hbad)
      refine ⟨k + 1, ?_⟩
      unfold r03_Name.l0
      rw [if_pos hi, if_pos (by omega : (0 : Int) ≤ i), e1, if_neg h47, if_neg h0, w64 i (by omega)]
      exact hk

theorem r03_name (s : ByteArray) (hs : s.size ≤ 140737488351232) : Ev (fun k => r03_Name.f k s) (H.nameOf s) := by
  obtain ⟨k, hk⟩ := name_ev s hs s.size 0 (by omega) (by simp)
  exact Ev.of (fun k => r03_Name.mono s k) (K := k) hk
end Go.Proofs.YtmhlmbmenoihnaaDoor.P
