/- What tree.Split comes to: the names of a path, or the error's number. -/
import Derived.Test.YtmhlmbmenoihnaaDoorH1
import Derived.Test.YtmhlmbmenoihnaaDoorWMore
import Derived.Shelf.Strings.SplitCore
import Derived.Lib.SplitLaws
namespace Go.Proofs.YtmhlmbmenoihnaaDoor.H
open Go.Shelf Go.RowKit Go.Lib
open Go.Proofs.YtmhlmbmenoihnaaDoorW.PrintWords Go.Proofs.YtmhlmbmenoihnaaDoorW.PrintLast Go.Proofs.YtmhlmbmenoihnaaDoorW.PrintMore

/-- A text's pieces between the bytes c. -/
def pieces (c : UInt8) (s : ByteArray) : List ByteArray := Lib.splitB ⟨#[c]⟩ 0 (Lib.countB s ⟨#[c]⟩) s

set_option maxHeartbeats 1000000 in
theorem splitAt_calls (c : UInt8) (s : ByteArray) (hs : s.size < 4294967281) (w : World) :
    Calls Tryd.prog 32 #[.string s, .string ⟨#[c]⟩] w fun e w' => e = .returned (.slice (some ⟨w.heap.size, 0, none⟩) (pieces c s).length (pieces c s).length) ∧ w' = w.alloc (.cells ((pieces c s).map Value.string).toArray 9) := by
  have h1 : 1 ≤ (⟨#[c]⟩ : ByteArray).size := Nat.le_refl 1
  have hle := Lib.countB_le ⟨#[c]⟩ h1 s.size s (Nat.le_refl _)
  have hlen := Lib.splitB_all ⟨#[c]⟩ h1 0 _ s rfl
  have hI : ∀ (x : ByteArray) (cs : Array Value), x.size ≤ s.size → Calls Tryd.prog 56 #[.string x, .string ⟨#[c]⟩] (w.alloc (.cells cs 9)) fun e w' => e = .returned (.int .i64 (Lib.indexB x ⟨#[c]⟩)) ∧ w' = w.alloc (.cells cs 9) := by
    intro x cs _
    have h := Tryd.strings_Index_one x c (w.alloc (.cells cs 9))
    rw [← Lib.index_one] at h
    exact h
  have hC : Calls Tryd.prog 55 #[.string s, .string ⟨#[c]⟩] w fun e w' => e = .returned (.int .i64 (Lib.countB s ⟨#[c]⟩)) ∧ w' = w := by
    have h := Tryd.strings_Count_one s c w
    unfold Lib.countByte at h
    rw [← Lib.count_one] at h
    exact h
  have hc := Any.strings_genSplit_core Tryd.lays221 (by kernel_rfl) s ⟨#[c]⟩ 0 (-1) (Lib.countB s ⟨#[c]⟩ + 1) w hs h1 (Nat.zero_le _) hI hC (by decide) (by decide) (by rw [if_pos (by decide)]; omega)
  rw [Nat.add_sub_cancel, hlen] at hc
  have e2 : Lib.cellsOf (Lib.splitB ⟨#[c]⟩ 0 (Lib.countB s ⟨#[c]⟩) s) (Lib.countB s ⟨#[c]⟩ + 1) = ((Lib.splitB ⟨#[c]⟩ 0 (Lib.countB s ⟨#[c]⟩) s).map Value.string).toArray := by rw [← hlen]; exact Lib.cellsOf_full _
  rw [e2, ← hlen] at hc
  have hc' : Calls Tryd.prog 45 #[.string s, .string ⟨#[c]⟩, .int .i64 0, .int .i64 (-1)] w fun e w' => e = .returned (.slice (some ⟨w.heap.size, 0, none⟩) (pieces c s).length (pieces c s).length) ∧ w' = w.alloc (.cells ((pieces c s).map Value.string).toArray 9) := hc
  have HH := Lib.hid hc'
  clear hc hc' hI hC e2 hlen hle
  generalize pieces c s = l at *
  go_enter Tryd.func32, Tryd.ntmps32
  go_wp2_with fail
  refine HH.out.mono ?_
  rintro e w' ⟨rfl, rfl⟩
  go_wp2_with fail
  go_ret
  exact ⟨rfl, rfl⟩

set_option maxHeartbeats 1000000 in
theorem notName_calls (s : ByteArray) (w : World) :
    Calls Tryd.prog 34 #[.string s] w fun e w' => e = .returned (.bool (!nameOf s)) ∧ Below w.heap.size w w' := by
  go_enter Tryd.func34, Tryd.ntmps34
  go_wp2_with fail
  refine (name_calls s _).mono ?_
  rintro e w' ⟨rfl, hb⟩
  have HB := Lib.hid hb
  clear hb
  go_wp2_with fail
  go_ret
  exact ⟨rfl, HB.out⟩

def Found (l : List ByteArray) (w : World) (e : Ending) (w' : World) : Prop := ∃ i : Int, e = .returned (.int .i64 i) ∧ decide (0 ≤ i) = l.any (fun s => !nameOf s) ∧ Below w.heap.size w w'

set_option maxHeartbeats 1000000 in
set_option maxRecDepth 100000 in
theorem indexFunc_calls (l : List ByteArray) (b : Nat) (hm : l.length ≤ 1000000) (w : World) (hc : ∀ i, i < l.length → w.cell? ⟨b, i, none⟩ = some (.string (l.getD i ByteArray.empty))) :
    Calls Tryd.prog 46 #[.slice (some ⟨b, 0, none⟩) l.length l.length, .func (.func 34) #[] #[]] w (Found l w) := by
  have HC := Lib.hid hc
  clear hc
  go_enter Tryd.func46, Tryd.ntmps46
  go_wp2_with fail
  go_loopg [5, 8] l.length (fun g _ v8 wx => ∃ k : Nat, k + g = l.length ∧ v8 = .int .i64 k ∧ Below w.heap.size w wx ∧ ∀ j, j < k → nameOf (l.getD j ByteArray.empty) = true)
  case atStart => exact ⟨0, by omega, rfl, Below.refl _ _, fun j hj => absurd hj (Nat.not_lt_zero _)⟩
  case round =>
    obtain ⟨k, hkg, rfl, hB, hall⟩ := hrel
    have HA := Lib.hid hall
    have HB := Lib.hid hB
    clear hall hB
    cases gk with
    | zero =>
      obtain rfl : k = l.length := by omega
      have hnone : l.any (fun s => !nameOf s) = false := by
        rw [List.any_eq_false]
        intro x hx
        obtain ⟨j, hj, rfl⟩ := List.getElem_of_mem hx
        have := HA.out j hj
        rw [List.getD_eq_getElem?_getD, List.getElem?_eq_getElem hj] at this
        simpa using this
      have HN := Lib.hid hnone
      clear hnone
      go_wp2_with fail
      go_ret
      exact ⟨-1, rfl, by rw [HN.out]; rfl, HB.out⟩
    | succ g =>
      have hk : k < l.length := by omega
      have hcell : wr.cell? ⟨b, k, none⟩ = some (.string (l.getD k ByteArray.empty)) := pw_cell_below HB.out (HC.out k hk)
      obtain ⟨x, hx⟩ : ∃ x, l.getD k ByteArray.empty = x := ⟨_, rfl⟩
      rw [hx] at hcell
      have HX := Lib.hid hx
      clear hx
      go_wp2_with fail
      refine (notName_calls x _).mono ?_
      rintro e w2 ⟨rfl, hb2⟩
      have HB2 := Lib.hid (below_then HB.out HB.out.size hb2)
      clear hb2
      cases hn : nameOf x with
      | true =>
        have HN := Lib.hid hn
        clear hn
        go_wp2_with fail
        go_roundg g
        case measure => omega
        case rel => exact ⟨k + 1, by omega, by go_num, HB2.out, fun j hj => by
          by_cases e : j = k
          · rw [e, HX.out]; exact HN.out
          · exact HA.out j (by omega)⟩
      | false =>
        have hsome : l.any (fun s => !nameOf s) = true := by
          rw [List.any_eq_true]
          refine ⟨x, ?_, by rw [hn]; rfl⟩
          have := HX.out
          rw [List.getD_eq_getElem?_getD, List.getElem?_eq_getElem hk] at this
          rw [← this]
          exact List.getElem_mem hk
        have HS := Lib.hid hsome
        clear hsome hn
        go_wp2_with fail
        go_ret
        exact ⟨k, rfl, by rw [HS.out]; exact decide_eq_true (by omega), HB2.out⟩

set_option maxHeartbeats 1000000 in
theorem containsFunc_calls (l : List ByteArray) (b : Nat) (hm : l.length ≤ 1000000) (w : World) (hc : ∀ i, i < l.length → w.cell? ⟨b, i, none⟩ = some (.string (l.getD i ByteArray.empty))) :
    Calls Tryd.prog 33 #[.slice (some ⟨b, 0, none⟩) l.length l.length, .func (.func 34) #[] #[]] w fun e w' => e = .returned (.bool (l.any (fun s => !nameOf s))) ∧ Below w.heap.size w w' := by
  have HH := Lib.hid (indexFunc_calls l b hm w hc)
  clear hc
  generalize hr : l.any (fun s => !nameOf s) = r at *
  have HR := Lib.hid hr
  clear hr
  go_enter Tryd.func33, Tryd.ntmps33
  go_wp2_with fail
  refine HH.out.mono ?_
  rintro e w' ⟨i, rfl, hi, hb⟩
  rw [HR.out] at hi
  have HB := Lib.hid hb
  clear hb
  cases r
  all_goals
    go_wp2_with fail
    go_ret
    exact ⟨rfl, HB.out⟩

/-- The names of a path; the error's number. -/
def splitOf (s : ByteArray) : List ByteArray × Int :=
  if 400 < s.size then ([], 2) else if s.toList.isEmpty then ([], 0) else if (pieces 47 s).any (fun x => !nameOf x) then ([], 4) else (pieces 47 s, 0)

theorem own_pieces (w w' : World) (l : List ByteArray) (hm : l.length ≤ 1000000) (hb : Below (w.alloc (.cells (l.map Value.string).toArray 9)).heap.size (w.alloc (.cells (l.map Value.string).toArray 9)) w') :
    Kd.R Kd.string 9 w' w.heap.size (fun _ => True) (.slice (some ⟨w.heap.size, 0, none⟩) l.length l.length) l := by
  have h := World.ownsRow_lit (base := w.heap.size) (e := 9) (size := 1) w (l.map Value.string).toArray l.length (Nat.le_refl _) (by unfold maxLen; omega) (by simp)
  have h2 := pw_own_below h hb
  exact Kd.R_of_own (enc := Value.string) (by simpa [encs] using h2) (fun _ _ => trivial)

set_option maxHeartbeats 1000000 in
theorem split_calls (s : ByteArray) (r1 : List ByteArray) (r2 : Int) (w : World) (h : splitOf s = (r1, r2)) :
    Calls Tryd.prog 17 #[.string s] w fun e w' => ∃ v0_ : Value, e = .returned (.tuple #[v0_, .int .i64 r2]) ∧ Kd.R Kd.string 9 w' w.heap.size (fun _ => True) v0_ r1 ∧ Below w.heap.size w w' := by
  unfold splitOf at h
  by_cases h1 : 400 < s.size
  · rw [if_pos h1] at h
    obtain ⟨rfl, rfl⟩ := Prod.mk.injEq .. ▸ h
    have h1' : decide ((400 : Int) < (s.size : Int)) = true := decide_eq_true (by omega)
    go_enter Tryd.func17, Tryd.ntmps17
    go_wp2_with fail
    go_ret2
    exact ⟨_, rfl, Kd.R_nil _ _ _ _ _, Below.refl _ _⟩
  · rw [if_neg h1] at h
    have h1' : decide ((400 : Int) < (s.size : Int)) = false := decide_eq_false (by omega)
    cases h2 : s.toList.isEmpty with
    | true =>
      rw [if_pos h2] at h
      obtain ⟨rfl, rfl⟩ := Prod.mk.injEq .. ▸ h
      go_enter Tryd.func17, Tryd.ntmps17
      go_wp2_with fail
      go_ret2
      exact ⟨_, rfl, Kd.R_nil _ _ _ _ _, Below.refl _ _⟩
    | false =>
      rw [if_neg (by rw [h2]; exact Bool.false_ne_true)] at h
      have HS := Lib.hid (splitAt_calls 47 s (by omega) w)
      have hlen := Lib.splitB_all ⟨#[47]⟩ (Nat.le_refl 1) 0 _ s rfl
      have hle := Lib.countB_le ⟨#[47]⟩ (Nat.le_refl 1) s.size s (Nat.le_refl _)
      have hm : (pieces 47 s).length ≤ 1000000 := by
        show (Lib.splitB _ _ _ _).length ≤ _
        rw [hlen]; omega
      clear hlen hle
      generalize pieces 47 s = l at *
      have hb0 : Below w.heap.size w (w.alloc (.cells (l.map Value.string).toArray 9)) := (Below.refl _ _).alloc (Nat.le_refl _) _
      have hcells : ∀ i, i < l.length → (w.alloc (.cells (l.map Value.string).toArray 9)).cell? ⟨w.heap.size, i, none⟩ = some (.string (l.getD i ByteArray.empty)) := by
        intro i hi
        rw [cell_of_row _ _ _ _ _ _ (heap_alloc_new _ _)]
        simp [List.getD_eq_getElem?_getD, hi]
      have HCF := Lib.hid (containsFunc_calls l w.heap.size hm _ hcells)
      have HB0 := Lib.hid hb0
      clear hcells hb0
      obtain ⟨W1, hW1⟩ : ∃ W1, w.alloc (.cells (l.map Value.string).toArray 9) = W1 := ⟨_, rfl⟩
      rw [hW1] at HS HCF HB0
      have HW1 := Lib.hid hW1
      clear hW1
      cases ha : l.any (fun x => !nameOf x) with
      | true =>
        rw [if_pos ha] at h
        obtain ⟨rfl, rfl⟩ := Prod.mk.injEq .. ▸ h
        rw [ha] at HCF
        clear ha h
        go_enter Tryd.func17, Tryd.ntmps17
        go_wp2_with fail
        refine HS.out.mono ?_
        rintro e w' ⟨rfl, rfl⟩
        go_wp2_with fail
        refine HCF.out.mono ?_
        rintro e w2 ⟨rfl, hb⟩
        have HB := Lib.hid hb
        clear hb
        go_wp2_with fail
        go_ret2
        exact ⟨_, rfl, Kd.R_nil _ _ _ _ _, below_then HB0.out HB0.out.size HB.out⟩
      | false =>
        rw [if_neg (by rw [ha]; exact Bool.false_ne_true)] at h
        obtain ⟨rfl, rfl⟩ := Prod.mk.injEq .. ▸ h
        rw [ha] at HCF
        clear ha h
        go_enter Tryd.func17, Tryd.ntmps17
        go_wp2_with fail
        refine HS.out.mono ?_
        rintro e w' ⟨rfl, rfl⟩
        go_wp2_with fail
        refine HCF.out.mono ?_
        rintro e w2 ⟨rfl, hb⟩
        have HB := Lib.hid hb
        clear hb
        go_wp2_with fail
        go_ret2
        exact ⟨_, rfl, own_pieces w w2 l hm (by rw [HW1.out]; exact HB.out), below_then HB0.out HB0.out.size HB.out⟩
end Go.Proofs.YtmhlmbmenoihnaaDoor.H
