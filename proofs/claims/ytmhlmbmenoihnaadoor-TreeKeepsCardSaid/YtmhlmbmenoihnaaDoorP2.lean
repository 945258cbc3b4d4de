/- Plain laws on trees: how great one is, which are alike, what a copy is. -/
import Derived.Test.YtmhlmbmenoihnaaDoorP1
import Derived.Test.YtmhlmbmenoihnaaDoorOT
import Derived.Test.YtmhlmbmenoihnaaDoorG8
import Derived.Test.YtmhlmbmenoihnaaDoorG7
import Derived.Test.YtmhlmbmenoihnaaDoorG2
import Derived.Test.YtmhlmbmenoihnaaDoorG9
namespace Go.Proofs.YtmhlmbmenoihnaaDoor.P
open Go.Lib Go.RowKit Go.Proofs.YtmhlmbmenoihnaaDoor.G Go.Proofs.YtmhlmbmenoihnaaDoorW.PrintWords Go.Proofs.YtmhlmbmenoihnaaDoor.OT
set_option linter.unusedVariables false
set_option linter.unusedSimpArgs false

section
variable {α β : Type}
theorem Ev.const (r : α) : Ev (fun _ => some r) r := ⟨0, fun _ _ => rfl⟩
theorem Ev.bind {f : Nat → Option α} {g : Nat → α → Option β} {a : α} {r : β} (h1 : Ev f a) (h2 : Ev (fun k => g k a) r) : Ev (fun k => (f k).bind fun x => g k x) r := by
  obtain ⟨K1, h1⟩ := h1
  obtain ⟨K2, h2⟩ := h2
  refine ⟨K1 + K2, fun k hk => ?_⟩
  have e1 := h1 k (by omega)
  have e2 := h2 k (by omega)
  simp only [e1, Option.bind_some]
  exact e2
theorem Ev.bindc {g : Nat → α → Option β} {a : α} {r : β} (h2 : Ev (fun k => g k a) r) : Ev (fun k => (some a).bind fun x => g k x) r := Ev.bind (Ev.const a) h2
theorem Ev.succ {f h : Nat → Option α} {r : α} (e : ∀ k, h (k + 1) = f k) (hf : Ev f r) : Ev h r := by
  obtain ⟨K, hf⟩ := hf
  refine ⟨K + 1, fun k hk => ?_⟩
  obtain ⟨k', rfl⟩ : ∃ k', k = k' + 1 := ⟨k - 1, by omega⟩
  rw [e]
  exact hf k' (by omega)
theorem Ev.eq {f h : Nat → Option α} {r : α} (e : ∀ k, h k = f k) (hf : Ev f r) : Ev h r := by
  obtain ⟨K, hf⟩ := hf
  exact ⟨K, fun k hk => by rw [e]; exact hf k hk⟩
end

abbrev T := S26
theorem etaT (t : T) : (⟨t.f0, t.f1, t.f2, t.f3, t.f4⟩ : T) = t := by cases t; rfl
theorem rdT (l : List T) (i : Nat) (h : i < l.length) : rd_T26 l (i : Int) = l[i] := by
  unfold rd_T26
  rw [Int.toNat_natCast, List.getD_eq_getElem?_getD, List.getElem?_eq_getElem h]
  rfl
theorem rdB (l : List ByteArray) (i : Nat) (h : i < l.length) : rdOf ByteArray.empty l (i : Int) = l[i] := by
  unfold rdOf
  rw [Int.toNat_natCast, List.getD_eq_getElem?_getD, List.getElem?_eq_getElem h]
  rfl
theorem size_kid {t : T} {c : T} (h : c ∈ t.f4) : SizeOf.sizeOf c < SizeOf.sizeOf t := by
  obtain ⟨f0, f1, f2, f3, f4⟩ := t
  have := List.sizeOf_lt_of_mem h
  simp only [S26.mk.sizeOf_spec]
  simp only at this
  omega
theorem okT_kids {t : T} (h : okT t) : t.f4.length * 80 ≤ reach ∧ okL t.f4 := by
  obtain ⟨f0, f1, f2, f3, f4⟩ := t
  exact h.2.2.2
theorem okT_names {t : T} (h : okT t) : t.f3.length * 16 ≤ reach ∧ ∀ s ∈ t.f3, s.size ≤ reach := by
  obtain ⟨f0, f1, f2, f3, f4⟩ := t
  exact h.2.2.1
theorem okT_data {t : T} (h : okT t) : t.f2.length ≤ reach := by
  obtain ⟨f0, f1, f2, f3, f4⟩ := t
  exact h.2.1.1

/-- How many parts are left: something is told, and it is less than what there was. -/
theorem left_ev (m : Nat) : ∀ (t : T), SizeOf.sizeOf t < m → okT t → ∀ n : Int, 0 ≤ n → n ≤ 10000 → ∃ r : Int, (-1 ≤ r ∧ r ≤ n) ∧ Ev (fun k => r03_left.f k t.f0 t.f1 t.f2 t.f3 t.f4 n) r := by
  induction m with
  | zero => intro t h; exact absurd h (Nat.not_lt_zero _)
  | succ m ih =>
    intro t hs hok n hn0 hn1
    obtain ⟨hkl, hkk⟩ := okT_kids hok
    have loop : ∀ d i (n : Int), i + d = t.f4.length → -1 ≤ n → n ≤ 10000 → ∃ r : Int, (-1 ≤ r ∧ r ≤ n) ∧ Ev (fun k => r03_left.l0 k n (i : Int) t.f0 t.f1 t.f2 t.f3 t.f4) r := by
      intro d
      induction d with
      | zero =>
        intro i n hi h0 h1
        refine ⟨n, ⟨h0, Int.le_refl _⟩, Ev.succ (fun k => by rw [r03_left.l0, if_neg (by omega)]) (Ev.const n)⟩
      | succ d ihd =>
        intro i n hi h0 h1
        have hil : i < t.f4.length := by omega
        by_cases hn : n ≥ 0
        · have hmem : t.f4[i] ∈ t.f4 := List.getElem_mem hil
          obtain ⟨r1, hr1, e1⟩ := ih t.f4[i] (by have := size_kid hmem; omega) (okL_mem hkk _ hmem) n hn h1
          obtain ⟨r2, hr2, e2⟩ := ihd (i + 1) r1 (by omega) hr1.1 (by omega)
          refine ⟨r2, ⟨hr2.1, by omega⟩, Ev.succ (fun k => by rw [r03_left.l0, if_pos (by omega), if_pos hn, if_pos (by omega), rdT _ _ hil]) (Ev.bind e1 ?_)⟩
          rw [w64 i (by unfold reach at hkl; omega)]
          exact e2
        · exact ⟨n, ⟨h0, Int.le_refl _⟩, Ev.succ (fun k => by rw [r03_left.l0, if_pos (by omega), if_neg hn]) (Ev.const n)⟩
    obtain ⟨r, hr, e⟩ := loop t.f4.length 0 (n - 1) (by omega) (by omega) (by omega)
    refine ⟨r, ⟨hr.1, by omega⟩, Ev.succ (fun k => by rw [r03_left.f]) ?_⟩
    rw [show wrap64 (n - 1) = n - 1 from by unfold wrap64; omega]
    exact e

theorem great_ev (t : T) (h : okT t) (n : Int) (h0 : 0 ≤ n) (h1 : n ≤ 10000) : ∃ b, Ev (fun k => r03_Great.f k t.f0 t.f1 t.f2 t.f3 t.f4 n) b := by
  obtain ⟨r, _, e⟩ := left_ev _ t (Nat.lt_succ_self _) h n h0 h1
  exact ⟨decide (r < 0), Ev.eq (fun k => by rw [r03_Great.f]) (Ev.bind e (Ev.const _))⟩

theorem sameStrs_drop {l m : List ByteArray} {i : Nat} (h1 : i < l.length) (h2 : i < m.length) : sameStrs (l.drop i) (m.drop i) = ((l[i].toList == m[i].toList) && sameStrs (l.drop (i + 1)) (m.drop (i + 1))) := by
  rw [List.drop_eq_getElem_cons h1, List.drop_eq_getElem_cons h2, sameStrs]
theorem sameL_drop {l m : List T} {i : Nat} (h1 : i < l.length) (h2 : i < m.length) : sameL (l.drop i) (m.drop i) = (sameT l[i] m[i] && sameL (l.drop (i + 1)) (m.drop (i + 1))) := by
  rw [List.drop_eq_getElem_cons h1, List.drop_eq_getElem_cons h2, sameL]
theorem sameL_len : ∀ {l m : List T}, l.length ≠ m.length → sameL l m = false
  | [], [], h => absurd rfl h
  | [], _ :: _, _ => by simp [sameL]
  | _ :: _, [], _ => by simp [sameL]
  | a :: l, b :: m, h => by
    rw [sameL, sameL_len (l := l) (m := m) (by simpa using h), Bool.and_false]

/-- The document's 'alike' is the program's. -/
theorem same_ev (m : Nat) : ∀ (a b : T), SizeOf.sizeOf a < m → okT a → okT b → Ev (fun k => r03_Same.f k a.f0 a.f1 a.f2 a.f3 a.f4 b.f0 b.f1 b.f2 b.f3 b.f4) (sameT a b) := by
  induction m with
  | zero => intro a b h; exact absurd h (Nat.not_lt_zero _)
  | succ m ih =>
    intro a b hs ha hb
    obtain ⟨hkl, hkk⟩ := okT_kids ha
    obtain ⟨hkl', hkk'⟩ := okT_kids hb
    obtain ⟨hnl, _⟩ := okT_names ha
    unfold reach at hkl hnl
    have loop1 : a.f4.length = b.f4.length → ∀ d i, i + d = a.f4.length → Ev (fun k => r03_Same.l1 k (i : Int) a.f0 a.f1 a.f2 a.f3 a.f4 b.f0 b.f1 b.f2 b.f3 b.f4) (sameL (a.f4.drop i) (b.f4.drop i)) := by
      intro hl d
      induction d with
      | zero =>
        intro i hi
        rw [List.drop_of_length_le (by omega), List.drop_of_length_le (by omega), show sameL ([] : List T) [] = true from by simp [sameL]]
        exact Ev.succ (fun k => by rw [r03_Same.l1, if_neg (by omega)]) (Ev.const _)
      | succ d ihd =>
        intro i hi
        have h1 : i < a.f4.length := by omega
        have h2 : i < b.f4.length := by omega
        have hm1 : a.f4[i] ∈ a.f4 := List.getElem_mem h1
        have hm2 : b.f4[i] ∈ b.f4 := List.getElem_mem h2
        have e1 := ih a.f4[i] b.f4[i] (by have := size_kid hm1; omega) (okL_mem hkk _ hm1) (okL_mem hkk' _ hm2)
        refine Ev.succ (fun k => by rw [r03_Same.l1, if_pos (by omega), if_pos (by omega), if_pos (by omega), rdT _ _ h1, rdT _ _ h2]) (Ev.bind e1 ?_)
        rw [sameL_drop h1 h2]
        cases hq : sameT a.f4[i] b.f4[i] with
        | false => simpa using Ev.const _
        | true =>
          simp only [if_true, Bool.true_and]
          rw [w64 i (by omega)]
          exact ihd (i + 1) (by omega)
    have loop0 : a.f3.length = b.f3.length → a.f4.length = b.f4.length → ∀ d i, i + d = a.f3.length → Ev (fun k => r03_Same.l0 k (i : Int) a.f0 a.f1 a.f2 a.f3 a.f4 b.f0 b.f1 b.f2 b.f3 b.f4) (sameStrs (a.f3.drop i) (b.f3.drop i) && sameL a.f4 b.f4) := by
      intro hl hl4 d
      induction d with
      | zero =>
        intro i hi
        rw [List.drop_of_length_le (by omega), List.drop_of_length_le (by omega), sameStrs, Bool.true_and]
        refine Ev.succ (fun k => by rw [r03_Same.l0, if_neg (by omega)]) ?_
        exact loop1 hl4 a.f4.length 0 (by omega)
      | succ d ihd =>
        intro i hi
        have h1 : i < a.f3.length := by omega
        have h2 : i < b.f3.length := by omega
        refine Ev.succ (fun k => by rw [r03_Same.l0, if_pos (by omega), if_pos (by omega), if_pos (by omega), rdB _ _ h1, rdB _ _ h2]) ?_
        rw [sameStrs_drop h1 h2]
        by_cases hq : a.f3[i].toList = b.f3[i].toList
        · simp only [if_pos hq]
          rw [beq_iff_eq.2 hq, Bool.true_and, w64 i (by omega)]
          exact ihd (i + 1) (by omega)
        · simp only [if_neg hq]
          rw [beq_eq_false_iff_ne.2 hq, Bool.false_and, Bool.false_and]
          exact Ev.const _
    have jt : Ev (fun k => r03_Same.j0 k true a.f0 a.f1 a.f2 a.f3 a.f4 b.f0 b.f1 b.f2 b.f3 b.f4) false := Ev.succ (fun k => by rw [r03_Same.j0, if_pos rfl]) (Ev.const _)
    rw [sameT_eq]
    refine Ev.succ (fun k => by rw [r03_Same.f]) ?_
    by_cases h0 : a.f0 = b.f0
    · simp only [if_pos h0]
      rw [beq_iff_eq.2 h0, Bool.true_and]
      by_cases h1 : a.f1 = b.f1
      · have h1' : ¬ ((a.f1 != b.f1) = true) := by simp [h1]
        simp only [if_neg h1']
        rw [beq_iff_eq.2 h1, Bool.true_and]
        by_cases h2 : (strOfNums a.f2).toList = (strOfNums b.f2).toList
        · simp only [if_pos h2]
          rw [beq_iff_eq.2 h2, Bool.true_and]
          by_cases h3 : a.f3.length = b.f3.length
          · have h3' : (a.f3.length : Int) = (b.f3.length : Int) := by omega
            simp only [if_pos h3']
            by_cases h4 : a.f4.length = b.f4.length
            · have h4' : ((a.f4.length : Int) != (b.f4.length : Int)) = false := by simp [h4]
              rw [h4']
              refine Ev.succ (fun k => by rw [r03_Same.j0, if_neg Bool.false_ne_true]) ?_
              exact loop0 h3 h4 a.f3.length 0 (by omega)
            · have h4' : ((a.f4.length : Int) != (b.f4.length : Int)) = true := by simp only [bne_iff_ne, ne_eq]; omega
              rw [h4', sameL_len h4, Bool.and_false]
              exact jt
          · have h3' : ¬ (a.f3.length : Int) = (b.f3.length : Int) := by omega
            simp only [if_neg h3']
            rw [sameStrs_len h3, Bool.false_and]
            exact jt
        · simp only [if_neg h2]
          rw [beq_eq_false_iff_ne.2 h2, Bool.false_and]
          exact jt
      · have h1' : (a.f1 != b.f1) = true := by simp [h1]
        simp only [if_pos h1']
        rw [beq_eq_false_iff_ne.2 h1, Bool.false_and]
        exact jt
    · simp only [if_neg h0]
      rw [beq_eq_false_iff_ne.2 h0, Bool.false_and]
      exact jt

/-- A copy is the tree. -/
theorem copy_ev (m : Nat) : ∀ (t : T), SizeOf.sizeOf t < m → okT t → Ev (fun k => tree_Copy.f k t.f0 t.f1 t.f2 t.f3 t.f4) (t.f0, t.f1, t.f2, t.f3, t.f4) := by
  induction m with
  | zero => intro t h; exact absurd h (Nat.not_lt_zero _)
  | succ m ih =>
    intro t hs hok
    obtain ⟨hkl, hkk⟩ := okT_kids hok
    obtain ⟨hnl, _⟩ := okT_names hok
    have hdl := okT_data hok
    unfold reach at hkl hnl hdl
    have loop : ∀ d i, i + d = t.f4.length → Ev (fun k => tree_Copy.l0 k t.f4 (t.f4.length : Int) (i : Int) t.f0 t.f1 t.f2 t.f3 (t.f4.take i)) (t.f0, t.f1, t.f2, t.f3, t.f4) := by
      intro d
      induction d with
      | zero =>
        intro i hi
        rw [List.take_of_length_le (by omega)]
        exact Ev.succ (fun k => by rw [tree_Copy.l0, if_neg (by omega)]) (Ev.const _)
      | succ d ihd =>
        intro i hi
        have hil : i < t.f4.length := by omega
        have hmem : t.f4[i] ∈ t.f4 := List.getElem_mem hil
        have e1 := ih t.f4[i] (by have := size_kid hmem; omega) (okL_mem hkk _ hmem)
        refine Ev.succ (fun k => by rw [tree_Copy.l0, if_pos (by omega), if_pos (by omega), if_pos (by omega), rdT _ _ hil]) (Ev.bind e1 ?_)
        have hlt : (t.f4.take i).length < 1759218604441 := by rw [List.length_take]; omega
        simp only [if_pos hlt]
        rw [w64 i (by omega), show t.f4.take i ++ [(⟨t.f4[i].f0, t.f4[i].f1, t.f4[i].f2, t.f4[i].f3, t.f4[i].f4⟩ : T)] = t.f4.take (i + 1) from by rw [etaT]; exact (List.take_succ_eq_append_getElem hil).symm]
        exact ihd (i + 1) (by omega)
    refine Ev.succ (fun k => by rw [tree_Copy.f]) ?_
    have hb : bytes_Clone.f t.f2 = some t.f2 := by unfold bytes_Clone.f; rw [if_pos (by omega)]
    have hc : sl_Clone_ss.f t.f3 = some t.f3 := by unfold sl_Clone_ss.f; rw [if_pos (by omega)]
    rw [hb, hc]
    exact loop t.f4.length 0 (by omega)

theorem sameStrs_refl : ∀ l : List ByteArray, sameStrs l l = true
  | [] => by simp [sameStrs]
  | a :: l => by rw [sameStrs, sameStrs_refl l]; simp
mutual
theorem sameT_refl : ∀ t : T, sameT t t = true
  | ⟨f0, f1, f2, f3, f4⟩ => by rw [sameT, sameStrs_refl, sameL_refl f4]; simp
theorem sameL_refl : ∀ l : List T, sameL l l = true
  | [] => by simp [sameL]
  | t :: l => by rw [sameL, sameT_refl t, sameL_refl l]; rfl
end

theorem awake_ : Ev (fun k => w03_awake.f k) true := awake_ev
end Go.Proofs.YtmhlmbmenoihnaaDoor.P
