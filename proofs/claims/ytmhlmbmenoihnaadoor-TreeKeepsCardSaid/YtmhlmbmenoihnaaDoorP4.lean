/- Plain laws on trees: what stands at a path. -/
import Derived.Test.YtmhlmbmenoihnaaDoorP3
import Derived.Test.YtmhlmbmenoihnaaDoorG3
import Derived.Sort.Walk0
namespace Go.Proofs.YtmhlmbmenoihnaaDoor.P
open Go.Lib Go.RowKit Go.Proofs.YtmhlmbmenoihnaaDoor.G Go.Proofs.YtmhlmbmenoihnaaDoorW.PrintWords Go.Proofs.YtmhlmbmenoihnaaDoor.OT
set_option linter.unusedVariables false
set_option linter.unusedSimpArgs false

def R (a b : ByteArray) : Prop := Op.bytesLess a.toList b.toList = true
theorem R_lt {a b : ByteArray} : R a b ↔ a.toList < b.toList := by
  unfold R
  rw [bytesLess_eq, decide_eq_true_iff]
theorem R_irrefl (a : ByteArray) : ¬ R a a := by
  rw [R_lt]
  exact List.lt_irrefl _
theorem R_trans {a b c : ByteArray} (h1 : R a b) (h2 : R b c) : R a c := by
  rw [R_lt] at *
  exact List.lt_trans h1 h2
theorem list_inj {a b : ByteArray} (h : a.toList = b.toList) : a = b := by
  rw [Lib.toList_data, Lib.toList_data] at h
  exact ByteArray.ext (Array.ext' h)

theorem good_pw : ∀ (l : List ByteArray) (p : Option ByteArray), goodNames p l = true → List.Pairwise R l ∧ ∀ q, p = some q → ∀ x ∈ l, R q x
  | [], _, _ => ⟨.nil, fun _ _ x hx => by cases hx⟩
  | s :: l, p, h => by
    rw [goodNames_cons, Bool.and_eq_true] at h
    obtain ⟨h1, h2⟩ := good_pw l (some s) h.2
    have h3 := of_decide_eq_true h.1
    refine ⟨List.pairwise_cons.2 ⟨fun x hx => h2 s rfl x hx, h1⟩, fun q hq x hx => ?_⟩
    rcases List.mem_cons.1 hx with rfl | hx
    · exact h3.2 q hq
    · exact R_trans (h3.2 q hq) (h2 s rfl x hx)

theorem pw_at {l : List ByteArray} (h : List.Pairwise R l) {i j : Nat} (hi : i < l.length) (hj : j < l.length) (hij : i < j) : R l[i] l[j] := (List.pairwise_iff_getElem.1 h) i j hi hj hij

theorem mid (i j : Nat) (hj : i + j ≤ 9223372036854775807) : wrap64 ((IntKind.u64.wrap (wrap64 ((i : Int) + (j : Int)))) / 2) = (((i + j) / 2 : Nat) : Int) := by
  have h1 : wrap64 ((i : Int) + (j : Int)) = ((i + j : Nat) : Int) := by unfold wrap64; omega
  rw [h1]
  have h2 : IntKind.u64.wrap ((i + j : Nat) : Int) = ((i + j : Nat) : Int) := by
    simp only [IntKind.wrap, IntKind.signed, IntKind.bits, Bool.false_and, Bool.false_eq_true, if_false]
    omega
  rw [h2]
  unfold wrap64
  omega

theorem less_f (a b : ByteArray) : cmp_Less_string.f a b = some (Op.bytesLess a.toList b.toList) := by
  simp [cmp_Less_string.f, cmp_isNaN_string.f]

theorem bs_ev (l : List ByteArray) (n : ByteArray) (hl : l.length ≤ 140737488351232) :
    ∃ (i : Nat) (b : Bool), Ev (fun k => sl_BinarySearch_ss.f k l n) ((i : Int), b) ∧ (b = true → ∃ h : i < l.length, l[i] = n) ∧ (List.Pairwise R l → b = false → n ∉ l) := by
  have loop : ∀ d i j, j - i ≤ d → i ≤ j → j ≤ l.length → (List.Pairwise R l → (∀ p (hp : p < l.length), p < i → R l[p] n) ∧ (∀ q (hq : q < l.length), j ≤ q → ¬ R l[q] n)) →
      ∃ (r : Nat) (b : Bool), Ev (fun k => sl_BinarySearch_ss.l0 k l n (l.length : Int) (i : Int) (j : Int)) ((r : Int), b) ∧ (b = true → ∃ h : r < l.length, l[r] = n) ∧ (List.Pairwise R l → b = false → n ∉ l) := by
    intro d
    induction d with
    | zero =>
      intro i j h1 h2 h3 h4
      obtain rfl : i = j := by omega
      by_cases hi : i < l.length
      · by_cases he : l[i].toList = n.toList
        · refine ⟨i, true, Ev.succ (fun k => by rw [sl_BinarySearch_ss.l0, if_neg (by omega), if_pos (by omega), if_pos (by omega), if_pos (by omega), rdB _ _ hi, if_pos he]) (Ev.const _), fun _ => ⟨hi, list_inj he⟩, fun _ h => by cases h⟩
        · refine ⟨i, false, Ev.succ (fun k => by rw [sl_BinarySearch_ss.l0, if_neg (by omega), if_pos (by omega), if_pos (by omega), if_pos (by omega), rdB _ _ hi, if_neg he]; simp only [sl_isNaN_string.f, Option.bind_some, bne_self_eq_false, Bool.false_eq_true, if_false]) (Ev.const _), (fun h => by cases h), fun hp _ hm => ?_⟩
          obtain ⟨p, hpl, hpe⟩ := List.mem_iff_getElem.1 hm
          obtain ⟨g1, g2⟩ := h4 hp
          by_cases hpi : p < i
          · have := g1 p hpl hpi
            rw [hpe] at this
            exact R_irrefl _ this
          · by_cases hpe2 : p = i
            · subst hpe2
              rw [hpe] at he
              exact he rfl
            · have := pw_at hp hi hpl (by omega)
              rw [hpe] at this
              exact g2 i hi (Nat.le_refl _) this
      · refine ⟨i, false, Ev.succ (fun k => by rw [sl_BinarySearch_ss.l0, if_neg (by omega), if_neg (by omega)]) (Ev.const _), (fun h => by cases h), fun hp _ hm => ?_⟩
        obtain ⟨p, hpl, hpe⟩ := List.mem_iff_getElem.1 hm
        have := (h4 hp).1 p hpl (by omega)
        rw [hpe] at this
        exact R_irrefl _ this
    | succ d ih =>
      intro i j h1 h2 h3 h4
      by_cases hij : i < j
      · have hm : (i + j) / 2 < l.length := by omega
        have hmid := mid i j (by omega)
        have h5 : wrap64 ((((i + j) / 2 : Nat) : Int) + 1) = (((i + j) / 2 + 1 : Nat) : Int) := w64 _ (by omega)
        cases hc : Op.bytesLess l[(i + j) / 2].toList n.toList with
        | true =>
          obtain ⟨r, b, e, f1, f2⟩ := ih ((i + j) / 2 + 1) j (by omega) (by omega) h3 (fun hp => ⟨fun p hpl hpi => by
            by_cases hpe : p = (i + j) / 2
            · subst hpe; exact hc
            · exact R_trans (pw_at hp hpl hm (by omega)) hc, (h4 hp).2⟩)
          refine ⟨r, b, Ev.succ (fun k => by rw [sl_BinarySearch_ss.l0, if_pos (by omega), hmid, if_pos (by omega), if_pos (by omega), rdB _ _ hm, less_f, Option.bind_some, hc, if_pos rfl, h5]) e, f1, f2⟩
        | false =>
          obtain ⟨r, b, e, f1, f2⟩ := ih i ((i + j) / 2) (by omega) (by omega) (by omega) (fun hp => ⟨(h4 hp).1, fun q hq hjq hr => by
            by_cases hqe : q = (i + j) / 2
            · subst hqe; unfold R at hr; rw [hc] at hr; cases hr
            · have := R_trans (pw_at hp hm hq (by omega)) hr
              unfold R at this
              rw [hc] at this
              cases this⟩)
          refine ⟨r, b, Ev.succ (fun k => by rw [sl_BinarySearch_ss.l0, if_pos (by omega), hmid, if_pos (by omega), if_pos (by omega), rdB _ _ hm, less_f, Option.bind_some, hc, if_neg Bool.false_ne_true]) e, f1, f2⟩
      · exact ih i j (by omega) h2 h3 h4
  obtain ⟨r, b, e, f1, f2⟩ := loop l.length 0 l.length (by omega) (by omega) (Nat.le_refl _) (fun _ => ⟨fun p _ h => absurd h (Nat.not_lt_zero _), fun q hq h => by omega⟩)
  exact ⟨r, b, Ev.eq (fun k => by rw [sl_BinarySearch_ss.f]; rfl) e, f1, f2⟩

def findI : List ByteArray → ByteArray → Option Nat
  | [], _ => none
  | s :: l, n => if s = n then some 0 else (findI l n).map (· + 1)
theorem findI_some : ∀ {l : List ByteArray} {n : ByteArray} {i : Nat}, findI l n = some i → ∃ h : i < l.length, l[i] = n
  | [], _, _, h => by cases h
  | s :: l, n, i, h => by
    unfold findI at h
    by_cases hs : s = n
    · rw [if_pos hs] at h
      cases h
      exact ⟨Nat.succ_pos _, hs⟩
    · rw [if_neg hs] at h
      obtain ⟨j, hj, rfl⟩ := Option.map_eq_some_iff.1 h
      obtain ⟨h1, h2⟩ := findI_some hj
      exact ⟨Nat.succ_lt_succ h1, h2⟩
theorem findI_none : ∀ {l : List ByteArray} {n : ByteArray}, findI l n = none → n ∉ l
  | [], _, _ => by simp
  | s :: l, n, h => by
    unfold findI at h
    by_cases hs : s = n
    · rw [if_pos hs] at h; cases h
    · rw [if_neg hs, Option.map_eq_none_iff] at h
      intro hm
      rcases List.mem_cons.1 hm with rfl | hm
      · exact hs rfl
      · exact findI_none h hm
theorem findI_at {l : List ByteArray} (hp : List.Pairwise R l) {n : ByteArray} {i : Nat} (hi : i < l.length) (he : l[i] = n) : findI l n = some i := by
  cases hf : findI l n with
  | none => exact absurd (he ▸ List.getElem_mem hi) (findI_none hf)
  | some j =>
    obtain ⟨hj, hje⟩ := findI_some hf
    congr 1
    apply Classical.byContradiction
    intro hne
    rcases Nat.lt_or_gt_of_ne hne with h | h
    · have := pw_at hp hj hi h
      rw [hje, he] at this
      exact R_irrefl _ this
    · have := pw_at hp hi hj h
      rw [hje, he] at this
      exact R_irrefl _ this

mutual
def wfT : T → Prop
  | ⟨f0, f1, f2, f3, f4⟩ => ownB ⟨f0, f1, f2, f3, f4⟩ = true ∧ goodNames none f3 = true ∧ wfL f4
def wfL : List T → Prop
  | [] => True
  | t :: l => wfT t ∧ wfL l
end
theorem wfL_mem : ∀ {l : List T}, wfL l → ∀ t ∈ l, wfT t
  | t :: l, h, u, hu => by
    obtain ⟨h1, h2⟩ := h
    rcases List.mem_cons.1 hu with rfl | hu
    · exact h1
    · exact wfL_mem h2 u hu
mutual
theorem wf_of : ∀ (t : T) (d n b : Int) (q : Int × Int), addT t d n b = some q → wfT t
  | ⟨f0, f1, f2, f3, f4⟩, d, n, b, q, h => by
    rw [addT] at h
    split at h
    · rename_i hc
      have hl := ownB_len _ hc.2.2.2
      obtain ⟨h1, h2⟩ := wf_ofL f3 f4 none d (n + 1) (b + f2.length) q hl h
      exact ⟨hc.2.2.2, h1, h2⟩
    · cases h
theorem wf_ofL : ∀ (ns : List ByteArray) (ts : List T) (p : Option ByteArray) (d n b : Int) (q : Int × Int), ns.length = ts.length → addL p ns ts d n b = some q → goodNames p ns = true ∧ wfL ts
  | [], [], _, _, _, _, _, _, _ => ⟨by simp [goodNames], trivial⟩
  | [], _ :: _, _, _, _, _, _, h, _ => by simp at h
  | _ :: _, [], _, _, _, _, _, h, _ => by simp at h
  | s :: ns, t :: ts, p, d, n, b, q, hl, h => by
    rw [addL] at h
    split at h
    · rename_i hc
      cases ha : addT t (d + 1) n b with
      | none => rw [ha] at h; cases h
      | some r =>
        rw [ha] at h
        obtain ⟨h1, h2⟩ := wf_ofL ns ts (some s) d r.1 r.2 q (by simpa using hl) h
        exact ⟨by rw [goodNames_cons, h1, Bool.and_true]; exact decide_eq_true hc, wf_of t (d + 1) n b r ha, h2⟩
    · cases h
end
theorem wfT_parts {t : T} (h : wfT t) : ownB t = true ∧ goodNames none t.f3 = true ∧ wfL t.f4 := by
  obtain ⟨f0, f1, f2, f3, f4⟩ := t
  exact h

def z : T := ⟨0, false, [], [], []⟩
/-- What stands at some names; the error's number. -/
def walkT : T → List ByteArray → T × Int
  | t, [] => (t, 0)
  | t, n :: ns => if t.f0 = 3 then match findI t.f3 n with
    | some i => match t.f4[i]? with
      | some c => walkT c ns
      | none => (z, 6)
    | none => (z, 6) else (z, 8)
theorem walkT_append : ∀ (x : List ByteArray) (t : T) (y : List ByteArray), walkT t (x ++ y) = if (walkT t x).2 = 0 then walkT (walkT t x).1 y else walkT t x
  | [], t, y => by simp [walkT]
  | n :: x, t, y => by
    rw [List.cons_append, walkT, walkT]
    by_cases h : t.f0 = 3
    · rw [if_pos h, if_pos h]
      cases findI t.f3 n with
      | none => simp
      | some i =>
        simp only
        cases t.f4[i]? with
        | none => simp
        | some c => exact walkT_append x c y
    · rw [if_neg h, if_neg h]
      simp
theorem walkT_ok : ∀ (x : List ByteArray) (t : T), okT t → wfT t → (walkT t x).2 = 0 → okT (walkT t x).1 ∧ wfT (walkT t x).1
  | [], t, h1, h2, _ => ⟨h1, h2⟩
  | n :: x, t, h1, h2, h3 => by
    rw [walkT] at h3 ⊢
    by_cases h : t.f0 = 3
    · rw [if_pos h] at h3 ⊢
      cases hf : findI t.f3 n with
      | none => rw [hf] at h3; simp at h3
      | some i =>
        rw [hf] at h3
        simp only at h3 ⊢
        cases hc : t.f4[i]? with
        | none => rw [hc] at h3; simp at h3
        | some c =>
          rw [hc] at h3
          have hm := List.mem_of_getElem? hc
          exact walkT_ok x c (okL_mem (okT_kids h1).2 _ hm) (wfL_mem (wfT_parts h2).2.2 _ hm) h3
    · rw [if_neg h] at h3
      simp at h3

theorem okT_z : okT z := ⟨⟨by decide, by decide⟩, ⟨by decide, fun _ h => by cases h⟩, ⟨by decide, fun _ h => by cases h⟩, by decide, trivial⟩
theorem walkT_okz : ∀ (x : List ByteArray) (t : T), okT t → okT (walkT t x).1
  | [], t, h1 => h1
  | n :: x, t, h1 => by
    rw [walkT]
    by_cases h : t.f0 = 3
    · rw [if_pos h]
      cases hf : findI t.f3 n with
      | none => exact okT_z
      | some i =>
        simp only
        cases hc : t.f4[i]? with
        | none => exact okT_z
        | some c => exact walkT_okz x c (okL_mem (okT_kids h1).2 _ (List.mem_of_getElem? hc))
    · rw [if_neg h]; exact okT_z

def tup (x : T × Int) : Int × Bool × List Int × List ByteArray × List T × Int := (x.1.f0, x.1.f1, x.1.f2, x.1.f3, x.1.f4, x.2)
/-- What the program tells of a path. -/
def atOf (t : T) (path : ByteArray) : T × Int := if (H.splitOf path).2 = 0 then walkT t (H.splitOf path).1 else (z, (H.splitOf path).2)

theorem at_loop (l : List ByteArray) (hl : l.length ≤ 401) : ∀ (d i : Nat) (t : T), i + d = l.length → okT t → wfT t →
    Ev (fun k => tree_At.l0 k l (l.length : Int) (i : Int) t.f0 t.f1 t.f2 t.f3 t.f4) (tup (walkT t (l.drop i))) := by
  intro d
  induction d with
  | zero =>
    intro i t hi h1 h2
    rw [List.drop_of_length_le (by omega), walkT]
    exact Ev.succ (fun k => by rw [tree_At.l0, if_neg (by omega)]) (Ev.bind (copy_ev _ t (Nat.lt_succ_self _) h1) (Ev.const _))
  | succ d ih =>
    intro i t hi h1 h2
    have hil : i < l.length := by omega
    rw [List.drop_eq_getElem_cons hil, walkT]
    by_cases h3 : t.f0 = 3
    · rw [if_pos h3]
      obtain ⟨hnl, _⟩ := okT_names h1
      unfold reach at hnl
      obtain ⟨ho, hg, hw⟩ := wfT_parts h2
      have hlen := ownB_len t ho
      have hpw := (good_pw _ _ hg).1
      obtain ⟨j, b, e, f1, f2⟩ := bs_ev t.f3 l[i] (by omega)
      have step : ∀ r, Ev (fun k => if b = true then (if 0 ≤ ((j : Nat) : Int) then (if ((j : Nat) : Int) < (t.f4.length : Int) then (tree_At.l0 k l (l.length : Int) (wrap64 ((i : Int) + 1)) ((rd_T26 t.f4 (j : Int)).f0) ((rd_T26 t.f4 (j : Int)).f1) ((rd_T26 t.f4 (j : Int)).f2) ((rd_T26 t.f4 (j : Int)).f3) ((rd_T26 t.f4 (j : Int)).f4)) else none) else none) else some (0, false, ([] : List Int), ([] : List ByteArray), ([] : List T), 6)) r →
          Ev (fun k => tree_At.l0 k l (l.length : Int) (i : Int) t.f0 t.f1 t.f2 t.f3 t.f4) r := fun r hr =>
        Ev.succ (fun k => by rw [tree_At.l0, if_pos (by omega), if_pos (by omega), if_pos (by omega), if_pos h3, rdB _ _ hil]) (Ev.bind e hr)
      cases b with
      | false =>
        have hnf : findI t.f3 l[i] = none := by
          cases hf : findI t.f3 l[i] with
          | none => rfl
          | some q =>
            obtain ⟨g1, g2⟩ := findI_some hf
            exact absurd (g2 ▸ List.getElem_mem g1) (f2 hpw rfl)
        rw [hnf]
        apply step
        simp only [Bool.false_eq_true, if_false]
        exact Ev.const _
      | true =>
        obtain ⟨hj, hje⟩ := f1 rfl
        rw [findI_at hpw hj hje]
        have hj4 : j < t.f4.length := by omega
        simp only
        rw [List.getElem?_eq_getElem hj4]
        apply step
        have c1 : (0 : Int) ≤ ((j : Nat) : Int) := by omega
        have c2 : ((j : Nat) : Int) < (t.f4.length : Int) := by omega
        simp only [if_true, if_pos c1, if_pos c2]
        rw [rdT _ _ hj4, w64 i (by omega)]
        have hm : t.f4[j] ∈ t.f4 := List.getElem_mem hj4
        exact ih (i + 1) t.f4[j] (by omega) (okL_mem (okT_kids h1).2 _ hm) (wfL_mem hw _ hm)
    · rw [if_neg h3]
      exact Ev.succ (fun k => by rw [tree_At.l0, if_pos (by omega), if_pos (by omega), if_pos (by omega), if_neg h3]; rfl) (Ev.const _)

theorem at_ev (t : T) (path : ByteArray) (h1 : okT t) (h2 : wfT t) : Ev (fun k => tree_At.f k t.f0 t.f1 t.f2 t.f3 t.f4 path) (tup (atOf t path)) := by
  refine Ev.eq (fun k => by rw [tree_At.f]) ?_
  simp only [tree_Split.f, Option.bind_some]
  unfold atOf
  by_cases h : (H.splitOf path).2 = 0
  · simp only [if_pos h]
    have := at_loop (H.splitOf path).1 (splitOf_len path) (H.splitOf path).1.length 0 t (by omega) h1 h2
    rwa [List.drop_zero] at this
  · simp only [if_neg h]
    exact Ev.const _

theorem wordsOf_append : ∀ (x w y : List UInt8), wordsOf w (x ++ 47 :: y) = wordsOf w x ++ wordsOf [] y
  | [], w, y => by simp [wordsOf]
  | b :: x, w, y => by
    rw [List.cons_append, wordsOf, wordsOf]
    by_cases hb : b = 47
    · rw [if_pos hb, if_pos hb, wordsOf_append x [] y]; rfl
    · rw [if_neg hb, if_neg hb, wordsOf_append x (w ++ [b]) y]

/-- The names of a path that isn't empty and not too long. -/
def wordsB (s : ByteArray) : List ByteArray := (wordsOf [] s.data.toList).map mkB
def badB (s : ByteArray) : Bool := (wordsB s).any fun x => !H.nameOf x
theorem splitOf_some (s : ByteArray) (h1 : s.size ≤ 400) (h2 : s.toList ≠ []) : H.splitOf s = if badB s = true then ([], 4) else (wordsB s, 0) := by
  unfold H.splitOf
  have h3 : s.toList.isEmpty = false := by
    cases hx : s.toList with
    | nil => exact absurd hx h2
    | cons => rfl
  rw [if_neg (by omega), h3, if_neg Bool.false_ne_true, pieces_words]
  rfl
theorem join_list (a b : ByteArray) : ((a ++ (⟨#[47]⟩ : ByteArray)) ++ b).data.toList = a.data.toList ++ 47 :: b.data.toList := by
  simp [ByteArray.data_append]
theorem wordsB_join (a b : ByteArray) : wordsB ((a ++ (⟨#[47]⟩ : ByteArray)) ++ b) = wordsB a ++ wordsB b := by
  unfold wordsB
  rw [join_list, wordsOf_append, List.map_append]
theorem form_wf (t : T) (hok : okT t) (b : Bool) (h : sizeR t = sizeR t) : (sizeR t).2.2 = true → wfT t := by
  unfold sizeR
  cases ha : addT t 0 0 0 with
  | none => intro h; cases h
  | some q => intro _; exact wf_of t 0 0 0 q ha
end Go.Proofs.YtmhlmbmenoihnaaDoor.P
