/- Plain laws on trees: which are right, and how great they are. -/
import Derived.Test.YtmhlmbmenoihnaaDoorP2
import Derived.Test.YtmhlmbmenoihnaaDoorH6
import Derived.Test.YtmhlmbmenoihnaaDoorG12
import Derived.Test.YtmhlmbmenoihnaaDoorG11
import Derived.Test.YtmhlmbmenoihnaaDoorG1
namespace Go.Proofs.YtmhlmbmenoihnaaDoor.P
open Go.Lib Go.RowKit Go.Proofs.YtmhlmbmenoihnaaDoor.G Go.Proofs.YtmhlmbmenoihnaaDoorW.PrintWords Go.Proofs.YtmhlmbmenoihnaaDoor.OT
set_option linter.unusedVariables false
set_option linter.unusedSimpArgs false

theorem fit_of (t : T) (h : okT t) : fitT t = true := by
  obtain ⟨f0, f1, f2, f3, f4⟩ := t
  obtain ⟨_, ⟨h2, hb⟩, ⟨h3, hs⟩, h4, _⟩ := h
  unfold reach at h2 h3 h4 hs
  rw [fitT, Bool.and_eq_true, Bool.and_eq_true, smallB, Bool.and_eq_true, Bool.and_eq_true]
  exact ⟨⟨decide_eq_true h2, decide_eq_true (by simp only; omega), decide_eq_true (by simp only; omega)⟩, List.all_eq_true.2 fun b h => decide_eq_true (hb b h), List.all_eq_true.2 fun s h => decide_eq_true (hs s h)⟩

theorem addL_bad : ∀ (ns : List ByteArray) (ts : List T) (p : Option ByteArray) (d n b : Int), ns.length = ts.length → goodNames p ns = false → addL p ns ts d n b = none
  | [], [], p, d, n, b, _, h => by simp [goodNames] at h
  | [], _ :: _, _, _, _, _, h, _ => by simp at h
  | _ :: _, [], _, _, _, _, h, _ => by simp at h
  | s :: ns, t :: ts, p, d, n, b, hl, h => by
    rw [addL]
    by_cases hc : H.nameOf s = true ∧ (∀ q, p = some q → Op.bytesLess q.toList s.toList = true)
    · rw [if_pos hc]
      have hg : goodNames (some s) ns = false := by
        rw [goodNames_cons, Bool.and_eq_false_iff] at h
        rcases h with h | h
        · exact absurd (decide_eq_true hc) (by rw [h]; exact Bool.false_ne_true)
        · exact h
      cases ha : addT t (d + 1) n b with
      | none => rfl
      | some r => exact addL_bad ns ts (some s) d r.1 r.2 (by simpa using hl) hg
    · rw [if_neg hc]

def resC : Option (Int × Int) → Int × Int
  | none => (-1, -1)
  | some q => (4096 - q.1, 65536 - q.2)
def inB (r : Option (Int × Int)) : Prop := ∀ q, r = some q → (0 ≤ q.1 ∧ q.1 ≤ 4096) ∧ 0 ≤ q.2 ∧ q.2 ≤ 65536

theorem count_ev (m : Nat) : ∀ (t : T), SizeOf.sizeOf t < m → okT t → ∀ d n b : Int, 0 ≤ d → d ≤ 17 → 0 ≤ n → n ≤ 4096 → 0 ≤ b → b ≤ 65536 →
    Ev (fun k => r03_count.f k t.f0 t.f1 t.f2 t.f3 t.f4 d (4096 - n) (65536 - b)) (resC (addT t d n b)) ∧ inB (addT t d n b) := by
  induction m with
  | zero => intro t h; exact absurd h (Nat.not_lt_zero _)
  | succ m ih =>
    intro t hs hok d n b d0 d1 n0 n1 b0 b1
    obtain ⟨hkl, hkk⟩ := okT_kids hok
    obtain ⟨hnl, hns⟩ := okT_names hok
    have hdl := okT_data hok
    unfold reach at hkl hnl hdl
    have loop : d ≤ 16 → t.f3.length = t.f4.length → ∀ e i (n b : Int) (p : Option ByteArray), i + e = t.f4.length → 0 ≤ n → n ≤ 4096 → 0 ≤ b → b ≤ 65536 → goodNames p (t.f3.drop i) = true →
        Ev (fun k => r03_count.l0 k d (4096 - n) (65536 - b) (i : Int) t.f0 t.f1 t.f2 t.f3 t.f4) (resC (addL p (t.f3.drop i) (t.f4.drop i) d n b)) ∧ inB (addL p (t.f3.drop i) (t.f4.drop i) d n b) := by
      intro hd hll e
      induction e with
      | zero =>
        intro i n b p hi h0 h1 h2 h3 hg
        have e4 : t.f4.drop i = [] := List.drop_of_length_le (by omega)
        have e3 : t.f3.drop i = [] := List.drop_of_length_le (by omega)
        rw [e4, e3, addL]
        exact ⟨Ev.succ (fun k => by rw [r03_count.l0, if_neg (by omega)]; rfl) (Ev.const _), fun q hq => by cases hq; exact ⟨⟨h0, h1⟩, h2, h3⟩⟩
      | succ e ihe =>
        intro i n b p hi h0 h1 h2 h3 hg
        have hil : i < t.f4.length := by omega
        have hil3 : i < t.f3.length := by omega
        have hmem : t.f4[i] ∈ t.f4 := List.getElem_mem hil
        rw [List.drop_eq_getElem_cons hil3] at hg ⊢
        rw [List.drop_eq_getElem_cons hil]
        rw [goodNames_cons, Bool.and_eq_true] at hg
        rw [addL, if_pos (of_decide_eq_true hg.1)]
        obtain ⟨e1, b1'⟩ := ih t.f4[i] (by have := size_kid hmem; omega) (okL_mem hkk _ hmem) (d + 1) n b (by omega) (by omega) h0 h1 h2 h3
        have hw : wrap64 (d + 1) = d + 1 := by unfold wrap64; omega
        cases ha : addT t.f4[i] (d + 1) n b with
        | none =>
          rw [ha] at e1
          refine ⟨?_, fun q hq => by cases hq⟩
          refine Ev.succ (fun k => by rw [r03_count.l0, if_pos (by omega), if_pos (by omega), if_pos (by omega), rdT _ _ hil, hw]) (Ev.bind e1 ?_)
          rw [w64 i (by omega)]
          by_cases hn : i + 1 < t.f4.length
          · exact Ev.succ (fun k => by rw [r03_count.l0, if_pos (by omega), if_neg (by decide)]; rfl) (Ev.const _)
          · exact Ev.succ (fun k => by rw [r03_count.l0, if_neg (by omega)]; rfl) (Ev.const _)
        | some q =>
          rw [ha] at e1
          obtain ⟨⟨q0, q1⟩, q2, q3⟩ := b1' q ha
          obtain ⟨e2, b2⟩ := ihe (i + 1) q.1 q.2 (some t.f3[i]) (by omega) q0 q1 q2 q3 hg.2
          refine ⟨?_, b2⟩
          refine Ev.succ (fun k => by rw [r03_count.l0, if_pos (by omega), if_pos (by omega), if_pos (by omega), rdT _ _ hil, hw]) (Ev.bind e1 ?_)
          rw [w64 i (by omega)]
          exact e2
    have hwn : wrap64 (4096 - n - 1) = 4096 - (n + 1) := by unfold wrap64; omega
    have hwb : wrap64 (65536 - b - (t.f2.length : Int)) = 65536 - (b + (t.f2.length : Int)) := by unfold wrap64; omega
    have jt : ∀ x y : Int, Ev (fun k => r03_count.j0 k d x y true t.f0 t.f1 t.f2 t.f3 t.f4) ((-1, -1) : Int × Int) := fun x y => Ev.succ (fun k => by rw [r03_count.j0, if_pos rfl]) (Ev.const _)
    rw [addT_eq]
    by_cases c1 : n + 1 ≤ 4096
    · by_cases c2 : b + (t.f2.length : Int) ≤ 65536
      · by_cases c3 : d ≤ 16
        · have hown : r03_own.f t.f0 t.f1 t.f2 t.f3 t.f4 = some (ownR ⟨t.f0, t.f1, t.f2, t.f3, t.f4⟩) := by
            unfold r03_own.f
            rw [etaT, if_pos (fit_of t hok)]
          rw [etaT] at hown
          have hE : ∀ r, Ev (fun k => r03_count.j0 k d (4096 - (n + 1)) (65536 - (b + (t.f2.length : Int))) (!ownR t) t.f0 t.f1 t.f2 t.f3 t.f4) r → Ev (fun k => r03_count.f k t.f0 t.f1 t.f2 t.f3 t.f4 d (4096 - n) (65536 - b)) r := fun r hr =>
            Ev.succ (fun k => by rw [r03_count.f, hwn, hwb, if_neg (by omega), if_neg (by omega), if_neg (by omega), hown, Option.bind_some]) hr
          cases ho : ownB t with
          | false =>
            have hR : ownR t = false := by unfold ownR; rw [ho]; rfl
            rw [if_neg (fun h => Bool.false_ne_true h.2.2.2)]
            refine ⟨hE _ ?_, fun q hq => by cases hq⟩
            rw [hR]
            exact jt _ _
          | true =>
            rw [if_pos ⟨c1, c2, c3, rfl⟩]
            have hll := ownB_len t ho
            cases hg : goodNames none t.f3 with
            | false =>
              have hR : ownR t = false := by unfold ownR; rw [hg, Bool.and_false]
              rw [addL_bad _ _ _ _ _ _ hll hg]
              refine ⟨hE _ ?_, fun q hq => by cases hq⟩
              rw [hR]
              exact jt _ _
            | true =>
              have hR : ownR t = true := by unfold ownR; rw [ho, hg]; rfl
              obtain ⟨e1, b1'⟩ := loop c3 hll t.f4.length 0 (n + 1) (b + (t.f2.length : Int)) none (by omega) (by omega) c1 (by omega) c2 hg
              refine ⟨hE _ ?_, b1'⟩
              rw [hR]
              exact Ev.succ (fun k => by rw [r03_count.j0, if_neg (by decide)]; rfl) e1
        · rw [if_neg (fun h => c3 h.2.2.1)]
          refine ⟨Ev.succ (fun k => by rw [r03_count.f, hwn, hwb, if_neg (by omega), if_neg (by omega), if_pos (by omega)]) (jt _ _), fun q hq => by cases hq⟩
      · rw [if_neg (fun h => c2 h.2.1)]
        refine ⟨Ev.succ (fun k => by rw [r03_count.f, hwn, hwb, if_neg (by omega), if_pos (by omega)]) (jt _ _), fun q hq => by cases hq⟩
    · rw [if_neg (fun h => c1 h.1)]
      refine ⟨Ev.succ (fun k => by rw [r03_count.f, hwn, hwb, if_pos (by omega)]) (jt _ _), fun q hq => by cases hq⟩

/-- The document's size of a tree is the program's. -/
def sizeR (t : T) : Int × Int × Bool := match addT t 0 0 0 with
  | some q => (q.1, q.2, true)
  | none => (0, 0, false)
theorem size_ev (t : T) (hok : okT t) : Ev (fun k => r03_Size.f k t.f0 t.f1 t.f2 t.f3 t.f4) (sizeR t) := by
  obtain ⟨e, hb⟩ := count_ev _ t (Nat.lt_succ_self _) hok 0 0 0 (by decide) (by decide) (by decide) (by decide) (by decide) (by decide)
  replace e : Ev (fun k => r03_count.f k t.f0 t.f1 t.f2 t.f3 t.f4 0 4096 65536) (resC (addT t 0 0 0)) := e
  refine Ev.eq (fun k => by rw [r03_Size.f]) (Ev.bind e ?_)
  unfold sizeR
  cases ha : addT t 0 0 0 with
  | none => exact Ev.const _
  | some q =>
    obtain ⟨⟨q0, q1⟩, q2, q3⟩ := hb q ha
    have h1 : ¬ (resC (some q)).1 < 0 := by show ¬ (4096 - q.1 < 0); omega
    simp only [if_neg h1]
    have h2 : wrap64 (4096 - (resC (some q)).1) = q.1 := by show wrap64 (4096 - (4096 - q.1)) = q.1; unfold wrap64; omega
    have h3 : wrap64 (65536 - (resC (some q)).2) = q.2 := by show wrap64 (65536 - (65536 - q.2)) = q.2; unfold wrap64; omega
    rw [h2, h3]
    exact Ev.const _

mutual
theorem small_of : ∀ t : T, okT t → smallT t = true
  | ⟨f0, f1, f2, f3, f4⟩, h => by
    obtain ⟨_, ⟨h2, _⟩, ⟨h3, _⟩, h4, h5⟩ := h
    unfold reach at h2 h3 h4
    rw [smallT, smallL_of f4 h5, Bool.and_true, smallB, Bool.and_eq_true, Bool.and_eq_true]
    exact ⟨decide_eq_true h2, decide_eq_true (by simp only; omega), decide_eq_true (by simp only; omega)⟩
theorem smallL_of : ∀ l : List T, okL l → smallL l = true
  | [], _ => by rw [smallL]
  | t :: l, h => by rw [smallL, small_of t h.1, smallL_of l h.2]; rfl
end
theorem size_prog (t : T) (hok : okT t) : tree_Size.f t.f0 t.f1 t.f2 t.f3 t.f4 = some (sizeOfTree t) := by
  unfold tree_Size.f
  rw [etaT, if_pos (small_of t hok)]
end Go.Proofs.YtmhlmbmenoihnaaDoor.P
