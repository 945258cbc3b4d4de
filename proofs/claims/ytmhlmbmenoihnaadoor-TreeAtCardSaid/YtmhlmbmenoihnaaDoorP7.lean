/- Plain laws on trees: all paths, by the document's own answer. -/
import Derived.Test.YtmhlmbmenoihnaaDoorP5
import Derived.Test.YtmhlmbmenoihnaaDoorG18
import Derived.Test.YtmhlmbmenoihnaaDoorK2
namespace Go.Proofs.YtmhlmbmenoihnaaDoor.P
open Go.Lib Go.RowKit Go.Proofs.YtmhlmbmenoihnaaDoor.G Go.Proofs.YtmhlmbmenoihnaaDoorW.PrintWords Go.Proofs.YtmhlmbmenoihnaaDoor.OT
set_option linter.unusedVariables false
set_option linter.unusedSimpArgs false

theorem paths3_ev (m : Nat) : ∀ (t : T), SizeOf.sizeOf t < m → okT t → t.f3.length = t.f4.length → (∀ u ∈ t.f4, wfT u) → (pathsT t).length ≤ 5000 → (∀ p ∈ pathsT t, p.size ≤ 100000) →
    Ev (fun k => r03_Paths.f k t.f0 t.f1 t.f2 t.f3 t.f4) (pathsT t) := by
  induction m with
  | zero => intro t h; exact absurd h (Nat.not_lt_zero _)
  | succ m ih =>
    intro t hs hok hll hwf hlen hsz
    obtain ⟨hkl, hkk⟩ := okT_kids hok
    unfold reach at hkl
    rw [pathsT_eq] at hlen hsz
    have loop : ∀ d i (acc : List ByteArray), i + d = t.f3.length → acc.length + (pathsL (t.f3.drop i) (t.f4.drop i)).length ≤ 5000 → (∀ p ∈ pathsL (t.f3.drop i) (t.f4.drop i), p.size ≤ 100000) →
        Ev (fun k => r03_Paths.l0 k acc (i : Int) t.f0 t.f1 t.f2 t.f3 t.f4) (acc ++ pathsL (t.f3.drop i) (t.f4.drop i)) := by
      intro d
      induction d with
      | zero =>
        intro i acc hi _ _
        rw [pathsL_end (by omega), List.append_nil]
        exact Ev.succ (fun k => by rw [r03_Paths.l0, if_neg (by omega)]) (Ev.succ (fun k => by rw [r03_Paths.j1, if_neg (by decide)]) (Ev.const _))
      | succ d ihd =>
        intro i acc hi hl hz
        have h1 : i < t.f3.length := by omega
        have h2 : i < t.f4.length := by omega
        rw [pathsL_drop h1 h2] at hl hz ⊢
        rw [List.length_cons, List.length_append, List.length_map] at hl
        have hm : t.f4[i] ∈ t.f4 := List.getElem_mem h2
        obtain ⟨ho, _, hw⟩ := wfT_parts (hwf _ hm)
        have e1 := ih t.f4[i] (by have := size_kid hm; omega) (okL_mem hkk _ hm) (ownB_len _ ho) (wfL_mem hw) (by omega) (fun p hp => by
          have := hz (slash t.f3[i] p) (List.mem_cons_of_mem _ (List.mem_append.2 (.inl (List.mem_map.2 ⟨p, hp, rfl⟩))))
          rw [slash_size] at this
          omega)
        have hnz : t.f3[i].size ≤ 100000 := hz _ List.mem_cons_self
        have k1 : t.f3[i].size + 1 ≤ 9223372036854775807 := by omega
        have inner : ∀ e j (ac : List ByteArray), j + e = (pathsT t.f4[i]).length → ac.length + ((pathsT t.f4[i]).drop j).length + (pathsL (t.f3.drop (i + 1)) (t.f4.drop (i + 1))).length ≤ 5000 →
            Ev (fun k => r03_Paths.l1 k ac (i : Int) (pathsT t.f4[i]) (j : Int) t.f0 t.f1 t.f2 t.f3 t.f4) (ac ++ (((pathsT t.f4[i]).drop j).map (slash t.f3[i]) ++ pathsL (t.f3.drop (i + 1)) (t.f4.drop (i + 1)))) := by
          intro e
          induction e with
          | zero =>
            intro j ac hj hac
            rw [List.drop_of_length_le (by omega)] at hac ⊢
            simp only [List.map_nil, List.nil_append]
            have := ihd (i + 1) ac (by omega) (by simp at hac; omega) (fun p hp => hz p (List.mem_cons_of_mem _ (List.mem_append.2 (.inr hp))))
            exact Ev.succ (fun k => by rw [r03_Paths.l1, if_neg (by omega), w64 i (by omega)]) this
          | succ e ihe =>
            intro j ac hj hac
            have hjl : j < (pathsT t.f4[i]).length := by omega
            have hpz : ((pathsT t.f4[i])[j]).size ≤ 100000 := by
              have := hz (slash t.f3[i] (pathsT t.f4[i])[j]) (List.mem_cons_of_mem _ (List.mem_append.2 (.inl (List.mem_map.2 ⟨_, List.getElem_mem hjl, rfl⟩))))
              rw [slash_size] at this
              omega
            rw [List.length_drop] at hac
            rw [List.drop_eq_getElem_cons hjl, List.map_cons, List.cons_append, ← List.singleton_append, ← List.append_assoc]
            have k2 : (t.f3[i] ++ (⟨#[47]⟩ : ByteArray)).size + ((pathsT t.f4[i])[j]).size ≤ 9223372036854775807 := by
              rw [ByteArray.size_append, show (⟨#[47]⟩ : ByteArray).size = 1 from rfl]; omega
            have := ihe (j + 1) (ac ++ [slash t.f3[i] (pathsT t.f4[i])[j]]) (by omega) (by rw [List.length_append, List.length_drop, List.length_singleton]; omega)
            refine Ev.succ (fun k => by rw [r03_Paths.l1, if_pos (by omega), if_pos (by omega), if_pos (by omega), rdB _ _ hjl, rdB _ _ h1, if_pos k1, if_pos (by omega), if_pos k2, if_pos (by omega), w64 j (by omega)]) ?_
            exact this
        refine Ev.succ (fun k => by rw [r03_Paths.l0, if_pos (by omega), decide_eq_true (show (i : Int) < (t.f3.length : Int) by omega)]) (Ev.succ (fun k => by rw [r03_Paths.j1, if_pos rfl, if_pos (by omega), if_pos (by omega), if_pos (by omega), if_pos (by omega), rdT _ _ h2, rdB _ _ h1]) (Ev.bind e1 ?_))
        have := inner (pathsT t.f4[i]).length 0 (acc ++ [t.f3[i]]) (by omega) (by rw [List.length_append, List.length_singleton, List.drop_zero]; omega)
        rw [List.drop_zero, List.append_assoc, List.singleton_append] at this
        exact this
    have := loop t.f3.length 0 [] (by omega) (by simpa using hlen) (by simpa using hsz)
    rw [List.drop_zero, List.drop_zero, List.nil_append, ← pathsT_eq] at this
    exact Ev.succ (fun k => by rw [r03_Paths.f]; rfl) this
end Go.Proofs.YtmhlmbmenoihnaaDoor.P
namespace Go.Proofs.YtmhlmbmenoihnaaDoor.K
open Go.RowKit Go.Proofs.YtmhlmbmenoihnaaDoor.G Go.Proofs.YtmhlmbmenoihnaaDoorW.PrintWords Go.Proofs.YtmhlmbmenoihnaaDoorW.PrintLast Go.Proofs.YtmhlmbmenoihnaaDoorW.PrintMore Go.Proofs.YtmhlmbmenoihnaaDoor.OT Go.Proofs.YtmhlmbmenoihnaaDoor.P
theorem paths3_c {t : T} {A2 : Option Addr} {c2 : Nat} {A3 : Option Addr} {c3 : Nat} {A4 : Option Addr} {c4 : Nat} {w : World} (h : P.Ev (fun k => r03_Paths.f k t.f0 t.f1 t.f2 t.f3 t.f4) (pathsT t)) (hc : TC w t A2 c2 A3 c3 A4 c4) :
    Calls Tryd.prog 24 #[.agg #[.int .u8 t.f0, .bool t.f1, .slice A2 t.f2.length c2, .slice A3 t.f3.length c3, .slice A4 t.f4.length c4]] w fun e w' => ∃ B d, e = .returned (.slice B (pathsT t).length d) ∧ Kd.C Kd.string w' B (pathsT t).length (pathsT t) ∧ (pathsT t).length ≤ d ∧ Below w.heap.size w w' := by
  obtain ⟨k, hk⟩ := h.get
  refine (r03_Paths.calls k _ _ _ _ _ _ _ _ _ _ _ _ w hc.1.1 hc.1.2 hc.2.1.1 hc.2.1.2 hc.2.2.1 hc.2.2.2 hk).mono ?_
  rintro e w' ⟨v, rfl, h2, hb⟩
  obtain ⟨B, d, rfl⟩ := Kd.R_slice h2
  obtain ⟨_, a2, b2⟩ := Kd.R_reads' h2
  exact ⟨B, d, rfl, b2, a2, hb⟩
end Go.Proofs.YtmhlmbmenoihnaaDoor.K
